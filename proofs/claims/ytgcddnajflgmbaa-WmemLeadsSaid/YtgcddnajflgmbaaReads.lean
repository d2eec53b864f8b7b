/-
  The law WmemReads: the walk.
-/
import Derived.Test.YtgcddnajflgmbaaApart
namespace Go.Proofs.Ytgcddnajflgmbaa
open Go.RowKit Go.Proofs.YtgcddnajflgmbaaW.PrintWords
set_option linter.unusedVariables false
set_option linter.unusedSimpArgs false

theorem count_is (own : Nat → Nat) (t p : Nat) (ws : List Int) (ns : List Note) (x : Int) (w : World) (h : IsMem own t w p ws ns) (hx : (ns.length : Int) = x) :
    Calls Try.prog 16 #[.pointer (some ⟨p, 0, none⟩)] w fun e w' => e = .returned (.int .i64 x) ∧ w' = w := by
  subst hx
  exact count_any own t p ws ns w h
theorem ne_next {x : Int} (h : 0 ≤ x ∧ x < 18446744073709551616) : (x == (x + 1) % 18446744073709551616) = false := beq_eq_false_iff_ne.mpr (by omega)
def RdI (w : World) (B : Option Addr) (zs : List Int) (m : Nat) : Prop := ∀ j, j < m → ∃ bd, B = some bd ∧ w.cell? (bd.add j) = some (.int .i64 (zs.getD j 0)) ∧ (Lit.int .i64 (zs.getD j 0)).wf = true
theorem IsRow.rdI {w : World} {B : Option Addr} {m d : Nat} {zs : List Int} (h : IsRow .i64 w B m d zs) : RdI w B zs m := by
  intro j hj
  rcases h with ⟨rfl, rfl, rfl, rfl⟩ | ⟨ad, rfl, hl, hm, hz, hc, hw⟩
  · omega
  · refine ⟨ad, rfl, hc j (by omega), hw _ ?_⟩
    have : j < zs.length := by omega
    simp only [List.getD_eq_getElem?_getD, List.getElem?_eq_getElem this, Option.getD_some]
    exact List.getElem_mem this
def ReadsRel (n m : Nat) (w1 : World) (p : Nat) (ws : List Int) (i : Nat) (w' : World) : Prop := ∃ o ns, ns.length = 2 * i ∧ Fr (shOwn n) o (· = 1) w1 w' ∧ IsMem o 1 w' p ws ns
/-- The three ways out ahead of the work. -/
theorem reads_big (A : Option Addr) (c n : Nat) (B : Option Addr) (m d : Nat) (v : Int) (w : World) (hl : 1024 < n) :
    Calls Try.prog 4 #[.slice A n c, .slice B m d, .int .u64 v] w fun e w' => e = .returned (.bool true) ∧ Below w.heap.size w w' := by
  have d0 : decide ((200 : Int) < n) = true := decide_eq_true (by omega)
  go_enter Try.func4, Try.ntmps4
  go_wp2_with (first | (go_at_call 9; refine (shown_any _).mono ?_; rintro e w1 ⟨rfl, hb⟩; (have HB := Lib.hid hb); clear hb) | (go_at_call 10; refine (new_no A n c _ hl).mono ?_; rintro e w2 ⟨rfl, rfl⟩))
  go_ret
  exact ⟨rfl, HB.out⟩
set_option maxHeartbeats 1000000 in
theorem reads_mid (A : Option Addr) (c : Nat) (ws : List Int) (B : Option Addr) (m d : Nat) (v : Int) (w : World) (hr : RdU w A ws) (hv : ∀ x ∈ ws, 0 ≤ x ∧ x < 18446744073709551616) (hm : ws.length ≤ 1024) (hl : 200 < ws.length) :
    Calls Try.prog 4 #[.slice A ws.length c, .slice B m d, .int .u64 v] w fun e w' => e = .returned (.bool true) ∧ Below w.heap.size w w' := by
  have d0 : decide ((200 : Int) < ws.length) = true := decide_eq_true (by omega)
  have HR := Lib.hid hr
  have HV := Lib.hid hv
  clear hr hv
  go_enter Try.func4, Try.ntmps4
  go_wp2_with (first | (go_at_call 9; refine (shown_any _).mono ?_; rintro e w1 ⟨rfl, hb⟩; (have HB := Lib.hid hb); clear hb) | (go_at_call 10; refine (new_ok (shOwn w.heap.size) 1 A c ws _ (HR.out.kept HB.out) hm HV.out).mono ?_; intro e w2 h; obtain ⟨p, o1, rfl, hp, hf, hmm⟩ := h.elim; (have HF := Lib.hid hf); (have HM := Lib.hid hmm); clear h hf hmm))
  go_ret
  exact ⟨rfl, HB.out.trans (HF.out.to_below HB.out.size (fun h => h))⟩
set_option maxHeartbeats 1000000 in
theorem reads_none (A : Option Addr) (c : Nat) (B : Option Addr) (m d : Nat) (v : Int) (w : World) (hr : RdU w A []) :
    Calls Try.prog 4 #[.slice A 0 c, .slice B m d, .int .u64 v] w fun e w' => e = .returned (.bool true) ∧ Below w.heap.size w w' := by
  have HR := Lib.hid hr
  clear hr
  go_enter Try.func4, Try.ntmps4
  go_wp2_with (first | (go_at_call 9; refine (shown_any _).mono ?_; rintro e w1 ⟨rfl, hb⟩; (have HB := Lib.hid hb); clear hb) | (go_at_call 10; refine (new_ok (shOwn w.heap.size) 1 A c [] _ (HR.out.kept HB.out) (by decide) (by simp)).mono ?_; intro e w2 h; obtain ⟨p, o1, rfl, hp, hf, hmm⟩ := h.elim; (have HF := Lib.hid hf); (have HM := Lib.hid hmm); clear h hf hmm))
  go_ret
  exact ⟨rfl, HB.out.trans (HF.out.to_below HB.out.size (fun h => h))⟩
set_option maxHeartbeats 1000000 in
theorem reads_many (A : Option Addr) (c : Nat) (ws : List Int) (B : Option Addr) (m d : Nat) (v : Int) (w : World) (hr : RdU w A ws) (hv : ∀ x ∈ ws, 0 ≤ x ∧ x < 18446744073709551616) (hm : ws.length ≤ 1024) (hl : ws.length ≤ 200) (h0 : 0 < ws.length) (hmm : 100 < m) :
    Calls Try.prog 4 #[.slice A ws.length c, .slice B m d, .int .u64 v] w fun e w' => e = .returned (.bool true) ∧ Below w.heap.size w w' := by
  have d0 : decide ((200 : Int) < ws.length) = false := decide_eq_false (by omega)
  have d1 : ((ws.length : Int) == 0) = false := by simpa using (by omega : ¬ ws.length = 0)
  have d2 : decide ((100 : Int) < m) = true := decide_eq_true (by omega)
  have HR := Lib.hid hr
  have HV := Lib.hid hv
  clear hr hv
  go_enter Try.func4, Try.ntmps4
  go_wp2_with (first | (go_at_call 9; refine (shown_any _).mono ?_; rintro e w1 ⟨rfl, hb⟩; (have HB := Lib.hid hb); clear hb) | (go_at_call 10; refine (new_ok (shOwn w.heap.size) 1 A c ws _ (HR.out.kept HB.out) hm HV.out).mono ?_; intro e w2 h; obtain ⟨p, o1, rfl, hp, hf, hmm⟩ := h.elim; (have HF := Lib.hid hf); (have HM := Lib.hid hmm); clear h hf hmm))
  go_ret
  exact ⟨rfl, HB.out.trans (HF.out.to_below HB.out.size (fun h => h))⟩
set_option maxHeartbeats 2000000 in
set_option maxRecDepth 100000 in
theorem reads_body (ad : Addr) (c m d : Nat) (B : Option Addr) (ws zs : List Int) (v : Int) (w : World) (hr : RdU w (some ad) ws) (hv : ∀ x ∈ ws, 0 ≤ x ∧ x < 18446744073709551616) (hm : ws.length ≤ 200) (h0 : 0 < ws.length) (hcap : ws.length ≤ c)
    (hb : RdI w B zs m) (hmm : m ≤ 100) :
    Calls Try.prog 4 #[.slice (some ad) ws.length c, .slice B m d, .int .u64 v] w fun e w' => e = .returned (.bool true) ∧ Below w.heap.size w w' := by
  have d0 : decide ((200 : Int) < ws.length) = false := decide_eq_false (by omega)
  have d1 : ((ws.length : Int) == 0) = false := by simpa using (by omega : ¬ ws.length = 0)
  have d2 : decide ((100 : Int) < m) = false := decide_eq_false (by omega)
  have HR := Lib.hid hr
  have HV := Lib.hid hv
  have HBt := Lib.hid hb
  clear hr hv hb
  go_enter Try.func4, Try.ntmps4
  go_wp2_with (first | (go_at_call 9; refine (shown_any _).mono ?_; rintro e w1 ⟨rfl, hb⟩; (have HB := Lib.hid hb); clear hb) | (go_at_call 10; refine (new_ok (shOwn w.heap.size) 1 (some ad) c ws _ (HR.out.kept HB.out) (by omega) HV.out).mono ?_; intro e w2 h; obtain ⟨p, o1, rfl, hp, hf, hmm⟩ := h.elim; (have HF := Lib.hid (hf.more (U := (· = 1)) (fun _ h => h.elim))); (have HM := Lib.hid hmm); clear h hf hmm))
  have HRel := Lib.hid (show ReadsRel w.heap.size m w1 p ws 0 w2 from ⟨o1, [], rfl, HF.out, HM.out⟩)
  go_loopg [10] (m + 1) (fun kq x w' => ∃ i : Nat, x = .int .i64 i ∧ i ≤ m ∧ i + kq = m + 1 ∧ ReadsRel w.heap.size m w1 p ws i w')
  case atStart => exact ⟨0, rfl, Nat.zero_le _, by omega, HRel.out⟩
  case round =>
    obtain ⟨i, rfl, hi, hkq, o, ns, hns, hf, hM⟩ := hrel
    have HF3 := Lib.hid hf
    have HM3 := Lib.hid hM
    clear hf hM HRel
    cases gk with
    | zero => omega
    | succ k1 =>
      by_cases c4 : i < m
      · have c4b0 : decide ((i : Int) < m) = true := decide_eq_true (by omega)
        obtain ⟨bd, rfl, hcb, hwf⟩ := HBt.out i c4
        obtain ⟨k, hk, hp⟩ := pick_eq _ ws.length h0 hwf
        have hbel := HB.out.trans (HF3.out.to_below HB.out.size (by decide))
        have hcb' := (hbel.cell (World.block_lt_of_cell? w _ hcb)).trans hcb
        obtain ⟨x, hx⟩ : ∃ x, rdW ws k = x := ⟨_, rfl⟩
        have HX0 := Lib.hid (show 0 ≤ x ∧ x < 18446744073709551616 by subst hx; exact rdW_rng HV.out hk)
        have HX := Lib.hid hx
        have HP := Lib.hid hp
        generalize zs.getD i 0 = z at hcb' HP
        clear hbel hcb hx hp hwf
        go_wp2_with (first | (go_at_call 11; refine (pick_ok z ws.length k _ HP.out).mono ?_; rintro e w4 ⟨rfl, hb⟩; (have HB4 := Lib.hid hb); (have HM4 := Lib.hid (HM3.out.below HB4.out)); (have HF4 := Lib.hid (HF3.out.trans (Fr.below HB4.out))); clear hb hcb') | (go_at_call 13; refine (load_it o 1 p ws ns k x _ HM4.out HX.out hk (by omega)).mono ?_; rintro e w5 ⟨rfl, hp⟩; obtain ⟨o5, hf, hm⟩ := hp; (have HF5 := Lib.hid (HF4.out.trans hf)); (have HM5 := Lib.hid hm); (have hc5 : w5.cell? (ad.add k) = some (.int .u64 x) := (HR.out.kept (HB.out.trans (HF5.out.to_below HB.out.size (by decide)))).cell hk HX.out); clear hf hm) | (go_at_call 12; refine (swap_lost o5 1 p ws _ k x _ v _ HM5.out HX.out hk (by rw [List.length_append, hns]; simp only [List.length_cons, List.length_nil]; omega) (by exact ne_next HX0.out)).mono ?_; rintro e w6 ⟨rfl, hp⟩; obtain ⟨o6, hf, hm⟩ := hp; (have HF6 := Lib.hid (HF5.out.trans hf)); (have HM6 := Lib.hid hm); (have hc6 : w6.cell? (ad.add k) = some (.int .u64 x) := (HR.out.kept (HB.out.trans (HF6.out.to_below HB.out.size (by decide)))).cell hk HX.out); clear hf hm hc5))
        go_roundg k1
        case measure => omega
        case rel => exact ⟨i + 1, rfl, by omega, by omega, o6, _, by rw [List.length_append, List.length_append, hns]; simp only [List.length_cons, List.length_nil]; omega, HF6.out, HM6.out⟩
      · have c4b0 : decide ((i : Int) < m) = false := decide_eq_false (by omega)
        obtain rfl : i = m := by omega
        go_wp2_with (first | (go_at_call 15; refine (words_it o 1 p ws.length _ _ _ HM3.out rfl h0).mono ?_; rintro e w10 ⟨al2, c10, rfl, hl, hc10, hb⟩; (have HL10 := Lib.hid hl); (have HB10 := Lib.hid hb); clear hl hb) | (go_at_call 14; refine (same_ok ws (by omega) (some al2) (some ad) c10 c ws.length _ rfl HL10.out (HR.out.kept (HB.out.trans ((HF3.out.trans (Fr.below HB10.out)).to_below HB.out.size (by decide)))) hc10 hcap).mono ?_; rintro e w11 ⟨rfl, hb⟩; (have HB11 := Lib.hid hb); clear hb) | (go_at_call 16; refine (count_is o 1 p _ _ (2 * (i : Int)) _ ((HM3.out.below HB10.out).below HB11.out) (by omega)).mono ?_; rintro e w12 ⟨rfl, rfl⟩))
        go_ret
        have h1 := (HF3.out.trans (Fr.below HB10.out)).trans (Fr.below HB11.out)
        exact ⟨rfl, HB.out.trans (h1.to_below HB.out.size (by decide))⟩
theorem wmemReads_walk (A : Option Addr) (len cap : Nat) (zs : List Int) (B : Option Addr) (m d : Nat) (ys : List Int) (v : Int) (w : World) (h : IsRow .u64 w A len cap zs) (hs : len * 8 ≤ 140737488351232) (hB : IsRow .i64 w B m d ys) (hs2 : m * 8 ≤ 140737488351232) (w3 : (Lit.int .u64 v).wf = true) :
    Calls Try.prog 4 #[.slice A len cap, .slice B m d, .int .u64 v] w fun e w' => e = .returned (.bool true) ∧ Below w.heap.size w w' := by
  have hcap : len ≤ cap := by
    rcases h with ⟨_, rfl, rfl, _⟩ | ⟨_, _, hl, _⟩
    · exact Nat.le_refl _
    · exact hl
  obtain ⟨hr, hlen, hv⟩ := h.rdU
  generalize zs.take len = ws at hr hlen hv
  subst hlen
  rcases Nat.lt_or_ge 1024 ws.length with h1 | h1
  · exact reads_big A cap _ B m d v w h1
  rcases Nat.lt_or_ge 200 ws.length with h2 | h2
  · exact reads_mid A cap ws B m d v w hr hv h1 h2
  rcases Nat.eq_zero_or_pos ws.length with h3 | h3
  · obtain rfl := List.eq_nil_of_length_eq_zero h3
    exact reads_none A cap B m d v w hr
  rcases Nat.lt_or_ge 100 m with h4 | h4
  · exact reads_many A cap ws B m d v w hr hv h1 h2 h3 h4
  obtain ⟨ad, rfl, _⟩ := hr.at_ h3
  exact reads_body ad cap m d B ws ys v w hr hv h2 h3 hcap hB.rdI h4
end Go.Proofs.Ytgcddnajflgmbaa
