/-
  The law WmemApart: the walk.
-/
import Derived.Test.YtgcddnajflgmbaaSwaps
namespace Go.Proofs.Ytgcddnajflgmbaa
open Go.RowKit Go.Proofs.YtgcddnajflgmbaaW.PrintWords
set_option linter.unusedVariables false
set_option linter.unusedSimpArgs false

theorem RdU.kdC {w : World} {A : Option Addr} {ws : List Int} (h : RdU w A ws) (hl : ws.length ≤ 9223372036854775807) : Kd.C (Kd.int .u64) w A ws.length ws :=
  ⟨rfl, hl, fun h0 => by
    obtain ⟨ad, e, hc⟩ := h.at_ h0
    refine ⟨ad, e, fun j p hp => ⟨[.int .u64 p], rfl, rfl, fun i u hu => ?_⟩⟩
    cases i with
    | zero =>
      simp only [List.getElem?_cons_zero, Option.some.injEq] at hu
      subst hu
      have := hc j (.int .u64 p) (by rw [List.getElem?_map, hp]; rfl)
      show w.cell? (ad.add (j * 1 + 0)) = _
      rw [Nat.mul_one, Nat.add_zero]
      exact this
    | succ i => simp at hu⟩
theorem same_l0 (ws : List Int) (hl : ws.length ≤ 1000000) : ∀ (k i : Nat), i ≤ ws.length → ws.length < k + i → PWmemReads.hatstandref2_SameWords.l0 k ws ws i = some true := by
  intro k
  induction k with
  | zero => intro i h1 h2; omega
  | succ k ih =>
    intro i h1 h2
    unfold PWmemReads.hatstandref2_SameWords.l0
    by_cases h : (i : Int) < ws.length
    · rw [if_pos h, if_pos (by omega), if_pos h, if_pos rfl, w64_in _ (by omega) (by omega)]
      exact ih (i + 1) (by omega) (by omega)
    · rw [if_neg h]
theorem same_ok (ws : List Int) (hl : ws.length ≤ 1000000) (A B : Option Addr) (c d n : Nat) (w : World) (hn : ws.length = n) (ha : RdU w A ws) (hb : RdU w B ws) (hc : n ≤ c) (hd : n ≤ d) :
    Calls Try.prog 14 #[.slice A n c, .slice B n d] w fun e w' => e = .returned (.bool true) ∧ Below w.heap.size w w' := by
  subst hn
  refine (PWmemReads.hatstandref2_SameWords.calls (ws.length + 1) A c ws B d ws true w (ha.kdC (by omega)) hc (hb.kdC (by omega)) hd ?_).mono fun _ _ ⟨he, hd⟩ => ⟨he, hd.below⟩
  unfold PWmemReads.hatstandref2_SameWords.f
  rw [if_pos rfl]
  exact same_l0 ws hl _ 0 (Nat.zero_le _) (by omega)
theorem row_rdU {w : World} {base : Nat} {a : Option Addr} {c : Nat} {ws : List Int} (ho : w.ownsRow base 23 1 (.slice a ws.length c) ws.length (ws.map fun x => Value.int .u64 x)) : RdU w a ws ∧ ws.length ≤ c := by
  rcases ho.2 with ⟨e, e0⟩ | ⟨g, cap, cur, e, hg, hh, h1, h2, h3, h4⟩
  · simp only [Value.slice.injEq] at e
    obtain ⟨rfl, _, rfl⟩ := e
    exact ⟨⟨fun _ => e0, fun h => by omega⟩, by omega⟩
  · simp only [Value.slice.injEq] at e
    obtain ⟨rfl, _, rfl⟩ := e
    refine ⟨⟨fun e => (by simp at e), fun h0 => ⟨_, rfl, fun j u hu => ?_⟩⟩, by omega⟩
    rw [Nat.mul_one] at h4
    rw [add_zero', cell_of hh]
    rw [← h4] at hu
    have hj : j < ws.length := by
      rcases Nat.lt_or_ge j ws.length with h5 | h5
      · exact h5
      · rw [List.getElem?_take, if_neg (by omega)] at hu; cases hu
    rw [List.getElem?_take, if_pos hj] at hu
    simpa using hu
theorem count_one (own : Nat → Nat) (t p : Nat) (ws : List Int) (nt : Note) (w : World) (h : IsMem own t w p ws ([] ++ [nt])) :
    Calls Try.prog 16 #[.pointer (some ⟨p, 0, none⟩)] w fun e w' => e = .returned (.int .i64 1) ∧ w' = w := count_any own t p ws _ w h
def WordsIt (w : World) (ws : List Int) (n : Nat) (e : Ending) (w' : World) : Prop := ∃ al c', e = .returned (.slice (some al) n c') ∧ RdU w' (some al) ws ∧ n ≤ c' ∧ Below w.heap.size w w'
theorem words_it (own : Nat → Nat) (t p n : Nat) (ws : List Int) (ns : List Note) (w : World) (h : IsMem own t w p ws ns) (hn : ws.length = n) (h0 : 0 < n) :
    Calls Try.prog 15 #[.pointer (some ⟨p, 0, none⟩)] w (WordsIt w ws n) := by
  subst hn
  refine (words_any own t p ws ns w h).mono ?_
  rintro e w' ⟨v, rfl, ho, hb, a, c, rfl⟩
  obtain ⟨h1, h2⟩ := row_rdU ho
  obtain ⟨al, rfl, _⟩ := h1.at_ h0
  exact ⟨al, c, rfl, h1, h2, hb⟩
theorem bl_drawn {w w' : World} (h : Drawn0 w w') : Below w.heap.size w w' := h.below
theorem set_at (ws : List Int) (k : Nat) (v : Int) (i : Nat) (h : k < ws.length) : rdW (ws.set k v) i = if i = k then v else rdW ws i := by
  unfold rdW
  simp only [List.getD_eq_getElem?_getD, List.getElem?_set]
  by_cases e : i = k
  · subst e; simp [h]
  · rw [if_neg (fun h => e h.symm), if_neg e]

/-- The three ways out ahead of the work. -/
theorem apart_big (A : Option Addr) (c n : Nat) (at_ raw v : Int) (w : World) (hl : 1024 < n) :
    Calls Try.prog 5 #[.slice A n c, .int .i64 at_, .int .i64 raw, .int .u64 v] w fun e w' => e = .returned (.bool true) ∧ Below w.heap.size w w' := by
  have d0 : decide ((200 : Int) < n) = true := decide_eq_true (by omega)
  go_enter Try.func5, Try.ntmps5
  go_wp2_with (first | (go_at_call 9; refine (shown_any _).mono ?_; rintro e w1 ⟨rfl, hb⟩; (have HB := Lib.hid hb); clear hb) | (go_at_call 10; refine (new_no A n c _ hl).mono ?_; rintro e w2 ⟨rfl, rfl⟩))
  go_ret
  exact ⟨rfl, HB.out⟩
set_option maxHeartbeats 1000000 in
theorem apart_mid (A : Option Addr) (c : Nat) (ws : List Int) (at_ raw v : Int) (w : World) (hr : RdU w A ws) (hv : ∀ x ∈ ws, 0 ≤ x ∧ x < 18446744073709551616) (hm : ws.length ≤ 1024) (hl : 200 < ws.length) :
    Calls Try.prog 5 #[.slice A ws.length c, .int .i64 at_, .int .i64 raw, .int .u64 v] w fun e w' => e = .returned (.bool true) ∧ Below w.heap.size w w' := by
  have d0 : decide ((200 : Int) < ws.length) = true := decide_eq_true (by omega)
  have HR := Lib.hid hr
  have HV := Lib.hid hv
  clear hr hv
  go_enter Try.func5, Try.ntmps5
  go_wp2_with (first | (go_at_call 9; refine (shown_any _).mono ?_; rintro e w1 ⟨rfl, hb⟩; (have HB := Lib.hid hb); clear hb) | (go_at_call 10; refine (new_ok (shOwn w.heap.size) 1 A c ws _ (HR.out.kept HB.out) hm HV.out).mono ?_; intro e w2 h; obtain ⟨p, o1, rfl, hp, hf, hmm⟩ := h.elim; (have HF := Lib.hid hf); (have HM := Lib.hid hmm); clear h hf hmm))
  go_ret
  exact ⟨rfl, HB.out.trans (HF.out.to_below HB.out.size (fun h => h))⟩
set_option maxHeartbeats 1000000 in
theorem apart_none (A : Option Addr) (c : Nat) (at_ raw v : Int) (w : World) (hr : RdU w A []) :
    Calls Try.prog 5 #[.slice A 0 c, .int .i64 at_, .int .i64 raw, .int .u64 v] w fun e w' => e = .returned (.bool true) ∧ Below w.heap.size w w' := by
  have HR := Lib.hid hr
  clear hr
  go_enter Try.func5, Try.ntmps5
  go_wp2_with (first | (go_at_call 9; refine (shown_any _).mono ?_; rintro e w1 ⟨rfl, hb⟩; (have HB := Lib.hid hb); clear hb) | (go_at_call 10; refine (new_ok (shOwn w.heap.size) 1 A c [] _ (HR.out.kept HB.out) (by decide) (by simp)).mono ?_; intro e w2 h; obtain ⟨p, o1, rfl, hp, hf, hmm⟩ := h.elim; (have HF := Lib.hid hf); (have HM := Lib.hid hmm); clear h hf hmm))
  go_ret
  exact ⟨rfl, HB.out.trans (HF.out.to_below HB.out.size (fun h => h))⟩
set_option maxHeartbeats 2000000 in
set_option maxRecDepth 100000 in
theorem apart_in (ad : Addr) (c k : Nat) (ws : List Int) (at_ raw v : Int) (w : World) (hr : RdU w (some ad) ws) (hv : ∀ x ∈ ws, 0 ≤ x ∧ x < 18446744073709551616) (hm : ws.length ≤ 200) (h0 : 0 < ws.length)
    (hp : PWmemReads.hatstandlaw2_pick.f at_ ws.length = some (k : Int)) (hk : k < ws.length) (v0 : 0 ≤ v) (v1 : v < 18446744073709551616) (r0 : 0 ≤ raw) (r1 : raw < ws.length) :
    Calls Try.prog 5 #[.slice (some ad) ws.length c, .int .i64 at_, .int .i64 raw, .int .u64 v] w fun e w' => e = .returned (.bool true) ∧ Below w.heap.size w w' := by
  have d0 : decide ((200 : Int) < ws.length) = false := decide_eq_false (by omega)
  have d1 : ((ws.length : Int) == 0) = false := by simpa using (by omega : ¬ ws.length = 0)
  have d2 : decide (0 ≤ raw) = true := decide_eq_true r0
  have d3 : decide (raw < (ws.length : Int)) = true := decide_eq_true r1
  have HR := Lib.hid hr
  have HV := Lib.hid hv
  have HP := Lib.hid hp
  clear hr hv hp
  go_enter Try.func5, Try.ntmps5
  go_wp2_with (first | (go_at_call 9; refine (shown_any _).mono ?_; rintro e w1 ⟨rfl, hb⟩; (have HB := Lib.hid hb); clear hb) | (go_at_call 10; refine (new_ok (shOwn w.heap.size) 1 (some ad) c ws _ (HR.out.kept HB.out) (by omega) HV.out).mono ?_; intro e w2 h; obtain ⟨p, o1, rfl, hp, hf, hmm⟩ := h.elim; (have HF := Lib.hid hf); (have HM := Lib.hid hmm); clear h hf hmm) | (go_at_call 11; refine (pick_ok at_ ws.length k _ HP.out).mono ?_; rintro e w3 ⟨rfl, hb⟩; (have HB3 := Lib.hid hb); (have HM3 := Lib.hid (HM.out.below HB3.out)); clear hb) | (go_at_call 17; refine (store_in o1 1 p ws [] k v _ HM3.out hk (by decide) v0 v1).mono ?_; rintro e w4 ⟨rfl, hp⟩; obtain ⟨o4, hf, hm⟩ := hp; (have HF4 := Lib.hid hf); (have HM4 := Lib.hid hm); clear hf hm) | (go_at_call 15; refine (words_it o4 1 p ws.length _ _ _ HM4.out (by rw [List.length_set]) h0).mono ?_; rintro e w5 ⟨al, c5, rfl, hl, hc5, hb⟩; (have HL := Lib.hid hl); (have HB5 := Lib.hid hb); clear hl hb))
  have H5 := Lib.hid (show Fr (shOwn w.heap.size) o4 (· = 1) w1 w5 from (((HF.out.more (U := (· = 1)) (fun _ h => h.elim)).trans (Fr.below HB3.out)).trans HF4.out).trans (Fr.below HB5.out))
  have HW5 := Lib.hid (HR.out.kept (HB.out.trans (H5.out.to_below HB.out.size (by decide))))
  have HM5 := Lib.hid (HM4.out.below HB5.out)
  go_loopg [14] (ws.length + 1) (fun kq x w' => ∃ i : Nat, x = .int .i64 i ∧ i ≤ ws.length ∧ i + kq = ws.length + 1 ∧ Drawn0 w5 w')
  case atStart => exact ⟨0, rfl, Nat.zero_le _, by omega, by repeat (first | exact Drawn0.refl _ | apply Drawn0.step)⟩
  case round =>
    obtain ⟨i, rfl, hi, hkq, hD⟩ := hrel
    cases gk with
    | zero => omega
    | succ k1 =>
      by_cases c4 : i < ws.length
      · have c4b0 : decide ((i : Int) < ws.length) = true := decide_eq_true (by omega)
        obtain ⟨m1, rfl⟩ := hD
        have hc1 : w5.cell? (al.add i) = some (.int .u64 (rdW (ws.set k v) i)) := HL.out.cell (by rw [List.length_set]; exact c4) rfl
        have hc2 : w5.cell? (ad.add i) = some (.int .u64 (rdW ws i)) := HW5.out.cell c4 rfl
        rw [set_at ws k v i hk] at hc1
        by_cases e : i = k
        · subst e
          rw [if_pos rfl] at hc1
          go_wp2
          repeat (go_quiet (fail); try go_wp2)
          go_roundg k1
          case measure => omega
          case rel => exact ⟨i + 1, rfl, by omega, by omega, by repeat (first | exact Drawn0.refl _ | apply Drawn0.step)⟩
        · rw [if_neg e] at hc1
          have e0 : ((i : Int) == k) = false := beq_eq_false_iff_ne.mpr (by omega)
          have e1 : ((i : Int) != k) = true := bne_iff_ne.mpr (by omega)
          go_wp2
          repeat (go_quiet (fail); try go_wp2)
          go_roundg k1
          case measure => omega
          case rel => exact ⟨i + 1, rfl, by omega, by omega, by repeat (first | exact Drawn0.refl _ | apply Drawn0.step)⟩
      · have c4b0 : decide ((i : Int) < ws.length) = false := decide_eq_false (by omega)
        have HD := Lib.hid hD.below
        clear hD
        go_wp2
        repeat (go_quiet (fail); try go_wp2)
        go_ret
        have h1 := H5.out.trans (Fr.below HD.out)
        exact ⟨rfl, HB.out.trans (h1.to_below HB.out.size (by decide)) |> fun h => by repeat (first | exact h | refine bl_drewN ?_ _ | refine bl_drew ?_)⟩
set_option maxHeartbeats 2000000 in
set_option maxRecDepth 100000 in
theorem apart_low (ad : Addr) (c k : Nat) (ws : List Int) (at_ raw v : Int) (w : World) (hr : RdU w (some ad) ws) (hv : ∀ x ∈ ws, 0 ≤ x ∧ x < 18446744073709551616) (hm : ws.length ≤ 200) (h0 : 0 < ws.length)
    (hp : PWmemReads.hatstandlaw2_pick.f at_ ws.length = some (k : Int)) (hk : k < ws.length) (v0 : 0 ≤ v) (v1 : v < 18446744073709551616) (r0 : raw < 0) :
    Calls Try.prog 5 #[.slice (some ad) ws.length c, .int .i64 at_, .int .i64 raw, .int .u64 v] w fun e w' => e = .returned (.bool true) ∧ Below w.heap.size w w' := by
  have d0 : decide ((200 : Int) < ws.length) = false := decide_eq_false (by omega)
  have d1 : ((ws.length : Int) == 0) = false := by simpa using (by omega : ¬ ws.length = 0)
  have hraw : raw < 0 ∨ ((ws.set k v).length : Int) ≤ raw := by rw [List.length_set]; omega
  have d2 : decide (0 ≤ raw) = false := decide_eq_false (by omega)
  have HR := Lib.hid hr
  have HV := Lib.hid hv
  have HP := Lib.hid hp
  clear hr hv hp
  go_enter Try.func5, Try.ntmps5
  go_wp2_with (first | (go_at_call 9; refine (shown_any _).mono ?_; rintro e w1 ⟨rfl, hb⟩; (have HB := Lib.hid hb); clear hb) | (go_at_call 10; refine (new_ok (shOwn w.heap.size) 1 (some ad) c ws _ (HR.out.kept HB.out) (by omega) HV.out).mono ?_; intro e w2 h; obtain ⟨p, o1, rfl, hp, hf, hmm⟩ := h.elim; (have HF := Lib.hid hf); (have HM := Lib.hid hmm); clear h hf hmm) | (go_at_call 11; refine (pick_ok at_ ws.length k _ HP.out).mono ?_; rintro e w3 ⟨rfl, hb⟩; (have HB3 := Lib.hid hb); (have HM3 := Lib.hid (HM.out.below HB3.out)); clear hb) | (go_at_call 17; refine (store_in o1 1 p ws [] k v _ HM3.out hk (by decide) v0 v1).mono ?_; rintro e w4 ⟨rfl, hp⟩; obtain ⟨o4, hf, hm⟩ := hp; (have HF4 := Lib.hid hf); (have HM4 := Lib.hid hm); clear hf hm) | (go_at_call 15; refine (words_it o4 1 p ws.length _ _ _ HM4.out (by rw [List.length_set]) h0).mono ?_; rintro e w5 ⟨al, c5, rfl, hl, hc5, hb⟩; (have HL := Lib.hid hl); (have HB5 := Lib.hid hb); clear hl hb))
  have H5 := Lib.hid (show Fr (shOwn w.heap.size) o4 (· = 1) w1 w5 from (((HF.out.more (U := (· = 1)) (fun _ h => h.elim)).trans (Fr.below HB3.out)).trans HF4.out).trans (Fr.below HB5.out))
  have HW5 := Lib.hid (HR.out.kept (HB.out.trans (H5.out.to_below HB.out.size (by decide))))
  have HM5 := Lib.hid (HM4.out.below HB5.out)
  go_loopg [14] (ws.length + 1) (fun kq x w' => ∃ i : Nat, x = .int .i64 i ∧ i ≤ ws.length ∧ i + kq = ws.length + 1 ∧ Drawn0 w5 w')
  case atStart => exact ⟨0, rfl, Nat.zero_le _, by omega, by repeat (first | exact Drawn0.refl _ | apply Drawn0.step)⟩
  case round =>
    obtain ⟨i, rfl, hi, hkq, hD⟩ := hrel
    cases gk with
    | zero => omega
    | succ k1 =>
      by_cases c4 : i < ws.length
      · have c4b0 : decide ((i : Int) < ws.length) = true := decide_eq_true (by omega)
        obtain ⟨m1, rfl⟩ := hD
        have hc1 : w5.cell? (al.add i) = some (.int .u64 (rdW (ws.set k v) i)) := HL.out.cell (by rw [List.length_set]; exact c4) rfl
        have hc2 : w5.cell? (ad.add i) = some (.int .u64 (rdW ws i)) := HW5.out.cell c4 rfl
        rw [set_at ws k v i hk] at hc1
        by_cases e : i = k
        · subst e
          rw [if_pos rfl] at hc1
          go_wp2
          repeat (go_quiet (fail); try go_wp2)
          go_roundg k1
          case measure => omega
          case rel => exact ⟨i + 1, rfl, by omega, by omega, by repeat (first | exact Drawn0.refl _ | apply Drawn0.step)⟩
        · rw [if_neg e] at hc1
          have e0 : ((i : Int) == k) = false := beq_eq_false_iff_ne.mpr (by omega)
          have e1 : ((i : Int) != k) = true := bne_iff_ne.mpr (by omega)
          go_wp2
          repeat (go_quiet (fail); try go_wp2)
          go_roundg k1
          case measure => omega
          case rel => exact ⟨i + 1, rfl, by omega, by omega, by repeat (first | exact Drawn0.refl _ | apply Drawn0.step)⟩
      · have c4b0 : decide ((i : Int) < ws.length) = false := decide_eq_false (by omega)
        have HD := Lib.hid hD.below
        clear hD
        have HM6 := Lib.hid (HM5.out.below HD.out)
        go_wp2_with (first | (go_at_call 13; refine (load_out o4 1 p _ _ raw _ HM6.out hraw).mono ?_; rintro e w6 ⟨rfl, hb⟩; (have HB6 := Lib.hid hb); (have HM7 := Lib.hid (HM6.out.below hb)); clear hb) | (go_at_call 12; refine (swap_out o4 1 p _ _ raw 0 1 _ HM7.out hraw).mono ?_; rintro e w7 ⟨rfl, hb⟩; (have HB7 := Lib.hid hb); (have HM8 := Lib.hid (HM7.out.below hb)); clear hb) | (go_at_call 17; refine (store_out o4 1 p _ _ raw 1 _ HM8.out hraw).mono ?_; rintro e w8 ⟨rfl, hb⟩; (have HB8 := Lib.hid hb); (have HM9 := Lib.hid (HM8.out.below hb)); clear hb) | (go_at_call 16; refine (count_one o4 1 p _ _ _ HM9.out).mono ?_; rintro e w9 ⟨rfl, rfl⟩) | (go_at_call 15; refine (words_it o4 1 p ws.length _ _ _ HM9.out (by rw [List.length_set]) h0).mono ?_; rintro e w10 ⟨al2, c10, rfl, hl, hc10, hb⟩; (have HL10 := Lib.hid hl); (have HB10 := Lib.hid hb); clear hl hb) | (go_at_call 14; refine (same_ok (ws.set k v) (by rw [List.length_set]; omega) (some al2) (some al) c10 c5 ws.length _ (by rw [List.length_set]) HL10.out ((((HL.out.kept HD.out).kept HB6.out).kept HB7.out).kept HB8.out |>.kept HB10.out) hc10 hc5).mono ?_; rintro e w11 ⟨rfl, hb⟩; (have HB11 := Lib.hid hb); clear hb))
        go_ret
        have h1 := (((((H5.out.trans (Fr.below HD.out)).trans (Fr.below HB6.out)).trans (Fr.below HB7.out)).trans (Fr.below HB8.out)).trans (Fr.below HB10.out)).trans (Fr.below HB11.out)
        exact ⟨rfl, HB.out.trans (h1.to_below HB.out.size (by decide))⟩
set_option maxHeartbeats 2000000 in
set_option maxRecDepth 100000 in
theorem apart_high (ad : Addr) (c k : Nat) (ws : List Int) (at_ raw v : Int) (w : World) (hr : RdU w (some ad) ws) (hv : ∀ x ∈ ws, 0 ≤ x ∧ x < 18446744073709551616) (hm : ws.length ≤ 200) (h0 : 0 < ws.length)
    (hp : PWmemReads.hatstandlaw2_pick.f at_ ws.length = some (k : Int)) (hk : k < ws.length) (v0 : 0 ≤ v) (v1 : v < 18446744073709551616) (r0 : (ws.length : Int) ≤ raw) :
    Calls Try.prog 5 #[.slice (some ad) ws.length c, .int .i64 at_, .int .i64 raw, .int .u64 v] w fun e w' => e = .returned (.bool true) ∧ Below w.heap.size w w' := by
  have d0 : decide ((200 : Int) < ws.length) = false := decide_eq_false (by omega)
  have d1 : ((ws.length : Int) == 0) = false := by simpa using (by omega : ¬ ws.length = 0)
  have hraw : raw < 0 ∨ ((ws.set k v).length : Int) ≤ raw := by rw [List.length_set]; omega
  have d2 : decide (0 ≤ raw) = true := decide_eq_true (by omega)
  have d3 : decide (raw < (ws.length : Int)) = false := decide_eq_false (by omega)
  have HR := Lib.hid hr
  have HV := Lib.hid hv
  have HP := Lib.hid hp
  clear hr hv hp
  go_enter Try.func5, Try.ntmps5
  go_wp2_with (first | (go_at_call 9; refine (shown_any _).mono ?_; rintro e w1 ⟨rfl, hb⟩; (have HB := Lib.hid hb); clear hb) | (go_at_call 10; refine (new_ok (shOwn w.heap.size) 1 (some ad) c ws _ (HR.out.kept HB.out) (by omega) HV.out).mono ?_; intro e w2 h; obtain ⟨p, o1, rfl, hp, hf, hmm⟩ := h.elim; (have HF := Lib.hid hf); (have HM := Lib.hid hmm); clear h hf hmm) | (go_at_call 11; refine (pick_ok at_ ws.length k _ HP.out).mono ?_; rintro e w3 ⟨rfl, hb⟩; (have HB3 := Lib.hid hb); (have HM3 := Lib.hid (HM.out.below HB3.out)); clear hb) | (go_at_call 17; refine (store_in o1 1 p ws [] k v _ HM3.out hk (by decide) v0 v1).mono ?_; rintro e w4 ⟨rfl, hp⟩; obtain ⟨o4, hf, hm⟩ := hp; (have HF4 := Lib.hid hf); (have HM4 := Lib.hid hm); clear hf hm) | (go_at_call 15; refine (words_it o4 1 p ws.length _ _ _ HM4.out (by rw [List.length_set]) h0).mono ?_; rintro e w5 ⟨al, c5, rfl, hl, hc5, hb⟩; (have HL := Lib.hid hl); (have HB5 := Lib.hid hb); clear hl hb))
  have H5 := Lib.hid (show Fr (shOwn w.heap.size) o4 (· = 1) w1 w5 from (((HF.out.more (U := (· = 1)) (fun _ h => h.elim)).trans (Fr.below HB3.out)).trans HF4.out).trans (Fr.below HB5.out))
  have HW5 := Lib.hid (HR.out.kept (HB.out.trans (H5.out.to_below HB.out.size (by decide))))
  have HM5 := Lib.hid (HM4.out.below HB5.out)
  go_loopg [14] (ws.length + 1) (fun kq x w' => ∃ i : Nat, x = .int .i64 i ∧ i ≤ ws.length ∧ i + kq = ws.length + 1 ∧ Drawn0 w5 w')
  case atStart => exact ⟨0, rfl, Nat.zero_le _, by omega, by repeat (first | exact Drawn0.refl _ | apply Drawn0.step)⟩
  case round =>
    obtain ⟨i, rfl, hi, hkq, hD⟩ := hrel
    cases gk with
    | zero => omega
    | succ k1 =>
      by_cases c4 : i < ws.length
      · have c4b0 : decide ((i : Int) < ws.length) = true := decide_eq_true (by omega)
        obtain ⟨m1, rfl⟩ := hD
        have hc1 : w5.cell? (al.add i) = some (.int .u64 (rdW (ws.set k v) i)) := HL.out.cell (by rw [List.length_set]; exact c4) rfl
        have hc2 : w5.cell? (ad.add i) = some (.int .u64 (rdW ws i)) := HW5.out.cell c4 rfl
        rw [set_at ws k v i hk] at hc1
        by_cases e : i = k
        · subst e
          rw [if_pos rfl] at hc1
          go_wp2
          repeat (go_quiet (fail); try go_wp2)
          go_roundg k1
          case measure => omega
          case rel => exact ⟨i + 1, rfl, by omega, by omega, by repeat (first | exact Drawn0.refl _ | apply Drawn0.step)⟩
        · rw [if_neg e] at hc1
          have e0 : ((i : Int) == k) = false := beq_eq_false_iff_ne.mpr (by omega)
          have e1 : ((i : Int) != k) = true := bne_iff_ne.mpr (by omega)
          go_wp2
          repeat (go_quiet (fail); try go_wp2)
          go_roundg k1
          case measure => omega
          case rel => exact ⟨i + 1, rfl, by omega, by omega, by repeat (first | exact Drawn0.refl _ | apply Drawn0.step)⟩
      · have c4b0 : decide ((i : Int) < ws.length) = false := decide_eq_false (by omega)
        have HD := Lib.hid hD.below
        clear hD
        have HM6 := Lib.hid (HM5.out.below HD.out)
        go_wp2_with (first | (go_at_call 13; refine (load_out o4 1 p _ _ raw _ HM6.out hraw).mono ?_; rintro e w6 ⟨rfl, hb⟩; (have HB6 := Lib.hid hb); (have HM7 := Lib.hid (HM6.out.below hb)); clear hb) | (go_at_call 12; refine (swap_out o4 1 p _ _ raw 0 1 _ HM7.out hraw).mono ?_; rintro e w7 ⟨rfl, hb⟩; (have HB7 := Lib.hid hb); (have HM8 := Lib.hid (HM7.out.below hb)); clear hb) | (go_at_call 17; refine (store_out o4 1 p _ _ raw 1 _ HM8.out hraw).mono ?_; rintro e w8 ⟨rfl, hb⟩; (have HB8 := Lib.hid hb); (have HM9 := Lib.hid (HM8.out.below hb)); clear hb) | (go_at_call 16; refine (count_one o4 1 p _ _ _ HM9.out).mono ?_; rintro e w9 ⟨rfl, rfl⟩) | (go_at_call 15; refine (words_it o4 1 p ws.length _ _ _ HM9.out (by rw [List.length_set]) h0).mono ?_; rintro e w10 ⟨al2, c10, rfl, hl, hc10, hb⟩; (have HL10 := Lib.hid hl); (have HB10 := Lib.hid hb); clear hl hb) | (go_at_call 14; refine (same_ok (ws.set k v) (by rw [List.length_set]; omega) (some al2) (some al) c10 c5 ws.length _ (by rw [List.length_set]) HL10.out ((((HL.out.kept HD.out).kept HB6.out).kept HB7.out).kept HB8.out |>.kept HB10.out) hc10 hc5).mono ?_; rintro e w11 ⟨rfl, hb⟩; (have HB11 := Lib.hid hb); clear hb))
        go_ret
        have h1 := (((((H5.out.trans (Fr.below HD.out)).trans (Fr.below HB6.out)).trans (Fr.below HB7.out)).trans (Fr.below HB8.out)).trans (Fr.below HB10.out)).trans (Fr.below HB11.out)
        exact ⟨rfl, HB.out.trans (h1.to_below HB.out.size (by decide))⟩
theorem wmemApart_walk (A : Option Addr) (len cap : Nat) (zs : List Int) (at_ raw v : Int) (w : World) (h : IsRow .u64 w A len cap zs) (hs : len * 8 ≤ 140737488351232) (w1 : (Lit.int .i64 at_).wf = true) (w2 : (Lit.int .i64 raw).wf = true) (w3 : (Lit.int .u64 v).wf = true) :
    Calls Try.prog 5 #[.slice A len cap, .int .i64 at_, .int .i64 raw, .int .u64 v] w fun e w' => e = .returned (.bool true) ∧ Below w.heap.size w w' := by
  obtain ⟨hr, hlen, hv⟩ := h.rdU
  generalize zs.take len = ws at hr hlen hv
  subst hlen
  rcases Nat.lt_or_ge 1024 ws.length with h1 | h1
  · exact apart_big A cap _ at_ raw v w h1
  rcases Nat.lt_or_ge 200 ws.length with h2 | h2
  · exact apart_mid A cap ws at_ raw v w hr hv h1 h2
  rcases Nat.eq_zero_or_pos ws.length with h3 | h3
  · obtain rfl := List.eq_nil_of_length_eq_zero h3
    exact apart_none A cap at_ raw v w hr
  obtain ⟨k, hk, hp⟩ := pick_eq at_ ws.length h3 w1
  obtain ⟨ad, rfl, _⟩ := hr.at_ h3
  by_cases e : raw < 0
  · exact apart_low ad cap k ws at_ raw v w hr hv h2 h3 hp hk (u64_wf w3).1 (u64_wf w3).2 e
  by_cases e2 : raw < (ws.length : Int)
  · exact apart_in ad cap k ws at_ raw v w hr hv h2 h3 hp hk (u64_wf w3).1 (u64_wf w3).2 (by omega) e2
  · exact apart_high ad cap k ws at_ raw v w hr hv h2 h3 hp hk (u64_wf w3).1 (u64_wf w3).2 (by omega)
end Go.Proofs.Ytgcddnajflgmbaa
