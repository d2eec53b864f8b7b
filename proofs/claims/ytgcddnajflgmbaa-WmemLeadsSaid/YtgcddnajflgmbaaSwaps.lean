/-
  The law WmemSwaps: the walk.
-/
import Derived.Test.YtgcddnajflgmbaaShown
import Derived.Test.YtgcddnajflgmbaaPWmemReadsx1
import Derived.Test.YtgcddnajflgmbaaOpen
namespace Go.Proofs.Ytgcddnajflgmbaa
open Go.RowKit Go.Proofs.YtgcddnajflgmbaaW.PrintWords
set_option linter.unusedVariables false
set_option linter.unusedSimpArgs false

theorem w64_in (x : Int) (h : -9223372036854775808 ≤ x) (h1 : x ≤ 9223372036854775807) : wrap64 x = x := by unfold wrap64; omega
theorem pick_eq (c : Int) (n : Nat) (hn : 0 < n) (wc : (Lit.int .i64 c).wf = true) : ∃ k : Nat, k < n ∧ PWmemReads.hatstandlaw2_pick.f c n = some (k : Int) := by
  have hw : -9223372036854775808 ≤ c ∧ c ≤ 9223372036854775807 := by
    have hmin : IntKind.i64.min = -9223372036854775808 := rfl
    have hmax : IntKind.i64.max = 9223372036854775807 := rfl
    simp only [Lit.wf, Bool.and_eq_true, decide_eq_true_eq] at wc
    omega
  have h0 : (0 : Int) < n := by omega
  have hne : ¬ (n : Int) = 0 := by omega
  unfold PWmemReads.hatstandlaw2_pick.f
  rw [if_neg hne, if_neg hne]
  by_cases h : c < 0
  · rw [if_pos h, w64_in (c + 1) (by omega) (by omega), w64_in (-(c + 1)) (by omega) (by omega)]
    have h1 : 0 ≤ Int.tmod (-(c + 1)) n := by rw [Int.tmod_eq_emod_of_nonneg (by omega)]; exact Int.emod_nonneg _ (by omega)
    have h2 : Int.tmod (-(c + 1)) n < n := by rw [Int.tmod_eq_emod_of_nonneg (by omega)]; exact Int.emod_lt_of_pos _ h0
    exact ⟨(Int.tmod (-(c + 1)) n).toNat, by omega, by rw [Int.toNat_of_nonneg h1]⟩
  · rw [if_neg h]
    have h1 : 0 ≤ Int.tmod c n := by rw [Int.tmod_eq_emod_of_nonneg (by omega)]; exact Int.emod_nonneg _ (by omega)
    have h2 : Int.tmod c n < n := by rw [Int.tmod_eq_emod_of_nonneg (by omega)]; exact Int.emod_lt_of_pos _ h0
    exact ⟨(Int.tmod c n).toNat, by omega, by rw [Int.toNat_of_nonneg h1]⟩
theorem pick_ok (c : Int) (n k : Nat) (w : World) (h : PWmemReads.hatstandlaw2_pick.f c n = some (k : Int)) :
    Calls Try.prog 11 #[.int .i64 c, .int .i64 n] w fun e w' => e = .returned (.int .i64 k) ∧ Below w.heap.size w w' :=
  (PWmemReads.hatstandlaw2_pick.calls c n k w h).mono fun _ _ ⟨he, hd⟩ => ⟨he, hd.below⟩
theorem swap_hit (own : Nat → Nat) (t p : Nat) (ws : List Int) (ns : List Note) (i : Nat) (x v : Int) (w : World) (h : IsMem own t w p ws ns) (hx : rdW ws i = x) (hi : i < ws.length) (hk : ns.length ≤ 1000000000000) (v0 : 0 ≤ v) (v1 : v < 18446744073709551616) :
    Calls Try.prog 12 #[.pointer (some ⟨p, 0, none⟩), .int .i64 i, .int .u64 x, .int .u64 v] w fun e w' => e = .returned (.tuple #[.bool true, .int .i64 0]) ∧ MemPost own t w p (ws.set i v) (ns ++ [⟨99, i, x, v, true⟩]) w' := by
  subst hx
  exact swap_in own t p ws ns i v w h hi hk v0 v1
theorem swap_lost (own : Nat → Nat) (t p : Nat) (ws : List Int) (ns : List Note) (i : Nat) (x old v : Int) (w : World) (h : IsMem own t w p ws ns) (hx : rdW ws i = x) (hi : i < ws.length) (hk : ns.length ≤ 1000000000000) (hne : (x == old) = false) :
    Calls Try.prog 12 #[.pointer (some ⟨p, 0, none⟩), .int .i64 i, .int .u64 old, .int .u64 v] w fun e w' => e = .returned (.tuple #[.bool false, .int .i64 0]) ∧ MemPost own t w p ws (ns ++ [⟨99, i, x, x, false⟩]) w' := by
  subst hx
  exact swap_miss own t p ws ns i old v w h hi hk hne
theorem load_it (own : Nat → Nat) (t p : Nat) (ws : List Int) (ns : List Note) (i : Nat) (x : Int) (w : World) (h : IsMem own t w p ws ns) (hx : rdW ws i = x) (hi : i < ws.length) (hk : ns.length ≤ 1000000000000) :
    Calls Try.prog 13 #[.pointer (some ⟨p, 0, none⟩), .int .i64 i] w fun e w' => e = .returned (.tuple #[.int .u64 x, .int .i64 0]) ∧ MemPost own t w p ws (ns ++ [⟨108, i, x, x, true⟩]) w' := by
  subst hx
  exact load_in own t p ws ns i w h hi hk
theorem rdW_set (ws : List Int) (i : Nat) (v : Int) (h : i < ws.length) : rdW (ws.set i v) i = v := by simp [rdW, h]

theorem RdU.cell {w : World} {ad : Addr} {ws : List Int} (h : RdU w (some ad) ws) {k : Nat} {x : Int} (hk : k < ws.length) (hx : rdW ws k = x) : w.cell? (ad.add k) = some (.int .u64 x) := by
  obtain ⟨ad', e, hc⟩ := h.at_ (by omega)
  obtain rfl := Option.some.inj e
  refine hc k _ ?_
  rw [List.getElem?_map, List.getElem?_eq_getElem hk]
  subst hx
  simp [rdW, hk]
/-- The three ways out ahead of the work. -/
theorem swaps_big (A : Option Addr) (c n : Nat) (at_ a b : Int) (w : World) (hl : 1024 < n) :
    Calls Try.prog 3 #[.slice A n c, .int .i64 at_, .int .u64 a, .int .u64 b] w fun e w' => e = .returned (.bool true) ∧ Below w.heap.size w w' := by
  have d0 : decide ((200 : Int) < n) = true := decide_eq_true (by omega)
  go_enter Try.func3, Try.ntmps3
  go_wp2_with (first | (go_at_call 9; refine (shown_any _).mono ?_; rintro e w1 ⟨rfl, hb⟩; (have HB := Lib.hid hb); clear hb) | (go_at_call 10; refine (new_no A n c _ hl).mono ?_; rintro e w2 ⟨rfl, rfl⟩))
  go_ret
  exact ⟨rfl, HB.out⟩
set_option maxHeartbeats 1000000 in
theorem swaps_mid (A : Option Addr) (c : Nat) (ws : List Int) (at_ a b : Int) (w : World) (hr : RdU w A ws) (hv : ∀ x ∈ ws, 0 ≤ x ∧ x < 18446744073709551616) (hm : ws.length ≤ 1024) (hl : 200 < ws.length) :
    Calls Try.prog 3 #[.slice A ws.length c, .int .i64 at_, .int .u64 a, .int .u64 b] w fun e w' => e = .returned (.bool true) ∧ Below w.heap.size w w' := by
  have d0 : decide ((200 : Int) < ws.length) = true := decide_eq_true (by omega)
  have HR := Lib.hid hr
  have HV := Lib.hid hv
  clear hr hv
  go_enter Try.func3, Try.ntmps3
  go_wp2_with (first | (go_at_call 9; refine (shown_any _).mono ?_; rintro e w1 ⟨rfl, hb⟩; (have HB := Lib.hid hb); clear hb) | (go_at_call 10; refine (new_ok (shOwn w.heap.size) 1 A c ws _ (HR.out.kept HB.out) hm HV.out).mono ?_; intro e w2 h; obtain ⟨p, o1, rfl, hp, hf, hmm⟩ := h.elim; (have HF := Lib.hid hf); (have HM := Lib.hid hmm); clear h hf hmm))
  go_ret
  exact ⟨rfl, HB.out.trans (HF.out.to_below HB.out.size (fun h => h))⟩
set_option maxHeartbeats 1000000 in
theorem swaps_none (A : Option Addr) (c : Nat) (at_ a b : Int) (w : World) (hr : RdU w A []) :
    Calls Try.prog 3 #[.slice A 0 c, .int .i64 at_, .int .u64 a, .int .u64 b] w fun e w' => e = .returned (.bool true) ∧ Below w.heap.size w w' := by
  have HR := Lib.hid hr
  clear hr
  go_enter Try.func3, Try.ntmps3
  go_wp2_with (first | (go_at_call 9; refine (shown_any _).mono ?_; rintro e w1 ⟨rfl, hb⟩; (have HB := Lib.hid hb); clear hb) | (go_at_call 10; refine (new_ok (shOwn w.heap.size) 1 A c [] _ (HR.out.kept HB.out) (by decide) (by simp)).mono ?_; intro e w2 h; obtain ⟨p, o1, rfl, hp, hf, hmm⟩ := h.elim; (have HF := Lib.hid hf); (have HM := Lib.hid hmm); clear h hf hmm))
  go_ret
  exact ⟨rfl, HB.out.trans (HF.out.to_below HB.out.size (fun h => h))⟩
set_option maxHeartbeats 1000000 in
theorem swaps_same (ad : Addr) (c k : Nat) (ws : List Int) (at_ x b : Int) (w : World) (hr : RdU w (some ad) ws) (hv : ∀ x ∈ ws, 0 ≤ x ∧ x < 18446744073709551616) (hm : ws.length ≤ 200) (h0 : 0 < ws.length)
    (hp : PWmemReads.hatstandlaw2_pick.f at_ ws.length = some (k : Int)) (hk : k < ws.length) (hx : rdW ws k = x) (b0 : 0 ≤ b) (b1 : b < 18446744073709551616) :
    Calls Try.prog 3 #[.slice (some ad) ws.length c, .int .i64 at_, .int .u64 x, .int .u64 b] w fun e w' => e = .returned (.bool true) ∧ Below w.heap.size w w' := by
  have d0 : decide ((200 : Int) < ws.length) = false := decide_eq_false (by omega)
  have d1 : ((ws.length : Int) == 0) = false := by simpa using (by omega : ¬ ws.length = 0)
  have hx0 : 0 ≤ x ∧ x < 18446744073709551616 := by subst hx; exact rdW_rng hv hk
  have HR := Lib.hid hr
  have HV := Lib.hid hv
  have HX := Lib.hid hx
  have HP := Lib.hid hp
  clear hr hv hx hp
  go_enter Try.func3, Try.ntmps3
  go_wp2_with (first | (go_at_call 9; refine (shown_any _).mono ?_; rintro e w1 ⟨rfl, hb⟩; (have HB := Lib.hid hb); clear hb) | (go_at_call 10; refine (new_ok (shOwn w.heap.size) 1 (some ad) c ws _ (HR.out.kept HB.out) (by omega) HV.out).mono ?_; intro e w2 h; obtain ⟨p, o1, rfl, hp, hf, hmm⟩ := h.elim; (have HF := Lib.hid hf); (have HM := Lib.hid hmm); clear h hf hmm) | (go_at_call 11; refine (pick_ok at_ ws.length k _ HP.out).mono ?_; rintro e w3 ⟨rfl, hb⟩; (have HB3 := Lib.hid hb); (have hc3 : w3.cell? (ad.add k) = some (.int .u64 x) := (HR.out.kept (bl_then (HB.out.trans (HF.out.to_below HB.out.size (fun h => h))) HB3.out)).cell hk HX.out); (have HM3 := Lib.hid (HM.out.below HB3.out)); clear hb))
  go_at_call 12
  refine (swap_hit o1 1 p ws [] k x x _ HM3.out HX.out hk (by decide) hx0.1 hx0.2).mono ?_
  rintro e w4 ⟨rfl, hp⟩
  obtain ⟨o4, hf, hm⟩ := hp
  have HF4 := Lib.hid hf
  have HM4 := Lib.hid hm
  clear hf hm
  go_wp2_with (go_at_call 12; refine (swap_hit o4 1 p _ _ k x b _ HM4.out (rdW_set ws k x hk) (by rw [List.length_set]; exact hk) (by simp) b0 b1).mono ?_; rintro e w5 ⟨rfl, hp⟩; obtain ⟨o5, hf, hm⟩ := hp; (have HF5 := Lib.hid hf); (have HM5 := Lib.hid hm); clear hf hm)
  go_wp2_with (go_at_call 13; refine (load_it o5 1 p _ _ k b _ HM5.out (rdW_set _ k b (by rw [List.length_set]; exact hk)) (by rw [List.length_set, List.length_set]; exact hk) (by simp)).mono ?_; rintro e w6 ⟨rfl, hp⟩; obtain ⟨o6, hf, hm⟩ := hp; (have HF6 := Lib.hid hf); (have HM6 := Lib.hid hm); clear hf hm)
  go_ret
  have h1 := ((((HF.out.more (U := (· = 1)) (fun _ h => h.elim)).trans (Fr.below HB3.out)).trans HF4.out).trans HF5.out).trans HF6.out
  exact ⟨rfl, HB.out.trans (h1.to_below HB.out.size (by decide))⟩
set_option maxHeartbeats 1000000 in
theorem swaps_diff (ad : Addr) (c k : Nat) (ws : List Int) (at_ x a b : Int) (w : World) (hr : RdU w (some ad) ws) (hv : ∀ x ∈ ws, 0 ≤ x ∧ x < 18446744073709551616) (hm : ws.length ≤ 200) (h0 : 0 < ws.length)
    (hp : PWmemReads.hatstandlaw2_pick.f at_ ws.length = some (k : Int)) (hk : k < ws.length) (hx : rdW ws k = x) (a0 : 0 ≤ a) (a1 : a < 18446744073709551616) (hne : (a == x) = false) (b0 : 0 ≤ b) (b1 : b < 18446744073709551616) :
    Calls Try.prog 3 #[.slice (some ad) ws.length c, .int .i64 at_, .int .u64 a, .int .u64 b] w fun e w' => e = .returned (.bool true) ∧ Below w.heap.size w w' := by
  have d0 : decide ((200 : Int) < ws.length) = false := decide_eq_false (by omega)
  have d1 : ((ws.length : Int) == 0) = false := by simpa using (by omega : ¬ ws.length = 0)
  have hx0 : 0 ≤ x ∧ x < 18446744073709551616 := by subst hx; exact rdW_rng hv hk
  have HR := Lib.hid hr
  have HV := Lib.hid hv
  have HX := Lib.hid hx
  have HP := Lib.hid hp
  clear hr hv hx hp
  go_enter Try.func3, Try.ntmps3
  go_wp2_with (first | (go_at_call 9; refine (shown_any _).mono ?_; rintro e w1 ⟨rfl, hb⟩; (have HB := Lib.hid hb); clear hb) | (go_at_call 10; refine (new_ok (shOwn w.heap.size) 1 (some ad) c ws _ (HR.out.kept HB.out) (by omega) HV.out).mono ?_; intro e w2 h; obtain ⟨p, o1, rfl, hp, hf, hmm⟩ := h.elim; (have HF := Lib.hid hf); (have HM := Lib.hid hmm); clear h hf hmm) | (go_at_call 11; refine (pick_ok at_ ws.length k _ HP.out).mono ?_; rintro e w3 ⟨rfl, hb⟩; (have HB3 := Lib.hid hb); (have hc3 : w3.cell? (ad.add k) = some (.int .u64 x) := (HR.out.kept (bl_then (HB.out.trans (HF.out.to_below HB.out.size (fun h => h))) HB3.out)).cell hk HX.out); (have HM3 := Lib.hid (HM.out.below HB3.out)); clear hb))
  go_at_call 12
  refine (swap_hit o1 1 p ws [] k x a _ HM3.out HX.out hk (by decide) a0 a1).mono ?_
  rintro e w4 ⟨rfl, hp⟩
  obtain ⟨o4, hf, hm⟩ := hp
  have HF4 := Lib.hid hf
  have HM4 := Lib.hid hm
  clear hf hm
  go_wp2_with (go_at_call 12; refine (swap_lost o4 1 p _ _ k a x b _ HM4.out (rdW_set ws k a hk) (by rw [List.length_set]; exact hk) (by simp) hne).mono ?_; rintro e w5 ⟨rfl, hp⟩; obtain ⟨o5, hf, hm⟩ := hp; (have HF5 := Lib.hid hf); (have HM5 := Lib.hid hm); clear hf hm)
  go_wp2_with (go_at_call 13; refine (load_it o5 1 p _ _ k a _ HM5.out (rdW_set _ k a hk) (by rw [List.length_set]; exact hk) (by simp)).mono ?_; rintro e w6 ⟨rfl, hp⟩; obtain ⟨o6, hf, hm⟩ := hp; (have HF6 := Lib.hid hf); (have HM6 := Lib.hid hm); clear hf hm)
  go_ret
  have h1 := ((((HF.out.more (U := (· = 1)) (fun _ h => h.elim)).trans (Fr.below HB3.out)).trans HF4.out).trans HF5.out).trans HF6.out
  exact ⟨rfl, HB.out.trans (h1.to_below HB.out.size (by decide))⟩
theorem IsRow.rdU {w : World} {A : Option Addr} {len cap : Nat} {zs : List Int} (h : IsRow .u64 w A len cap zs) : RdU w A (zs.take len) ∧ (zs.take len).length = len ∧ ∀ x ∈ zs.take len, 0 ≤ x ∧ x < 18446744073709551616 := by
  rcases h with ⟨rfl, rfl, rfl, rfl⟩ | ⟨ad, rfl, hl, hm, hz, hc, hw⟩
  · exact ⟨⟨fun _ => rfl, fun h => absurd h (by simp)⟩, rfl, fun x hx => by simp at hx⟩
  · have hlen : (zs.take len).length = len := by rw [List.length_take]; omega
    refine ⟨⟨fun e => by simp at e, fun h0 => ⟨ad, rfl, fun j u hu => ?_⟩⟩, hlen, fun x hx => ?_⟩
    · rw [List.getElem?_map] at hu
      have hj : j < (zs.take len).length := by
        rcases Nat.lt_or_ge j (zs.take len).length with h1 | h1
        · exact h1
        · rw [List.getElem?_eq_none h1] at hu; simp at hu
      have hj2 : j < zs.length := by omega
      rw [List.getElem?_eq_getElem hj, List.getElem_take] at hu
      have := hc j hj2
      simp only [Option.map_some, Option.some.injEq] at hu
      rw [this, ← hu]
      simp [hj2]
    · have := hw x (List.mem_of_mem_take hx)
      have hmin : IntKind.u64.min = 0 := rfl
      have hmax : IntKind.u64.max = 18446744073709551615 := rfl
      simp only [Lit.wf, Bool.and_eq_true, decide_eq_true_eq] at this
      omega
theorem u64_wf {x : Int} (h : (Lit.int .u64 x).wf = true) : 0 ≤ x ∧ x < 18446744073709551616 := by
  have hmin : IntKind.u64.min = 0 := rfl
  have hmax : IntKind.u64.max = 18446744073709551615 := rfl
  simp only [Lit.wf, Bool.and_eq_true, decide_eq_true_eq] at h
  omega
theorem wmemSwaps_walk (A : Option Addr) (len cap : Nat) (zs : List Int) (at_ a b : Int) (w : World) (h : IsRow .u64 w A len cap zs) (hs : len * 8 ≤ 140737488351232) (w1 : (Lit.int .i64 at_).wf = true) (w2 : (Lit.int .u64 a).wf = true) (w3 : (Lit.int .u64 b).wf = true) :
    Calls Try.prog 3 #[.slice A len cap, .int .i64 at_, .int .u64 a, .int .u64 b] w fun e w' => e = .returned (.bool true) ∧ Below w.heap.size w w' := by
  obtain ⟨hr, hlen, hv⟩ := h.rdU
  generalize zs.take len = ws at hr hlen hv
  subst hlen
  rcases Nat.lt_or_ge 1024 ws.length with h1 | h1
  · exact swaps_big A cap _ at_ a b w h1
  rcases Nat.lt_or_ge 200 ws.length with h2 | h2
  · exact swaps_mid A cap ws at_ a b w hr hv h1 h2
  rcases Nat.eq_zero_or_pos ws.length with h3 | h3
  · obtain rfl := List.eq_nil_of_length_eq_zero h3
    exact swaps_none A cap at_ a b w hr
  obtain ⟨k, hk, hp⟩ := pick_eq at_ ws.length h3 w1
  obtain ⟨ad, rfl, _⟩ := hr.at_ h3
  by_cases e : a = rdW ws k
  · subst e
    exact swaps_same ad cap k ws at_ _ b w hr hv h2 h3 hp hk rfl (u64_wf w3).1 (u64_wf w3).2
  · exact swaps_diff ad cap k ws at_ (rdW ws k) a b w hr hv h2 h3 hp hk rfl (u64_wf w2).1 (u64_wf w2).2 (by simpa using e) (u64_wf w3).1 (u64_wf w3).2
end Go.Proofs.Ytgcddnajflgmbaa
