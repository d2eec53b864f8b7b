/-
  The document's machine of chapter 7: what each function does.
-/
import Derived.Test.YtndigbkhaajjoaaRefSt
import Derived.Test.YtndigbkhaajjoaaTlM
import Derived.Test.YtndigbkhaajjoaaLst
import Derived.Test.YtndigbkhaajjoaaLayout2
import Derived.Test.YtndigbkhaajjoaaRe
namespace Go.Proofs.Ytndigbkhaajjoaa
open Go.RowKit
set_option linter.unusedVariables false
set_option linter.unusedSimpArgs false

abbrev cfgR (n s h t : Int) : Value := .agg #[.int .i64 n, .int .i64 s, .int .i64 h, .int .u32 t]
theorem rcheck_any (n s h t : Int) (w : World) :
    Calls Try.prog 78 #[cfgR n s h t] w fun e w' => e = .returned (.int .i64 (if okC n s h = true then 0 else 1)) ∧ Below w.heap.size w w' := by
  unfold okC
  by_cases h1 : n < 1
  · rw [if_neg (by simp; omega)]
    have d1 : decide (1 ≤ n) = false := decide_eq_false (by omega)
    go_enter Try.func78, Try.ntmps78
    go_wp2
    go_ret
    exact ⟨rfl, bl_alloc (bl_refl _) _⟩
  have d1 : decide (1 ≤ n) = true := decide_eq_true (by omega)
  by_cases h2 : 64 < n
  · rw [if_neg (by simp; omega)]
    have d2 : decide (n ≤ 64) = false := decide_eq_false (by omega)
    go_enter Try.func78, Try.ntmps78
    go_wp2
    go_ret
    exact ⟨rfl, bl_alloc (bl_refl _) _⟩
  have d2 : decide (n ≤ 64) = true := decide_eq_true (by omega)
  by_cases h3 : s < 0
  · rw [if_neg (by simp; omega)]
    have d3 : decide (0 ≤ s) = false := decide_eq_false (by omega)
    go_enter Try.func78, Try.ntmps78
    go_wp2
    go_ret
    exact ⟨rfl, bl_alloc (bl_refl _) _⟩
  have d3 : decide (0 ≤ s) = true := decide_eq_true (by omega)
  by_cases h4 : 16 < s
  · rw [if_neg (by simp; omega)]
    have d4 : decide (s ≤ 16) = false := decide_eq_false (by omega)
    go_enter Try.func78, Try.ntmps78
    go_wp2
    go_ret
    exact ⟨rfl, bl_alloc (bl_refl _) _⟩
  have d4 : decide (s ≤ 16) = true := decide_eq_true (by omega)
  by_cases h5 : h < 0
  · rw [if_neg (by simp; omega)]
    have d5 : decide (0 ≤ h) = false := decide_eq_false (by omega)
    go_enter Try.func78, Try.ntmps78
    go_wp2
    go_ret
    exact ⟨rfl, bl_alloc (bl_refl _) _⟩
  have d5 : decide (0 ≤ h) = true := decide_eq_true (by omega)
  by_cases h6 : 64 < h
  · rw [if_neg (by simp; omega)]
    have d6 : decide (h ≤ 64) = false := decide_eq_false (by omega)
    go_enter Try.func78, Try.ntmps78
    go_wp2
    go_ret
    exact ⟨rfl, bl_alloc (bl_refl _) _⟩
  · rw [if_pos (by simp; omega)]
    have d6 : decide (h ≤ 64) = true := decide_eq_true (by omega)
    go_enter Try.func78, Try.ntmps78
    go_wp2
    go_ret
    exact ⟨rfl, bl_alloc (bl_refl _) _⟩
theorem rcheck_is (n s h t : Int) (x : Int) (w : World) (hx : (if okC n s h = true then (0 : Int) else 1) = x) :
    Calls Try.prog 78 #[cfgR n s h t] w fun e w' => e = .returned (.int .i64 x) ∧ Below w.heap.size w w' := by
  subst hx
  exact rcheck_any n s h t w
/-- A slot's place, if the config is right and the slot is there. -/

theorem rtag_is (x y : Int) (w : World) (h0 : 0 ≤ x) (h1 : x < 18446744073709551616) (h : x / 4294967296 = y) :
    Calls Try.prog 79 #[.int .u64 x] w fun e w' => e = .returned (.int .u32 y) ∧ w = w' := by
  subst h
  have e1 : x.tdiv 4294967296 = x / 4294967296 := Int.tdiv_eq_ediv_of_nonneg h0
  have e2 : IntKind.u32.wrap (x / 4294967296) = x / 4294967296 := by rw [IntKind.wrap_u32]; omega
  have e3 : (x / 4294967296) % 4294967296 = x / 4294967296 := by omega
  go_enter Try.func79, Try.ntmps79
  go_wp2
  go_ret
  exact ⟨rfl, rfl⟩
theorem rindex_is (x y : Int) (w : World) (h0 : 0 ≤ x) (h1 : x < 18446744073709551616) (h : x % 4294967296 = y) :
    Calls Try.prog 62 #[.int .u64 x] w fun e w' => e = .returned (.int .u32 y) ∧ w = w' := by
  subst h
  have e1 : x.tmod 4294967296 = x % 4294967296 := Int.tmod_eq_emod_of_nonneg h0
  have e2 : IntKind.u32.wrap (x % 4294967296) = x % 4294967296 := by rw [IntKind.wrap_u32]; omega
  go_enter Try.func62, Try.ntmps62
  go_wp2
  go_ret
  exact ⟨by simp, rfl⟩
theorem rword_is (i t y : Int) (w : World) (i0 : 0 ≤ i) (i1 : i < 4294967296) (t0 : 0 ≤ t) (t1 : t < 4294967296) (h : i + t * 4294967296 = y) :
    Calls Try.prog 80 #[.int .u32 i, .int .u32 t] w fun e w' => e = .returned (.int .u64 y) ∧ w = w' := by
  subst h
  have e1 : IntKind.u64.wrap t = t := by rw [IntKind.wrap_u64]; omega
  have e2 : IntKind.u64.wrap i = i := by rw [IntKind.wrap_u64]; omega
  have e3 : IntKind.u64.wrap (4294967296 * t) = 4294967296 * t := by rw [IntKind.wrap_u64]; omega
  have e4 : (4294967296 * t + i) % 18446744073709551616 = i + t * 4294967296 := by omega
  have e5 : IntKind.u64.wrap (4294967296 * t + i) = i + t * 4294967296 := by rw [IntKind.wrap_u64]; exact e4
  go_enter Try.func80, Try.ntmps80
  go_wp2
  go_ret
  exact ⟨by first | rfl | simp only [e4] | (congr 2; omega), rfl⟩
theorem rnextw_is (x f y : Int) (w : World) (h0 : 0 ≤ x) (h1 : x < 18446744073709551616) (f0 : 0 ≤ f) (f1 : f < 4294967296) (h : nextW x f = y) :
    Calls Try.prog 65 #[.int .u64 x, .int .u32 f] w fun e w' => e = .returned (.int .u64 y) ∧ w = w' := by
  obtain ⟨t, ht⟩ : ∃ t, x / 4294967296 = t := ⟨_, rfl⟩
  have t0 : 0 ≤ t := by omega
  have t1 : t < 4294967296 := by omega
  obtain ⟨u, hu⟩ : ∃ u, (t + 1) % 4294967296 = u := ⟨_, rfl⟩
  have u0 : 0 ≤ u := by omega
  have u1 : u < 4294967296 := by omega
  have hy : f + u * 4294967296 = y := by rw [← h]; unfold nextW; omega
  have e1 : IntKind.u64.wrap t = t := by rw [IntKind.wrap_u64]; omega
  have e2 : IntKind.u64.wrap (t + 1) = t + 1 := by rw [IntKind.wrap_u64]; omega
  have e3 : (t + 1).tmod 4294967296 = u := by rw [Int.tmod_eq_emod_of_nonneg (by omega)]; exact hu
  have e4 : IntKind.u32.wrap u = u := by rw [IntKind.wrap_u32]; omega
  have e5 : IntKind.u32.wrap (t + 1) = u := by rw [IntKind.wrap_u32]; exact hu
  have HT := Lib.hid ht
  have HY := Lib.hid hy
  have HU := Lib.hid hu
  clear ht hy h
  go_enter Try.func65, Try.ntmps65
  go_wp2_with (first | (go_at_call 80; refine (rword_is f u y _ f0 f1 u0 u1 HY.out).mono ?_; rintro e w1 ⟨rfl, rfl⟩) | (go_at_call 79; refine (rtag_is x t _ h0 h1 HT.out).mono ?_; rintro e w1 ⟨rfl, rfl⟩))
  go_ret
  exact ⟨rfl, rfl⟩
set_option maxHeartbeats 4000000 in
theorem rnx_bad (n s h t i : Int) (w : World) (i0 : 0 ≤ i) (i1 : i < 4294967296) (hok : ¬ okC n s h = true) :
    Calls Try.prog 61 #[cfgR n s h t, .int .u32 i] w fun e w' => e = .returned (.int .i64 (-1)) ∧ Below w.heap.size w w' := by
  have HX : Hid ((if okC n s h = true then (0 : Int) else 1) = 1) := Lib.hid (if_neg hok)
  clear hok
  have H := Lib.hid ((St.nil w).alloc #[.int .i64 n, .int .i64 s, .int .i64 h, .int .u32 t] 90)
  go_enter Try.func61, Try.ntmps61
  go_wp2_with (go_at_call 78; refine (rcheck_is n s h t 1 _ HX.out).mono ?_; rintro e w1 ⟨rfl, hb⟩; (have H1 := Lib.hid (H.out.below hb)); clear hb; (obtain ⟨q0, q1, q2, q3⟩ := cells4 (H1.out.cells 0 rfl)))
  go_wp2
  go_ret
  exact ⟨rfl, H1.out.bel⟩
set_option maxHeartbeats 4000000 in
theorem rnx_low (n s h t i : Int) (w : World) (i0 : 0 ≤ i) (i1 : i < 4294967296) (hok : okC n s h = true) (hi : i < 1) :
    Calls Try.prog 61 #[cfgR n s h t, .int .u32 i] w fun e w' => e = .returned (.int .i64 (-1)) ∧ Below w.heap.size w w' := by
  obtain ⟨b1, b2, _⟩ := okC_bounds hok
  have HX : Hid ((if okC n s h = true then (0 : Int) else 1) = 0) := Lib.hid (if_pos hok)
  have u1 : n % 4294967296 = n := by omega
  have u2 : IntKind.u32.wrap n = n := by rw [IntKind.wrap_u32]; exact u1
  clear hok
  have d0 : decide (i < 1) = true := decide_eq_true hi
  have H := Lib.hid ((St.nil w).alloc #[.int .i64 n, .int .i64 s, .int .i64 h, .int .u32 t] 90)
  go_enter Try.func61, Try.ntmps61
  go_wp2_with (go_at_call 78; refine (rcheck_is n s h t 0 _ HX.out).mono ?_; rintro e w1 ⟨rfl, hb⟩; (have H1 := Lib.hid (H.out.below hb)); clear hb; (obtain ⟨q0, q1, q2, q3⟩ := cells4 (H1.out.cells 0 rfl)))
  try go_wp2
  go_ret
  exact ⟨rfl, H1.out.bel⟩
set_option maxHeartbeats 4000000 in
theorem rnx_high (n s h t i : Int) (w : World) (i0 : 0 ≤ i) (i1 : i < 4294967296) (hok : okC n s h = true) (hi : n < i) :
    Calls Try.prog 61 #[cfgR n s h t, .int .u32 i] w fun e w' => e = .returned (.int .i64 (-1)) ∧ Below w.heap.size w w' := by
  obtain ⟨b1, b2, _⟩ := okC_bounds hok
  have HX : Hid ((if okC n s h = true then (0 : Int) else 1) = 0) := Lib.hid (if_pos hok)
  have u1 : n % 4294967296 = n := by omega
  have u2 : IntKind.u32.wrap n = n := by rw [IntKind.wrap_u32]; exact u1
  clear hok
  have d0 : decide (i < 1) = false := decide_eq_false (by omega)
  have d1 : decide (n < i) = true := decide_eq_true hi
  have H := Lib.hid ((St.nil w).alloc #[.int .i64 n, .int .i64 s, .int .i64 h, .int .u32 t] 90)
  go_enter Try.func61, Try.ntmps61
  go_wp2_with (go_at_call 78; refine (rcheck_is n s h t 0 _ HX.out).mono ?_; rintro e w1 ⟨rfl, hb⟩; (have H1 := Lib.hid (H.out.below hb)); clear hb; (obtain ⟨q0, q1, q2, q3⟩ := cells4 (H1.out.cells 0 rfl)))
  try go_wp2
  go_ret
  exact ⟨rfl, H1.out.bel⟩
set_option maxHeartbeats 4000000 in
theorem rnx_in (n s h t i : Int) (w : World) (i0 : 0 ≤ i) (i1 : i < 4294967296) (hok : okC n s h = true) (hi : 1 ≤ i) (hj : i ≤ n) :
    Calls Try.prog 61 #[cfgR n s h t, .int .u32 i] w fun e w' => e = .returned (.int .i64 (2 + 2 * (i - 1))) ∧ Below w.heap.size w w' := by
  obtain ⟨b1, b2, _⟩ := okC_bounds hok
  have HX : Hid ((if okC n s h = true then (0 : Int) else 1) = 0) := Lib.hid (if_pos hok)
  have u1 : n % 4294967296 = n := by omega
  have u2 : IntKind.u32.wrap n = n := by rw [IntKind.wrap_u32]; exact u1
  clear hok
  have d0 : decide (i < 1) = false := decide_eq_false (by omega)
  have d1 : decide (n < i) = false := decide_eq_false (by omega)
  have v1 : IntKind.i64.wrap i = i := by rw [IntKind.wrap_i64]; omega
  have H := Lib.hid ((St.nil w).alloc #[.int .i64 n, .int .i64 s, .int .i64 h, .int .u32 t] 90)
  go_enter Try.func61, Try.ntmps61
  go_wp2_with (go_at_call 78; refine (rcheck_is n s h t 0 _ HX.out).mono ?_; rintro e w1 ⟨rfl, hb⟩; (have H1 := Lib.hid (H.out.below hb)); clear hb; (obtain ⟨q0, q1, q2, q3⟩ := cells4 (H1.out.cells 0 rfl)))
  try go_wp2
  go_ret
  exact ⟨rfl, H1.out.bel⟩
theorem rnx_is (n s h t i x : Int) (w : World) (i0 : 0 ≤ i) (i1 : i < 4294967296) (hx : atI n s h 0 (2 * (i - 1)) = x) :
    Calls Try.prog 61 #[cfgR n s h t, .int .u32 i] w fun e w' => e = .returned (.int .i64 x) ∧ Below w.heap.size w w' := by
  subst hx
  by_cases hok : okC n s h = true
  · by_cases h1 : i < 1
    · have e : atI n s h 0 (2 * (i - 1)) = -1 := nx_out i0 (.inl h1)
      rw [e]
      exact rnx_low n s h t i w i0 i1 hok h1
    · by_cases h2 : n < i
      · have e : atI n s h 0 (2 * (i - 1)) = -1 := nx_out i0 (.inr h2)
        rw [e]
        exact rnx_high n s h t i w i0 i1 hok h2
      · have e : atI n s h 0 (2 * (i - 1)) = 2 + 2 * (i - 1) := by rw [nx_at hok (by omega) (by omega)]; omega
        rw [e]
        exact rnx_in n s h t i w i0 i1 hok (by omega) (by omega)
  · have e : atI n s h 0 (2 * (i - 1)) = -1 := by unfold atI; rw [if_neg (fun c => hok c.1)]
    rw [e]
    exact rnx_bad n s h t i w i0 i1 hok
/-- A machine's cells. -/
abbrev rtB (p : Nat) (n s h t a : Int) (g : Bool) (i pc x nx st : Int) : Asn := boxA p #[.int .i64 n, .int .i64 s, .int .i64 h, .int .u32 t, .int .i64 a, .bool g, .int .u32 i, .int .i64 pc, .int .u64 x, .int .u32 nx, .int .i64 st] 112
theorem cells11 {w : World} {b : Nat} {a0 a1 a2 a3 a4 a5 a6 a7 a8 a9 a10 : Value} {e : TypeId} (h : w.heap[b]? = some (.cells #[a0, a1, a2, a3, a4, a5, a6, a7, a8, a9, a10] e (0, 0))) :
    (w.cell? ⟨b, 0, none⟩ = some a0 ∧ w.cell? ⟨b, 1, none⟩ = some a1 ∧ w.cell? ⟨b, 2, none⟩ = some a2 ∧ w.cell? ⟨b, 3, none⟩ = some a3 ∧ w.cell? ⟨b, 4, none⟩ = some a4 ∧ w.cell? ⟨b, 5, none⟩ = some a5 ∧ w.cell? ⟨b, 6, none⟩ = some a6 ∧ w.cell? ⟨b, 7, none⟩ = some a7 ∧ w.cell? ⟨b, 8, none⟩ = some a8 ∧ w.cell? ⟨b, 9, none⟩ = some a9 ∧ w.cell? ⟨b, 10, none⟩ = some a10) ∧
      (w.frozen? ⟨b, 6, none⟩ = false ∧ w.frozen? ⟨b, 7, none⟩ = false ∧ w.frozen? ⟨b, 8, none⟩ = false ∧ w.frozen? ⟨b, 9, none⟩ = false ∧ w.frozen? ⟨b, 10, none⟩ = false) ∧ b < w.heap.size :=
  ⟨⟨cell_of h 0, cell_of h 1, cell_of h 2, cell_of h 3, cell_of h 4, cell_of h 5, cell_of h 6, cell_of h 7, cell_of h 8, cell_of h 9, cell_of h 10⟩, ⟨free_of h 6, free_of h 7, free_of h 8, free_of h 9, free_of h 10⟩, lt_of_heap h⟩
end Go.Proofs.Ytndigbkhaajjoaa
