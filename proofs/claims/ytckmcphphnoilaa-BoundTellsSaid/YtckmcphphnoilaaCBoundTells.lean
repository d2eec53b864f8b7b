/-
  Plain facts on the printed functions of package bound: what each comes to.
-/
import Derived.Test.YtckmcphphnoilaaPBoundTellsx
import Derived.Test.YtckmcphphnoilaaPlain
namespace Go.Proofs.Ytckmcphphnoilaa.CBoundTells
open Go.RowKit Go.Proofs.Ytckmcphphnoilaa Go.Proofs.Ytckmcphphnoilaa.Pl Go.Proofs.Ytckmcphphnoilaa.PBoundTells Go.Proofs.YtckmcphphnoilaaW.PrintWords Go.Proofs.YtckmcphphnoilaaW.PrintLast
set_option linter.unusedVariables false

theorem check_eq (n s h t : Int) : layout_Check.f n s h t = some (if okC n s h = true then 0 else 1) := by
  unfold layout_Check.f okC
  simp only [decide_eq_true_eq]
  repeat' split
  all_goals first | rfl | (exfalso; omega)
/-- Is a stack's config right? -/
def okE (n s h b a : Int) : Bool := okC n s h && decide (0 ≤ b ∧ b ≤ 16 ∧ 1 ≤ a ∧ a ≤ 64)
theorem okE_bounds {n s h b a : Int} (hk : okE n s h b a = true) : 1 ≤ n ∧ n ≤ 64 ∧ 0 ≤ s ∧ s ≤ 16 ∧ 0 ≤ h ∧ h ≤ 64 ∧ 0 ≤ b ∧ b ≤ 16 ∧ 1 ≤ a ∧ a ≤ 64 := by
  simp only [okE, Bool.and_eq_true, decide_eq_true_eq] at hk
  have := okC_bounds hk.1
  omega
theorem echeck_eq (n s h t b a w : Int) : ebstack_Check.f n s h t b a w = some (if okE n s h b a = true then 0 else 1) := by
  unfold ebstack_Check.f
  rw [check_eq]
  cases hk : okC n s h with
  | false => simp [okE, hk]
  | true =>
    simp only [okE, hk, Bool.true_and, decide_eq_true_eq, Option.bind_some, if_true]
    repeat' split
    all_goals first | rfl | (exfalso; omega)
def sumW (x : Int) (l : List Int) : Int := l.foldl (fun a y => wrap64 (a + y)) x
theorem sum_l0 (n s h t b a w : Int) (l : List Int) (hl : l.length ≤ 1000) (d : Nat) : ∀ (k i : Nat) (x : Int), i ≤ l.length → l.length - i = d → d < k →
    bound_sum.l0 k x l (l.length : Int) (i : Int) n s h t b a w = some (if okE n s h b a = true then sumW x (l.drop i) else 0) := by
  intro k i x hi hd hk
  induction d generalizing k i x with
  | zero =>
    obtain ⟨k, rfl⟩ : ∃ m, k = m + 1 := ⟨k - 1, by omega⟩
    simp only [bound_sum.l0]
    rw [if_neg (by omega), echeck_eq, Option.bind_some, List.drop_eq_nil_of_le (by omega)]
    cases okE n s h b a <;> rfl
  | succ d ih =>
    obtain ⟨k, rfl⟩ : ∃ m, k = m + 1 := ⟨k - 1, by omega⟩
    have hlt : i < l.length := by omega
    simp only [bound_sum.l0]
    rw [if_pos (by omega), if_pos (by omega), if_pos (by omega), w64 (x := (i : Int) + 1) (by omega) (by omega)]
    have := ih k (i + 1) (wrap64 (x + rd l (i : Int))) (by omega) (by omega) (by omega)
    rw [List.drop_eq_getElem_cons hlt]
    rw [show rd l (i : Int) = l[i] from by simp [rd, hlt]] at this ⊢
    exact this
theorem sum_eq (n s h t b a w : Int) (l : List Int) (hl : l.length ≤ 1000) (k : Nat) (hk : l.length < k) :
    bound_sum.f k n s h t b a w l = some (if okE n s h b a = true then sumW 0 l else 0) := by
  unfold bound_sum.f
  exact sum_l0 n s h t b a w l hl l.length k 0 0 (by omega) (by omega) hk
def vI (s : Int) : Int := if s = 0 then 0 else 69
theorem visit_bad {n s h t b a w : Int} (hk : okE n s h b a = false) (k : Nat) (hkk : 10 < k) : bound_Visit.f k n s h t b a w = some 0 := by
  unfold bound_Visit.f
  split
  · rfl
  · rw [sum_eq _ _ _ _ _ _ _ _ (by simp) _ (by simp; omega), Option.bind_some, if_neg (by simp [hk])]
theorem visit_ok {n s h t b a w : Int} (hk : okE n s h b a = true) (k : Nat) (hkk : 10 < k) : bound_Visit.f k n s h t b a w = some (vI s) := by
  unfold bound_Visit.f vI
  split
  · rfl
  · rw [sum_eq _ _ _ _ _ _ _ _ (by simp) _ (by simp; omega), Option.bind_some, if_pos hk]
    simp only [sumW, List.foldl_cons, List.foldl_nil]
    rw [w64 (x := 0 + 64) (by omega) (by omega), w64 (by omega) (by omega)]
    rfl
theorem some_bind {α β : Type} {x : Option α} (h : ∃ y, x = some y) (f : α → Option β) (r : β) (hf : ∀ y, f y = some r) : x.bind f = some r := by
  obtain ⟨y, rfl⟩ := h
  exact hf y
theorem visits_bad {n s h t b a w : Int} (hk : okE n s h b a = false) (k : Nat) (hkk : 10 < k) : ∃ y, bound_visits.f k n s h t b a w = some y := by
  unfold bound_visits.f
  rw [visit_bad hk k hkk]
  exact ⟨_, rfl⟩
theorem push_bad {n s h t b a w : Int} (hk : okE n s h b a = false) (k : Nat) (hkk : 10 < k) : bound_Push.f k n s h t b a w = some 0 := by
  unfold bound_Push.f bound_tries.f
  obtain ⟨y, e⟩ := visits_bad (t := t) (w := w) hk k hkk
  rw [Option.bind_some, Option.bind_some, e, Option.bind_some, Option.bind_some, sum_eq _ _ _ _ _ _ _ _ (by simp) _ (by simp; omega), Option.bind_some, if_neg (by simp [hk])]
theorem pop_bad {n s h t b a w : Int} (hk : okE n s h b a = false) (k : Nat) (hkk : 10 < k) : bound_Pop.f k n s h t b a w = some 0 := by
  unfold bound_Pop.f bound_tries.f
  obtain ⟨y, e⟩ := visits_bad (t := t) (w := w) hk k hkk
  rw [Option.bind_some, e, Option.bind_some, Option.bind_some, sum_eq _ _ _ _ _ _ _ _ (by simp) _ (by simp; omega), Option.bind_some, if_neg (by simp [hk])]
theorem acquire_bad {n s h t b a w : Int} (hk : okE n s h b a = false) (k : Nat) (hkk : 10 < k) : bound_Acquire.f k n s h t b a w = some 0 := by
  unfold bound_Acquire.f
  rw [pop_bad hk k hkk, Option.bind_some, sum_eq _ _ _ _ _ _ _ _ (by simp) _ (by simp; omega), Option.bind_some, if_neg (by simp [hk])]
theorem release_bad {n s h t b a w : Int} (hk : okE n s h b a = false) (k : Nat) (hkk : 10 < k) : bound_Release.f k n s h t b a w = some 0 := by
  unfold bound_Release.f
  rw [push_bad hk k hkk, Option.bind_some, sum_eq _ _ _ _ _ _ _ _ (by simp) _ (by simp; omega), Option.bind_some, if_neg (by simp [hk])]
theorem window_bad {n s h t b a w x : Int} (hk : okE n s h b a = false) (k : Nat) (hkk : 10 < k) : bound_Window.f k n s h t b a w x = some 0 := by
  unfold bound_Window.f
  split
  · rw [push_bad hk k hkk, Option.bind_some, Int.mul_zero, w64 (by omega) (by omega)]
  · rw [release_bad hk k hkk, Option.bind_some, Int.mul_zero, w64 (by omega) (by omega)]
def pushI (s b : Int) : Int := 9 * (b + 1) + 1 + b * vI s
def popI (s b : Int) : Int := 6 * (b + 1) + 1 + b * vI s
theorem bv_range {s b : Int} (h0 : 0 ≤ b) (h1 : b ≤ 16) : 0 ≤ b * vI s ∧ b * vI s ≤ 1104 := by
  unfold vI
  split <;> omega
theorem tries_ok {n s h t b a w : Int} (hk : okE n s h b a = true) : bound_tries.f n s h t b a w = some (3 * (b + 1)) := by
  have := okE_bounds hk
  unfold bound_tries.f
  rw [w64 (x := b + 1) (by omega) (by omega), w64 (by omega) (by omega)]
theorem visits_ok {n s h t b a w : Int} (hk : okE n s h b a = true) (k : Nat) (hkk : 10 < k) : bound_visits.f k n s h t b a w = some (b * vI s) := by
  have := okE_bounds hk
  have hr := bv_range (s := s) (b := b) (by omega) (by omega)
  unfold bound_visits.f
  rw [visit_ok hk k hkk, Option.bind_some, w64 (by omega) (by omega)]
theorem push_ok {n s h t b a w : Int} (hk : okE n s h b a = true) (k : Nat) (hkk : 10 < k) : bound_Push.f k n s h t b a w = some (pushI s b) := by
  have := okE_bounds hk
  have hr := bv_range (s := s) (b := b) (by omega) (by omega)
  unfold bound_Push.f
  rw [tries_ok hk, Option.bind_some, Option.bind_some, visits_ok hk k hkk, Option.bind_some, Option.bind_some, sum_eq _ _ _ _ _ _ _ _ (by simp) _ (by simp; omega), Option.bind_some, if_pos hk]
  unfold pushI
  generalize b * vI s = z at hr
  simp only [sumW, List.foldl_cons, List.foldl_nil]
  rw [w64 (x := 0 + 3 * (b + 1)) (by omega) (by omega), w64 (x := 0 + 3 * (b + 1) + 1) (by omega) (by omega), w64 (x := 0 + 3 * (b + 1) + 1 + 3 * (b + 1)) (by omega) (by omega), w64 (x := 0 + 3 * (b + 1) + 1 + 3 * (b + 1) + z) (by omega) (by omega), w64 (by omega) (by omega)]
  congr 1
  omega
theorem pop_ok {n s h t b a w : Int} (hk : okE n s h b a = true) (k : Nat) (hkk : 10 < k) : bound_Pop.f k n s h t b a w = some (popI s b) := by
  have := okE_bounds hk
  have hr := bv_range (s := s) (b := b) (by omega) (by omega)
  unfold bound_Pop.f
  rw [tries_ok hk, Option.bind_some, visits_ok hk k hkk, Option.bind_some, Option.bind_some, sum_eq _ _ _ _ _ _ _ _ (by simp) _ (by simp; omega), Option.bind_some, if_pos hk]
  unfold popI
  generalize b * vI s = z at hr
  simp only [sumW, List.foldl_cons, List.foldl_nil]
  rw [w64 (x := 0 + 3 * (b + 1)) (by omega) (by omega), w64 (x := 0 + 3 * (b + 1) + z) (by omega) (by omega), w64 (x := 0 + 3 * (b + 1) + z + 1) (by omega) (by omega), w64 (by omega) (by omega)]
  congr 1
  omega
theorem acquire_ok {n s h t b a w : Int} (hk : okE n s h b a = true) (k : Nat) (hkk : 10 < k) : bound_Acquire.f k n s h t b a w = some (popI s b + 1) := by
  have := okE_bounds hk
  have hr := bv_range (s := s) (b := b) (by omega) (by omega)
  have hp : popI s b = 6 * (b + 1) + 1 + b * vI s := rfl
  unfold bound_Acquire.f
  rw [pop_ok hk k hkk, Option.bind_some, sum_eq _ _ _ _ _ _ _ _ (by simp) _ (by simp; omega), Option.bind_some, if_pos hk]
  simp only [sumW, List.foldl_cons, List.foldl_nil]
  rw [w64 (x := 0 + popI s b) (by omega) (by omega), w64 (by omega) (by omega)]
  congr 1
  omega
theorem release_ok {n s h t b a w : Int} (hk : okE n s h b a = true) (k : Nat) (hkk : 10 < k) : bound_Release.f k n s h t b a w = some (pushI s b + 3) := by
  have := okE_bounds hk
  have hr := bv_range (s := s) (b := b) (by omega) (by omega)
  have hp : pushI s b = 9 * (b + 1) + 1 + b * vI s := rfl
  unfold bound_Release.f
  rw [push_ok hk k hkk, Option.bind_some, sum_eq _ _ _ _ _ _ _ _ (by simp) _ (by simp; omega), Option.bind_some, if_pos hk]
  simp only [sumW, List.foldl_cons, List.foldl_nil]
  rw [w64 (x := 0 + 1) (by omega) (by omega), w64 (x := 0 + 1 + 1) (by omega) (by omega), w64 (x := 0 + 1 + 1 + pushI s b) (by omega) (by omega), w64 (by omega) (by omega)]
  congr 1
  omega
theorem mx_range {x : Int} (h : x ≤ 1073741824) : 0 ≤ mx x 0 ∧ mx x 0 ≤ 1073741824 := by unfold mx; omega
theorem window_ok {n s h t b a w x : Int} (hk : okE n s h b a = true) (hx : x ≤ 1073741824) (k : Nat) (hkk : 10 < k) : bound_Window.f k n s h t b a w x = some (wrap64 (mx x 0 * (if h = 0 then pushI s b else pushI s b + 3))) := by
  unfold bound_Window.f
  split
  · rw [push_ok hk k hkk, Option.bind_some]
  · rw [release_ok hk k hkk, Option.bind_some]
theorem pick_eq {c n : Int} (h0 : 0 < n) (h1 : n ≤ 9223372036854775807) (c0 : -9223372036854775808 ≤ c) (c1 : c ≤ 9223372036854775807) : ∃ r, hatstandlaw21_pick.f c n = some r ∧ 0 ≤ r ∧ r < n := by
  unfold hatstandlaw21_pick.f
  split
  · rw [if_neg (by omega), w64 (x := c + 1) (by omega) (by omega), w64 (by omega) (by omega)]
    refine ⟨_, rfl, ?_, ?_⟩
    · rw [Int.tmod_eq_emod_of_nonneg (by omega)]; exact Int.emod_nonneg _ (by omega)
    · rw [Int.tmod_eq_emod_of_nonneg (by omega)]; exact Int.emod_lt_of_pos _ h0
  · rw [if_neg (by omega)]
    refine ⟨_, rfl, ?_, ?_⟩
    · rw [Int.tmod_eq_emod_of_nonneg (by omega)]; exact Int.emod_nonneg _ (by omega)
    · rw [Int.tmod_eq_emod_of_nonneg (by omega)]; exact Int.emod_lt_of_pos _ h0
theorem config_of {a b c d p q r u : Int} (h1 : hatstandlaw21_pick.f a 6 = some p) (h2 : hatstandlaw21_pick.f b 4 = some q) (h3 : hatstandlaw21_pick.f c 17 = some r) (h4 : hatstandlaw21_pick.f d 64 = some u) (p0 : 0 ≤ p) (p1 : p < 6) (u0 : 0 ≤ u) (u1 : u < 64) :
    hatstandlaw21_config.f a b c d = some (1 + p, q, 0, 5, r, 1 + u, 1152921504606846976) := by
  unfold hatstandlaw21_config.f
  rw [h1, h2, h3, h4, Option.bind_some, Option.bind_some, Option.bind_some, Option.bind_some, w64 (by omega) (by omega), w64 (by omega) (by omega)]
theorem shown_eq (k : Nat) (hkk : 10 < k) : hatstandlaw21_shown.f k = some true := by
  unfold hatstandlaw21_shown.f
  rw [config_of (a := 1) (b := 0) (c := 0) (d := 0) (p := 1) (q := 0) (r := 0) (u := 0) (by decide) (by decide) (by decide) (by decide) (by decide) (by decide) (by decide) (by decide), Option.bind_some, config_of (a := 1) (b := 1) (c := 2) (d := 0) (p := 1) (q := 1) (r := 2) (u := 0) (by decide) (by decide) (by decide) (by decide) (by decide) (by decide) (by decide) (by decide), Option.bind_some]
  dsimp only
  rw [push_ok (by decide) k hkk, Option.bind_some, if_pos (by decide), pop_ok (by decide) k hkk, Option.bind_some, if_pos (by decide), push_ok (by decide) k hkk, Option.bind_some, if_pos (by decide), pop_ok (by decide) k hkk, Option.bind_some, if_pos (by decide), window_ok (by decide) (by decide) k hkk, Option.bind_some]
  rw [show mx (3 : Int) 0 * (if (0 : Int) = 0 then pushI 0 0 else pushI 0 0 + 3) = 30 from by decide, w64 (by omega) (by omega)]
  rfl
end Go.Proofs.Ytckmcphphnoilaa.CBoundTells
