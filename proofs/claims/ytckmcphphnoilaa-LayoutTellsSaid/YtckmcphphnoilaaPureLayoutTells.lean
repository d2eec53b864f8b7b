/-
  Whether a config is right, where its things are, and its fresh words, are as the chapter says: for every config and all numbers.
-/
import Derived.Test.YtckmcphphnoilaaPLayoutTellsx5
import Derived.Test.YtckmcphphnoilaaCLayoutTells
namespace Go.Proofs.Ytckmcphphnoilaa.Pure
open Go.RowKit Go.Proofs.Ytckmcphphnoilaa.PLayoutTells Go.Proofs.YtckmcphphnoilaaW.PrintWords Go.Proofs.YtckmcphphnoilaaW.PrintLast
open Go.Proofs.Ytckmcphphnoilaa Go.Proofs.Ytckmcphphnoilaa.Pl Go.Proofs.Ytckmcphphnoilaa.CLayoutTells
set_option linter.unusedVariables false

theorem same_l0 (l : List Int) (hl : l.length ≤ 10000) (d : Nat) : ∀ k i : Nat, i ≤ l.length → l.length - i = d → d < k → hatstandref2_SameWords.l0 k l l (i : Int) = some true := by
  intro k i hi hd hk
  induction d generalizing k i with
  | zero =>
    obtain ⟨k, rfl⟩ : ∃ m, k = m + 1 := ⟨k - 1, by omega⟩
    simp only [hatstandref2_SameWords.l0]
    rw [if_neg (by omega)]
  | succ d ih =>
    obtain ⟨k, rfl⟩ : ∃ m, k = m + 1 := ⟨k - 1, by omega⟩
    simp only [hatstandref2_SameWords.l0]
    rw [if_pos (by omega), if_pos (by omega), if_pos (by omega), if_pos trivial, w64 (by omega) (by omega)]
    exact ih k (i + 1) (by omega) (by omega) (by omega)
theorem same_eq (l : List Int) (hl : l.length ≤ 10000) (k : Nat) (hk : l.length < k) : hatstandref2_SameWords.f k l l = some true := by
  unfold hatstandref2_SameWords.f
  rw [if_pos rfl]
  exact same_l0 l hl l.length k 0 (by omega) (by omega) (by omega)

theorem rcheck_eq (n s h t : Int) : hatstandref6_Check.f n s h t = some (if okC n s h = true then 0 else 1) := by
  unfold hatstandref6_Check.f okC
  simp only [decide_eq_true_eq]
  repeat' split
  all_goals first | rfl | (exfalso; omega)
theorem wrapu {x : Int} (h0 : 0 ≤ x) (h1 : x < 18446744073709551616) : IntKind.u64.wrap x = x := by rw [IntKind.wrap_u64]; omega
theorem rword_eq {a b : Int} (a0 : 0 ≤ a) (a1 : a < 4294967296) (b0 : 0 ≤ b) (b1 : b < 4294967296) : hatstandref6_word.f a b = some (a + b * 4294967296) := by
  unfold hatstandref6_word.f
  rw [wrapu (x := b) (by omega) (by omega), wrapu (x := 4294967296 * b) (by omega) (by omega), wrapu (x := a) (by omega) (by omega), wrapu (by omega) (by omega)]
  congr 1
  omega

theorem take_fresh {n s h : Nat} {t : Int} {p : Nat} (hp : p < 2 + 2 * n + s + h) : (freshL n s h t n s).take (p + 1) = (freshL n s h t n s).take p ++ [fv n t n s p] := by
  have hl : p < (freshL n s h t n s).length := by rw [freshL_length]; exact hp
  rw [List.take_succ_eq_append_getElem hl]
  congr 2
  simp [freshL]
theorem rfresh_l2 (n s h : Nat) (t : Int) (hk : okC n s h = true) (d : Nat) : ∀ (k j : Nat), j ≤ h → h - j = d → d < k →
    hatstandref6_Fresh.l2 k ((freshL n s h t n s).take (2 + 2 * n + s + j)) (j : Int) n s h t = some (freshL n s h t n s, 0) := by
  have hb := okC_bounds hk
  intro k j hj hd hkk
  induction d generalizing k j with
  | zero =>
    obtain ⟨k, rfl⟩ : ∃ m, k = m + 1 := ⟨k - 1, by omega⟩
    simp only [hatstandref6_Fresh.l2]
    rw [if_neg (by omega), List.take_of_length_le (by rw [freshL_length]; omega)]
  | succ d ih =>
    obtain ⟨k, rfl⟩ : ∃ m, k = m + 1 := ⟨k - 1, by omega⟩
    simp only [hatstandref6_Fresh.l2]
    rw [if_pos (by omega), if_pos (by rw [List.length_take, freshL_length]; omega), w64 (by omega) (by omega)]
    have e := take_fresh (n := n) (s := s) (h := h) (t := t) (p := 2 + 2 * n + s + j) (by omega)
    rw [show fv n t n s (2 + 2 * n + s + j) = 0 from by unfold fv; rw [if_neg (by omega), if_neg (by omega), if_neg (by omega), if_neg (by omega)]] at e
    rw [← e]
    exact ih k (j + 1) (by omega) (by omega) (by omega)
theorem rfresh_l1 (n s h : Nat) (t : Int) (hk : okC n s h = true) (t0 : 0 ≤ t) (t1 : t < 4294967296) (d : Nat) : ∀ (k j : Nat), j ≤ s → s - j = d → d + h + 3 < k →
    hatstandref6_Fresh.l1 k ((freshL n s h t n s).take (2 + 2 * n + j)) (j : Int) n s h t = some (freshL n s h t n s, 0) := by
  have hb := okC_bounds hk
  intro k j hj hd hkk
  induction d generalizing k j with
  | zero =>
    obtain ⟨k, rfl⟩ : ∃ m, k = m + 1 := ⟨k - 1, by omega⟩
    simp only [hatstandref6_Fresh.l1]
    rw [if_neg (by omega)]
    obtain rfl : j = s := by omega
    exact rfresh_l2 n j h t hk h k 0 (by omega) (by omega) (by omega)
  | succ d ih =>
    obtain ⟨k, rfl⟩ : ∃ m, k = m + 1 := ⟨k - 1, by omega⟩
    simp only [hatstandref6_Fresh.l1]
    rw [if_pos (by omega), rword_eq (by omega) (by omega) t0 t1, Option.bind_some, if_pos (by rw [List.length_take, freshL_length]; omega), w64 (by omega) (by omega)]
    have e := take_fresh (n := n) (s := s) (h := h) (t := t) (p := 2 + 2 * n + j) (by omega)
    rw [show fv n t n s (2 + 2 * n + j) = 0 + t * 4294967296 from by unfold fv; rw [if_neg (by omega), if_neg (by omega), if_neg (by omega), if_pos (by omega)]; omega] at e
    rw [← e]
    exact ih k (j + 1) (by omega) (by omega) (by omega)
theorem rfresh_l0 (n s h : Nat) (t : Int) (hk : okC n s h = true) (t0 : 0 ≤ t) (t1 : t < 4294967296) (d : Nat) : ∀ (k i : Nat), 1 ≤ i → i ≤ n + 1 → n + 1 - i = d → d + s + h + 6 < k →
    hatstandref6_Fresh.l0 k ((freshL n s h t n s).take (2 * i)) (i : Int) n s h t = some (freshL n s h t n s, 0) := by
  have hb := okC_bounds hk
  intro k i h1 hi hd hkk
  induction d generalizing k i with
  | zero =>
    obtain ⟨k, rfl⟩ : ∃ m, k = m + 1 := ⟨k - 1, by omega⟩
    simp only [hatstandref6_Fresh.l0]
    rw [if_neg (by omega)]
    obtain rfl : i = n + 1 := by omega
    have := rfresh_l1 n s h t hk t0 t1 s k 0 (by omega) (by omega) (by omega)
    rwa [show 2 + 2 * n + 0 = 2 * (n + 1) from by omega] at this
  | succ d ih =>
    obtain ⟨k, rfl⟩ : ∃ m, k = m + 1 := ⟨k - 1, by omega⟩
    simp only [hatstandref6_Fresh.l0]
    have e1 := take_fresh (n := n) (s := s) (h := h) (t := t) (p := 2 * i) (by omega)
    have e2 := take_fresh (n := n) (s := s) (h := h) (t := t) (p := 2 * i + 1) (by omega)
    rw [show fv n t n s (2 * i + 1) = 0 from by unfold fv; rw [if_neg (by omega), if_neg (by omega), if_pos (by omega), if_neg (by omega)], e1, List.append_assoc] at e2
    have hl : ((freshL n s h t n s).take (2 * i)).length ≤ 1000 := by rw [List.length_take, freshL_length]; omega
    rw [if_pos (by omega)]
    by_cases c : (i : Int) = n
    · rw [if_pos c, Option.bind_some, if_pos (by simp only [List.length_cons, List.length_nil]; omega), w64 (by omega) (by omega)]
      rw [show fv n t n s (2 * i) = 0 from by unfold fv; rw [if_neg (by omega), if_neg (by omega), if_pos (by omega), if_neg (by omega)]] at e2
      have := ih k (i + 1) (by omega) (by omega) (by omega) (by omega)
      rw [show 2 * (i + 1) = 2 * i + 1 + 1 from by omega, e2] at this
      exact this
    · rw [if_neg c, Option.bind_some, if_pos (by simp only [List.length_cons, List.length_nil]; omega), w64 (by omega) (by omega), wrapu (by omega) (by omega)]
      rw [show fv n t n s (2 * i) = (i : Int) + 1 from by unfold fv; rw [if_neg (by omega), if_neg (by omega), if_pos (by omega), if_pos (by omega)]; omega] at e2
      have := ih k (i + 1) (by omega) (by omega) (by omega) (by omega)
      rw [show 2 * (i + 1) = 2 * i + 1 + 1 from by omega, e2] at this
      exact this
theorem rfresh_eq (n s h : Nat) (t : Int) (hk : okC n s h = true) (t0 : 0 ≤ t) (t1 : t < 4294967296) (k : Nat) (hkk : 400 ≤ k) :
    hatstandref6_Fresh.f k n s h t = some (freshL n s h t n s, 0) := by
  have hb := okC_bounds hk
  unfold hatstandref6_Fresh.f
  rw [rcheck_eq, Option.bind_some, if_pos hk, if_pos rfl, rword_eq (by omega) (by omega) t0 t1, Option.bind_some, rword_eq (by omega) (by omega) t0 t1, Option.bind_some]
  have := rfresh_l0 n s h t hk t0 t1 n k 1 (by omega) (by omega) (by omega) (by omega)
  rw [show 2 * 1 = 0 + 1 + 1 from rfl, take_fresh (by omega), take_fresh (by omega), show fv n t n s 0 = t * 4294967296 from rfl, show fv n t n s (0 + 1) = 1 + t * 4294967296 from rfl] at this
  rw [show (0 : Int) + t * 4294967296 = t * 4294967296 from by omega]
  exact this

theorem rnext_eq {n s h t i : Int} (i0 : 0 ≤ i) (i1 : i < 4294967296) : hatstandref6_Next.f n s h t i = some (atI n s h 0 (2 * (i - 1))) := by
  unfold hatstandref6_Next.f
  rw [rcheck_eq, Option.bind_some]
  cases hk : okC n s h with
  | false => rw [if_neg (by decide), at_bad hk]
  | true =>
    have hb := okC_bounds hk
    rw [if_pos rfl, if_pos rfl, show n % 4294967296 = n from by omega]
    by_cases c : i < 1
    · rw [if_pos c, at0_bad (by omega)]
    rw [if_neg c]
    by_cases d : i > n
    · rw [if_pos d, at0_bad (by omega)]
    rw [if_neg d, at0_of hk (by omega) (by omega), w64 (x := i) (by omega) (by omega), w64 (x := i - 1) (by omega) (by omega), w64 (x := 2 * (i - 1)) (by omega) (by omega), w64 (by omega) (by omega)]
    congr 1
    omega
theorem rvalue_eq {n s h t i : Int} (i0 : 0 ≤ i) (i1 : i < 4294967296) : hatstandref6_Value.f n s h t i = some (if i = 0 then -1 else atI n s h 0 (2 * (i - 1) + 1)) := by
  unfold hatstandref6_Value.f
  rw [rnext_eq i0 i1, Option.bind_some]
  cases hk : okC n s h with
  | false => rw [at_bad hk, at_bad hk]; simp
  | true =>
    have hb := okC_bounds hk
    by_cases c : 1 ≤ i ∧ i ≤ n
    · rw [at0_of hk c.1 c.2, if_neg (by omega), if_neg (by omega), at_of hk (by omega) (by show 2 * (i - 1) + 1 < 2 * n; omega), w64 (by omega) (by omega)]
      congr 1
      show 2 * i + 1 = 2 + (2 * (i - 1) + 1)
      omega
    · rw [at0_bad (by omega), if_pos (by omega)]
      by_cases d : i = 0
      · rw [if_pos d]
      · rw [if_neg d, at_high (by show 2 * n ≤ 2 * (i - 1) + 1; omega)]
theorem rslot_eq (n s h t k : Int) : hatstandref6_Slot.f n s h t k = some (atI n s h 1 k) := by
  unfold hatstandref6_Slot.f
  rw [rcheck_eq, Option.bind_some]
  cases hk : okC n s h with
  | false => rw [if_neg (by decide), at_bad hk]
  | true =>
    have hb := okC_bounds hk
    rw [if_pos rfl, if_pos rfl]
    by_cases c : k < 0
    · rw [if_pos c, at_low c]
    rw [if_neg c]
    by_cases d : k ≥ s
    · rw [if_pos d, at_high d]
    rw [if_neg d, at_of hk (by omega) (by show k < s; omega), w64 (x := 2 * n) (by omega) (by omega), w64 (x := 2 + 2 * n) (by omega) (by omega), w64 (by omega) (by omega)]
    rfl
theorem rholder_eq (n s h t k : Int) : hatstandref6_Holder.f n s h t k = some (atI n s h 2 k) := by
  unfold hatstandref6_Holder.f
  rw [rcheck_eq, Option.bind_some]
  cases hk : okC n s h with
  | false => rw [if_neg (by decide), at_bad hk]
  | true =>
    have hb := okC_bounds hk
    rw [if_pos rfl, if_pos rfl]
    by_cases c : k < 0
    · rw [if_pos c, at_low c]
    rw [if_neg c]
    by_cases d : k ≥ h
    · rw [if_pos d, at_high d]
    rw [if_neg d, at_of hk (by omega) (by show k < h; omega), w64 (x := 2 * n) (by omega) (by omega), w64 (x := 2 + 2 * n) (by omega) (by omega), w64 (x := 2 + 2 * n + s) (by omega) (by omega), w64 (by omega) (by omega)]
    rfl
theorem rcells_eq (n s h t : Int) : hatstandref6_Cells.f n s h t = some (cellsI n s h) := by
  unfold hatstandref6_Cells.f cellsI
  rw [rcheck_eq, Option.bind_some]
  cases hk : okC n s h with
  | false => rw [if_neg (by decide), if_neg (by decide)]
  | true =>
    have hb := okC_bounds hk
    rw [if_pos rfl, if_pos rfl, if_pos rfl, w64 (x := 2 * n) (by omega) (by omega), w64 (x := 2 + 2 * n) (by omega) (by omega), w64 (x := 2 + 2 * n + s) (by omega) (by omega), w64 (by omega) (by omega)]

theorem LayoutTells (n s h t i k : Int) (t0 : 0 ≤ t) (t1 : t < 4294967296) (i0 : 0 ≤ i) (i1 : i < 4294967296) : ∃ K, hatstandlaw6_LayoutTells.f K n s h t i k = some true := by
  obtain ⟨K, hK⟩ : ∃ K : Nat, 1000 ≤ K := ⟨1000, by omega⟩
  refine ⟨K, ?_⟩
  obtain ⟨l, e, f1, f2, hl⟩ : ∃ (l : List Int) (e : Int), layout_Fresh.f K n s h t = some (l, e) ∧ hatstandref6_Fresh.f K n s h t = some (l, e) ∧ l.length ≤ 500 := by
    cases hk : okC n s h with
    | false =>
      refine ⟨[], 1, fresh_bad n s h t hk K, ?_, by simp⟩
      unfold hatstandref6_Fresh.f
      rw [rcheck_eq, hk, Option.bind_some, if_neg (by decide), if_neg (by decide)]
    | true =>
      have hb := okC_bounds hk
      obtain ⟨n, rfl⟩ := Int.eq_ofNat_of_zero_le (show 0 ≤ n by omega)
      obtain ⟨s, rfl⟩ := Int.eq_ofNat_of_zero_le (show 0 ≤ s by omega)
      obtain ⟨h, rfl⟩ := Int.eq_ofNat_of_zero_le (show 0 ≤ h by omega)
      exact ⟨_, 0, fresh_eq n s h t hk t0 t1 K (by omega), rfresh_eq n s h t hk t0 t1 K (by omega), by rw [freshL_length]; omega⟩
  unfold hatstandlaw6_LayoutTells.f
  rw [shown_eq, Option.bind_some, if_pos rfl, show hatstandlaw6_as.f n s h t = some (n, s, h, t) from rfl, Option.bind_some, f1, Option.bind_some]
  dsimp only
  rw [f2, Option.bind_some, check_eq, Option.bind_some, rcheck_eq, Option.bind_some, if_pos rfl, next_eq i0 i1, Option.bind_some, rnext_eq i0 i1, Option.bind_some, if_pos rfl, value_eq i0 i1, Option.bind_some, rvalue_eq i0 i1, Option.bind_some, if_pos rfl, slot_eq, Option.bind_some, rslot_eq, Option.bind_some, if_pos rfl, holder_eq, Option.bind_some, rholder_eq, Option.bind_some, if_pos rfl, rcells_eq]
  rw [show layout_Config_Cells.f n s h t = some (cellsI n s h) from rfl, Option.bind_some, Option.bind_some, if_pos rfl]
  dsimp only
  rw [same_eq l (by omega) K (by omega), Option.bind_some, if_pos rfl, beq_self_eq_true]

theorem walk_LayoutTells (n s h t i k : Int) (w : World) (w0 : (Lit.int .i64 n).wf = true) (w1 : (Lit.int .i64 s).wf = true) (w2 : (Lit.int .i64 h).wf = true) (w3 : (Lit.int .u32 t).wf = true) (w4 : (Lit.int .u32 i).wf = true) (w5 : (Lit.int .i64 k).wf = true) :
    Calls Try.prog 7 #[.agg #[.int .i64 n, .int .i64 s, .int .i64 h, .int .u32 t], .int .u32 i, .int .i64 k] w fun e w' => e = .returned (.bool true) ∧ Below w.heap.size w w' := by
  have ht := wfu32 w3
  have hi := wfu32 w4
  obtain ⟨K, hK⟩ := LayoutTells n s h t i k ht.1 (by omega) hi.1 (by omega)
  exact hatstandlaw6_LayoutTells.calls K n s h t i k true w hK rfl
end Go.Proofs.Ytckmcphphnoilaa.Pure
