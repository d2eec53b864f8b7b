/-
  Plain facts on the printed functions of package layout: what each comes to.
-/
import Derived.Test.YtckmcphphnoilaaPLayoutChainsx
import Derived.Test.YtckmcphphnoilaaPlain
namespace Go.Proofs.Ytckmcphphnoilaa.CLayoutChains
open Go.RowKit Go.Proofs.Ytckmcphphnoilaa Go.Proofs.Ytckmcphphnoilaa.Pl Go.Proofs.Ytckmcphphnoilaa.PLayoutChains Go.Proofs.YtckmcphphnoilaaW.PrintWords Go.Proofs.YtckmcphphnoilaaW.PrintLast
set_option linter.unusedVariables false

theorem next_eq {n s h t i : Int} (h0 : 0 ≤ i) (h1 : i < 4294967296) : layout_Config_Next.f n s h t i = some (atI n s h 0 (2 * (i - 1))) := by
  unfold layout_Config_Next.f layout_Config_at.f
  rw [w64 (x := i) (by omega) (by omega), w64 (x := i - 1) (by omega) (by omega), w64 (by omega) (by omega)]
  simp
theorem value_eq {n s h t i : Int} (h0 : 0 ≤ i) (h1 : i < 4294967296) : layout_Config_Value.f n s h t i = some (if i = 0 then -1 else atI n s h 0 (2 * (i - 1) + 1)) := by
  unfold layout_Config_Value.f layout_Config_at.f
  rw [w64 (x := i) (by omega) (by omega), w64 (x := i - 1) (by omega) (by omega), w64 (x := 2 * (i - 1)) (by omega) (by omega), w64 (by omega) (by omega)]
  split <;> simp
theorem slot_eq (n s h t k : Int) : layout_Config_Slot.f n s h t k = some (atI n s h 1 k) := by
  unfold layout_Config_Slot.f layout_Config_at.f
  simp
theorem cells_eq {n s h t : Int} (hk : okC n s h = true) : layout_Config_Cells.f n s h t = some (2 + 2 * n + s + h) := by unfold layout_Config_Cells.f cellsI; rw [if_pos hk]
theorem check_eq (n s h t : Int) : layout_Check.f n s h t = some (if okC n s h = true then 0 else 1) := by
  unfold layout_Check.f okC
  simp only [decide_eq_true_eq]
  repeat' split
  all_goals first | rfl | (exfalso; omega)
theorem shown_eq : hatstandlaw6_shown.f = some true := by
  unfold hatstandlaw6_shown.f
  rw [next_eq (by omega) (by omega), value_eq (by omega) (by omega), slot_eq, cells_eq (by decide), check_eq]
  decide
theorem chain_l0 (n s h t : Int) (words : List Int) (hk : okC n s h = true) (hw : (words.length : Int) = 2 + 2 * n + s + h) (f : Nat) : ∀ (k : Nat) (out : List Int) (i : Int), 0 ≤ i → i < 4294967296 → (out.length : Int) + f = n → 2 * f + 3 < k →
    layout_Chain.l0 k words out i n s h t = some (chainGo n s h words f out i) := by
  have hb := okC_bounds hk
  intro k out i i0 i1 ho hkk
  induction f generalizing k out i with
  | zero =>
    obtain ⟨k, rfl⟩ : ∃ m, k = m + 1 := ⟨k - 1, by omega⟩
    simp only [layout_Chain.l0, chainGo]
    by_cases e : i = 0
    · rw [if_pos e, if_pos e]
    rw [if_neg e, if_neg e, next_eq i0 i1, Option.bind_some]
    obtain ⟨k, rfl⟩ : ∃ m, k = m + 1 := ⟨k - 1, by omega⟩
    by_cases c : atI n s h 0 (2 * (i - 1)) < 0
    · rw [if_pos c]
      simp only [layout_Chain.j2]
      rw [if_pos trivial]
    · rw [if_neg c, decide_eq_true (show (out.length : Int) ≥ n by omega)]
      simp only [layout_Chain.j2]
      rw [if_pos trivial]
  | succ f ih =>
    obtain ⟨k, rfl⟩ : ∃ m, k = m + 1 := ⟨k - 1, by omega⟩
    simp only [layout_Chain.l0, chainGo]
    by_cases e : i = 0
    · rw [if_pos e, if_pos e]
    rw [if_neg e, if_neg e, next_eq i0 i1, Option.bind_some]
    obtain ⟨k, rfl⟩ : ∃ m, k = m + 1 := ⟨k - 1, by omega⟩
    by_cases c : atI n s h 0 (2 * (i - 1)) < 0
    · rw [if_pos c, if_pos c]
      simp only [layout_Chain.j2]
      rw [if_pos trivial]
    · obtain ⟨r1, r2, r3⟩ := at0_range hk i0 c
      rw [if_neg c, if_neg c, decide_eq_false (show ¬ (out.length : Int) ≥ n by omega)]
      simp only [layout_Chain.j2]
      rw [if_neg (by decide), if_pos (by omega), next_eq i0 i1, Option.bind_some, if_pos (by omega), if_pos (by omega)]
      unfold pack_Index.f
      rw [Option.bind_some]
      exact ih k (out ++ [i]) _ (Int.emod_nonneg _ (by decide)) (Int.emod_lt_of_pos _ (by decide)) (by simp; omega) (by omega)
theorem chain_eq (n s h t : Int) (words : List Int) (w : Int) (k : Nat) (hkk : 200 ≤ k) :
    layout_Chain.f k n s h t words w = some (chainP n s h words w) := by
  unfold layout_Chain.f chainP
  rw [check_eq, Option.bind_some]
  obtain ⟨k, rfl⟩ : ∃ m, k = m + 1 := ⟨k - 1, by omega⟩
  cases hk : okC n s h with
  | false =>
    rw [if_neg (by decide), if_neg (by simp)]
    simp only [layout_Chain.j0]
    rw [if_pos trivial]
  | true =>
    have hb := okC_bounds hk
    rw [if_pos rfl, if_pos rfl]
    have hc : cellsI n s h = 2 + 2 * n + s + h := by unfold cellsI; rw [if_pos hk]
    unfold layout_Config_Cells.f
    rw [Option.bind_some, hc]
    by_cases e : (words.length : Int) = 2 + 2 * n + s + h
    · rw [if_pos ⟨rfl, e⟩, show ((words.length : Int) != 2 + 2 * n + s + h) = false from by simp [e]]
      simp only [layout_Chain.j0]
      rw [if_neg (by decide)]
      unfold pack_Index.f
      rw [Option.bind_some]
      exact chain_l0 n s h t words hk e n.toNat k [] _ (Int.emod_nonneg _ (by decide)) (Int.emod_lt_of_pos _ (by decide)) (by simp; omega) (by omega)
    · rw [if_neg (by simp [e]), show ((words.length : Int) != 2 + 2 * n + s + h) = true from by simp [e]]
      simp only [layout_Chain.j0]
      rw [if_pos trivial]
end Go.Proofs.Ytckmcphphnoilaa.CLayoutChains
