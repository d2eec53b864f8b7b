/-
  Plain facts on the printed functions of package layout: what each comes to.
-/
import Derived.Test.YtckmcphphnoilaaPLayoutGrowsx
import Derived.Test.YtckmcphphnoilaaPlain
namespace Go.Proofs.Ytckmcphphnoilaa.CLayoutGrows
open Go.RowKit Go.Proofs.Ytckmcphphnoilaa Go.Proofs.Ytckmcphphnoilaa.Pl Go.Proofs.Ytckmcphphnoilaa.PLayoutGrows Go.Proofs.YtckmcphphnoilaaW.PrintWords Go.Proofs.YtckmcphphnoilaaW.PrintLast
set_option linter.unusedVariables false

theorem next_eq {n s h t i : Int} (h0 : 0 ≤ i) (h1 : i < 4294967296) : layout_Config_Next.f n s h t i = some (atI n s h 0 (2 * (i - 1))) := by
  unfold layout_Config_Next.f layout_Config_at.f
  rw [w64 (x := i) (by omega) (by omega), w64 (x := i - 1) (by omega) (by omega), w64 (by omega) (by omega)]
  simp
theorem value_eq {n s h t i : Int} (h0 : 0 ≤ i) (h1 : i < 4294967296) : layout_Config_Value.f n s h t i = some (if i = 0 then -1 else atI n s h 0 (2 * (i - 1) + 1)) := by
  unfold layout_Config_Value.f layout_Config_at.f
  rw [w64 (x := i) (by omega) (by omega), w64 (x := i - 1) (by omega) (by omega), w64 (x := 2 * (i - 1)) (by omega) (by omega), w64 (by omega) (by omega)]
  split <;> simp
theorem slot_eq (n s h t k : Int) : layout_Config_Slot.f n s h t k = some (atI n s h 1 k) := by
  unfold layout_Config_Slot.f layout_Config_at.f
  simp
theorem holder_eq (n s h t k : Int) : layout_Config_Holder.f n s h t k = some (atI n s h 2 k) := by
  unfold layout_Config_Holder.f layout_Config_at.f
  simp
theorem cells_eq {n s h t : Int} (hk : okC n s h = true) : layout_Config_Cells.f n s h t = some (2 + 2 * n + s + h) := by unfold layout_Config_Cells.f cellsI; rw [if_pos hk]
theorem check_eq (n s h t : Int) : layout_Check.f n s h t = some (if okC n s h = true then 0 else 1) := by
  unfold layout_Check.f okC
  simp only [decide_eq_true_eq]
  repeat' split
  all_goals first | rfl | (exfalso; omega)
theorem shown_eq : hatstandlaw6_shown.f = some true := by
  unfold hatstandlaw6_shown.f
  rw [next_eq (by omega) (by omega), value_eq (by omega) (by omega), slot_eq, cells_eq (by decide), check_eq]
  decide
theorem pick_eq {c n : Int} (h0 : 0 < n) (h1 : n ≤ 9223372036854775807) (c0 : -9223372036854775808 ≤ c) (c1 : c ≤ 9223372036854775807) : ∃ r, hatstandlaw6_pick.f c n = some r ∧ 0 ≤ r ∧ r < n := by
  unfold hatstandlaw6_pick.f
  split
  · rw [if_neg (by omega), w64 (x := c + 1) (by omega) (by omega), w64 (by omega) (by omega)]
    refine ⟨_, rfl, ?_, ?_⟩
    · rw [Int.tmod_eq_emod_of_nonneg (by omega)]; exact Int.emod_nonneg _ (by omega)
    · rw [Int.tmod_eq_emod_of_nonneg (by omega)]; exact Int.emod_lt_of_pos _ h0
  · rw [if_neg (by omega)]
    refine ⟨_, rfl, ?_, ?_⟩
    · rw [Int.tmod_eq_emod_of_nonneg (by omega)]; exact Int.emod_nonneg _ (by omega)
    · rw [Int.tmod_eq_emod_of_nonneg (by omega)]; exact Int.emod_lt_of_pos _ h0
end Go.Proofs.Ytckmcphphnoilaa.CLayoutGrows
