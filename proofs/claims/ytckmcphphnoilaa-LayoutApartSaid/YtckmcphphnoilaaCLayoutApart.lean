/-
  Plain facts on the printed functions of package layout: what each comes to.
-/
import Derived.Test.YtckmcphphnoilaaPLayoutApartx
import Derived.Test.YtckmcphphnoilaaPlain
namespace Go.Proofs.Ytckmcphphnoilaa.CLayoutApart
open Go.RowKit Go.Proofs.Ytckmcphphnoilaa Go.Proofs.Ytckmcphphnoilaa.Pl Go.Proofs.Ytckmcphphnoilaa.PLayoutApart Go.Proofs.YtckmcphphnoilaaW.PrintWords Go.Proofs.YtckmcphphnoilaaW.PrintLast
set_option linter.unusedVariables false

theorem next_eq {n s h t i : Int} (h0 : 0 ≤ i) (h1 : i < 4294967296) : layout_Config_Next.f n s h t i = some (atI n s h 0 (2 * (i - 1))) := by
  unfold layout_Config_Next.f layout_Config_at.f
  rw [w64 (x := i) (by omega) (by omega), w64 (x := i - 1) (by omega) (by omega), w64 (by omega) (by omega)]
  simp
theorem value_eq {n s h t i : Int} (h0 : 0 ≤ i) (h1 : i < 4294967296) : layout_Config_Value.f n s h t i = some (if i = 0 then -1 else atI n s h 0 (2 * (i - 1) + 1)) := by
  unfold layout_Config_Value.f layout_Config_at.f
  rw [w64 (x := i) (by omega) (by omega), w64 (x := i - 1) (by omega) (by omega), w64 (x := 2 * (i - 1)) (by omega) (by omega), w64 (by omega) (by omega)]
  split <;> simp
theorem slot_eq (n s h t k : Int) : layout_Config_Slot.f n s h t k = some (atI n s h 1 k) := by
  unfold layout_Config_Slot.f layout_Config_at.f
  simp
theorem holder_eq (n s h t k : Int) : layout_Config_Holder.f n s h t k = some (atI n s h 2 k) := by
  unfold layout_Config_Holder.f layout_Config_at.f
  simp
theorem cells_eq {n s h t : Int} (hk : okC n s h = true) : layout_Config_Cells.f n s h t = some (2 + 2 * n + s + h) := by unfold layout_Config_Cells.f cellsI; rw [if_pos hk]
theorem check_eq (n s h t : Int) : layout_Check.f n s h t = some (if okC n s h = true then 0 else 1) := by
  unfold layout_Check.f okC
  simp only [decide_eq_true_eq]
  repeat' split
  all_goals first | rfl | (exfalso; omega)
theorem shown_eq : hatstandlaw6_shown.f = some true := by
  unfold hatstandlaw6_shown.f
  rw [next_eq (by omega) (by omega), value_eq (by omega) (by omega), slot_eq, cells_eq (by decide), check_eq]
  decide
theorem pick_eq {c n : Int} (h0 : 0 < n) (h1 : n ≤ 9223372036854775807) (c0 : -9223372036854775808 ≤ c) (c1 : c ≤ 9223372036854775807) : ∃ r, hatstandlaw6_pick.f c n = some r ∧ 0 ≤ r ∧ r < n := by
  unfold hatstandlaw6_pick.f
  split
  · rw [if_neg (by omega), w64 (x := c + 1) (by omega) (by omega), w64 (by omega) (by omega)]
    refine ⟨_, rfl, ?_, ?_⟩
    · rw [Int.tmod_eq_emod_of_nonneg (by omega)]; exact Int.emod_nonneg _ (by omega)
    · rw [Int.tmod_eq_emod_of_nonneg (by omega)]; exact Int.emod_lt_of_pos _ h0
  · rw [if_neg (by omega)]
    refine ⟨_, rfl, ?_, ?_⟩
    · rw [Int.tmod_eq_emod_of_nonneg (by omega)]; exact Int.emod_nonneg _ (by omega)
    · rw [Int.tmod_eq_emod_of_nonneg (by omega)]; exact Int.emod_lt_of_pos _ h0
theorem config_eq {a b c t : Int} (ha : (Lit.int .i64 a).wf = true) (hb : (Lit.int .i64 b).wf = true) (hc : (Lit.int .i64 c).wf = true) : ∃ n s h : Nat, hatstandlaw6_config.f a b c t = some ((n : Int), (s : Int), (h : Int), t) ∧ 1 ≤ n ∧ n ≤ 64 ∧ s ≤ 16 ∧ h ≤ 64 ∧ okC n s h = true ∧ hatstandlaw6_pick.f a 64 = some ((n : Int) - 1) ∧ hatstandlaw6_pick.f b 17 = some (s : Int) ∧ hatstandlaw6_pick.f c 65 = some (h : Int) := by
  obtain ⟨a0, a1⟩ := wf64 ha
  obtain ⟨b0, b1⟩ := wf64 hb
  obtain ⟨c0, c1⟩ := wf64 hc
  obtain ⟨n, e1, n0, n1⟩ := pick_eq (c := a) (n := 64) (by omega) (by omega) a0 a1
  obtain ⟨s, e2, s0, s1⟩ := pick_eq (c := b) (n := 17) (by omega) (by omega) b0 b1
  obtain ⟨h, e3, h0, h1⟩ := pick_eq (c := c) (n := 65) (by omega) (by omega) c0 c1
  obtain ⟨n, rfl⟩ := Int.eq_ofNat_of_zero_le n0
  obtain ⟨s, rfl⟩ := Int.eq_ofNat_of_zero_le s0
  obtain ⟨h, rfl⟩ := Int.eq_ofNat_of_zero_le h0
  refine ⟨n + 1, s, h, ?_, by omega, by omega, by omega, by omega, okC_mk (by omega) (by omega) (by omega) (by omega) (by omega) (by omega), by rw [e1]; congr 1; omega, e2, e3⟩
  unfold hatstandlaw6_config.f
  rw [e1, e2, e3, Option.bind_some, Option.bind_some, Option.bind_some, w64 (by omega) (by omega), show 1 + (n : Int) = ((n + 1 : Nat) : Int) from by omega]
end Go.Proofs.Ytckmcphphnoilaa.CLayoutApart
