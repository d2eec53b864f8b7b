/-
  Plain facts on the printed functions of package layout: what each comes to.
-/
import Derived.Test.YtckmcphphnoilaaPLayoutTellsx
import Derived.Test.YtckmcphphnoilaaPlain
namespace Go.Proofs.Ytckmcphphnoilaa.CLayoutTells
open Go.RowKit Go.Proofs.Ytckmcphphnoilaa Go.Proofs.Ytckmcphphnoilaa.Pl Go.Proofs.Ytckmcphphnoilaa.PLayoutTells Go.Proofs.YtckmcphphnoilaaW.PrintWords Go.Proofs.YtckmcphphnoilaaW.PrintLast
set_option linter.unusedVariables false

theorem next_eq {n s h t i : Int} (h0 : 0 ≤ i) (h1 : i < 4294967296) : layout_Config_Next.f n s h t i = some (atI n s h 0 (2 * (i - 1))) := by
  unfold layout_Config_Next.f layout_Config_at.f
  rw [w64 (x := i) (by omega) (by omega), w64 (x := i - 1) (by omega) (by omega), w64 (by omega) (by omega)]
  simp
theorem value_eq {n s h t i : Int} (h0 : 0 ≤ i) (h1 : i < 4294967296) : layout_Config_Value.f n s h t i = some (if i = 0 then -1 else atI n s h 0 (2 * (i - 1) + 1)) := by
  unfold layout_Config_Value.f layout_Config_at.f
  rw [w64 (x := i) (by omega) (by omega), w64 (x := i - 1) (by omega) (by omega), w64 (x := 2 * (i - 1)) (by omega) (by omega), w64 (by omega) (by omega)]
  split <;> simp
theorem slot_eq (n s h t k : Int) : layout_Config_Slot.f n s h t k = some (atI n s h 1 k) := by
  unfold layout_Config_Slot.f layout_Config_at.f
  simp
theorem holder_eq (n s h t k : Int) : layout_Config_Holder.f n s h t k = some (atI n s h 2 k) := by
  unfold layout_Config_Holder.f layout_Config_at.f
  simp
theorem cells_eq {n s h t : Int} (hk : okC n s h = true) : layout_Config_Cells.f n s h t = some (2 + 2 * n + s + h) := by unfold layout_Config_Cells.f cellsI; rw [if_pos hk]
theorem check_eq (n s h t : Int) : layout_Check.f n s h t = some (if okC n s h = true then 0 else 1) := by
  unfold layout_Check.f okC
  simp only [decide_eq_true_eq]
  repeat' split
  all_goals first | rfl | (exfalso; omega)
theorem shown_eq : hatstandlaw6_shown.f = some true := by
  unfold hatstandlaw6_shown.f
  rw [next_eq (by omega) (by omega), value_eq (by omega) (by omega), slot_eq, cells_eq (by decide), check_eq]
  decide
theorem word_eq {a b : Int} (a0 : 0 ≤ a) (a1 : a < 4294967296) (b0 : 0 ≤ b) (b1 : b < 4294967296) : pack_Word.f a b = some (a + b * 4294967296) := by
  unfold pack_Word.f
  rw [word_or a0 a1 b0 b1]
theorem fresh_l1 (n s h : Nat) (t : Int) (hk : okC n s h = true) (t0 : 0 ≤ t) (t1 : t < 4294967296) (d : Nat) : ∀ (k i : Nat), i ≤ s → s - i = d → d < k →
    layout_Fresh.l1 k (freshL n s h t n i) s (i : Int) n s h t = some (freshL n s h t n s, 0) := by
  have hb := okC_bounds hk
  intro k i hi hd hkk
  induction d generalizing k i with
  | zero =>
    obtain ⟨k, rfl⟩ : ∃ m, k = m + 1 := ⟨k - 1, by omega⟩
    obtain rfl : i = s := by omega
    simp only [layout_Fresh.l1]
    rw [if_neg (by omega)]
  | succ d ih =>
    obtain ⟨k, rfl⟩ : ∃ m, k = m + 1 := ⟨k - 1, by omega⟩
    simp only [layout_Fresh.l1]
    rw [if_pos (by omega), slot_eq, Option.bind_some, word_eq (by omega) (by omega) t0 t1, Option.bind_some, at_of hk (by omega) (by show (i : Int) < s; omega)]
    rw [show loI n s 1 + (i : Int) = ((2 + 2 * n + i : Nat) : Int) from by simp [loI], if_pos (by omega), freshL_length, if_pos (by omega), Int.toNat_natCast, show (0 : Int) + t * 4294967296 = t * 4294967296 from by omega, fresh_slot (by omega), w64 (by omega) (by omega)]
    exact ih k (i + 1) (by omega) (by omega) (by omega)
theorem fresh_l0 (n s h : Nat) (t : Int) (hk : okC n s h = true) (t0 : 0 ≤ t) (t1 : t < 4294967296) (d : Nat) : ∀ (k i : Nat), 1 ≤ i → i ≤ n → n - i = d → d + s + 2 < k →
    layout_Fresh.l0 k (freshL n s h t i 0) (i : Int) n s h t = some (freshL n s h t n s, 0) := by
  have hb := okC_bounds hk
  intro k i h1 hi hd hkk
  induction d generalizing k i with
  | zero =>
    obtain ⟨k, rfl⟩ : ∃ m, k = m + 1 := ⟨k - 1, by omega⟩
    obtain rfl : i = n := by omega
    simp only [layout_Fresh.l0]
    rw [if_neg (by rw [w64 (by omega) (by omega)]; omega)]
    exact fresh_l1 i s h t hk t0 t1 s k 0 (by omega) (by omega) (by omega)
  | succ d ih =>
    obtain ⟨k, rfl⟩ : ∃ m, k = m + 1 := ⟨k - 1, by omega⟩
    simp only [layout_Fresh.l0]
    rw [if_pos (by rw [w64 (by omega) (by omega)]; omega), next_eq (by omega) (by omega), Option.bind_some, at0_of hk (by omega) (by omega), freshL_length, if_pos (by omega), if_pos (by omega)]
    rw [show ((i : Int) + 1) % 4294967296 = (i : Int) + 1 from by omega, show (2 * (i : Int)).toNat = 2 * i from by omega, fresh_node (by omega) (by omega)]
    exact ih k (i + 1) (by omega) (by omega) (by omega) (by omega)
theorem fresh_eq (n s h : Nat) (t : Int) (hk : okC n s h = true) (t0 : 0 ≤ t) (t1 : t < 4294967296) (k : Nat) (hkk : 200 ≤ k) :
    layout_Fresh.f k n s h t = some (freshL n s h t n s, 0) := by
  have hb := okC_bounds hk
  unfold layout_Fresh.f
  rw [check_eq, Option.bind_some, if_pos hk, if_pos rfl, cells_eq hk, Option.bind_some, if_pos (by omega), if_pos (by omega), Option.bind_some, word_eq (by omega) (by omega) t0 t1, Option.bind_some, word_eq (by omega) (by omega) t0 t1, Option.bind_some, if_pos (by rw [List.length_replicate]; omega), if_pos (by rw [List.length_replicate]; omega)]
  rw [show (2 + 2 * (n : Int) + s + h).toNat = 2 + 2 * n + s + h from by omega, show (0 : Int).toNat = 0 from rfl, show (1 : Int).toNat = 1 from rfl, show (0 : Int) + t * 4294967296 = t * 4294967296 from by omega, fresh_start (by omega)]
  exact fresh_l0 n s h t hk t0 t1 (n - 1) k 1 (by omega) (by omega) (by omega) (by omega)
theorem fresh_bad (n s h t : Int) (hk : okC n s h = false) (k : Nat) : layout_Fresh.f k n s h t = some ([], 1) := by
  unfold layout_Fresh.f
  rw [check_eq, Option.bind_some, if_neg (by simp [hk]), if_neg (by simp [hk])]
end Go.Proofs.Ytckmcphphnoilaa.CLayoutTells
