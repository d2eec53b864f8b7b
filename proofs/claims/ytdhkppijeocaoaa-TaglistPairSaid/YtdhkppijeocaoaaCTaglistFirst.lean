/-
  Plain facts on the printed functions of package layout: what each comes to.
-/
import Derived.Test.YtdhkppijeocaoaaPTaglistFirstx
import Derived.Test.YtdhkppijeocaoaaPlain
namespace Go.Proofs.Ytdhkppijeocaoaa.CTaglistFirst
open Go.RowKit Go.Proofs.Ytdhkppijeocaoaa Go.Proofs.Ytdhkppijeocaoaa.Pl Go.Proofs.Ytdhkppijeocaoaa.PTaglistFirst Go.Proofs.YtdhkppijeocaoaaW.PrintWords Go.Proofs.YtdhkppijeocaoaaW.PrintLast
set_option linter.unusedVariables false

theorem next_eq {n s h t i : Int} (h0 : 0 ≤ i) (h1 : i < 4294967296) : layout_Config_Next.f n s h t i = some (atI n s h 0 (2 * (i - 1))) := by
  unfold layout_Config_Next.f layout_Config_at.f
  rw [w64 (x := i) (by omega) (by omega), w64 (x := i - 1) (by omega) (by omega), w64 (by omega) (by omega)]
  simp
theorem slot_eq (n s h t k : Int) : layout_Config_Slot.f n s h t k = some (atI n s h 1 k) := by
  unfold layout_Config_Slot.f layout_Config_at.f
  simp
theorem cells_eq {n s h t : Int} (hk : okC n s h = true) : layout_Config_Cells.f n s h t = some (2 + 2 * n + s + h) := by unfold layout_Config_Cells.f cellsI; rw [if_pos hk]
theorem check_eq (n s h t : Int) : layout_Check.f n s h t = some (if okC n s h = true then 0 else 1) := by
  unfold layout_Check.f okC
  simp only [decide_eq_true_eq]
  repeat' split
  all_goals first | rfl | (exfalso; omega)
theorem pick_eq {c n : Int} (h0 : 0 < n) (h1 : n ≤ 9223372036854775807) (c0 : -9223372036854775808 ≤ c) (c1 : c ≤ 9223372036854775807) : ∃ r, hatstandlaw7_pick.f c n = some r ∧ 0 ≤ r ∧ r < n := by
  unfold hatstandlaw7_pick.f
  split
  · rw [if_neg (by omega), w64 (x := c + 1) (by omega) (by omega), w64 (by omega) (by omega)]
    refine ⟨_, rfl, ?_, ?_⟩
    · rw [Int.tmod_eq_emod_of_nonneg (by omega)]; exact Int.emod_nonneg _ (by omega)
    · rw [Int.tmod_eq_emod_of_nonneg (by omega)]; exact Int.emod_lt_of_pos _ h0
  · rw [if_neg (by omega)]
    refine ⟨_, rfl, ?_, ?_⟩
    · rw [Int.tmod_eq_emod_of_nonneg (by omega)]; exact Int.emod_nonneg _ (by omega)
    · rw [Int.tmod_eq_emod_of_nonneg (by omega)]; exact Int.emod_lt_of_pos _ h0
theorem config_eq {a b c t : Int} (ha : (Lit.int .i64 a).wf = true) (hb : (Lit.int .i64 b).wf = true) (hc : (Lit.int .i64 c).wf = true) : ∃ n s h : Nat, hatstandlaw7_config.f a b c t = some ((n : Int), (s : Int), (h : Int), t) ∧ 1 ≤ n ∧ n ≤ 64 ∧ s ≤ 16 ∧ h ≤ 64 ∧ okC n s h = true ∧ hatstandlaw7_pick.f a 64 = some ((n : Int) - 1) ∧ hatstandlaw7_pick.f b 17 = some (s : Int) ∧ hatstandlaw7_pick.f c 65 = some (h : Int) := by
  obtain ⟨a0, a1⟩ := wf64 ha
  obtain ⟨b0, b1⟩ := wf64 hb
  obtain ⟨c0, c1⟩ := wf64 hc
  obtain ⟨n, e1, n0, n1⟩ := pick_eq (c := a) (n := 64) (by omega) (by omega) a0 a1
  obtain ⟨s, e2, s0, s1⟩ := pick_eq (c := b) (n := 17) (by omega) (by omega) b0 b1
  obtain ⟨h, e3, h0, h1⟩ := pick_eq (c := c) (n := 65) (by omega) (by omega) c0 c1
  obtain ⟨n, rfl⟩ := Int.eq_ofNat_of_zero_le n0
  obtain ⟨s, rfl⟩ := Int.eq_ofNat_of_zero_le s0
  obtain ⟨h, rfl⟩ := Int.eq_ofNat_of_zero_le h0
  refine ⟨n + 1, s, h, ?_, by omega, by omega, by omega, by omega, okC_mk (by omega) (by omega) (by omega) (by omega) (by omega) (by omega), by rw [e1]; congr 1; omega, e2, e3⟩
  unfold hatstandlaw7_config.f
  rw [e1, e2, e3, Option.bind_some, Option.bind_some, Option.bind_some, w64 (by omega) (by omega), show 1 + (n : Int) = ((n + 1 : Nat) : Int) from by omega]
theorem word_eq {a b : Int} (a0 : 0 ≤ a) (a1 : a < 4294967296) (b0 : 0 ≤ b) (b1 : b < 4294967296) : pack_Word.f a b = some (a + b * 4294967296) := by
  unfold pack_Word.f
  rw [word_or a0 a1 b0 b1]
theorem fresh_l1 (n s h : Nat) (t : Int) (hk : okC n s h = true) (t0 : 0 ≤ t) (t1 : t < 4294967296) (d : Nat) : ∀ (k i : Nat), i ≤ s → s - i = d → d < k →
    layout_Fresh.l1 k (freshL n s h t n i) s (i : Int) n s h t = some (freshL n s h t n s, 0) := by
  have hb := okC_bounds hk
  intro k i hi hd hkk
  induction d generalizing k i with
  | zero =>
    obtain ⟨k, rfl⟩ : ∃ m, k = m + 1 := ⟨k - 1, by omega⟩
    obtain rfl : i = s := by omega
    simp only [layout_Fresh.l1]
    rw [if_neg (by omega)]
  | succ d ih =>
    obtain ⟨k, rfl⟩ : ∃ m, k = m + 1 := ⟨k - 1, by omega⟩
    simp only [layout_Fresh.l1]
    rw [if_pos (by omega), slot_eq, Option.bind_some, word_eq (by omega) (by omega) t0 t1, Option.bind_some, at_of hk (by omega) (by show (i : Int) < s; omega)]
    rw [show loI n s 1 + (i : Int) = ((2 + 2 * n + i : Nat) : Int) from by simp [loI], if_pos (by omega), freshL_length, if_pos (by omega), Int.toNat_natCast, show (0 : Int) + t * 4294967296 = t * 4294967296 from by omega, fresh_slot (by omega), w64 (by omega) (by omega)]
    exact ih k (i + 1) (by omega) (by omega) (by omega)
theorem fresh_l0 (n s h : Nat) (t : Int) (hk : okC n s h = true) (t0 : 0 ≤ t) (t1 : t < 4294967296) (d : Nat) : ∀ (k i : Nat), 1 ≤ i → i ≤ n → n - i = d → d + s + 2 < k →
    layout_Fresh.l0 k (freshL n s h t i 0) (i : Int) n s h t = some (freshL n s h t n s, 0) := by
  have hb := okC_bounds hk
  intro k i h1 hi hd hkk
  induction d generalizing k i with
  | zero =>
    obtain ⟨k, rfl⟩ : ∃ m, k = m + 1 := ⟨k - 1, by omega⟩
    obtain rfl : i = n := by omega
    simp only [layout_Fresh.l0]
    rw [if_neg (by rw [w64 (by omega) (by omega)]; omega)]
    exact fresh_l1 i s h t hk t0 t1 s k 0 (by omega) (by omega) (by omega)
  | succ d ih =>
    obtain ⟨k, rfl⟩ : ∃ m, k = m + 1 := ⟨k - 1, by omega⟩
    simp only [layout_Fresh.l0]
    rw [if_pos (by rw [w64 (by omega) (by omega)]; omega), next_eq (by omega) (by omega), Option.bind_some, at0_of hk (by omega) (by omega), freshL_length, if_pos (by omega), if_pos (by omega)]
    rw [show ((i : Int) + 1) % 4294967296 = (i : Int) + 1 from by omega, show (2 * (i : Int)).toNat = 2 * i from by omega, fresh_node (by omega) (by omega)]
    exact ih k (i + 1) (by omega) (by omega) (by omega) (by omega)
theorem fresh_eq (n s h : Nat) (t : Int) (hk : okC n s h = true) (t0 : 0 ≤ t) (t1 : t < 4294967296) (k : Nat) (hkk : 200 ≤ k) :
    layout_Fresh.f k n s h t = some (freshL n s h t n s, 0) := by
  have hb := okC_bounds hk
  unfold layout_Fresh.f
  rw [check_eq, Option.bind_some, if_pos hk, if_pos rfl, cells_eq hk, Option.bind_some, if_pos (by omega), if_pos (by omega), Option.bind_some, word_eq (by omega) (by omega) t0 t1, Option.bind_some, word_eq (by omega) (by omega) t0 t1, Option.bind_some, if_pos (by rw [List.length_replicate]; omega), if_pos (by rw [List.length_replicate]; omega)]
  rw [show (2 + 2 * (n : Int) + s + h).toNat = 2 + 2 * n + s + h from by omega, show (0 : Int).toNat = 0 from rfl, show (1 : Int).toNat = 1 from rfl, show (0 : Int) + t * 4294967296 = t * 4294967296 from by omega, fresh_start (by omega)]
  exact fresh_l0 n s h t hk t0 t1 (n - 1) k 1 (by omega) (by omega) (by omega) (by omega)
theorem fresh_bad (n s h t : Int) (hk : okC n s h = false) (k : Nat) : layout_Fresh.f k n s h t = some ([], 1) := by
  unfold layout_Fresh.f
  rw [check_eq, Option.bind_some, if_neg (by simp [hk]), if_neg (by simp [hk])]
end Go.Proofs.Ytdhkppijeocaoaa.CTaglistFirst
