/-
  Each thing more is a place more, or two of a node, and all that stand ahead of it stay where they are.
-/
import Derived.Test.YtckmcphphnoilaaPLayoutGrowsx2
import Derived.Test.YtckmcphphnoilaaCLayoutGrows
namespace Go.Proofs.Ytckmcphphnoilaa.Pure
open Go.RowKit Go.Proofs.Ytckmcphphnoilaa.PLayoutGrows Go.Proofs.YtckmcphphnoilaaW.PrintWords Go.Proofs.YtckmcphphnoilaaW.PrintLast
open Go.Proofs.Ytckmcphphnoilaa Go.Proofs.Ytckmcphphnoilaa.Pl Go.Proofs.Ytckmcphphnoilaa.CLayoutGrows
set_option linter.unusedVariables false

theorem slot_of {n s h k : Int} (hk : okC n s h = true) (h0 : 0 ≤ k) (h1 : k < s) : atI n s h 1 k = 2 + 2 * n + k := at_of hk h0 h1
theorem holder_of {n s h k : Int} (hk : okC n s h = true) (h0 : 0 ≤ k) (h1 : k < h) : atI n s h 2 k = 2 + 2 * n + s + k := at_of hk h0 h1
theorem value_of {n s h k : Int} (hk : okC n s h = true) (h0 : 1 ≤ k) (h1 : k ≤ n) : atI n s h 0 (2 * (k - 1) + 1) = 2 * k + 1 := by
  rw [at_of hk (by omega) (by show 2 * (k - 1) + 1 < 2 * n; omega)]
  show 2 + (2 * (k - 1) + 1) = _
  omega

section
variable (n s h : Nat) (k0 : okC n s h = true) (k1 : okC ((n : Int) + 1) s h = true) (k2 : okC n ((s : Int) + 1) h = true) (k3 : okC n s ((h : Int) + 1) = true)
include k0 k1 k2 k3
theorem g_l2 (d : Nat) : ∀ (k j : Nat), j ≤ h → h - j = d → d < k → hatstandlaw6_LayoutGrows.l2 k (j : Int) n s h 0 (n + 1) s h 0 n (s + 1) h 0 n s (h + 1) 0 = some true := by
  have hb := okC_bounds k0
  intro k j hj hd hkk
  induction d generalizing k j with
  | zero =>
    obtain ⟨k, rfl⟩ : ∃ m, k = m + 1 := ⟨k - 1, by omega⟩
    simp only [hatstandlaw6_LayoutGrows.l2]
    rw [if_neg (by omega)]
  | succ d ih =>
    obtain ⟨k, rfl⟩ : ∃ m, k = m + 1 := ⟨k - 1, by omega⟩
    simp only [hatstandlaw6_LayoutGrows.l2]
    rw [if_pos (by omega), holder_eq, Option.bind_some, holder_eq, Option.bind_some, holder_eq, Option.bind_some, Option.bind_some, holder_eq, Option.bind_some, Option.bind_some, holder_of k1 (by omega) (by omega), holder_of k0 (by omega) (by omega), holder_of k2 (by omega) (by omega), holder_of k3 (by omega) (by omega)]
    rw [w64 (by omega) (by omega), if_pos (by omega), w64 (by omega) (by omega), if_pos (by omega), if_pos (by omega), w64 (by omega) (by omega)]
    exact ih k (j + 1) (by omega) (by omega) (by omega)
theorem g_l1 (d : Nat) : ∀ (k j : Nat), j ≤ s → s - j = d → d + h + 3 < k → hatstandlaw6_LayoutGrows.l1 k (j : Int) n s h 0 (n + 1) s h 0 n (s + 1) h 0 n s (h + 1) 0 = some true := by
  have hb := okC_bounds k0
  intro k j hj hd hkk
  induction d generalizing k j with
  | zero =>
    obtain ⟨k, rfl⟩ : ∃ m, k = m + 1 := ⟨k - 1, by omega⟩
    simp only [hatstandlaw6_LayoutGrows.l1]
    rw [if_neg (by omega)]
    exact g_l2 n s h k0 k1 k2 k3 h k 0 (by omega) (by omega) (by omega)
  | succ d ih =>
    obtain ⟨k, rfl⟩ : ∃ m, k = m + 1 := ⟨k - 1, by omega⟩
    simp only [hatstandlaw6_LayoutGrows.l1]
    rw [if_pos (by omega), slot_eq, Option.bind_some, slot_eq, Option.bind_some, slot_eq, Option.bind_some, Option.bind_some, slot_eq, Option.bind_some, Option.bind_some, slot_of k1 (by omega) (by omega), slot_of k0 (by omega) (by omega), slot_of k2 (by omega) (by omega), slot_of k3 (by omega) (by omega)]
    rw [w64 (by omega) (by omega), if_pos (by omega), if_pos (by omega), if_pos (by omega), w64 (by omega) (by omega)]
    exact ih k (j + 1) (by omega) (by omega) (by omega)
theorem g_l0 (d : Nat) : ∀ (k i : Nat), 1 ≤ i → i ≤ n + 1 → n + 1 - i = d → d + s + h + 6 < k → hatstandlaw6_LayoutGrows.l0 k (i : Int) n s h 0 (n + 1) s h 0 n (s + 1) h 0 n s (h + 1) 0 = some true := by
  have hb := okC_bounds k0
  intro k i hi1 hi hd hkk
  induction d generalizing k i with
  | zero =>
    obtain ⟨k, rfl⟩ : ∃ m, k = m + 1 := ⟨k - 1, by omega⟩
    simp only [hatstandlaw6_LayoutGrows.l0]
    rw [if_neg (by omega)]
    exact g_l1 n s h k0 k1 k2 k3 s k 0 (by omega) (by omega) (by omega)
  | succ d ih =>
    obtain ⟨k, rfl⟩ : ∃ m, k = m + 1 := ⟨k - 1, by omega⟩
    simp only [hatstandlaw6_LayoutGrows.l0]
    rw [if_pos (by omega), next_eq (by omega) (by omega), Option.bind_some, next_eq (by omega) (by omega), Option.bind_some, value_eq (by omega) (by omega), Option.bind_some, value_eq (by omega) (by omega), Option.bind_some, next_eq (by omega) (by omega), Option.bind_some, Option.bind_some, at0_of k1 (by omega) (by omega), at0_of k0 (by omega) (by omega), at0_of k3 (by omega) (by omega), value_of k2 (by omega) (by omega), value_of k0 (by omega) (by omega)]
    rw [if_pos rfl, if_pos rfl, if_pos rfl, show ((i : Int) + 1) % 4294967296 = ((i + 1 : Nat) : Int) from by omega]
    exact ih k (i + 1) (by omega) (by omega) (by omega) (by omega)
end

theorem LayoutGrows : hatstandlaw6_LayoutGrows.Pure := by
  intro a b c ha hb hc
  obtain ⟨n, e1, n0, n1⟩ := pick_eq (c := a) (n := 63) (by omega) (by omega) (wf64 ha).1 (wf64 ha).2
  obtain ⟨s, e2, s0, s1⟩ := pick_eq (c := b) (n := 16) (by omega) (by omega) (wf64 hb).1 (wf64 hb).2
  obtain ⟨h, e3, h0, h1⟩ := pick_eq (c := c) (n := 64) (by omega) (by omega) (wf64 hc).1 (wf64 hc).2
  obtain ⟨n, rfl⟩ := Int.eq_ofNat_of_zero_le n0
  obtain ⟨s, rfl⟩ := Int.eq_ofNat_of_zero_le s0
  obtain ⟨h, rfl⟩ := Int.eq_ofNat_of_zero_le h0
  obtain ⟨K, hK⟩ : ∃ K : Nat, 500 ≤ K := ⟨500, by omega⟩
  refine ⟨K + 1, ?_⟩
  have k0 : okC ((n + 1 : Nat) : Int) s h = true := okC_mk (by omega) (by omega) (by omega) (by omega) (by omega) (by omega)
  have k1 : okC (((n + 1 : Nat) : Int) + 1) s h = true := okC_mk (by omega) (by omega) (by omega) (by omega) (by omega) (by omega)
  have k2 : okC ((n + 1 : Nat) : Int) ((s : Int) + 1) h = true := okC_mk (by omega) (by omega) (by omega) (by omega) (by omega) (by omega)
  have k3 : okC ((n + 1 : Nat) : Int) s ((h : Int) + 1) = true := okC_mk (by omega) (by omega) (by omega) (by omega) (by omega) (by omega)
  unfold hatstandlaw6_LayoutGrows.f
  rw [shown_eq, Option.bind_some, if_pos rfl, e1, Option.bind_some, e2, Option.bind_some, e3, Option.bind_some, w64 (x := 1 + (n : Int)) (by omega) (by omega), show 1 + (n : Int) = ((n + 1 : Nat) : Int) from by omega, w64 (x := ((n + 1 : Nat) : Int) + 1) (by omega) (by omega), w64 (x := (s : Int) + 1) (by omega) (by omega), w64 (x := (h : Int) + 1) (by omega) (by omega)]
  rw [cells_eq k1, Option.bind_some, cells_eq k0, Option.bind_some, cells_eq k2, Option.bind_some, Option.bind_some, cells_eq k3, Option.bind_some, Option.bind_some]
  rw [w64 (by omega) (by omega), if_pos (by omega), w64 (by omega) (by omega), if_pos (by omega), show (2 + 2 * ((n + 1 : Nat) : Int) + s + ((h : Int) + 1) != 2 + 2 * ((n + 1 : Nat) : Int) + s + h + 1) = false from by simp; omega]
  simp only [hatstandlaw6_LayoutGrows.j0]
  rw [if_neg (by decide)]
  exact g_l0 (n + 1) s h k0 k1 k2 k3 (n + 1) K 1 (by omega) (by omega) (by omega) (by omega)
end Go.Proofs.Ytckmcphphnoilaa.Pure
