/-
  In the fresh words all nodes are free, in their order, none is in the stack, and all words that have tags have the first one.
-/
import Derived.Test.YtckmcphphnoilaaPLayoutFreshx4
import Derived.Test.YtckmcphphnoilaaCLayoutFresh
namespace Go.Proofs.Ytckmcphphnoilaa.Pure
open Go.RowKit Go.Proofs.Ytckmcphphnoilaa.PLayoutFresh Go.Proofs.YtckmcphphnoilaaW.PrintWords Go.Proofs.YtckmcphphnoilaaW.PrintLast
open Go.Proofs.Ytckmcphphnoilaa Go.Proofs.Ytckmcphphnoilaa.Pl Go.Proofs.Ytckmcphphnoilaa.CLayoutFresh
set_option linter.unusedVariables false

theorem tag_eq {x : Int} (h0 : 0 ≤ x) (h1 : x < 18446744073709551616) : pack_Tag.f x = some (x / 4294967296) := by
  unfold pack_Tag.f
  rw [if_pos h0, if_pos h1]

theorem fresh_zero {n s h : Nat} {t : Int} {i k : Nat} : rd (freshL n s h t i k) 0 = t * 4294967296 := by
  have := rd_fresh (n := n) (s := s) (h := h) (t := t) (i := i) (k := k) (p := 0) (by omega)
  rw [show ((0 : Nat) : Int) = 0 from rfl] at this
  rw [this]
  rfl
theorem fresh_one {n s h : Nat} {t : Int} {i k : Nat} : rd (freshL n s h t i k) 1 = 1 + t * 4294967296 := by
  have := rd_fresh (n := n) (s := s) (h := h) (t := t) (i := i) (k := k) (p := 1) (by omega)
  rw [show ((1 : Nat) : Int) = 1 from rfl] at this
  rw [this]
  rfl

theorem ran1_succ (i : Nat) : (ran (i + 1)).map (· + 1) = (ran i).map (· + 1) ++ [(i : Int) + 1] := by rw [ran_succ, List.map_append]; rfl
theorem chain_fresh (n s h : Nat) (t : Int) (hk : okC n s h = true) (f : Nat) : ∀ i : Nat, i + f = n → chainGo n s h (freshL n s h t n s) f ((ran i).map (· + 1)) (if f = 0 then 0 else (i : Int) + 1) = ((ran n).map (· + 1), true) := by
  have hb := okC_bounds hk
  induction f with
  | zero =>
    intro i hi
    obtain rfl : i = n := by omega
    simp [chainGo]
  | succ f ih =>
    intro i hi
    rw [if_neg (by omega)]
    simp only [chainGo]
    rw [if_neg (by omega), at0_of hk (by omega) (by omega), if_neg (by omega)]
    have e : rd (freshL n s h t n s) (2 * ((i : Int) + 1)) = if f = 0 then 0 else (i : Int) + 1 + 1 := by
      have := rd_fresh (n := n) (s := s) (h := h) (t := t) (i := n) (k := s) (p := 2 * (i + 1)) (by omega)
      rw [show (2 * ((i : Int) + 1)) = ((2 * (i + 1) : Nat) : Int) from by omega, this]
      unfold fv
      rw [if_neg (by omega), if_neg (by omega), if_pos (by omega)]
      by_cases c : f = 0
      · rw [if_pos c, if_neg (by omega)]
      · rw [if_neg c, if_pos (by omega)]
        omega
    have := ih (i + 1) (by omega)
    rw [ran1_succ] at this
    rw [e, show (if f = 0 then 0 else (i : Int) + 1 + 1) % 4294967296 = if f = 0 then 0 else ((i + 1 : Nat) : Int) + 1 from by split <;> omega]
    exact this

theorem l2_fresh (n s h : Nat) (t : Int) (hk : okC n s h = true) (d : Nat) : ∀ (k j : Nat), j ≤ h → h - j = d → d < k →
    hatstandlaw6_LayoutFresh.l2 k (freshL n s h t n s) (j : Int) n s h t = some true := by
  have hb := okC_bounds hk
  intro k j hj hd hkk
  induction d generalizing k j with
  | zero =>
    obtain ⟨k, rfl⟩ : ∃ m, k = m + 1 := ⟨k - 1, by omega⟩
    simp only [hatstandlaw6_LayoutFresh.l2]
    rw [if_neg (by omega)]
  | succ d ih =>
    obtain ⟨k, rfl⟩ : ∃ m, k = m + 1 := ⟨k - 1, by omega⟩
    simp only [hatstandlaw6_LayoutFresh.l2]
    rw [if_pos (by omega), holder_eq, Option.bind_some, at_of hk (by omega) (by show (j : Int) < h; omega), show loI n s 2 + (j : Int) = ((2 + 2 * n + s + j : Nat) : Int) from by simp [loI], if_pos (by omega), freshL_length, if_pos (by omega), rd_fresh (by omega)]
    rw [if_pos (by unfold fv; rw [if_neg (by omega), if_neg (by omega), if_neg (by omega), if_neg (by omega)]), w64 (by omega) (by omega)]
    exact ih k (j + 1) (by omega) (by omega) (by omega)

theorem l1_fresh (n s h : Nat) (t : Int) (hk : okC n s h = true) (t0 : 0 ≤ t) (t1 : t < 4294967296) (d : Nat) : ∀ (k j : Nat), j ≤ s → s - j = d → d + h + 3 < k →
    hatstandlaw6_LayoutFresh.l1 k t (freshL n s h t n s) (j : Int) n s h t = some true := by
  have hb := okC_bounds hk
  intro k j hj hd hkk
  induction d generalizing k j with
  | zero =>
    obtain ⟨k, rfl⟩ : ∃ m, k = m + 1 := ⟨k - 1, by omega⟩
    simp only [hatstandlaw6_LayoutFresh.l1]
    rw [if_neg (by omega)]
    exact l2_fresh n s h t hk h k 0 (by omega) (by omega) (by omega)
  | succ d ih =>
    obtain ⟨k, rfl⟩ : ∃ m, k = m + 1 := ⟨k - 1, by omega⟩
    simp only [hatstandlaw6_LayoutFresh.l1]
    rw [if_pos (by omega), slot_eq, Option.bind_some, at_of hk (by omega) (by show (j : Int) < s; omega), show loI n s 1 + (j : Int) = ((2 + 2 * n + j : Nat) : Int) from by simp [loI], if_pos (by omega), freshL_length, if_pos (by omega), rd_fresh (by omega), word_eq (by omega) (by omega) t0 t1, Option.bind_some]
    rw [if_pos (by unfold fv; rw [if_neg (by omega), if_neg (by omega), if_neg (by omega), if_pos (by omega)]; omega), w64 (by omega) (by omega)]
    exact ih k (j + 1) (by omega) (by omega) (by omega)

theorem l0_fresh (n s h : Nat) (t : Int) (hk : okC n s h = true) (t0 : 0 ≤ t) (t1 : t < 4294967296) (d : Nat) : ∀ (k j : Nat), j ≤ n → n - j = d → d + s + h + 6 < k →
    hatstandlaw6_LayoutFresh.l0 k t (freshL n s h t n s) ((ran n).map (· + 1)) (j : Int) n s h t = some true := by
  have hb := okC_bounds hk
  intro k j hj hd hkk
  induction d generalizing k j with
  | zero =>
    obtain ⟨k, rfl⟩ : ∃ m, k = m + 1 := ⟨k - 1, by omega⟩
    simp only [hatstandlaw6_LayoutFresh.l0]
    rw [if_neg (by rw [List.length_map, ran_length]; omega)]
    exact l1_fresh n s h t hk t0 t1 s k 0 (by omega) (by omega) (by omega)
  | succ d ih =>
    obtain ⟨k, rfl⟩ : ∃ m, k = m + 1 := ⟨k - 1, by omega⟩
    have e : rd ((ran n).map (· + 1)) (j : Int) = (j : Int) + 1 := by simp [rd, ran, show j < n by omega]
    simp only [hatstandlaw6_LayoutFresh.l0]
    rw [if_pos (by rw [List.length_map, ran_length]; omega), if_pos (by omega), e, w64 (by omega) (by omega), if_pos (by omega)]
    exact ih k (j + 1) (by omega) (by omega) (by omega)

theorem LayoutFresh : hatstandlaw6_LayoutFresh.Pure := by
  intro a b c t ha hb hc ht
  obtain ⟨t0, t1⟩ := wfu32 ht
  obtain ⟨n, s, h, e, n0, n1, s1, h1, hk, _⟩ := config_eq (t := t) ha hb hc
  obtain ⟨K, hK⟩ : ∃ K : Nat, 3000 ≤ K := ⟨3000, by omega⟩
  refine ⟨K + 1, ?_⟩
  have hcell : cellsI n s h = 2 + 2 * n + s + h := by unfold cellsI; rw [if_pos hk]
  have hlen : ((freshL n s h t n s).length : Int) = 2 + 2 * n + s + h := by rw [freshL_length]; omega
  have c1 : chainP n s h (freshL n s h t n s) (1 + t * 4294967296) = ((ran n).map (· + 1), true) := by
    unfold chainP
    rw [if_pos ⟨hk, by rw [hlen, hcell]⟩, show (1 + t * 4294967296) % 4294967296 = 1 from by omega, Int.toNat_natCast]
    have := chain_fresh n s h t hk n 0 (by omega)
    rw [if_neg (by omega)] at this
    exact this
  have c0 : chainP n s h (freshL n s h t n s) (t * 4294967296) = ([], true) := by
    unfold chainP
    rw [if_pos ⟨hk, by rw [hlen, hcell]⟩, show (t * 4294967296) % 4294967296 = 0 from by omega, Int.toNat_natCast]
    obtain ⟨m, rfl⟩ : ∃ m, n = m + 1 := ⟨n - 1, by omega⟩
    simp [chainGo]
  have cs : layout_Stack.f K n s h t (freshL n s h t n s) = some ([], true) := by
    unfold layout_Stack.f
    rw [hlen, if_neg (by omega), if_pos (by omega), fresh_zero, chain_eq _ _ _ _ _ _ _ (by omega), Option.bind_some, c0]
    dsimp only
    rw [if_pos (by simp), if_pos (by simp)]
    obtain ⟨K, rfl⟩ : ∃ m, K = m + 1 := ⟨K - 1, by omega⟩
    simp only [layout_Stack.l0]
    rw [if_neg (by simp)]
    rfl
  unfold hatstandlaw6_LayoutFresh.f
  rw [shown_eq, Option.bind_some, e, Option.bind_some]
  dsimp only
  rw [fresh_eq n s h t hk t0 (by omega) _ (by omega), Option.bind_some]
  dsimp only
  rw [if_pos rfl, if_pos rfl, cells_eq hk, Option.bind_some, if_pos hlen, decide_eq_false (by omega)]
  simp only [hatstandlaw6_LayoutFresh.j0]
  rw [if_neg (by decide), if_pos (by omega), fresh_one, chain_eq _ _ _ _ _ _ _ (by omega), Option.bind_some, if_pos (by omega), fresh_zero, chain_eq _ _ _ _ _ _ _ (by omega), Option.bind_some, cs, Option.bind_some, c1, c0]
  dsimp only
  rw [if_pos rfl, if_pos rfl, if_pos rfl, if_pos (by rw [List.length_map, ran_length]), if_pos (by simp), if_pos (by simp), tag_eq (by omega) (by omega), Option.bind_some, if_pos (by omega), tag_eq (by omega) (by omega), Option.bind_some, show ((1 + t * 4294967296) / 4294967296 != t) = false from by simp; omega]
  obtain ⟨K, rfl⟩ : ∃ m, K = m + 1 := ⟨K - 1, by omega⟩
  simp only [hatstandlaw6_LayoutFresh.j1]
  rw [if_neg (by decide)]
  exact l0_fresh n s h t hk t0 (by omega) n K 0 (by omega) (by omega) (by omega)

end Go.Proofs.Ytckmcphphnoilaa.Pure
