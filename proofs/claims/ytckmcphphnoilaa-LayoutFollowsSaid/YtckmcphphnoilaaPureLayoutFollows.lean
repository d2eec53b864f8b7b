/-
  The list from a node on is that node and the list from its next one on, or neither is a list.
-/
import Derived.Test.YtckmcphphnoilaaPLayoutFollowsx4
import Derived.Test.YtckmcphphnoilaaCLayoutFollows
import Derived.Test.YtckmcphphnoilaaPath
namespace Go.Proofs.Ytckmcphphnoilaa.Pure
open Go.RowKit Go.Proofs.Ytckmcphphnoilaa.PLayoutFollows Go.Proofs.YtckmcphphnoilaaW.PrintWords Go.Proofs.YtckmcphphnoilaaW.PrintLast
open Go.Proofs.Ytckmcphphnoilaa Go.Proofs.Ytckmcphphnoilaa.Pl Go.Proofs.Ytckmcphphnoilaa.CLayoutFollows
set_option linter.unusedVariables false

theorem same_l0 (l : List Int) (hl : l.length ≤ 1000) (d : Nat) : ∀ k i : Nat, i ≤ l.length → l.length - i = d → d < k → hatstandref6_Same.l0 k l l (i : Int) = some true := by
  intro k i hi hd hk
  induction d generalizing k i with
  | zero =>
    obtain ⟨k, rfl⟩ : ∃ m, k = m + 1 := ⟨k - 1, by omega⟩
    simp only [hatstandref6_Same.l0]
    rw [if_neg (by omega)]
  | succ d ih =>
    obtain ⟨k, rfl⟩ : ∃ m, k = m + 1 := ⟨k - 1, by omega⟩
    simp only [hatstandref6_Same.l0]
    rw [if_pos (by omega), if_pos (by omega), if_pos (by omega), if_pos trivial, w64 (by omega) (by omega)]
    exact ih k (i + 1) (by omega) (by omega) (by omega)
theorem same_eq (l : List Int) (hl : l.length ≤ 1000) (k : Nat) (hk : 1000 < k) : hatstandref6_Same.f k l l = some true := by
  unfold hatstandref6_Same.f
  rw [if_pos rfl]
  exact same_l0 l hl l.length k 0 (by omega) (by omega) (by omega)

theorem end_ok (n s h : Nat) (t : Int) (hk : okC n s h = true) (x1 : List Int) (x2 : Int) (h2 : (Lit.int .i64 x2).wf = true) (x9 : List Int) (h9 : (x9.length : Int) = 2 + 2 * n + s + h) (x11 : Int) (k : Nat) (hkk : 2000 < k) :
    hatstandlaw6_LayoutFollows.j2 k x1 x2 x9 x11 false n s h t = some true := by
  have hb := okC_bounds hk
  obtain ⟨k, rfl⟩ : ∃ m, k = m + 1 := ⟨k - 1, by omega⟩
  simp only [hatstandlaw6_LayoutFollows.j2]
  obtain ⟨a, e, a0, a1⟩ := pick_eq (c := x2) (n := n) (by omega) (by omega) (wf64 h2).1 (wf64 h2).2
  rw [if_neg (by decide), e, Option.bind_some, w64 (by omega) (by omega), next_eq (by omega) (by omega), Option.bind_some, show (1 + a) % 4294967296 = 1 + a from by omega, at0_of hk (by omega) (by omega), if_pos (by omega), if_pos (by omega)]
  rw [chain_eq _ _ _ _ _ _ _ (by omega), Option.bind_some, chain_eq _ _ _ _ _ _ _ (by omega), Option.bind_some, chainP_eq hk x9 h9, chainP_eq hk x9 h9, Int.toNat_natCast, show (1 + a) % 4294967296 = 1 + a from by omega]
  obtain ⟨m, rfl⟩ : ∃ m, n = m + 1 := ⟨n - 1, by omega⟩
  have hV : nodeV ((m + 1 : Nat) : Int) (1 + a) = true := nodeV_iff.2 ⟨by omega, by omega⟩
  have hV' : ∀ x, nodeV ((m + 1 : Nat) : Int) x = true → 1 ≤ x ∧ x ≤ ((m + 1 : Nat) : Int) := fun x hx => nodeV_iff.1 hx
  rw [pth_cons (by omega) hV]
  have hs : rd x9 (2 * (1 + a)) % 4294967296 = stepW x9 (1 + a) := rfl
  rw [hs]
  cases hp : pth (stepW x9) (nodeV ((m + 1 : Nat) : Int)) m (stepW x9 (1 + a)) with
  | some l =>
    have hl := pth_length hp
    rw [pth_more hp (m + 1) (by omega)]
    simp only [Option.map_some]
    rw [if_pos trivial, if_pos trivial, w64 (by omega) (by omega), if_pos (by simp), if_pos (by simp), if_pos (by simp [rd]), if_pos (by simp only [List.length_cons]; omega)]
    rw [show ((1 + a) :: l).drop 1 = l from rfl, same_eq l (by omega) _ (by omega)]
    rfl
  | none =>
    have hn : pth (stepW x9) (nodeV ((m + 1 : Nat) : Int)) (m + 1) (stepW x9 (1 + a)) = none := by
      cases hq : pth (stepW x9) (nodeV ((m + 1 : Nat) : Int)) (m + 1) (stepW x9 (1 + a)) with
      | none => rfl
      | some l =>
        have h2 : pth (stepW x9) (nodeV ((m + 1 : Nat) : Int)) (m + 1 + 1) (1 + a) = some ((1 + a) :: l) := by rw [pth_cons (by omega) hV, hq]; rfl
        have h3 := pth_short h2 (m + 1) hV'
        have h4 := pth_more hq m (by simp at h3; omega)
        rw [hp] at h4
        cases h4
    rw [hn]
    simp

theorem l0_ok' (n s h : Nat) (t : Int) (hk : okC n s h = true) (x1 : List Int) (hx1 : ∀ x ∈ x1, (Lit.int .i64 x).wf = true) (x2 : Int) (h2 : (Lit.int .i64 x2).wf = true) (d : Nat) : ∀ (k i : Nat) (x9 : List Int), (x9.length : Int) = 2 + 2 * n + s + h → i ≤ n → n - i = d → 2 * d + 2010 < k →
    hatstandlaw6_LayoutFollows.l0 k x1 x2 x9 (i : Int) n s h t = some true := by
  have hb := okC_bounds hk
  intro k i x9 h9 hi hd hkk
  induction d generalizing k i x9 with
  | zero =>
    obtain ⟨k, rfl⟩ : ∃ m, k = m + 1 := ⟨k - 1, by omega⟩
    simp only [hatstandlaw6_LayoutFollows.l0]
    rw [decide_eq_false (show ¬ ((i : Int) < n) by omega)]
    split <;> exact end_ok n s h t hk x1 x2 h2 x9 h9 _ k (by omega)
  | succ d ih =>
    obtain ⟨k, rfl⟩ : ∃ m, k = m + 1 := ⟨k - 1, by omega⟩
    simp only [hatstandlaw6_LayoutFollows.l0]
    by_cases c : (i : Int) < x1.length
    · rw [if_pos c, decide_eq_true (show (i : Int) < n by omega)]
      obtain ⟨k, rfl⟩ : ∃ m, k = m + 1 := ⟨k - 1, by omega⟩
      simp only [hatstandlaw6_LayoutFollows.j2]
      have hw := wf64 (hx1 (rd x1 (i : Int)) (by
        have hlt : i < x1.length := by omega
        simp only [rd, Int.toNat_natCast, List.getD_eq_getElem?_getD, List.getElem?_eq_getElem hlt, Option.getD_some]
        exact List.getElem_mem hlt))
      obtain ⟨a, e, a0, a1⟩ := pick_eq (c := rd x1 (i : Int)) (n := n + 1) (by omega) (by omega) hw.1 hw.2
      rw [if_pos trivial, w64 (by omega) (by omega), next_eq (by omega) (by omega), Option.bind_some, show ((i : Int) + 1) % 4294967296 = (i : Int) + 1 from by omega, at0_of hk (by omega) (by omega), if_pos (by omega), if_pos c, w64 (by omega) (by omega), e, Option.bind_some, if_pos (by omega), if_pos (by omega)]
      exact ih k (i + 1) _ (by rw [List.length_set]; exact h9) (by omega) (by omega) (by omega)
    · rw [if_neg c]
      exact end_ok n s h t hk x1 x2 h2 x9 h9 _ k (by omega)

theorem LayoutFollows : hatstandlaw6_LayoutFollows.Pure := by
  intro a l1 b ha hm hr hl hb
  obtain ⟨n, s, h, e, n0, n1, s1, h1, hk, _⟩ := config_eq (a := a) (b := 0) (c := 0) (t := 3) ha (by decide) (by decide)
  obtain ⟨K, hK⟩ : ∃ K : Nat, 3000 ≤ K := ⟨3000, by omega⟩
  refine ⟨K + 1, ?_⟩
  have hlen : ((freshL n s h 3 n s).length : Int) = 2 + 2 * n + s + h := by rw [freshL_length]; omega
  unfold hatstandlaw6_LayoutFollows.f
  rw [shown_eq, Option.bind_some, e, Option.bind_some]
  dsimp only
  rw [fresh_eq n s h 3 hk (by omega) (by omega) _ (by omega), Option.bind_some]
  dsimp only
  rw [if_pos rfl, if_pos rfl, cells_eq hk, Option.bind_some, if_pos hlen]
  simp only [hatstandlaw6_LayoutFollows.j0]
  by_cases c : (l1.length : Int) > 100
  · rw [decide_eq_true c, if_pos rfl, if_pos trivial]
    rfl
  · rw [decide_eq_false c, if_neg (by decide)]
    exact l0_ok' n s h 3 hk l1 hl b hb n K 0 _ hlen (by omega) (by omega) (by omega)

end Go.Proofs.Ytckmcphphnoilaa.Pure
