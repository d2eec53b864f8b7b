/-
  Each place of a right config is one thing's: all of them, one behind the other, are the numbers from 0 on.
-/
import Derived.Test.YtckmcphphnoilaaPLayoutApartx2
import Derived.Test.YtckmcphphnoilaaCLayoutApart
namespace Go.Proofs.Ytckmcphphnoilaa.Pure
open Go.RowKit Go.Proofs.Ytckmcphphnoilaa.PLayoutApart Go.Proofs.YtckmcphphnoilaaW.PrintWords Go.Proofs.YtckmcphphnoilaaW.PrintLast
open Go.Proofs.Ytckmcphphnoilaa Go.Proofs.Ytckmcphphnoilaa.Pl Go.Proofs.Ytckmcphphnoilaa.CLayoutApart

theorem rd_rep {N : Nat} {i : Nat} {x : Int} (h : i < N) : rd (List.replicate N x) (i : Int) = x := by simp [rd, h]

theorem l4_ok (n s h : Nat) (t : Int) (hk : okC n s h = true) (N d : Nat) (hN : N ≤ 1000) : ∀ (k i : Nat), i ≤ N → N - i = d → d < k →
    hatstandlaw6_LayoutApart.l4 k (List.replicate N 1) (i : Int) n s h t = some true := by
  have hb := okC_bounds hk
  intro k i hi hd hkk
  induction d generalizing k i with
  | zero =>
    obtain ⟨k, rfl⟩ : ∃ m, k = m + 1 := ⟨k - 1, by omega⟩
    simp only [hatstandlaw6_LayoutApart.l4]
    rw [if_neg (by simp; omega), next_eq (by omega) (by omega), Option.bind_some]
    rw [at_low (by omega), if_pos (by omega), value_eq (by omega) (by omega), Option.bind_some, if_pos (show (0 : Int) = 0 from rfl)]
    rw [if_pos (by omega), next_eq (by omega) (by omega), Option.bind_some]
    rw [at_high (by simp only [lenI, if_true]; omega), if_pos (by omega), slot_eq, Option.bind_some]
    rw [at_high (by simp [lenI]), if_pos (by omega), slot_eq, Option.bind_some]
    rw [at_low (by omega), if_pos (by omega), holder_eq, Option.bind_some]
    rw [at_high (by simp [lenI])]
    rfl
  | succ d ih =>
    obtain ⟨k, rfl⟩ : ∃ m, k = m + 1 := ⟨k - 1, by omega⟩
    simp only [hatstandlaw6_LayoutApart.l4]
    rw [if_pos (by simp; omega), if_pos (by omega), if_pos (rd_rep (by omega)), w64 (by omega) (by omega)]
    exact ih k (i + 1) (by omega) (by omega) (by omega)

theorem set_rep (N i : Nat) (h : i < N) : (List.replicate i (1 : Int) ++ List.replicate (N - i) 0).set i 1 = List.replicate (i + 1) 1 ++ List.replicate (N - (i + 1)) 0 := by
  obtain ⟨m, rfl⟩ : ∃ m, N = i + 1 + m := ⟨N - (i + 1), by omega⟩
  rw [show i + 1 + m - i = m + 1 from by omega, show i + 1 + m - (i + 1) = m from by omega, List.set_append, if_neg (by simp), List.length_replicate, Nat.sub_self, List.replicate_succ, List.set_cons_zero, List.replicate_succ']
  simp

theorem l3_ok (n s h : Nat) (t : Int) (hk : okC n s h = true) (N d : Nat) (hN : N ≤ 1000) : ∀ (k i : Nat), i ≤ N → N - i = d → d + N + 5 < k →
    hatstandlaw6_LayoutApart.l3 k (List.replicate i 1 ++ List.replicate (N - i) 0) (ran N) (i : Int) n s h t = some true := by
  intro k i hi hd hkk
  induction d generalizing k i with
  | zero =>
    obtain ⟨k, rfl⟩ : ∃ m, k = m + 1 := ⟨k - 1, by omega⟩
    simp only [hatstandlaw6_LayoutApart.l3]
    rw [if_neg (by rw [ran_length]; omega)]
    obtain rfl : i = N := by omega
    rw [Nat.sub_self, List.replicate_zero, List.append_nil]
    exact l4_ok n s h t hk i i hN k 0 (by omega) (by omega) (by omega)
  | succ d ih =>
    obtain ⟨k, rfl⟩ : ∃ m, k = m + 1 := ⟨k - 1, by omega⟩
    have hr := rd_ran (n := N) (i := i) (by omega)
    have hl : ((List.replicate i (1 : Int) ++ List.replicate (N - i) 0).length : Int) = N := by simp; omega
    have h0 : rd (List.replicate i (1 : Int) ++ List.replicate (N - i) 0) (i : Int) = 0 := by
      rw [show N - i = (N - i - 1) + 1 from by omega, List.replicate_succ]
      simp [rd]
    simp only [hatstandlaw6_LayoutApart.l3]
    rw [if_pos (by rw [ran_length]; omega), if_pos (by omega), hr, hl, if_neg (by omega), if_neg (by omega), if_pos (by omega), if_pos (by omega), h0, w64 (x := 0 + 1) (by omega) (by omega), Int.toNat_natCast, w64 (by omega) (by omega)]
    rw [show (0 : Int) + 1 = 1 from rfl, set_rep N i (by omega)]
    exact ih k (i + 1) (by omega) (by omega) (by omega)

theorem l2_ok (n s h : Nat) (t : Int) (hk : okC n s h = true) (d : Nat) : ∀ (k j : Nat), j ≤ h → h - j = d → d + 1000 < k →
    hatstandlaw6_LayoutApart.l2 k (List.replicate (2 + 2 * n + s + h) 0) (ran (2 + 2 * n + s + j)) (j : Int) n s h t = some true := by
  have hb := okC_bounds hk
  intro k j hj hd hkk
  induction d generalizing k j with
  | zero =>
    obtain ⟨k, rfl⟩ : ∃ m, k = m + 1 := ⟨k - 1, by omega⟩
    obtain rfl : j = h := by omega
    simp only [hatstandlaw6_LayoutApart.l2]
    rw [if_neg (by omega), cells_eq hk]
    simp only [Option.bind_some]
    rw [if_pos (by simp), if_pos (by simp [ran_length])]
    obtain ⟨k, rfl⟩ : ∃ m, k = m + 1 := ⟨k - 1, by omega⟩
    simp only [hatstandlaw6_LayoutApart.j3]
    rw [if_neg (by simp; omega)]
    exact l3_ok n s j t hk (2 + 2 * n + s + j) (2 + 2 * n + s + j) (by omega) k 0 (by omega) (by omega) (by omega)
  | succ d ih =>
    obtain ⟨k, rfl⟩ : ∃ m, k = m + 1 := ⟨k - 1, by omega⟩
    simp only [hatstandlaw6_LayoutApart.l2]
    rw [if_pos (by omega), holder_eq, at_of hk (by omega) (by simp [lenI]; omega)]
    simp only [Option.bind_some]
    rw [if_pos (by rw [ran_length]; omega), w64 (by omega) (by omega)]
    have e : ran (2 + 2 * n + s + j) ++ [loI n s 2 + (j : Int)] = ran (2 + 2 * n + s + (j + 1)) := by rw [← Nat.add_assoc, ran_succ]; simp [loI]
    rw [e]
    exact ih k (j + 1) (by omega) (by omega) (by omega)

theorem l1_ok (n s h : Nat) (t : Int) (hk : okC n s h = true) (d : Nat) : ∀ (k j : Nat), j ≤ s → s - j = d → d + 1200 < k →
    hatstandlaw6_LayoutApart.l1 k (List.replicate (2 + 2 * n + s + h) 0) (ran (2 + 2 * n + j)) (j : Int) n s h t = some true := by
  have hb := okC_bounds hk
  intro k j hj hd hkk
  induction d generalizing k j with
  | zero =>
    obtain ⟨k, rfl⟩ : ∃ m, k = m + 1 := ⟨k - 1, by omega⟩
    obtain rfl : j = s := by omega
    simp only [hatstandlaw6_LayoutApart.l1]
    rw [if_neg (by omega)]
    exact l2_ok n j h t hk h k 0 (by omega) (by omega) (by omega)
  | succ d ih =>
    obtain ⟨k, rfl⟩ : ∃ m, k = m + 1 := ⟨k - 1, by omega⟩
    simp only [hatstandlaw6_LayoutApart.l1]
    rw [if_pos (by omega), slot_eq, at_of hk (by omega) (by simp [lenI]; omega)]
    simp only [Option.bind_some]
    rw [if_pos (by rw [ran_length]; omega), w64 (by omega) (by omega)]
    have e : ran (2 + 2 * n + j) ++ [loI n s 1 + (j : Int)] = ran (2 + 2 * n + (j + 1)) := by rw [← Nat.add_assoc, ran_succ]; simp [loI]
    rw [e]
    exact ih k (j + 1) (by omega) (by omega) (by omega)

theorem l0_ok (n s h : Nat) (t : Int) (hk : okC n s h = true) (d : Nat) : ∀ (k i : Nat), 1 ≤ i → i ≤ n + 1 → n + 1 - i = d → d + 1400 < k →
    hatstandlaw6_LayoutApart.l0 k (List.replicate (2 + 2 * n + s + h) 0) (ran (2 * i)) (i : Int) n s h t = some true := by
  have hb := okC_bounds hk
  intro k i h1 hi hd hkk
  induction d generalizing k i with
  | zero =>
    obtain ⟨k, rfl⟩ : ∃ m, k = m + 1 := ⟨k - 1, by omega⟩
    obtain rfl : i = n + 1 := by omega
    simp only [hatstandlaw6_LayoutApart.l0]
    rw [if_neg (by omega)]
    have := l1_ok n s h t hk s k 0 (by omega) (by omega) (by omega)
    rwa [show 2 + 2 * n + 0 = 2 * (n + 1) from by omega] at this
  | succ d ih =>
    obtain ⟨k, rfl⟩ : ∃ m, k = m + 1 := ⟨k - 1, by omega⟩
    simp only [hatstandlaw6_LayoutApart.l0]
    rw [if_pos (by omega), next_eq (by omega) (by omega), value_eq (by omega) (by omega)]
    simp only [Option.bind_some]
    rw [if_neg (show ¬ ((i : Int) = 0) by omega), at_of hk (by omega) (by simp [lenI]; omega), at_of hk (by omega) (by simp [lenI]; omega), if_pos (by rw [ran_length]; simp; omega)]
    have e : ran (2 * i) ++ [loI n s 0 + 2 * ((i : Int) - 1), loI n s 0 + (2 * ((i : Int) - 1) + 1)] = ran (2 * (i + 1)) := by
      rw [show 2 * (i + 1) = 2 * i + 1 + 1 from by omega, ran_succ, ran_succ, List.append_assoc]
      simp [loI]
      omega
    rw [e, show ((i : Int) + 1) % 4294967296 = ((i + 1 : Nat) : Int) from by omega]
    exact ih k (i + 1) (by omega) (by omega) (by omega) (by omega)

theorem LayoutApart : hatstandlaw6_LayoutApart.Pure := by
  intro a b c ha hb hc
  obtain ⟨n, s, h, e, n0, n1, s1, h1, hk, _⟩ := config_eq (t := 0) ha hb hc
  obtain ⟨K, hK⟩ : ∃ K : Nat, 3000 ≤ K := ⟨3000, by omega⟩
  refine ⟨K, ?_⟩
  unfold hatstandlaw6_LayoutApart.f
  rw [shown_eq, Option.bind_some, if_pos rfl, e, Option.bind_some]
  dsimp only
  rw [w64 (x := 2 * (n : Int)) (by omega) (by omega), w64 (x := 2 + 2 * (n : Int)) (by omega) (by omega), w64 (x := 2 + 2 * (n : Int) + s) (by omega) (by omega), w64 (by omega) (by omega), if_pos (by omega), if_pos (by omega)]
  have := l0_ok n s h 0 hk n K 1 (by omega) (by omega) (by omega) (by omega)
  rw [show (2 + 2 * (n : Int) + s + h).toNat = 2 + 2 * n + s + h from by omega]
  exact this

end Go.Proofs.Ytckmcphphnoilaa.Pure
