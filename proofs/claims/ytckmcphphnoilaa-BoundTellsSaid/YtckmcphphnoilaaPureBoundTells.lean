/-
  All bounds are as the chapter says, for every config and every number of threads.
-/
import Derived.Test.YtckmcphphnoilaaPBoundTellsx3
import Derived.Test.YtckmcphphnoilaaCBoundTells
namespace Go.Proofs.Ytckmcphphnoilaa.Pure
open Go.RowKit Go.Proofs.Ytckmcphphnoilaa.PBoundTells Go.Proofs.YtckmcphphnoilaaW.PrintWords Go.Proofs.YtckmcphphnoilaaW.PrintLast
open Go.Proofs.Ytckmcphphnoilaa Go.Proofs.Ytckmcphphnoilaa.Pl Go.Proofs.Ytckmcphphnoilaa.CBoundTells
set_option linter.unusedVariables false

theorem j3_ok {n s h t b a w x : Int} (hk : okE n s h b a = true) (hx : x ≤ 1073741824) (m : Int) (hm : m = if h = 0 then pushI s b else pushI s b + 3) (k : Nat) (hkk : 20 < k) :
    hatstandlaw21_BoundTells.j3 k x (vI s) (pushI s b) (popI s b) m (mx x 0) n s h t b a w = some true := by
  have := okE_bounds hk
  have hr := bv_range (s := s) (b := b) (by omega) (by omega)
  have hp : pushI s b = 9 * (b + 1) + 1 + b * vI s := rfl
  have hq : popI s b = 6 * (b + 1) + 1 + b * vI s := rfl
  obtain ⟨k, rfl⟩ : ∃ m, k = m + 1 := ⟨k - 1, by omega⟩
  simp only [hatstandlaw21_BoundTells.j3]
  rw [visit_ok hk k (by omega), Option.bind_some, if_pos rfl, push_ok hk k (by omega), Option.bind_some, if_pos rfl, pop_ok hk k (by omega), Option.bind_some, if_pos rfl, acquire_ok hk k (by omega), Option.bind_some, w64 (by omega) (by omega), if_pos rfl, release_ok hk k (by omega), Option.bind_some, w64 (by omega) (by omega), if_pos rfl, window_ok hk hx k (by omega), Option.bind_some, ← hm, beq_self_eq_true]

theorem j2_ok {n s h t b a w x : Int} (hk : okE n s h b a = true) (hx : x ≤ 1073741824) (m : Int) (hm : m = if h = 0 then pushI s b else pushI s b + 3) (k : Nat) (hkk : 30 < k) :
    hatstandlaw21_BoundTells.j2 k x (vI s) (pushI s b) (popI s b) m n s h t b a w = some true := by
  obtain ⟨k, rfl⟩ : ∃ m, k = m + 1 := ⟨k - 1, by omega⟩
  simp only [hatstandlaw21_BoundTells.j2]
  have h3 := j3_ok (t := t) (w := w) hk hx m hm k (by omega)
  by_cases c : x < 0
  · rw [if_pos c]
    rwa [show mx x 0 = 0 from by unfold mx; omega] at h3
  · rw [if_neg c]
    rwa [show mx x 0 = x from by unfold mx; omega] at h3

theorem j1_ok {n s h t b a w x : Int} (hk : okE n s h b a = true) (hx : x ≤ 1073741824) (k : Nat) (hkk : 40 < k) :
    hatstandlaw21_BoundTells.j1 k x (b + 1) (vI s) n s h t b a w = some true := by
  have := okE_bounds hk
  have hr := bv_range (s := s) (b := b) (by omega) (by omega)
  obtain ⟨k, rfl⟩ : ∃ m, k = m + 1 := ⟨k - 1, by omega⟩
  simp only [hatstandlaw21_BoundTells.j1]
  have hp : 9 * (b + 1) + 1 + b * vI s = pushI s b := rfl
  have hq : 6 * (b + 1) + 1 + b * vI s = popI s b := rfl
  rw [w64 (x := 9 * (b + 1)) (by omega) (by omega), w64 (x := 6 * (b + 1)) (by omega) (by omega), w64 (x := 9 * (b + 1) + 1) (by omega) (by omega), w64 (x := 6 * (b + 1) + 1) (by omega) (by omega), w64 (x := b * vI s) (by omega) (by omega), w64 (x := 9 * (b + 1) + 1 + b * vI s) (by omega) (by omega), w64 (x := 6 * (b + 1) + 1 + b * vI s) (by omega) (by omega), w64 (x := 9 * (b + 1) + 1 + b * vI s + 3) (by omega) (by omega), hp, hq]
  by_cases c : h > 0
  · rw [if_pos c]
    exact j2_ok hk hx _ (by rw [if_neg (by omega)]) k (by omega)
  · rw [if_neg c]
    exact j2_ok hk hx _ (by rw [if_pos (by omega)]) k (by omega)

theorem BoundTells (n s h t b a w x : Int) : hatstandlaw21_BoundTells.f 100 n s h t b a w x = some true := by
  obtain ⟨K, hK⟩ : ∃ K : Nat, 100 = K + 1 ∧ 90 < K := ⟨99, rfl, by omega⟩
  rw [hK.1]
  unfold hatstandlaw21_BoundTells.f
  rw [shown_eq _ (by omega), Option.bind_some, if_pos rfl]
  simp only [hatstandlaw21_BoundTells.j0]
  by_cases c : x > 1073741824
  · rw [decide_eq_true c, if_pos rfl]
  rw [decide_eq_false c, if_neg (by decide), echeck_eq, Option.bind_some]
  cases hk : okE n s h b a with
  | true =>
    have := okE_bounds hk
    rw [if_pos rfl, if_pos rfl, w64 (x := b + 1) (by omega) (by omega)]
    have h1 := j1_ok (t := t) (w := w) (x := x) hk (by omega) K (by omega)
    by_cases d : s > 0
    · rw [if_pos d]
      rwa [show vI s = 69 from by unfold vI; rw [if_neg (by omega)]] at h1
    · rw [if_neg d]
      rwa [show vI s = 0 from by unfold vI; rw [if_pos (by omega)]] at h1
  | false =>
    rw [if_neg (by decide), visit_bad hk K (by omega), Option.bind_some, if_pos rfl, push_bad hk K (by omega), Option.bind_some, if_pos rfl, pop_bad hk K (by omega), Option.bind_some, if_pos rfl, acquire_bad hk K (by omega), Option.bind_some, if_pos rfl, release_bad hk K (by omega), Option.bind_some, if_pos rfl, window_bad hk K (by omega), Option.bind_some]
    rfl

theorem walk_BoundTells (n s h t b a v x : Int) (w : World) (w0 : (Lit.int .i64 n).wf = true) (w1 : (Lit.int .i64 s).wf = true) (w2 : (Lit.int .i64 h).wf = true) (w3 : (Lit.int .u32 t).wf = true) (w4 : (Lit.int .i64 b).wf = true) (w5 : (Lit.int .i64 a).wf = true) (w6 : (Lit.int .u64 v).wf = true) (w7 : (Lit.int .i64 x).wf = true) :
    Calls Try.prog 5 #[.agg #[.int .i64 n, .int .i64 s, .int .i64 h, .int .u32 t, .int .i64 b, .int .i64 a, .int .u64 v], .int .i64 x] w fun e w' => e = .returned (.bool true) ∧ Below w.heap.size w w' :=
  hatstandlaw21_BoundTells.calls 100 n s h t b a v x true w (BoundTells n s h t b a v x)
end Go.Proofs.Ytckmcphphnoilaa.Pure
