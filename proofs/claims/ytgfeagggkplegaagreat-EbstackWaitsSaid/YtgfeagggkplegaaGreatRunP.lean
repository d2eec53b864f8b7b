/-
  An operation alone, a push or a pop: what a stack with bounds does. No program here.
-/
import Derived.Test.YtgfeagggkplegaaGreatRunO
import Derived.Test.YtgfeagggkplegaaGreatOpT
namespace Go.Proofs.YtgfeagggkplegaaGreat
open Go.RowKit
set_option linter.unusedVariables false
set_option linter.unusedSimpArgs false

/-- What a stack with bounds answers: a status, a word, what is in it then (its last one first). -/
def lifoA (push : Bool) (v : Int) (V : List Int) (free : Bool) : Int × Int × List Int :=
  if push = true then (if free = true then (1, 0, v :: V) else (2, 0, V)) else match V with
    | [] => (2, 0, [])
    | x :: r => (1, x, r)
/-- An operation that is made. -/
def opN (push : Bool) (n s h t bud base wait : Int) (rg ex v : Int) : OM := if push = true then newPushM n s h t bud base wait [] rg ex v 0 else newPopM n s h t bud base wait [] rg ex 0
theorem Two.vlen {nn N : Nat} {W : Int} {ws l f V : List Int} {T0 T1 : Int} (h : Two nn N W ws l f V T0 T1) : V.length = l.length := by rw [← h.vals, List.length_map]
theorem run_any {nn N : Nat} {W : Int} {ws l f V : List Int} {T0 T1 : Int} (push : Bool) (s t bud base wait rg ex v : Int) (hok : okC nn s 0 = true) (hN : 2 + 2 * nn ≤ N) (v0 : 0 ≤ v) (v1 : v < 18446744073709551616) (h : Two nn N W ws l f V T0 T1) :
    ∃ k S' ws' l' f' T0' T1', RunO k (opN push nn s 0 t bud base wait rg ex v) ws S' ws' ∧ k = (if (lifoA push v V (f != [])).1 = 1 then 7 else 1) ∧ Two nn N W ws' l' f' (lifoA push v V (f != [])).2.2 T0' T1' ∧ l'.length + f'.length = l.length + f.length ∧
      S'.st = (lifoA push v V (f != [])).1 ∧ S'.told S'.st = (lifoA push v V (f != [])).2.1 ∧ S'.shelf = [] ∧ S'.rg = rg ∧ S'.ex = ex ∧ S'.i = 0 ∧ (∀ E, S'.part ≠ .visit E) ∧ T0 ≤ T0' ∧ T0' ≤ T0 + 1 ∧ T1 ≤ T1' ∧ T1' ≤ T1 + 1 := by
  cases push with
  | true =>
    have eo : opN true nn s 0 t bud base wait rg ex v = newPushM nn s 0 t bud base wait [] rg ex v 0 := if_pos rfl
    rw [eo]
    cases f with
    | nil =>
      have e : lifoA true v V (([] : List Int) != []) = (2, 0, V) := rfl
      rw [e]
      obtain ⟨S', h1, k⟩ := push1 (c := newPushM nn s 0 t bud base wait [] rg ex v 0) hok hN rfl h
      refine ⟨1, S', ws, l, [], T0, T1, h1, rfl, h, rfl, k.st, ?_, k.shelf, k.rg, k.ex, k.i, k.part, Int.le_refl _, by omega, Int.le_refl _, by omega⟩
      unfold OM.told
      rw [if_pos (.inl k.push)]
    | cons i f =>
      have e : lifoA true v V ((i :: f) != []) = (1, 0, v :: V) := rfl
      rw [e]
      obtain ⟨S', ws', h1, k, h2⟩ := push7 (c := newPushM nn s 0 t bud base wait [] rg ex v 0) hok rfl hN rfl rfl v0 v1 h
      refine ⟨7, S', ws', i :: l, f, T0 + 1, T1 + 1, h1, rfl, h2, by simp only [List.length_cons]; omega, k.st, ?_, k.shelf, k.rg, k.ex, k.i, k.part, by omega, by omega, by omega, by omega⟩
      unfold OM.told
      rw [if_pos (.inl k.push)]
  | false =>
    have eo : opN false nn s 0 t bud base wait rg ex v = newPopM nn s 0 t bud base wait [] rg ex 0 := if_neg (by decide)
    rw [eo]
    have hv := h.vlen
    cases V with
    | nil =>
      have e : lifoA false v [] (f != []) = (2, 0, []) := by unfold lifoA; rw [if_neg (by decide)]
      rw [e]
      obtain rfl : l = [] := List.eq_nil_of_length_eq_zero hv.symm
      obtain ⟨S', h1, k⟩ := pop1 (c := newPopM nn s 0 t bud base wait [] rg ex 0) hok hN rfl h
      refine ⟨1, S', ws, [], f, T0, T1, h1, rfl, h, rfl, k.st, ?_, k.shelf, k.rg, k.ex, k.i, k.part, Int.le_refl _, by omega, Int.le_refl _, by omega⟩
      unfold OM.told
      rw [k.st, if_pos (.inr (by decide))]
    | cons x V =>
      have e : lifoA false v (x :: V) (f != []) = (1, x, V) := by unfold lifoA; rw [if_neg (by decide)]
      rw [e]
      cases l with
      | nil => cases hv
      | cons i l =>
        obtain ⟨S', ws', h1, k, hx, h2⟩ := pop7 (c := newPopM nn s 0 t bud base wait [] rg ex 0) hok rfl hN rfl rfl rfl h
        refine ⟨7, S', ws', l, i :: f, T0 + 1, T1 + 1, h1, rfl, h2, by simp only [List.length_cons]; omega, k.st, ?_, k.shelf, k.rg, k.ex, k.i, k.part, by omega, by omega, by omega, by omega⟩
        unfold OM.told
        have hp : S'.push = false := k.push
        rw [k.st, if_neg (by rw [hp]; decide), hx]
theorem newPushM_ok {n s h t bud base wait rg ex v : Int} {l : List Int} (N k : Nat) (hl : l.length < 1000000000000) (hr : ∀ x ∈ l, 0 ≤ x ∧ x < 4294967296) (b0 : 0 ≤ bud) (b1 : bud ≤ 16) (x0 : 1 ≤ base) (x1 : base ≤ 64) (w0 : 0 ≤ wait) (w1 : wait < 18446744073709551616) (v0 : 0 ≤ v) (v1 : v < 18446744073709551616) : (newPushM n s h t bud base wait l rg ex v 0).ok N k :=
  ⟨v0, v1, Int.le_refl _, by show (0 : Int) < _; decide, Nat.le_of_lt hl, hr, fun _ => ⟨hl, Int.le_refl _, by show (0 : Int) ≤ 17; decide, b1, by show _ ≤ base; omega, by show base < _; omega, w0, w1, newAT_ok N (by omega) hl hr, rfl, rfl, rfl, rfl, b0⟩, fun c => absurd rfl c⟩
theorem newPopM_ok {n s h t bud base wait rg ex : Int} {l : List Int} (N k : Nat) (hl : l.length < 1000000000000) (hr : ∀ x ∈ l, 0 ≤ x ∧ x < 4294967296) (b0 : 0 ≤ bud) (b1 : bud ≤ 16) (x0 : 1 ≤ base) (x1 : base ≤ 64) (w0 : 0 ≤ wait) (w1 : wait < 18446744073709551616) : (newPopM n s h t bud base wait l rg ex 0).ok N k :=
  ⟨Int.le_refl _, by show (0 : Int) < _; decide, Int.le_refl _, by show (0 : Int) < _; decide, Nat.le_of_lt hl, hr, fun _ => ⟨hl, Int.le_refl _, by show (0 : Int) ≤ 17; decide, b1, by show _ ≤ base; omega, by show base < _; omega, w0, w1, newTk_ok _ _ _ _ _ N, rfl, b0⟩, fun c => absurd rfl c⟩
theorem opN_ok {n s h t bud base wait rg ex v : Int} (push : Bool) (N k : Nat) (b0 : 0 ≤ bud) (b1 : bud ≤ 16) (x0 : 1 ≤ base) (x1 : base ≤ 64) (w0 : 0 ≤ wait) (w1 : wait < 18446744073709551616) (v0 : 0 ≤ v) (v1 : v < 18446744073709551616) : (opN push n s h t bud base wait rg ex v).ok N k := by
  unfold opN
  split
  · exact newPushM_ok N k (by decide) (fun x hx => by cases hx) b0 b1 x0 x1 w0 w1 v0 v1
  · exact newPopM_ok N k (by decide) (fun x hx => by cases hx) b0 b1 x0 x1 w0 w1
end Go.Proofs.YtgfeagggkplegaaGreat
