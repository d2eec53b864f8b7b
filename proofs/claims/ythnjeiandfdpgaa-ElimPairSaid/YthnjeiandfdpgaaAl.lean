/-
  A visit alone at an empty slot, from its first step to its last. No program here.
-/
import Derived.Test.YthnjeiandfdpgaaL12b
namespace Go.Proofs.Ythnjeiandfdpgaa
open Go.RowKit
set_option linter.unusedVariables false
set_option linter.unusedSimpArgs false

/-- A visit that is alone: its place, its numbers; k: the looks it has, K: those that it takes; x: the slot's word. -/
structure Al where
  a : Nat
  push : Bool
  i : Int
  d : Int
  k : Int
  K : Nat
  x : Int
def Al.v (A : Al) : Int := sOffer A.x A.push A.i
def Al.V (A : Al) : Nat → VM
  | 0 => newVM A.a A.push A.i A.d A.k
  | 1 => ⟨A.a, A.push, A.i, A.d, max A.k 1, A.x, .offer, 0, false⟩
  | j + 2 => if j < A.K then ⟨A.a, A.push, A.i, A.d, max A.k 1 - j, A.v, .look, 0, true⟩ else if j = A.K then ⟨A.a, A.push, A.i, A.d, max A.k 1 - A.K, A.v, .withdraw, 0, true⟩ else ⟨A.a, A.push, A.i, A.d, max A.k 1 - A.K, A.v, .look, 4, true⟩
def Al.W (A : Al) (ws : List Int) : Nat → List Int
  | 0 => ws
  | 1 => ws
  | j + 2 => if j ≤ A.K then ws.set A.a A.v else (ws.set A.a A.v).set A.a (sClear A.v)
def Al.nt (A : Al) : Nat → Note
  | 0 => ldN A.a A.x
  | 1 => swN A.a A.x A.v
  | j + 2 => if j < A.K then ldN A.a A.v else swN A.a A.v (sClear A.v)
def Al.ns (A : Al) (i : Nat) : List Note := (List.range i).map A.nt
theorem Al.ns_succ (A : Al) (i : Nat) : A.ns i ++ [A.nt i] = A.ns (i + 1) := by simp [Al.ns, List.range_succ]
theorem Al.ns_len (A : Al) (i : Nat) : (A.ns i).length = i := by simp [Al.ns]
theorem Al.nt_at (A : Al) (i : Nat) : (A.nt i).at_ = A.a := by
  match i with
  | 0 => rfl
  | 1 => rfl
  | j + 2 =>
    show (if j < A.K then ldN A.a A.v else swN A.a A.v (sClear A.v)).at_ = _
    split <;> rfl
/-- What each look needs. -/
def Al.fits (A : Al) (now : Int) (i : Nat) : Prop := (∀ j, i = j + 2 → j + 1 < A.K → ((j : Int) + 1 < max A.k 1) ∧ now < A.d) ∧ (i = A.K + 1 → (max A.k 1 ≤ (A.K : Int) ∨ A.d ≤ now))
theorem Al.step (A : Al) {ws : List Int} {now : Int} (hx : rdW ws A.a = A.x) (ha : A.a < ws.length) (h0 : sSt A.x = 0) (hK : 1 ≤ A.K) {i : Nat} (hi : i ≤ A.K + 2) (hf : A.fits now i) :
    (A.V i).step (A.W ws i) now = ⟨if i = A.K + 2 then 4 else 0, A.V (i + 1), A.W ws (i + 1), [A.nt i]⟩ := by
  have hv : rdW (ws.set A.a A.v) A.a = A.v := rdW_set _ _ _ ha
  have hal : A.a < (ws.set A.a A.v).length := by simpa using ha
  match i, hi, hf with
  | 0, _, _ =>
    rw [if_neg (by omega)]
    exact vm_first hx ha h0
  | 1, _, _ =>
    rw [if_neg (by omega)]
    have e1 : A.V 2 = ⟨A.a, A.push, A.i, A.d, max A.k 1, A.v, .look, 0, true⟩ := by
      show (if 0 < A.K then _ else _) = _
      rw [if_pos (by omega)]
      simp
    have e2 : A.W ws 2 = ws.set A.a A.v := by
      show (if 0 ≤ A.K then ws.set A.a A.v else (ws.set A.a A.v).set A.a (sClear A.v)) = _
      rw [if_pos (by omega)]
    rw [e1, e2]
    exact vm_offer hx ha
  | j + 2, hi, hf =>
    have e2 : A.W ws (j + 2) = ws.set A.a A.v := by
      show (if j ≤ A.K then _ else _) = _
      rw [if_pos (by omega)]
    rw [e2]
    by_cases c : j < A.K
    · have e1 : A.V (j + 2) = ⟨A.a, A.push, A.i, A.d, max A.k 1 - j, A.v, .look, 0, true⟩ := by
        show (if j < A.K then _ else _) = _
        rw [if_pos c]
      have e3 : A.W ws (j + 2 + 1) = ws.set A.a A.v := by
        show (if j + 1 ≤ A.K then _ else _) = _
        rw [if_pos (by omega)]
      have e4 : A.nt (j + 2) = ldN A.a A.v := by
        show (if j < A.K then _ else _) = _
        rw [if_pos c]
      rw [e1, e3, e4, if_neg (by omega)]
      by_cases c2 : j + 1 < A.K
      · have e5 : A.V (j + 2 + 1) = ⟨A.a, A.push, A.i, A.d, max A.k 1 - j - 1, A.v, .look, 0, true⟩ := by
          show (if j + 1 < A.K then _ else _) = _
          rw [if_pos c2]
          simp only [VM.mk.injEq, and_true, true_and]
          omega
        rw [e5]
        have := hf.1 j rfl c2
        exact vm_look hv hal (by omega) this.2
      · have e5 : A.V (j + 2 + 1) = ⟨A.a, A.push, A.i, A.d, max A.k 1 - j - 1, A.v, .withdraw, 0, true⟩ := by
          show (if j + 1 < A.K then _ else if j + 1 = A.K then _ else _) = _
          rw [if_neg c2, if_pos (by omega)]
          simp only [VM.mk.injEq, and_true, true_and]
          omega
        rw [e5]
        have := hf.2 (by omega)
        exact vm_last hv hal (this.imp (fun h => by omega) id)
    · have hj : j = A.K := by omega
      subst hj
      have e1 : A.V (A.K + 2) = ⟨A.a, A.push, A.i, A.d, max A.k 1 - A.K, A.v, .withdraw, 0, true⟩ := by
        show (if A.K < A.K then _ else if A.K = A.K then _ else _) = _
        rw [if_neg (by omega), if_pos rfl]
      have e5 : A.V (A.K + 2 + 1) = ⟨A.a, A.push, A.i, A.d, max A.k 1 - A.K, A.v, .look, 4, true⟩ := by
        show (if A.K + 1 < A.K then _ else if A.K + 1 = A.K then _ else _) = _
        rw [if_neg (by omega), if_neg (by omega)]
      have e3 : A.W ws (A.K + 2 + 1) = (ws.set A.a A.v).set A.a (sClear A.v) := by
        show (if A.K + 1 ≤ A.K then _ else _) = _
        rw [if_neg (by omega)]
      have e4 : A.nt (A.K + 2) = swN A.a A.v (sClear A.v) := by
        show (if A.K < A.K then _ else _) = _
        rw [if_neg (by omega)]
      rw [e1, e3, e4, e5, if_pos rfl]
      exact vm_withdraw hv hal
/-- The visit of a policy, with its first state S. -/
def Al.E (A : Al) (S : EM) : Nat → EM
  | 0 => S
  | i + 1 => if i = A.K + 2 then { S with pl := A.a, V := some (A.V (i + 1)), en := 4, rg := pAr S.rg S.s 4, ex := pAe S.ex 4 } else { S with pl := A.a, V := some (A.V (i + 1)) }
def Al.ds (ds : List Int) (g : Int) : Nat → List Int
  | 0 => ds
  | _ + 1 => drawR ds g
theorem Al.stepE (A : Al) {S : EM} {ws ds : List Int} {now : Int} (hx : rdW ws A.a = A.x) (ha : A.a < ws.length) (h0 : sSt A.x = 0) (hK : 1 ≤ A.K) (hV : S.V = none) (hen : S.en = 0) (hf : S.fit = true) (hat : atI S.n S.s S.h 1 (drawI ds S.rg) = A.a) {i : Nat} (hfirst : S.first now ds = A.V 0 ∨ 1 ≤ i) (hi : i ≤ A.K + 2) (hfit : A.fits now i) :
    (A.E S i).step (A.W ws i) now (Al.ds ds S.rg i) = ⟨if i = A.K + 2 then 4 else 0, 0, A.E S (i + 1), A.W ws (i + 1), [A.nt i], Al.ds ds S.rg (i + 1)⟩ := by
  have h := A.step hx ha h0 hK hi hfit
  cases i with
  | zero =>
    have hfi := hfirst.resolve_right (by omega)
    rw [if_neg (by omega)] at h ⊢
    have e : A.E S 1 = { S with pl := A.a, V := some (A.V 1) } := by
      have h9 : (if (0 : Nat) = A.K + 2 then ({ S with pl := A.a, V := some (A.V (0 + 1)), en := 4, rg := pAr S.rg S.s 4, ex := pAe S.ex 4 } : EM) else { S with pl := A.a, V := some (A.V (0 + 1)) }) = { S with pl := A.a, V := some (A.V 1) } := if_neg (by omega)
      exact h9
    rw [e]
    have := EM.begins (S := S) (ds := ds) (now := now) hV hen hf (by rw [hfi]; exact h)
    rw [hat] at this
    exact this
  | succ i =>
    have e : A.E S (i + 1) = { S with pl := A.a, V := some (A.V (i + 1)) } := if_neg (by omega)
    rw [e]
    by_cases c : i + 1 = A.K + 2
    · have e2 : A.E S (i + 1 + 1) = { S with pl := A.a, V := some (A.V (i + 1 + 1)), en := 4, rg := pAr S.rg S.s 4, ex := pAe S.ex 4 } := if_pos c
      rw [if_pos c] at h ⊢
      rw [e2]
      exact EM.ends (S := { S with pl := A.a, V := some (A.V (i + 1)) }) rfl hen h (by decide)
    · have e2 : A.E S (i + 1 + 1) = { S with pl := A.a, V := some (A.V (i + 1 + 1)) } := if_neg c
      rw [if_neg c] at h ⊢
      rw [e2]
      exact EM.on (S := { S with pl := A.a, V := some (A.V (i + 1)) }) rfl hen h
theorem Al.W_len (A : Al) (ws : List Int) (i : Nat) : (A.W ws i).length = ws.length := by
  match i with
  | 0 => rfl
  | 1 => rfl
  | j + 2 =>
    show (if j ≤ A.K then _ else _ : List Int).length = _
    split <;> simp
end Go.Proofs.Ythnjeiandfdpgaa
