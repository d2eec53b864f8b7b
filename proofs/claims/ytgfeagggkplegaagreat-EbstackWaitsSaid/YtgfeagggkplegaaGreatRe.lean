/-
  A state's things in another order, or some of them.
-/
import Derived.Test.YtgfeagggkplegaaGreatRow2
namespace Go.Proofs.YtgfeagggkplegaaGreat
open Go.RowKit
set_option linter.unusedVariables false
set_option linter.unusedSimpArgs false

def selA (l : List Asn) : List Nat → List Asn
  | [] => []
  | i :: is => (l[i]?).getD (factA True) :: selA l is
theorem selA_get (l : List Asn) : ∀ (is : List Nat) (j : Nat) (a : Asn), (selA l is)[j]? = some a → (∀ i ∈ is, i < l.length) → ∃ i, is[j]? = some i ∧ l[i]? = some a
  | [], j, a, h, _ => by simp [selA] at h
  | i :: is, 0, a, h, hl => by
    simp only [selA, List.getElem?_cons_zero, Option.some.injEq] at h
    have hi := hl i (by simp)
    rw [List.getElem?_eq_getElem hi] at h
    exact ⟨i, rfl, by rw [List.getElem?_eq_getElem hi]; exact congrArg some h⟩
  | i :: is, j + 1, a, h, hl => by
    simp only [selA, List.getElem?_cons_succ] at h
    obtain ⟨k, h1, h2⟩ := selA_get l is j a h fun x hx => hl x (by simp [hx])
    exact ⟨k, by simpa using h1, h2⟩
theorem selA_len (l : List Asn) : ∀ is : List Nat, (selA l is).length = is.length
  | [] => rfl
  | _ :: is => congrArg (· + 1) (selA_len l is)
/-- The first n things as is says; the others as they are. -/
theorem St.re {w0 w : World} {l : List Asn} (h : St w0 l w) (n : Nat) (is : List Nat) (hd : is.Nodup := by decide) (hi : ∀ i ∈ is, i < n := by decide) (hn : n ≤ l.length := by simp) : St w0 (selA l is ++ l.drop n) w := by
  have hl := selA_len l is
  refine h.map (fun j => if h : j < is.length then is[j] else n + (j - is.length)) (fun i j e => ?_) fun j a e => ?_
  · by_cases c : i < is.length <;> by_cases d : j < is.length <;> simp only [c, d, dif_pos, dif_neg, not_false_eq_true] at e
    · exact (List.getElem_inj hd).1 e
    · have := hi _ (List.getElem_mem c); omega
    · have := hi _ (List.getElem_mem d); omega
    · omega
  · by_cases c : j < is.length
    · simp only [c, dif_pos]
      rw [List.getElem?_append_left (by omega)] at e
      obtain ⟨i, h1, h2⟩ := selA_get l is j a e fun i hx => by have := hi i hx; omega
      rw [List.getElem?_eq_getElem c] at h1
      rw [Option.some.inj h1]
      exact h2
    · simp only [c, dif_neg, not_false_eq_true]
      rw [List.getElem?_append_right (by omega), List.getElem?_drop, hl] at e
      exact e
end Go.Proofs.YtgfeagggkplegaaGreat
