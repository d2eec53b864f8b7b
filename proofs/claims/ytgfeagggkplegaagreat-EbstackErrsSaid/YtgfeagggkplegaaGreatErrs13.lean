/-
  EbstackErrs: of a config that is not right, or a thread's policy that is not, machines are Broken, without an access; what is right is told.
-/
import Derived.Test.YtgfeagggkplegaaGreatL13
import Derived.Test.YtgfeagggkplegaaGreatOpU
import Derived.Test.YtgfeagggkplegaaGreatWf
import Derived.Deep.DeepCutAuto
namespace Go.Proofs.YtgfeagggkplegaaGreat
open Go.RowKit
set_option linter.unusedVariables false
set_option linter.unusedSimpArgs false

theorem badPush_ok {n s h t bud base wait rg ex v : Int} (N k : Nat) (v0 : 0 ≤ v) (v1 : v < 18446744073709551616) : (newPushM n s h t bud base wait [] rg ex v 5).ok N k :=
  ⟨v0, v1, Int.le_refl _, by show (0 : Int) < _; decide, Nat.zero_le _, (fun x hx => by cases hx), (fun c => by cases c), fun _ E c => by cases c⟩
theorem badPop_ok {n s h t bud base wait rg ex : Int} (N k : Nat) : (newPopM n s h t bud base wait [] rg ex 5).ok N k :=
  ⟨Int.le_refl _, by show (0 : Int) < _; decide, Int.le_refl _, by show (0 : Int) < _; decide, Nat.zero_le _, (fun x hx => by cases hx), (fun c => by cases c), fun _ E c => by cases c⟩
theorem stE_no {n s h bud base rg ex : Int} (h1 : ¬ (okE n s h bud base = true ∧ pOk rg ex s = true)) : stE n s h bud base rg ex = 5 := if_neg h1
end Go.Proofs.YtgfeagggkplegaaGreat
