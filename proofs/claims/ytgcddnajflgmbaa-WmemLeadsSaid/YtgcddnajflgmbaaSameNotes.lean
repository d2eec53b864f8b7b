/-
  Two rows of notes that are the same.
-/
import Derived.Test.YtgcddnajflgmbaaRdNotes
import Derived.BigQuiet
import Derived.Deep.QuietTactic
namespace Go.Proofs.Ytgcddnajflgmbaa
open Go.RowKit Go.Proofs.YtgcddnajflgmbaaW.PrintWords
set_option linter.unusedVariables false
set_option linter.unusedSimpArgs false

set_option maxHeartbeats 4000000 in
theorem same_notes (A B : Option Addr) (c d L : Nat) (ms : List Note) (w : World) (hL : ms.length = L) (hl : L ≤ 1000000) (hA : RdNotes w A ms) (hB : RdNotes w B ms) :
    Calls Try.prog 22 #[.slice A L c, .slice B L d] w fun e w' => e = .returned (.bool true) ∧ Below w.heap.size w w' := by
  have HA := Lib.hid hA
  have HB := Lib.hid hB
  clear hA hB
  go_enter Try.func22, Try.ntmps22
  go_wp2
  go_loopg [5] (L + 1) (fun kq x w' => ∃ j : Nat, x = .int .i64 j ∧ j ≤ L ∧ j + kq = L + 1 ∧ Below w.heap.size w w')
  case atStart => exact ⟨0, rfl, Nat.zero_le _, by omega, Below.refl _ _⟩
  case round =>
    obtain ⟨j, rfl, hj, hkj, hbj⟩ := hrel
    have HJ := Lib.hid hbj
    clear hbj
    cases gk with
    | zero => omega
    | succ k2 =>
      by_cases c6 : j < L
      · have c6b : decide ((j : Int) < L) = true := decide_eq_true (by omega)
        obtain ⟨a, ha⟩ : ∃ a, ms[j]? = some a := ⟨_, List.getElem?_eq_getElem (by omega)⟩
        obtain ⟨b1, rfl, f0, f1, f2, f3, f4⟩ := (HA.out.kept HJ.out).at_ ha
        obtain ⟨b2, rfl, g0, g1, g2, g3, g4⟩ := (HB.out.kept HJ.out).at_ ha
        have r1 : (0 : Int) ≤ (j : Int) := by omega
        have r2 : (j : Int) < (L : Int) := by omega
        go_wp2
        go_quiet (fail)
        go_wp2
        go_roundg k2
        case measure => omega
        case rel => exact ⟨j + 1, rfl, by omega, by omega, HJ.out.trans ⟨rfl, rfl, rfl, Nat.le_refl _, fun _ _ => rfl⟩⟩
      · have c6b : decide ((j : Int) < L) = false := decide_eq_false (by omega)
        go_wp2
        go_ret
        exact ⟨rfl, HJ.out⟩
end Go.Proofs.Ytgcddnajflgmbaa
