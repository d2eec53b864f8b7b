/-
  No cell of these rows narrows 'for every input' (looked for: loops, veiled, ifaces, maps, wideKeys, modest, calm, conditions, laid).
  DERIVED. THE GIVEN ROWS OF THIS SEAT. 4 by the template 'for every input the law returns true; each argument reads behind the call as it read before'; 0 by the template 'total and deterministic' (their statements: YtadphmpbhkhhfaaTotals.lean).
  GIVEN WITH THE SEED: the statements are not yours to turn. If you find one false, say at which input.
  Laid BY PROGRAM, IN A SANDBOX (cutbox-rows.mjs): the forced cells as the released guide's own fill.sh prints them over the translation 4446ec8e935a880e… (all of the seat's roots in one cut). By AI agents, Wed Nov 11 2026. No macro, syntax, notation, axiom, sorry.
-/
import Derived.Test.YtadphmpbhkhhfaaChecked
import GoSem.Claim
import GoSem.ClaimJoined
import GoSem.ClaimMapViews
import Derived.JoinedTies
import Derived.KernelRfl
namespace Go.Proofs.Ytadphmpbhkhhfaa
/- THE CELL 'sum', in the pinned program and in every row, IS THE sha256 OF THE DUMP (.gsa) THAT YtadphmpbhkhhfaaProg.lean LOADS. Nothing in Lean hashes anything: it is a label: what it is worth is what the hold of that sum in a sandbox is worth. -/
noncomputable def Try.pinned : Pinned := { name := "ytadphmpbhkhhfaa", sum := "4446ec8e935a880e87e4f43f749f993daffb5582ac3b9da92c17fff3922dc2ab", checked := Try.checked }
namespace Rows
def none {H : Type} : Left H := { results := [], args := [] }

/-- 'hatstandlaw16.SchedLost': WHATEVER THE INPUT: true; the input reads as it did. -/
def schedLostSpec : ChangeSpec := { name := "schedLost", fn := fun _ => fun
  | [d1, d2, d3] => { results := [.lit (.bool true)], args := [d1, d2, d3] }
  | _ => none }
def schedLostRow : OpenClaim := { program := "ytadphmpbhkhhfaa", sum := "4446ec8e935a880e87e4f43f749f993daffb5582ac3b9da92c17fff3922dc2ab", func := "hatstand/hatstandlaw16.SchedLost", spec := "schedLost", unfollowed := true, recurses := true, apart := false }
def SchedLostSaid : Prop := schedLostRow.holds Try.pinned (OpenSpec.ofChange schedLostSpec)

/-- ITS FALSE NEIGHBOUR: 'it returns false'. Refute it at one input. -/
def schedLostWrong : ChangeSpec := { name := "schedLost", fn := fun _ => fun
  | [d1, d2, d3] => { results := [.lit (.bool false)], args := [d1, d2, d3] }
  | _ => none }
def SchedLostWrongFalsely : Prop := schedLostRow.holds Try.pinned (OpenSpec.ofChange schedLostWrong)

/-- 'hatstandlaw16.SchedApart': WHATEVER THE INPUT: true; the input reads as it did. -/
def schedApartSpec : ChangeSpec := { name := "schedApart", fn := fun _ => fun
  | [d1, d2, d3] => { results := [.lit (.bool true)], args := [d1, d2, d3] }
  | _ => none }
def schedApartRow : OpenClaim := { program := "ytadphmpbhkhhfaa", sum := "4446ec8e935a880e87e4f43f749f993daffb5582ac3b9da92c17fff3922dc2ab", func := "hatstand/hatstandlaw16.SchedApart", spec := "schedApart", unfollowed := true, recurses := true, apart := false }
def SchedApartSaid : Prop := schedApartRow.holds Try.pinned (OpenSpec.ofChange schedApartSpec)

/-- ITS FALSE NEIGHBOUR: 'it returns false'. Refute it at one input. -/
def schedApartWrong : ChangeSpec := { name := "schedApart", fn := fun _ => fun
  | [d1, d2, d3] => { results := [.lit (.bool false)], args := [d1, d2, d3] }
  | _ => none }
def SchedApartWrongFalsely : Prop := schedApartRow.holds Try.pinned (OpenSpec.ofChange schedApartWrong)

/-- 'hatstandlaw16.SchedTurns': WHATEVER THE INPUT: true; the input reads as it did. -/
def schedTurnsSpec : ChangeSpec := { name := "schedTurns", fn := fun _ => fun
  | [d1, d2] => { results := [.lit (.bool true)], args := [d1, d2] }
  | _ => none }
def schedTurnsRow : OpenClaim := { program := "ytadphmpbhkhhfaa", sum := "4446ec8e935a880e87e4f43f749f993daffb5582ac3b9da92c17fff3922dc2ab", func := "hatstand/hatstandlaw16.SchedTurns", spec := "schedTurns", unfollowed := true, recurses := true, apart := false }
def SchedTurnsSaid : Prop := schedTurnsRow.holds Try.pinned (OpenSpec.ofChange schedTurnsSpec)

/-- ITS FALSE NEIGHBOUR: 'it returns false'. Refute it at one input. -/
def schedTurnsWrong : ChangeSpec := { name := "schedTurns", fn := fun _ => fun
  | [d1, d2] => { results := [.lit (.bool false)], args := [d1, d2] }
  | _ => none }
def SchedTurnsWrongFalsely : Prop := schedTurnsRow.holds Try.pinned (OpenSpec.ofChange schedTurnsWrong)

/-- 'hatstandlaw16.SchedErrs': WHATEVER THE INPUT: true; the input reads as it did. -/
def schedErrsSpec : ChangeSpec := { name := "schedErrs", fn := fun _ => fun
  | [d1, d2, d3] => { results := [.lit (.bool true)], args := [d1, d2, d3] }
  | _ => none }
def schedErrsRow : OpenClaim := { program := "ytadphmpbhkhhfaa", sum := "4446ec8e935a880e87e4f43f749f993daffb5582ac3b9da92c17fff3922dc2ab", func := "hatstand/hatstandlaw16.SchedErrs", spec := "schedErrs", unfollowed := true, recurses := true, apart := false }
def SchedErrsSaid : Prop := schedErrsRow.holds Try.pinned (OpenSpec.ofChange schedErrsSpec)

/-- ITS FALSE NEIGHBOUR: 'it returns false'. Refute it at one input. -/
def schedErrsWrong : ChangeSpec := { name := "schedErrs", fn := fun _ => fun
  | [d1, d2, d3] => { results := [.lit (.bool false)], args := [d1, d2, d3] }
  | _ => none }
def SchedErrsWrongFalsely : Prop := schedErrsRow.holds Try.pinned (OpenSpec.ofChange schedErrsWrong)

/- THE SECOND FORM. 'bulk': how many values and letters a reading holds, each counted each time it is reached (what is shared counts as often as it is met; a slice's spare places count too). A statement '..UptoSaid' is the law's where the arguments, and the package variables that the reading takes, are together of bulk at most 1048576: NARROWER than '..Said'. Prove '..Said' where nothing that the law and all that it calls make is longer than what came in: it says more and counts as full. Else prove '..UptoSaid'. A law counts once. -/
mutual
def uptoBulk {H : Type} : DataW H → Nat
  | .lit (.string bytes) => bytes.length + 1
  | .lit _ => 1
  | .nil => 1
  | .ptr d => uptoBulk d + 1
  | .slice elems spare => uptoBulkAll elems + uptoBulkAll spare + 1
  | .agg parts => uptoBulkAll parts + 1
  | .iface _ d => uptoBulk d + 1
  | .map entries => uptoBulkEntries entries + 1
  | .held _ => 1
def uptoBulkAll {H : Type} : List (DataW H) → Nat
  | [] => 0
  | d :: r => uptoBulk d + uptoBulkAll r
def uptoBulkEntries {H : Type} : List (Lit × DataW H) → Nat
  | [] => 0
  | x :: r => uptoBulkEntry x + uptoBulkEntries r
def uptoBulkEntry {H : Type} : Lit × DataW H → Nat
  | (.string bytes, d) => bytes.length + uptoBulk d + 1
  | (_, d) => uptoBulk d + 1
 end
def uptoSmall : (H : Type) → List (DataW H) → Bool := fun _ ds => decide (uptoBulkAll ds ≤ 1048576)
def OpenSpec.upto (s : _root_.Go.ChangeSpec) : _root_.Go.OpenSpec := { _root_.Go.OpenSpec.ofChange s with cond := some uptoSmall }

/-- 'hatstandlaw16.SchedLost', WHERE WHAT IT READS IS OF BULK AT MOST 1048576: true; the input reads as it did. -/
def schedLostUptoRow : OpenClaim := { program := "ytadphmpbhkhhfaa", sum := "4446ec8e935a880e87e4f43f749f993daffb5582ac3b9da92c17fff3922dc2ab", func := "hatstand/hatstandlaw16.SchedLost", spec := "schedLost", unfollowed := true, recurses := true, apart := false, narrowed := true }
def SchedLostUptoSaid : Prop := schedLostUptoRow.holds Try.pinned (OpenSpec.upto schedLostSpec)

/-- 'hatstandlaw16.SchedApart', WHERE WHAT IT READS IS OF BULK AT MOST 1048576: true; the input reads as it did. -/
def schedApartUptoRow : OpenClaim := { program := "ytadphmpbhkhhfaa", sum := "4446ec8e935a880e87e4f43f749f993daffb5582ac3b9da92c17fff3922dc2ab", func := "hatstand/hatstandlaw16.SchedApart", spec := "schedApart", unfollowed := true, recurses := true, apart := false, narrowed := true }
def SchedApartUptoSaid : Prop := schedApartUptoRow.holds Try.pinned (OpenSpec.upto schedApartSpec)

/-- 'hatstandlaw16.SchedTurns', WHERE WHAT IT READS IS OF BULK AT MOST 1048576: true; the input reads as it did. -/
def schedTurnsUptoRow : OpenClaim := { program := "ytadphmpbhkhhfaa", sum := "4446ec8e935a880e87e4f43f749f993daffb5582ac3b9da92c17fff3922dc2ab", func := "hatstand/hatstandlaw16.SchedTurns", spec := "schedTurns", unfollowed := true, recurses := true, apart := false, narrowed := true }
def SchedTurnsUptoSaid : Prop := schedTurnsUptoRow.holds Try.pinned (OpenSpec.upto schedTurnsSpec)

/-- 'hatstandlaw16.SchedErrs', WHERE WHAT IT READS IS OF BULK AT MOST 1048576: true; the input reads as it did. -/
def schedErrsUptoRow : OpenClaim := { program := "ytadphmpbhkhhfaa", sum := "4446ec8e935a880e87e4f43f749f993daffb5582ac3b9da92c17fff3922dc2ab", func := "hatstand/hatstandlaw16.SchedErrs", spec := "schedErrs", unfollowed := true, recurses := true, apart := false, narrowed := true }
def SchedErrsUptoSaid : Prop := schedErrsUptoRow.holds Try.pinned (OpenSpec.upto schedErrsSpec)

end Rows
end Go.Proofs.Ytadphmpbhkhhfaa
