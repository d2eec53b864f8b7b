/-
  No cell of these rows narrows 'for every input' (looked for: loops, veiled, ifaces, maps, wideKeys, modest, calm, conditions, laid).
  DERIVED. THE GIVEN ROWS OF THIS SEAT. 6 by the template 'for every input the law returns true; each argument reads behind the call as it read before'; 0 by the template 'total and deterministic' (their statements: YthnjeiandfdpgaaTotals.lean).
  GIVEN WITH THE SEED: the statements are not yours to turn. If you find one false, say at which input.
  Laid BY PROGRAM, IN A SANDBOX (cutbox-rows.mjs): the forced cells as the released guide's own fill.sh prints them over the translation 292d45b745347b46… (all of the seat's roots in one cut). By AI agents, Wed Nov 11 2026. No macro, syntax, notation, axiom, sorry.
-/
import Derived.Test.YthnjeiandfdpgaaChecked
import GoSem.Claim
import GoSem.ClaimJoined
import GoSem.ClaimMapViews
import Derived.JoinedTies
import Derived.KernelRfl
namespace Go.Proofs.Ythnjeiandfdpgaa
/- THE CELL 'sum', in the pinned program and in every row, IS THE sha256 OF THE DUMP (.gsa) THAT YthnjeiandfdpgaaProg.lean LOADS. Nothing in Lean hashes anything: it is a label: what it is worth is what the hold of that sum in a sandbox is worth. -/
noncomputable def Try.pinned : Pinned := { name := "ythnjeiandfdpgaa", sum := "292d45b745347b46059a009503a0bb1129c7aebcc9c9c2de36b8f7b3aaedc7de", checked := Try.checked }
namespace Rows
def none {H : Type} : Left H := { results := [], args := [] }

/-- 'hatstandlaw12.ElimNone': WHATEVER THE INPUT: true; the input reads as it did. -/
def elimNoneSpec : ChangeSpec := { name := "elimNone", fn := fun _ => fun
  | [d1, d2, d3] => { results := [.lit (.bool true)], args := [d1, d2, d3] }
  | _ => none }
def elimNoneRow : OpenClaim := { program := "ythnjeiandfdpgaa", sum := "292d45b745347b46059a009503a0bb1129c7aebcc9c9c2de36b8f7b3aaedc7de", func := "hatstand/hatstandlaw12.ElimNone", spec := "elimNone", unfollowed := true, recurses := true, apart := false }
def ElimNoneSaid : Prop := elimNoneRow.holds Try.pinned (OpenSpec.ofChange elimNoneSpec)

/-- ITS FALSE NEIGHBOUR: 'it returns false'. Refute it at one input. -/
def elimNoneWrong : ChangeSpec := { name := "elimNone", fn := fun _ => fun
  | [d1, d2, d3] => { results := [.lit (.bool false)], args := [d1, d2, d3] }
  | _ => none }
def ElimNoneWrongFalsely : Prop := elimNoneRow.holds Try.pinned (OpenSpec.ofChange elimNoneWrong)

/-- 'hatstandlaw12.ElimPair': WHATEVER THE INPUT: true; the input reads as it did. -/
def elimPairSpec : ChangeSpec := { name := "elimPair", fn := fun _ => fun
  | [d1, d2, d3, d4, d5] => { results := [.lit (.bool true)], args := [d1, d2, d3, d4, d5] }
  | _ => none }
def elimPairRow : OpenClaim := { program := "ythnjeiandfdpgaa", sum := "292d45b745347b46059a009503a0bb1129c7aebcc9c9c2de36b8f7b3aaedc7de", func := "hatstand/hatstandlaw12.ElimPair", spec := "elimPair", unfollowed := true, recurses := true, apart := false }
def ElimPairSaid : Prop := elimPairRow.holds Try.pinned (OpenSpec.ofChange elimPairSpec)

/-- ITS FALSE NEIGHBOUR: 'it returns false'. Refute it at one input. -/
def elimPairWrong : ChangeSpec := { name := "elimPair", fn := fun _ => fun
  | [d1, d2, d3, d4, d5] => { results := [.lit (.bool false)], args := [d1, d2, d3, d4, d5] }
  | _ => none }
def ElimPairWrongFalsely : Prop := elimPairRow.holds Try.pinned (OpenSpec.ofChange elimPairWrong)

/-- 'hatstandlaw12.ElimPlace': WHATEVER THE INPUT: true; the input reads as it did. -/
def elimPlaceSpec : ChangeSpec := { name := "elimPlace", fn := fun _ => fun
  | [d1, d2, d3, d4] => { results := [.lit (.bool true)], args := [d1, d2, d3, d4] }
  | _ => none }
def elimPlaceRow : OpenClaim := { program := "ythnjeiandfdpgaa", sum := "292d45b745347b46059a009503a0bb1129c7aebcc9c9c2de36b8f7b3aaedc7de", func := "hatstand/hatstandlaw12.ElimPlace", spec := "elimPlace", unfollowed := true, recurses := true, apart := false }
def ElimPlaceSaid : Prop := elimPlaceRow.holds Try.pinned (OpenSpec.ofChange elimPlaceSpec)

/-- ITS FALSE NEIGHBOUR: 'it returns false'. Refute it at one input. -/
def elimPlaceWrong : ChangeSpec := { name := "elimPlace", fn := fun _ => fun
  | [d1, d2, d3, d4] => { results := [.lit (.bool false)], args := [d1, d2, d3, d4] }
  | _ => none }
def ElimPlaceWrongFalsely : Prop := elimPlaceRow.holds Try.pinned (OpenSpec.ofChange elimPlaceWrong)

/-- 'hatstandlaw12.ElimTime': WHATEVER THE INPUT: true; the input reads as it did. -/
def elimTimeSpec : ChangeSpec := { name := "elimTime", fn := fun _ => fun
  | [d1, d2, d3] => { results := [.lit (.bool true)], args := [d1, d2, d3] }
  | _ => none }
def elimTimeRow : OpenClaim := { program := "ythnjeiandfdpgaa", sum := "292d45b745347b46059a009503a0bb1129c7aebcc9c9c2de36b8f7b3aaedc7de", func := "hatstand/hatstandlaw12.ElimTime", spec := "elimTime", unfollowed := true, recurses := true, apart := false }
def ElimTimeSaid : Prop := elimTimeRow.holds Try.pinned (OpenSpec.ofChange elimTimeSpec)

/-- ITS FALSE NEIGHBOUR: 'it returns false'. Refute it at one input. -/
def elimTimeWrong : ChangeSpec := { name := "elimTime", fn := fun _ => fun
  | [d1, d2, d3] => { results := [.lit (.bool false)], args := [d1, d2, d3] }
  | _ => none }
def ElimTimeWrongFalsely : Prop := elimTimeRow.holds Try.pinned (OpenSpec.ofChange elimTimeWrong)

/-- 'hatstandlaw12.ElimTwice': WHATEVER THE INPUT: true; the input reads as it did. -/
def elimTwiceSpec : ChangeSpec := { name := "elimTwice", fn := fun _ => fun
  | [d1, d2, d3] => { results := [.lit (.bool true)], args := [d1, d2, d3] }
  | _ => none }
def elimTwiceRow : OpenClaim := { program := "ythnjeiandfdpgaa", sum := "292d45b745347b46059a009503a0bb1129c7aebcc9c9c2de36b8f7b3aaedc7de", func := "hatstand/hatstandlaw12.ElimTwice", spec := "elimTwice", unfollowed := true, recurses := true, apart := false }
def ElimTwiceSaid : Prop := elimTwiceRow.holds Try.pinned (OpenSpec.ofChange elimTwiceSpec)

/-- ITS FALSE NEIGHBOUR: 'it returns false'. Refute it at one input. -/
def elimTwiceWrong : ChangeSpec := { name := "elimTwice", fn := fun _ => fun
  | [d1, d2, d3] => { results := [.lit (.bool false)], args := [d1, d2, d3] }
  | _ => none }
def ElimTwiceWrongFalsely : Prop := elimTwiceRow.holds Try.pinned (OpenSpec.ofChange elimTwiceWrong)

/-- 'hatstandlaw12.ElimSteps': WHATEVER THE INPUT: true; the input reads as it did. -/
def elimStepsSpec : ChangeSpec := { name := "elimSteps", fn := fun _ => fun
  | [d1, d2, d3, d4] => { results := [.lit (.bool true)], args := [d1, d2, d3, d4] }
  | _ => none }
def elimStepsRow : OpenClaim := { program := "ythnjeiandfdpgaa", sum := "292d45b745347b46059a009503a0bb1129c7aebcc9c9c2de36b8f7b3aaedc7de", func := "hatstand/hatstandlaw12.ElimSteps", spec := "elimSteps", unfollowed := true, recurses := true, apart := false }
def ElimStepsSaid : Prop := elimStepsRow.holds Try.pinned (OpenSpec.ofChange elimStepsSpec)

/-- ITS FALSE NEIGHBOUR: 'it returns false'. Refute it at one input. -/
def elimStepsWrong : ChangeSpec := { name := "elimSteps", fn := fun _ => fun
  | [d1, d2, d3, d4] => { results := [.lit (.bool false)], args := [d1, d2, d3, d4] }
  | _ => none }
def ElimStepsWrongFalsely : Prop := elimStepsRow.holds Try.pinned (OpenSpec.ofChange elimStepsWrong)

/- THE SECOND FORM. 'bulk': how many values and letters a reading holds, each counted each time it is reached (what is shared counts as often as it is met; a slice's spare places count too). A statement '..UptoSaid' is the law's where the arguments, and the package variables that the reading takes, are together of bulk at most 1048576: NARROWER than '..Said'. Prove '..Said' where nothing that the law and all that it calls make is longer than what came in: it says more and counts as full. Else prove '..UptoSaid'. A law counts once. -/
mutual
def uptoBulk {H : Type} : DataW H → Nat
  | .lit (.string bytes) => bytes.length + 1
  | .lit _ => 1
  | .nil => 1
  | .ptr d => uptoBulk d + 1
  | .slice elems spare => uptoBulkAll elems + uptoBulkAll spare + 1
  | .agg parts => uptoBulkAll parts + 1
  | .iface _ d => uptoBulk d + 1
  | .map entries => uptoBulkEntries entries + 1
  | .held _ => 1
def uptoBulkAll {H : Type} : List (DataW H) → Nat
  | [] => 0
  | d :: r => uptoBulk d + uptoBulkAll r
def uptoBulkEntries {H : Type} : List (Lit × DataW H) → Nat
  | [] => 0
  | x :: r => uptoBulkEntry x + uptoBulkEntries r
def uptoBulkEntry {H : Type} : Lit × DataW H → Nat
  | (.string bytes, d) => bytes.length + uptoBulk d + 1
  | (_, d) => uptoBulk d + 1
 end
def uptoSmall : (H : Type) → List (DataW H) → Bool := fun _ ds => decide (uptoBulkAll ds ≤ 1048576)
def OpenSpec.upto (s : _root_.Go.ChangeSpec) : _root_.Go.OpenSpec := { _root_.Go.OpenSpec.ofChange s with cond := some uptoSmall }

/-- 'hatstandlaw12.ElimNone', WHERE WHAT IT READS IS OF BULK AT MOST 1048576: true; the input reads as it did. -/
def elimNoneUptoRow : OpenClaim := { program := "ythnjeiandfdpgaa", sum := "292d45b745347b46059a009503a0bb1129c7aebcc9c9c2de36b8f7b3aaedc7de", func := "hatstand/hatstandlaw12.ElimNone", spec := "elimNone", unfollowed := true, recurses := true, apart := false, narrowed := true }
def ElimNoneUptoSaid : Prop := elimNoneUptoRow.holds Try.pinned (OpenSpec.upto elimNoneSpec)

/-- 'hatstandlaw12.ElimPair', WHERE WHAT IT READS IS OF BULK AT MOST 1048576: true; the input reads as it did. -/
def elimPairUptoRow : OpenClaim := { program := "ythnjeiandfdpgaa", sum := "292d45b745347b46059a009503a0bb1129c7aebcc9c9c2de36b8f7b3aaedc7de", func := "hatstand/hatstandlaw12.ElimPair", spec := "elimPair", unfollowed := true, recurses := true, apart := false, narrowed := true }
def ElimPairUptoSaid : Prop := elimPairUptoRow.holds Try.pinned (OpenSpec.upto elimPairSpec)

/-- 'hatstandlaw12.ElimPlace', WHERE WHAT IT READS IS OF BULK AT MOST 1048576: true; the input reads as it did. -/
def elimPlaceUptoRow : OpenClaim := { program := "ythnjeiandfdpgaa", sum := "292d45b745347b46059a009503a0bb1129c7aebcc9c9c2de36b8f7b3aaedc7de", func := "hatstand/hatstandlaw12.ElimPlace", spec := "elimPlace", unfollowed := true, recurses := true, apart := false, narrowed := true }
def ElimPlaceUptoSaid : Prop := elimPlaceUptoRow.holds Try.pinned (OpenSpec.upto elimPlaceSpec)

/-- 'hatstandlaw12.ElimTime', WHERE WHAT IT READS IS OF BULK AT MOST 1048576: true; the input reads as it did. -/
def elimTimeUptoRow : OpenClaim := { program := "ythnjeiandfdpgaa", sum := "292d45b745347b46059a009503a0bb1129c7aebcc9c9c2de36b8f7b3aaedc7de", func := "hatstand/hatstandlaw12.ElimTime", spec := "elimTime", unfollowed := true, recurses := true, apart := false, narrowed := true }
def ElimTimeUptoSaid : Prop := elimTimeUptoRow.holds Try.pinned (OpenSpec.upto elimTimeSpec)

/-- 'hatstandlaw12.ElimTwice', WHERE WHAT IT READS IS OF BULK AT MOST 1048576: true; the input reads as it did. -/
def elimTwiceUptoRow : OpenClaim := { program := "ythnjeiandfdpgaa", sum := "292d45b745347b46059a009503a0bb1129c7aebcc9c9c2de36b8f7b3aaedc7de", func := "hatstand/hatstandlaw12.ElimTwice", spec := "elimTwice", unfollowed := true, recurses := true, apart := false, narrowed := true }
def ElimTwiceUptoSaid : Prop := elimTwiceUptoRow.holds Try.pinned (OpenSpec.upto elimTwiceSpec)

/-- 'hatstandlaw12.ElimSteps', WHERE WHAT IT READS IS OF BULK AT MOST 1048576: true; the input reads as it did. -/
def elimStepsUptoRow : OpenClaim := { program := "ythnjeiandfdpgaa", sum := "292d45b745347b46059a009503a0bb1129c7aebcc9c9c2de36b8f7b3aaedc7de", func := "hatstand/hatstandlaw12.ElimSteps", spec := "elimSteps", unfollowed := true, recurses := true, apart := false, narrowed := true }
def ElimStepsUptoSaid : Prop := elimStepsUptoRow.holds Try.pinned (OpenSpec.upto elimStepsSpec)

end Rows
end Go.Proofs.Ythnjeiandfdpgaa
