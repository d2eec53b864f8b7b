/-
  No cell of these rows narrows 'for every input' (looked for: loops, veiled, ifaces, maps, wideKeys, modest, calm, conditions, laid).
  DERIVED. THE GIVEN ROWS OF THIS SEAT. 6 by the template 'for every input the law returns true; each argument reads behind the call as it read before'; 0 by the template 'total and deterministic' (their statements: YtdhkppijeocaoaaTotals.lean).
  GIVEN WITH THE SEED: the statements are not yours to turn. If you find one false, say at which input.
  Laid BY PROGRAM, IN A SANDBOX (cutbox-rows.mjs): the forced cells as the released guide's own fill.sh prints them over the translation 51f1ad7daf79701f… (all of the seat's roots in one cut). By AI agents, Wed Nov 11 2026. No macro, syntax, notation, axiom, sorry.
-/
import Derived.Test.YtdhkppijeocaoaaChecked
import GoSem.Claim
import GoSem.ClaimJoined
import GoSem.ClaimMapViews
import Derived.JoinedTies
import Derived.KernelRfl
namespace Go.Proofs.Ytdhkppijeocaoaa
/- THE CELL 'sum', in the pinned program and in every row, IS THE sha256 OF THE DUMP (.gsa) THAT YtdhkppijeocaoaaProg.lean LOADS. Nothing in Lean hashes anything: it is a label: what it is worth is what the hold of that sum in a sandbox is worth. -/
noncomputable def Try.pinned : Pinned := { name := "ytdhkppijeocaoaa", sum := "51f1ad7daf79701f24612f776bf01864614a705762fac5a831bebdf9d0418839", checked := Try.checked }
namespace Rows
def none {H : Type} : Left H := { results := [], args := [] }

/-- 'hatstandlaw7.TaglistFirst': WHATEVER THE INPUT: true; the input reads as it did. -/
def taglistFirstSpec : ChangeSpec := { name := "taglistFirst", fn := fun _ => fun
  | [d1, d2, d3] => { results := [.lit (.bool true)], args := [d1, d2, d3] }
  | _ => none }
def taglistFirstRow : OpenClaim := { program := "ytdhkppijeocaoaa", sum := "51f1ad7daf79701f24612f776bf01864614a705762fac5a831bebdf9d0418839", func := "hatstand/hatstandlaw7.TaglistFirst", spec := "taglistFirst", unfollowed := true, recurses := true, apart := false }
def TaglistFirstSaid : Prop := taglistFirstRow.holds Try.pinned (OpenSpec.ofChange taglistFirstSpec)

/-- ITS FALSE NEIGHBOUR: 'it returns false'. Refute it at one input. -/
def taglistFirstWrong : ChangeSpec := { name := "taglistFirst", fn := fun _ => fun
  | [d1, d2, d3] => { results := [.lit (.bool false)], args := [d1, d2, d3] }
  | _ => none }
def TaglistFirstWrongFalsely : Prop := taglistFirstRow.holds Try.pinned (OpenSpec.ofChange taglistFirstWrong)

/-- 'hatstandlaw7.TaglistSteps': WHATEVER THE INPUT: true; the input reads as it did. -/
def taglistStepsSpec : ChangeSpec := { name := "taglistSteps", fn := fun _ => fun
  | [d1, d2, d3, d4] => { results := [.lit (.bool true)], args := [d1, d2, d3, d4] }
  | _ => none }
def taglistStepsRow : OpenClaim := { program := "ytdhkppijeocaoaa", sum := "51f1ad7daf79701f24612f776bf01864614a705762fac5a831bebdf9d0418839", func := "hatstand/hatstandlaw7.TaglistSteps", spec := "taglistSteps", unfollowed := true, recurses := true, apart := false }
def TaglistStepsSaid : Prop := taglistStepsRow.holds Try.pinned (OpenSpec.ofChange taglistStepsSpec)

/-- ITS FALSE NEIGHBOUR: 'it returns false'. Refute it at one input. -/
def taglistStepsWrong : ChangeSpec := { name := "taglistSteps", fn := fun _ => fun
  | [d1, d2, d3, d4] => { results := [.lit (.bool false)], args := [d1, d2, d3, d4] }
  | _ => none }
def TaglistStepsWrongFalsely : Prop := taglistStepsRow.holds Try.pinned (OpenSpec.ofChange taglistStepsWrong)

/-- 'hatstandlaw7.TaglistLate': WHATEVER THE INPUT: true; the input reads as it did. -/
def taglistLateSpec : ChangeSpec := { name := "taglistLate", fn := fun _ => fun
  | [d1, d2, d3, d4, d5] => { results := [.lit (.bool true)], args := [d1, d2, d3, d4, d5] }
  | _ => none }
def taglistLateRow : OpenClaim := { program := "ytdhkppijeocaoaa", sum := "51f1ad7daf79701f24612f776bf01864614a705762fac5a831bebdf9d0418839", func := "hatstand/hatstandlaw7.TaglistLate", spec := "taglistLate", unfollowed := true, recurses := true, apart := false }
def TaglistLateSaid : Prop := taglistLateRow.holds Try.pinned (OpenSpec.ofChange taglistLateSpec)

/-- ITS FALSE NEIGHBOUR: 'it returns false'. Refute it at one input. -/
def taglistLateWrong : ChangeSpec := { name := "taglistLate", fn := fun _ => fun
  | [d1, d2, d3, d4, d5] => { results := [.lit (.bool false)], args := [d1, d2, d3, d4, d5] }
  | _ => none }
def TaglistLateWrongFalsely : Prop := taglistLateRow.holds Try.pinned (OpenSpec.ofChange taglistLateWrong)

/-- 'hatstandlaw7.TaglistPair': WHATEVER THE INPUT: true; the input reads as it did. -/
def taglistPairSpec : ChangeSpec := { name := "taglistPair", fn := fun _ => fun
  | [d1, d2, d3] => { results := [.lit (.bool true)], args := [d1, d2, d3] }
  | _ => none }
def taglistPairRow : OpenClaim := { program := "ytdhkppijeocaoaa", sum := "51f1ad7daf79701f24612f776bf01864614a705762fac5a831bebdf9d0418839", func := "hatstand/hatstandlaw7.TaglistPair", spec := "taglistPair", unfollowed := true, recurses := true, apart := false }
def TaglistPairSaid : Prop := taglistPairRow.holds Try.pinned (OpenSpec.ofChange taglistPairSpec)

/-- ITS FALSE NEIGHBOUR: 'it returns false'. Refute it at one input. -/
def taglistPairWrong : ChangeSpec := { name := "taglistPair", fn := fun _ => fun
  | [d1, d2, d3] => { results := [.lit (.bool false)], args := [d1, d2, d3] }
  | _ => none }
def TaglistPairWrongFalsely : Prop := taglistPairRow.holds Try.pinned (OpenSpec.ofChange taglistPairWrong)

/-- 'hatstandlaw7.TaglistMeets': WHATEVER THE INPUT: true; the input reads as it did. -/
def taglistMeetsSpec : ChangeSpec := { name := "taglistMeets", fn := fun _ => fun
  | [d1, d2, d3] => { results := [.lit (.bool true)], args := [d1, d2, d3] }
  | _ => none }
def taglistMeetsRow : OpenClaim := { program := "ytdhkppijeocaoaa", sum := "51f1ad7daf79701f24612f776bf01864614a705762fac5a831bebdf9d0418839", func := "hatstand/hatstandlaw7.TaglistMeets", spec := "taglistMeets", unfollowed := true, recurses := true, apart := false }
def TaglistMeetsSaid : Prop := taglistMeetsRow.holds Try.pinned (OpenSpec.ofChange taglistMeetsSpec)

/-- ITS FALSE NEIGHBOUR: 'it returns false'. Refute it at one input. -/
def taglistMeetsWrong : ChangeSpec := { name := "taglistMeets", fn := fun _ => fun
  | [d1, d2, d3] => { results := [.lit (.bool false)], args := [d1, d2, d3] }
  | _ => none }
def TaglistMeetsWrongFalsely : Prop := taglistMeetsRow.holds Try.pinned (OpenSpec.ofChange taglistMeetsWrong)

/-- 'hatstandlaw7.TaglistAlone': WHATEVER THE INPUT: true; the input reads as it did. -/
def taglistAloneSpec : ChangeSpec := { name := "taglistAlone", fn := fun _ => fun
  | [d1, d2, d3] => { results := [.lit (.bool true)], args := [d1, d2, d3] }
  | _ => none }
def taglistAloneRow : OpenClaim := { program := "ytdhkppijeocaoaa", sum := "51f1ad7daf79701f24612f776bf01864614a705762fac5a831bebdf9d0418839", func := "hatstand/hatstandlaw7.TaglistAlone", spec := "taglistAlone", unfollowed := true, recurses := true, apart := false }
def TaglistAloneSaid : Prop := taglistAloneRow.holds Try.pinned (OpenSpec.ofChange taglistAloneSpec)

/-- ITS FALSE NEIGHBOUR: 'it returns false'. Refute it at one input. -/
def taglistAloneWrong : ChangeSpec := { name := "taglistAlone", fn := fun _ => fun
  | [d1, d2, d3] => { results := [.lit (.bool false)], args := [d1, d2, d3] }
  | _ => none }
def TaglistAloneWrongFalsely : Prop := taglistAloneRow.holds Try.pinned (OpenSpec.ofChange taglistAloneWrong)

/- THE SECOND FORM. 'bulk': how many values and letters a reading holds, each counted each time it is reached (what is shared counts as often as it is met; a slice's spare places count too). A statement '..UptoSaid' is the law's where the arguments, and the package variables that the reading takes, are together of bulk at most 1048576: NARROWER than '..Said'. Prove '..Said' where nothing that the law and all that it calls make is longer than what came in: it says more and counts as full. Else prove '..UptoSaid'. A law counts once. -/
mutual
def uptoBulk {H : Type} : DataW H → Nat
  | .lit (.string bytes) => bytes.length + 1
  | .lit _ => 1
  | .nil => 1
  | .ptr d => uptoBulk d + 1
  | .slice elems spare => uptoBulkAll elems + uptoBulkAll spare + 1
  | .agg parts => uptoBulkAll parts + 1
  | .iface _ d => uptoBulk d + 1
  | .map entries => uptoBulkEntries entries + 1
  | .held _ => 1
def uptoBulkAll {H : Type} : List (DataW H) → Nat
  | [] => 0
  | d :: r => uptoBulk d + uptoBulkAll r
def uptoBulkEntries {H : Type} : List (Lit × DataW H) → Nat
  | [] => 0
  | x :: r => uptoBulkEntry x + uptoBulkEntries r
def uptoBulkEntry {H : Type} : Lit × DataW H → Nat
  | (.string bytes, d) => bytes.length + uptoBulk d + 1
  | (_, d) => uptoBulk d + 1
 end
def uptoSmall : (H : Type) → List (DataW H) → Bool := fun _ ds => decide (uptoBulkAll ds ≤ 1048576)
def OpenSpec.upto (s : _root_.Go.ChangeSpec) : _root_.Go.OpenSpec := { _root_.Go.OpenSpec.ofChange s with cond := some uptoSmall }

/-- 'hatstandlaw7.TaglistFirst', WHERE WHAT IT READS IS OF BULK AT MOST 1048576: true; the input reads as it did. -/
def taglistFirstUptoRow : OpenClaim := { program := "ytdhkppijeocaoaa", sum := "51f1ad7daf79701f24612f776bf01864614a705762fac5a831bebdf9d0418839", func := "hatstand/hatstandlaw7.TaglistFirst", spec := "taglistFirst", unfollowed := true, recurses := true, apart := false, narrowed := true }
def TaglistFirstUptoSaid : Prop := taglistFirstUptoRow.holds Try.pinned (OpenSpec.upto taglistFirstSpec)

/-- 'hatstandlaw7.TaglistSteps', WHERE WHAT IT READS IS OF BULK AT MOST 1048576: true; the input reads as it did. -/
def taglistStepsUptoRow : OpenClaim := { program := "ytdhkppijeocaoaa", sum := "51f1ad7daf79701f24612f776bf01864614a705762fac5a831bebdf9d0418839", func := "hatstand/hatstandlaw7.TaglistSteps", spec := "taglistSteps", unfollowed := true, recurses := true, apart := false, narrowed := true }
def TaglistStepsUptoSaid : Prop := taglistStepsUptoRow.holds Try.pinned (OpenSpec.upto taglistStepsSpec)

/-- 'hatstandlaw7.TaglistLate', WHERE WHAT IT READS IS OF BULK AT MOST 1048576: true; the input reads as it did. -/
def taglistLateUptoRow : OpenClaim := { program := "ytdhkppijeocaoaa", sum := "51f1ad7daf79701f24612f776bf01864614a705762fac5a831bebdf9d0418839", func := "hatstand/hatstandlaw7.TaglistLate", spec := "taglistLate", unfollowed := true, recurses := true, apart := false, narrowed := true }
def TaglistLateUptoSaid : Prop := taglistLateUptoRow.holds Try.pinned (OpenSpec.upto taglistLateSpec)

/-- 'hatstandlaw7.TaglistPair', WHERE WHAT IT READS IS OF BULK AT MOST 1048576: true; the input reads as it did. -/
def taglistPairUptoRow : OpenClaim := { program := "ytdhkppijeocaoaa", sum := "51f1ad7daf79701f24612f776bf01864614a705762fac5a831bebdf9d0418839", func := "hatstand/hatstandlaw7.TaglistPair", spec := "taglistPair", unfollowed := true, recurses := true, apart := false, narrowed := true }
def TaglistPairUptoSaid : Prop := taglistPairUptoRow.holds Try.pinned (OpenSpec.upto taglistPairSpec)

/-- 'hatstandlaw7.TaglistMeets', WHERE WHAT IT READS IS OF BULK AT MOST 1048576: true; the input reads as it did. -/
def taglistMeetsUptoRow : OpenClaim := { program := "ytdhkppijeocaoaa", sum := "51f1ad7daf79701f24612f776bf01864614a705762fac5a831bebdf9d0418839", func := "hatstand/hatstandlaw7.TaglistMeets", spec := "taglistMeets", unfollowed := true, recurses := true, apart := false, narrowed := true }
def TaglistMeetsUptoSaid : Prop := taglistMeetsUptoRow.holds Try.pinned (OpenSpec.upto taglistMeetsSpec)

/-- 'hatstandlaw7.TaglistAlone', WHERE WHAT IT READS IS OF BULK AT MOST 1048576: true; the input reads as it did. -/
def taglistAloneUptoRow : OpenClaim := { program := "ytdhkppijeocaoaa", sum := "51f1ad7daf79701f24612f776bf01864614a705762fac5a831bebdf9d0418839", func := "hatstand/hatstandlaw7.TaglistAlone", spec := "taglistAlone", unfollowed := true, recurses := true, apart := false, narrowed := true }
def TaglistAloneUptoSaid : Prop := taglistAloneUptoRow.holds Try.pinned (OpenSpec.upto taglistAloneSpec)

end Rows
end Go.Proofs.Ytdhkppijeocaoaa
