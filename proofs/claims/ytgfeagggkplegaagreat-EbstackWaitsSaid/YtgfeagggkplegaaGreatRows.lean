/-
  No cell of these rows narrows 'for every input' (looked for: loops, veiled, ifaces, maps, wideKeys, modest, calm, conditions, laid).
  DERIVED. THE GIVEN ROWS OF THIS SEAT. 9 by the template 'for every input the law returns true; each argument reads behind the call as it read before'; 0 by the template 'total and deterministic' (their statements: YtgfeagggkplegaaGreatTotals.lean).
  GIVEN WITH THE SEED: the statements are not yours to turn. If you find one false, say at which input.
  Laid BY PROGRAM, IN A SANDBOX (cutbox-rows.mjs): the forced cells as the released guide's own fill.sh prints them over the translation dbc2b8b9eb99eeed… (all of the seat's roots in one cut). By AI agents, Wed Nov 11 2026. No macro, syntax, notation, axiom, sorry.
-/
import Derived.Test.YtgfeagggkplegaaGreatChecked
import GoSem.Claim
import GoSem.ClaimJoined
import GoSem.ClaimMapViews
import Derived.JoinedTies
import Derived.KernelRfl
namespace Go.Proofs.YtgfeagggkplegaaGreat
/- THE CELL 'sum', in the pinned program and in every row, IS THE sha256 OF THE DUMP (.gsa) THAT YtgfeagggkplegaaGreatProg.lean LOADS. Nothing in Lean hashes anything: it is a label: what it is worth is what the hold of that sum in a sandbox is worth. -/
noncomputable def Tryz.pinned : Pinned := { name := "ytgfeagggkplegaagreat", sum := "dbc2b8b9eb99eeeda124df725f424b10425c3fa56e574fcd52140ad677ff1791", checked := Tryz.checked }
namespace Rows
def none {H : Type} : Left H := { results := [], args := [] }

/-- 'hatstandlaw13.EbstackErrs': WHATEVER THE INPUT: true; the input reads as it did. -/
def ebstackErrsSpec : ChangeSpec := { name := "ebstackErrs", fn := fun _ => fun
  | [d1, d2, d3] => { results := [.lit (.bool true)], args := [d1, d2, d3] }
  | _ => none }
def ebstackErrsRow : OpenClaim := { program := "ytgfeagggkplegaagreat", sum := "dbc2b8b9eb99eeeda124df725f424b10425c3fa56e574fcd52140ad677ff1791", func := "hatstand/hatstandlaw13.EbstackErrs", spec := "ebstackErrs", unfollowed := true, recurses := true, apart := false }
def EbstackErrsSaid : Prop := ebstackErrsRow.holds Tryz.pinned (OpenSpec.ofChange ebstackErrsSpec)

/-- ITS FALSE NEIGHBOUR: 'it returns false'. Refute it at one input. -/
def ebstackErrsWrong : ChangeSpec := { name := "ebstackErrs", fn := fun _ => fun
  | [d1, d2, d3] => { results := [.lit (.bool false)], args := [d1, d2, d3] }
  | _ => none }
def EbstackErrsWrongFalsely : Prop := ebstackErrsRow.holds Tryz.pinned (OpenSpec.ofChange ebstackErrsWrong)

/-- 'hatstandlaw13.EbstackOnce': WHATEVER THE INPUT: true; the input reads as it did. -/
def ebstackOnceSpec : ChangeSpec := { name := "ebstackOnce", fn := fun _ => fun
  | [d1, d2, d3, d4] => { results := [.lit (.bool true)], args := [d1, d2, d3, d4] }
  | _ => none }
def ebstackOnceRow : OpenClaim := { program := "ytgfeagggkplegaagreat", sum := "dbc2b8b9eb99eeeda124df725f424b10425c3fa56e574fcd52140ad677ff1791", func := "hatstand/hatstandlaw13.EbstackOnce", spec := "ebstackOnce", unfollowed := true, recurses := true, apart := false }
def EbstackOnceSaid : Prop := ebstackOnceRow.holds Tryz.pinned (OpenSpec.ofChange ebstackOnceSpec)

/-- ITS FALSE NEIGHBOUR: 'it returns false'. Refute it at one input. -/
def ebstackOnceWrong : ChangeSpec := { name := "ebstackOnce", fn := fun _ => fun
  | [d1, d2, d3, d4] => { results := [.lit (.bool false)], args := [d1, d2, d3, d4] }
  | _ => none }
def EbstackOnceWrongFalsely : Prop := ebstackOnceRow.holds Tryz.pinned (OpenSpec.ofChange ebstackOnceWrong)

/-- 'hatstandlaw13.EbstackStale': WHATEVER THE INPUT: true; the input reads as it did. -/
def ebstackStaleSpec : ChangeSpec := { name := "ebstackStale", fn := fun _ => fun
  | [d1, d2, d3, d4, d5, d6] => { results := [.lit (.bool true)], args := [d1, d2, d3, d4, d5, d6] }
  | _ => none }
def ebstackStaleRow : OpenClaim := { program := "ytgfeagggkplegaagreat", sum := "dbc2b8b9eb99eeeda124df725f424b10425c3fa56e574fcd52140ad677ff1791", func := "hatstand/hatstandlaw13.EbstackStale", spec := "ebstackStale", unfollowed := true, recurses := true, apart := false }
def EbstackStaleSaid : Prop := ebstackStaleRow.holds Tryz.pinned (OpenSpec.ofChange ebstackStaleSpec)

/-- ITS FALSE NEIGHBOUR: 'it returns false'. Refute it at one input. -/
def ebstackStaleWrong : ChangeSpec := { name := "ebstackStale", fn := fun _ => fun
  | [d1, d2, d3, d4, d5, d6] => { results := [.lit (.bool false)], args := [d1, d2, d3, d4, d5, d6] }
  | _ => none }
def EbstackStaleWrongFalsely : Prop := ebstackStaleRow.holds Tryz.pinned (OpenSpec.ofChange ebstackStaleWrong)

/-- 'hatstandlaw13.EbstackSteps': WHATEVER THE INPUT: true; the input reads as it did. -/
def ebstackStepsSpec : ChangeSpec := { name := "ebstackSteps", fn := fun _ => fun
  | [d1, d2, d3, d4, d5, d6] => { results := [.lit (.bool true)], args := [d1, d2, d3, d4, d5, d6] }
  | _ => none }
def ebstackStepsRow : OpenClaim := { program := "ytgfeagggkplegaagreat", sum := "dbc2b8b9eb99eeeda124df725f424b10425c3fa56e574fcd52140ad677ff1791", func := "hatstand/hatstandlaw13.EbstackSteps", spec := "ebstackSteps", unfollowed := true, recurses := true, apart := false }
def EbstackStepsSaid : Prop := ebstackStepsRow.holds Tryz.pinned (OpenSpec.ofChange ebstackStepsSpec)

/-- ITS FALSE NEIGHBOUR: 'it returns false'. Refute it at one input. -/
def ebstackStepsWrong : ChangeSpec := { name := "ebstackSteps", fn := fun _ => fun
  | [d1, d2, d3, d4, d5, d6] => { results := [.lit (.bool false)], args := [d1, d2, d3, d4, d5, d6] }
  | _ => none }
def EbstackStepsWrongFalsely : Prop := ebstackStepsRow.holds Tryz.pinned (OpenSpec.ofChange ebstackStepsWrong)

/-- 'hatstandlaw13.EbstackWhole': WHATEVER THE INPUT: true; the input reads as it did. -/
def ebstackWholeSpec : ChangeSpec := { name := "ebstackWhole", fn := fun _ => fun
  | [d1, d2, d3, d4, d5] => { results := [.lit (.bool true)], args := [d1, d2, d3, d4, d5] }
  | _ => none }
def ebstackWholeRow : OpenClaim := { program := "ytgfeagggkplegaagreat", sum := "dbc2b8b9eb99eeeda124df725f424b10425c3fa56e574fcd52140ad677ff1791", func := "hatstand/hatstandlaw13.EbstackWhole", spec := "ebstackWhole", unfollowed := true, recurses := true, apart := false }
def EbstackWholeSaid : Prop := ebstackWholeRow.holds Tryz.pinned (OpenSpec.ofChange ebstackWholeSpec)

/-- ITS FALSE NEIGHBOUR: 'it returns false'. Refute it at one input. -/
def ebstackWholeWrong : ChangeSpec := { name := "ebstackWhole", fn := fun _ => fun
  | [d1, d2, d3, d4, d5] => { results := [.lit (.bool false)], args := [d1, d2, d3, d4, d5] }
  | _ => none }
def EbstackWholeWrongFalsely : Prop := ebstackWholeRow.holds Tryz.pinned (OpenSpec.ofChange ebstackWholeWrong)

/-- 'hatstandlaw21.BoundAlone': WHATEVER THE INPUT: true; the input reads as it did. -/
def boundAloneSpec : ChangeSpec := { name := "boundAlone", fn := fun _ => fun
  | [d1, d2, d3, d4] => { results := [.lit (.bool true)], args := [d1, d2, d3, d4] }
  | _ => none }
def boundAloneRow : OpenClaim := { program := "ytgfeagggkplegaagreat", sum := "dbc2b8b9eb99eeeda124df725f424b10425c3fa56e574fcd52140ad677ff1791", func := "hatstand/hatstandlaw21.BoundAlone", spec := "boundAlone", unfollowed := true, recurses := true, apart := false }
def BoundAloneSaid : Prop := boundAloneRow.holds Tryz.pinned (OpenSpec.ofChange boundAloneSpec)

/-- ITS FALSE NEIGHBOUR: 'it returns false'. Refute it at one input. -/
def boundAloneWrong : ChangeSpec := { name := "boundAlone", fn := fun _ => fun
  | [d1, d2, d3, d4] => { results := [.lit (.bool false)], args := [d1, d2, d3, d4] }
  | _ => none }
def BoundAloneWrongFalsely : Prop := boundAloneRow.holds Tryz.pinned (OpenSpec.ofChange boundAloneWrong)

/-- 'hatstandlaw21.BoundSteps': WHATEVER THE INPUT: true; the input reads as it did. -/
def boundStepsSpec : ChangeSpec := { name := "boundSteps", fn := fun _ => fun
  | [d1, d2, d3, d4, d5] => { results := [.lit (.bool true)], args := [d1, d2, d3, d4, d5] }
  | _ => none }
def boundStepsRow : OpenClaim := { program := "ytgfeagggkplegaagreat", sum := "dbc2b8b9eb99eeeda124df725f424b10425c3fa56e574fcd52140ad677ff1791", func := "hatstand/hatstandlaw21.BoundSteps", spec := "boundSteps", unfollowed := true, recurses := true, apart := false }
def BoundStepsSaid : Prop := boundStepsRow.holds Tryz.pinned (OpenSpec.ofChange boundStepsSpec)

/-- ITS FALSE NEIGHBOUR: 'it returns false'. Refute it at one input. -/
def boundStepsWrong : ChangeSpec := { name := "boundSteps", fn := fun _ => fun
  | [d1, d2, d3, d4, d5] => { results := [.lit (.bool false)], args := [d1, d2, d3, d4, d5] }
  | _ => none }
def BoundStepsWrongFalsely : Prop := boundStepsRow.holds Tryz.pinned (OpenSpec.ofChange boundStepsWrong)

/-- 'hatstandlaw13.EbstackWaits': WHATEVER THE INPUT: true; the input reads as it did. -/
def ebstackWaitsSpec : ChangeSpec := { name := "ebstackWaits", fn := fun _ => fun
  | [d1, d2, d3, d4, d5] => { results := [.lit (.bool true)], args := [d1, d2, d3, d4, d5] }
  | _ => none }
def ebstackWaitsRow : OpenClaim := { program := "ytgfeagggkplegaagreat", sum := "dbc2b8b9eb99eeeda124df725f424b10425c3fa56e574fcd52140ad677ff1791", func := "hatstand/hatstandlaw13.EbstackWaits", spec := "ebstackWaits", unfollowed := true, recurses := true, apart := false }
def EbstackWaitsSaid : Prop := ebstackWaitsRow.holds Tryz.pinned (OpenSpec.ofChange ebstackWaitsSpec)

/-- ITS FALSE NEIGHBOUR: 'it returns false'. Refute it at one input. -/
def ebstackWaitsWrong : ChangeSpec := { name := "ebstackWaits", fn := fun _ => fun
  | [d1, d2, d3, d4, d5] => { results := [.lit (.bool false)], args := [d1, d2, d3, d4, d5] }
  | _ => none }
def EbstackWaitsWrongFalsely : Prop := ebstackWaitsRow.holds Tryz.pinned (OpenSpec.ofChange ebstackWaitsWrong)

/-- 'hatstandlaw13.EbstackAlone': WHATEVER THE INPUT: true; the input reads as it did. -/
def ebstackAloneSpec : ChangeSpec := { name := "ebstackAlone", fn := fun _ => fun
  | [d1, d2, d3, d4, d5] => { results := [.lit (.bool true)], args := [d1, d2, d3, d4, d5] }
  | _ => none }
def ebstackAloneRow : OpenClaim := { program := "ytgfeagggkplegaagreat", sum := "dbc2b8b9eb99eeeda124df725f424b10425c3fa56e574fcd52140ad677ff1791", func := "hatstand/hatstandlaw13.EbstackAlone", spec := "ebstackAlone", unfollowed := true, recurses := true, apart := false }
def EbstackAloneSaid : Prop := ebstackAloneRow.holds Tryz.pinned (OpenSpec.ofChange ebstackAloneSpec)

/-- ITS FALSE NEIGHBOUR: 'it returns false'. Refute it at one input. -/
def ebstackAloneWrong : ChangeSpec := { name := "ebstackAlone", fn := fun _ => fun
  | [d1, d2, d3, d4, d5] => { results := [.lit (.bool false)], args := [d1, d2, d3, d4, d5] }
  | _ => none }
def EbstackAloneWrongFalsely : Prop := ebstackAloneRow.holds Tryz.pinned (OpenSpec.ofChange ebstackAloneWrong)

/- THE SECOND FORM. 'bulk': how many values and letters a reading holds, each counted each time it is reached (what is shared counts as often as it is met; a slice's spare places count too). A statement '..UptoSaid' is the law's where the arguments, and the package variables that the reading takes, are together of bulk at most 1048576: NARROWER than '..Said'. Prove '..Said' where nothing that the law and all that it calls make is longer than what came in: it says more and counts as full. Else prove '..UptoSaid'. A law counts once. -/
mutual
def uptoBulk {H : Type} : DataW H → Nat
  | .lit (.string bytes) => bytes.length + 1
  | .lit _ => 1
  | .nil => 1
  | .ptr d => uptoBulk d + 1
  | .slice elems spare => uptoBulkAll elems + uptoBulkAll spare + 1
  | .agg parts => uptoBulkAll parts + 1
  | .iface _ d => uptoBulk d + 1
  | .map entries => uptoBulkEntries entries + 1
  | .held _ => 1
def uptoBulkAll {H : Type} : List (DataW H) → Nat
  | [] => 0
  | d :: r => uptoBulk d + uptoBulkAll r
def uptoBulkEntries {H : Type} : List (Lit × DataW H) → Nat
  | [] => 0
  | x :: r => uptoBulkEntry x + uptoBulkEntries r
def uptoBulkEntry {H : Type} : Lit × DataW H → Nat
  | (.string bytes, d) => bytes.length + uptoBulk d + 1
  | (_, d) => uptoBulk d + 1
 end
def uptoSmall : (H : Type) → List (DataW H) → Bool := fun _ ds => decide (uptoBulkAll ds ≤ 1048576)
def OpenSpec.upto (s : _root_.Go.ChangeSpec) : _root_.Go.OpenSpec := { _root_.Go.OpenSpec.ofChange s with cond := some uptoSmall }

/-- 'hatstandlaw13.EbstackErrs', WHERE WHAT IT READS IS OF BULK AT MOST 1048576: true; the input reads as it did. -/
def ebstackErrsUptoRow : OpenClaim := { program := "ytgfeagggkplegaagreat", sum := "dbc2b8b9eb99eeeda124df725f424b10425c3fa56e574fcd52140ad677ff1791", func := "hatstand/hatstandlaw13.EbstackErrs", spec := "ebstackErrs", unfollowed := true, recurses := true, apart := false, narrowed := true }
def EbstackErrsUptoSaid : Prop := ebstackErrsUptoRow.holds Tryz.pinned (OpenSpec.upto ebstackErrsSpec)

/-- 'hatstandlaw13.EbstackOnce', WHERE WHAT IT READS IS OF BULK AT MOST 1048576: true; the input reads as it did. -/
def ebstackOnceUptoRow : OpenClaim := { program := "ytgfeagggkplegaagreat", sum := "dbc2b8b9eb99eeeda124df725f424b10425c3fa56e574fcd52140ad677ff1791", func := "hatstand/hatstandlaw13.EbstackOnce", spec := "ebstackOnce", unfollowed := true, recurses := true, apart := false, narrowed := true }
def EbstackOnceUptoSaid : Prop := ebstackOnceUptoRow.holds Tryz.pinned (OpenSpec.upto ebstackOnceSpec)

/-- 'hatstandlaw13.EbstackStale', WHERE WHAT IT READS IS OF BULK AT MOST 1048576: true; the input reads as it did. -/
def ebstackStaleUptoRow : OpenClaim := { program := "ytgfeagggkplegaagreat", sum := "dbc2b8b9eb99eeeda124df725f424b10425c3fa56e574fcd52140ad677ff1791", func := "hatstand/hatstandlaw13.EbstackStale", spec := "ebstackStale", unfollowed := true, recurses := true, apart := false, narrowed := true }
def EbstackStaleUptoSaid : Prop := ebstackStaleUptoRow.holds Tryz.pinned (OpenSpec.upto ebstackStaleSpec)

/-- 'hatstandlaw13.EbstackSteps', WHERE WHAT IT READS IS OF BULK AT MOST 1048576: true; the input reads as it did. -/
def ebstackStepsUptoRow : OpenClaim := { program := "ytgfeagggkplegaagreat", sum := "dbc2b8b9eb99eeeda124df725f424b10425c3fa56e574fcd52140ad677ff1791", func := "hatstand/hatstandlaw13.EbstackSteps", spec := "ebstackSteps", unfollowed := true, recurses := true, apart := false, narrowed := true }
def EbstackStepsUptoSaid : Prop := ebstackStepsUptoRow.holds Tryz.pinned (OpenSpec.upto ebstackStepsSpec)

/-- 'hatstandlaw13.EbstackWhole', WHERE WHAT IT READS IS OF BULK AT MOST 1048576: true; the input reads as it did. -/
def ebstackWholeUptoRow : OpenClaim := { program := "ytgfeagggkplegaagreat", sum := "dbc2b8b9eb99eeeda124df725f424b10425c3fa56e574fcd52140ad677ff1791", func := "hatstand/hatstandlaw13.EbstackWhole", spec := "ebstackWhole", unfollowed := true, recurses := true, apart := false, narrowed := true }
def EbstackWholeUptoSaid : Prop := ebstackWholeUptoRow.holds Tryz.pinned (OpenSpec.upto ebstackWholeSpec)

/-- 'hatstandlaw21.BoundAlone', WHERE WHAT IT READS IS OF BULK AT MOST 1048576: true; the input reads as it did. -/
def boundAloneUptoRow : OpenClaim := { program := "ytgfeagggkplegaagreat", sum := "dbc2b8b9eb99eeeda124df725f424b10425c3fa56e574fcd52140ad677ff1791", func := "hatstand/hatstandlaw21.BoundAlone", spec := "boundAlone", unfollowed := true, recurses := true, apart := false, narrowed := true }
def BoundAloneUptoSaid : Prop := boundAloneUptoRow.holds Tryz.pinned (OpenSpec.upto boundAloneSpec)

/-- 'hatstandlaw21.BoundSteps', WHERE WHAT IT READS IS OF BULK AT MOST 1048576: true; the input reads as it did. -/
def boundStepsUptoRow : OpenClaim := { program := "ytgfeagggkplegaagreat", sum := "dbc2b8b9eb99eeeda124df725f424b10425c3fa56e574fcd52140ad677ff1791", func := "hatstand/hatstandlaw21.BoundSteps", spec := "boundSteps", unfollowed := true, recurses := true, apart := false, narrowed := true }
def BoundStepsUptoSaid : Prop := boundStepsUptoRow.holds Tryz.pinned (OpenSpec.upto boundStepsSpec)

/-- 'hatstandlaw13.EbstackWaits', WHERE WHAT IT READS IS OF BULK AT MOST 1048576: true; the input reads as it did. -/
def ebstackWaitsUptoRow : OpenClaim := { program := "ytgfeagggkplegaagreat", sum := "dbc2b8b9eb99eeeda124df725f424b10425c3fa56e574fcd52140ad677ff1791", func := "hatstand/hatstandlaw13.EbstackWaits", spec := "ebstackWaits", unfollowed := true, recurses := true, apart := false, narrowed := true }
def EbstackWaitsUptoSaid : Prop := ebstackWaitsUptoRow.holds Tryz.pinned (OpenSpec.upto ebstackWaitsSpec)

/-- 'hatstandlaw13.EbstackAlone', WHERE WHAT IT READS IS OF BULK AT MOST 1048576: true; the input reads as it did. -/
def ebstackAloneUptoRow : OpenClaim := { program := "ytgfeagggkplegaagreat", sum := "dbc2b8b9eb99eeeda124df725f424b10425c3fa56e574fcd52140ad677ff1791", func := "hatstand/hatstandlaw13.EbstackAlone", spec := "ebstackAlone", unfollowed := true, recurses := true, apart := false, narrowed := true }
def EbstackAloneUptoSaid : Prop := ebstackAloneUptoRow.holds Tryz.pinned (OpenSpec.upto ebstackAloneSpec)

end Rows
end Go.Proofs.YtgfeagggkplegaaGreat
