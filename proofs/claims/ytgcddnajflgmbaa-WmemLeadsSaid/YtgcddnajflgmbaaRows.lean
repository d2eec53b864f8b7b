/-
  No cell of these rows narrows 'for every input' (looked for: loops, veiled, ifaces, maps, wideKeys, modest, calm, conditions, laid).
  DERIVED. THE GIVEN ROWS OF THIS SEAT. 6 by the template 'for every input the law returns true; each argument reads behind the call as it read before'; 0 by the template 'total and deterministic' (their statements: YtgcddnajflgmbaaTotals.lean).
  GIVEN WITH THE SEED: the statements are not yours to turn. If you find one false, say at which input.
  Laid BY PROGRAM, IN A SANDBOX (cutbox-rows.mjs): the forced cells as the released guide's own fill.sh prints them over the translation b41e5f168242b071… (all of the seat's roots in one cut). By AI agents, Wed Nov 11 2026. No macro, syntax, notation, axiom, sorry.
-/
import Derived.Test.YtgcddnajflgmbaaChecked
import GoSem.Claim
import GoSem.ClaimJoined
import GoSem.ClaimMapViews
import Derived.JoinedTies
import Derived.KernelRfl
namespace Go.Proofs.Ytgcddnajflgmbaa
/- THE CELL 'sum', in the pinned program and in every row, IS THE sha256 OF THE DUMP (.gsa) THAT YtgcddnajflgmbaaProg.lean LOADS. Nothing in Lean hashes anything: it is a label: what it is worth is what the hold of that sum in a sandbox is worth. -/
noncomputable def Try.pinned : Pinned := { name := "ytgcddnajflgmbaa", sum := "b41e5f168242b07125f02812cca69a7157840ea6b3217709ba65b018b9da796e", checked := Try.checked }
namespace Rows
def none {H : Type} : Left H := { results := [], args := [] }

/-- 'hatstandlaw2.WmemSwaps': WHATEVER THE INPUT: true; the input reads as it did. -/
def wmemSwapsSpec : ChangeSpec := { name := "wmemSwaps", fn := fun _ => fun
  | [d1, d2, d3, d4] => { results := [.lit (.bool true)], args := [d1, d2, d3, d4] }
  | _ => none }
def wmemSwapsRow : OpenClaim := { program := "ytgcddnajflgmbaa", sum := "b41e5f168242b07125f02812cca69a7157840ea6b3217709ba65b018b9da796e", func := "hatstand/hatstandlaw2.WmemSwaps", spec := "wmemSwaps", apart := false }
def WmemSwapsSaid : Prop := wmemSwapsRow.holds Try.pinned (OpenSpec.ofChange wmemSwapsSpec)

/-- ITS FALSE NEIGHBOUR: 'it returns false'. Refute it at one input. -/
def wmemSwapsWrong : ChangeSpec := { name := "wmemSwaps", fn := fun _ => fun
  | [d1, d2, d3, d4] => { results := [.lit (.bool false)], args := [d1, d2, d3, d4] }
  | _ => none }
def WmemSwapsWrongFalsely : Prop := wmemSwapsRow.holds Try.pinned (OpenSpec.ofChange wmemSwapsWrong)

/-- 'hatstandlaw2.WmemReads': WHATEVER THE INPUT: true; the input reads as it did. -/
def wmemReadsSpec : ChangeSpec := { name := "wmemReads", fn := fun _ => fun
  | [d1, d2, d3] => { results := [.lit (.bool true)], args := [d1, d2, d3] }
  | _ => none }
def wmemReadsRow : OpenClaim := { program := "ytgcddnajflgmbaa", sum := "b41e5f168242b07125f02812cca69a7157840ea6b3217709ba65b018b9da796e", func := "hatstand/hatstandlaw2.WmemReads", spec := "wmemReads", apart := false }
def WmemReadsSaid : Prop := wmemReadsRow.holds Try.pinned (OpenSpec.ofChange wmemReadsSpec)

/-- ITS FALSE NEIGHBOUR: 'it returns false'. Refute it at one input. -/
def wmemReadsWrong : ChangeSpec := { name := "wmemReads", fn := fun _ => fun
  | [d1, d2, d3] => { results := [.lit (.bool false)], args := [d1, d2, d3] }
  | _ => none }
def WmemReadsWrongFalsely : Prop := wmemReadsRow.holds Try.pinned (OpenSpec.ofChange wmemReadsWrong)

/-- 'hatstandlaw2.WmemApart': WHATEVER THE INPUT: true; the input reads as it did. -/
def wmemApartSpec : ChangeSpec := { name := "wmemApart", fn := fun _ => fun
  | [d1, d2, d3, d4] => { results := [.lit (.bool true)], args := [d1, d2, d3, d4] }
  | _ => none }
def wmemApartRow : OpenClaim := { program := "ytgcddnajflgmbaa", sum := "b41e5f168242b07125f02812cca69a7157840ea6b3217709ba65b018b9da796e", func := "hatstand/hatstandlaw2.WmemApart", spec := "wmemApart", apart := false }
def WmemApartSaid : Prop := wmemApartRow.holds Try.pinned (OpenSpec.ofChange wmemApartSpec)

/-- ITS FALSE NEIGHBOUR: 'it returns false'. Refute it at one input. -/
def wmemApartWrong : ChangeSpec := { name := "wmemApart", fn := fun _ => fun
  | [d1, d2, d3, d4] => { results := [.lit (.bool false)], args := [d1, d2, d3, d4] }
  | _ => none }
def WmemApartWrongFalsely : Prop := wmemApartRow.holds Try.pinned (OpenSpec.ofChange wmemApartWrong)

/-- 'hatstandlaw2.WmemCuts': WHATEVER THE INPUT: true; the input reads as it did. -/
def wmemCutsSpec : ChangeSpec := { name := "wmemCuts", fn := fun _ => fun
  | [d1, d2, d3] => { results := [.lit (.bool true)], args := [d1, d2, d3] }
  | _ => none }
def wmemCutsRow : OpenClaim := { program := "ytgcddnajflgmbaa", sum := "b41e5f168242b07125f02812cca69a7157840ea6b3217709ba65b018b9da796e", func := "hatstand/hatstandlaw2.WmemCuts", spec := "wmemCuts", apart := false }
def WmemCutsSaid : Prop := wmemCutsRow.holds Try.pinned (OpenSpec.ofChange wmemCutsSpec)

/-- ITS FALSE NEIGHBOUR: 'it returns false'. Refute it at one input. -/
def wmemCutsWrong : ChangeSpec := { name := "wmemCuts", fn := fun _ => fun
  | [d1, d2, d3] => { results := [.lit (.bool false)], args := [d1, d2, d3] }
  | _ => none }
def WmemCutsWrongFalsely : Prop := wmemCutsRow.holds Try.pinned (OpenSpec.ofChange wmemCutsWrong)

/-- 'hatstandlaw2.WmemLeads': WHATEVER THE INPUT: true; the input reads as it did. -/
def wmemLeadsSpec : ChangeSpec := { name := "wmemLeads", fn := fun _ => fun
  | [d1, d2] => { results := [.lit (.bool true)], args := [d1, d2] }
  | _ => none }
def wmemLeadsRow : OpenClaim := { program := "ytgcddnajflgmbaa", sum := "b41e5f168242b07125f02812cca69a7157840ea6b3217709ba65b018b9da796e", func := "hatstand/hatstandlaw2.WmemLeads", spec := "wmemLeads", apart := false }
def WmemLeadsSaid : Prop := wmemLeadsRow.holds Try.pinned (OpenSpec.ofChange wmemLeadsSpec)

/-- ITS FALSE NEIGHBOUR: 'it returns false'. Refute it at one input. -/
def wmemLeadsWrong : ChangeSpec := { name := "wmemLeads", fn := fun _ => fun
  | [d1, d2] => { results := [.lit (.bool false)], args := [d1, d2] }
  | _ => none }
def WmemLeadsWrongFalsely : Prop := wmemLeadsRow.holds Try.pinned (OpenSpec.ofChange wmemLeadsWrong)

/-- 'hatstandlaw2.WmemPlays': WHATEVER THE INPUT: true; the input reads as it did. -/
def wmemPlaysSpec : ChangeSpec := { name := "wmemPlays", fn := fun _ => fun
  | [d1, d2, d3] => { results := [.lit (.bool true)], args := [d1, d2, d3] }
  | _ => none }
def wmemPlaysRow : OpenClaim := { program := "ytgcddnajflgmbaa", sum := "b41e5f168242b07125f02812cca69a7157840ea6b3217709ba65b018b9da796e", func := "hatstand/hatstandlaw2.WmemPlays", spec := "wmemPlays", apart := false }
def WmemPlaysSaid : Prop := wmemPlaysRow.holds Try.pinned (OpenSpec.ofChange wmemPlaysSpec)

/-- ITS FALSE NEIGHBOUR: 'it returns false'. Refute it at one input. -/
def wmemPlaysWrong : ChangeSpec := { name := "wmemPlays", fn := fun _ => fun
  | [d1, d2, d3] => { results := [.lit (.bool false)], args := [d1, d2, d3] }
  | _ => none }
def WmemPlaysWrongFalsely : Prop := wmemPlaysRow.holds Try.pinned (OpenSpec.ofChange wmemPlaysWrong)

/- THE SECOND FORM. 'bulk': how many values and letters a reading holds, each counted each time it is reached (what is shared counts as often as it is met; a slice's spare places count too). A statement '..UptoSaid' is the law's where the arguments, and the package variables that the reading takes, are together of bulk at most 1048576: NARROWER than '..Said'. Prove '..Said' where nothing that the law and all that it calls make is longer than what came in: it says more and counts as full. Else prove '..UptoSaid'. A law counts once. -/
mutual
def uptoBulk {H : Type} : DataW H → Nat
  | .lit (.string bytes) => bytes.length + 1
  | .lit _ => 1
  | .nil => 1
  | .ptr d => uptoBulk d + 1
  | .slice elems spare => uptoBulkAll elems + uptoBulkAll spare + 1
  | .agg parts => uptoBulkAll parts + 1
  | .iface _ d => uptoBulk d + 1
  | .map entries => uptoBulkEntries entries + 1
  | .held _ => 1
def uptoBulkAll {H : Type} : List (DataW H) → Nat
  | [] => 0
  | d :: r => uptoBulk d + uptoBulkAll r
def uptoBulkEntries {H : Type} : List (Lit × DataW H) → Nat
  | [] => 0
  | x :: r => uptoBulkEntry x + uptoBulkEntries r
def uptoBulkEntry {H : Type} : Lit × DataW H → Nat
  | (.string bytes, d) => bytes.length + uptoBulk d + 1
  | (_, d) => uptoBulk d + 1
 end
def uptoSmall : (H : Type) → List (DataW H) → Bool := fun _ ds => decide (uptoBulkAll ds ≤ 1048576)
def OpenSpec.upto (s : _root_.Go.ChangeSpec) : _root_.Go.OpenSpec := { _root_.Go.OpenSpec.ofChange s with cond := some uptoSmall }

/-- 'hatstandlaw2.WmemSwaps', WHERE WHAT IT READS IS OF BULK AT MOST 1048576: true; the input reads as it did. -/
def wmemSwapsUptoRow : OpenClaim := { program := "ytgcddnajflgmbaa", sum := "b41e5f168242b07125f02812cca69a7157840ea6b3217709ba65b018b9da796e", func := "hatstand/hatstandlaw2.WmemSwaps", spec := "wmemSwaps", apart := false, narrowed := true }
def WmemSwapsUptoSaid : Prop := wmemSwapsUptoRow.holds Try.pinned (OpenSpec.upto wmemSwapsSpec)

/-- 'hatstandlaw2.WmemReads', WHERE WHAT IT READS IS OF BULK AT MOST 1048576: true; the input reads as it did. -/
def wmemReadsUptoRow : OpenClaim := { program := "ytgcddnajflgmbaa", sum := "b41e5f168242b07125f02812cca69a7157840ea6b3217709ba65b018b9da796e", func := "hatstand/hatstandlaw2.WmemReads", spec := "wmemReads", apart := false, narrowed := true }
def WmemReadsUptoSaid : Prop := wmemReadsUptoRow.holds Try.pinned (OpenSpec.upto wmemReadsSpec)

/-- 'hatstandlaw2.WmemApart', WHERE WHAT IT READS IS OF BULK AT MOST 1048576: true; the input reads as it did. -/
def wmemApartUptoRow : OpenClaim := { program := "ytgcddnajflgmbaa", sum := "b41e5f168242b07125f02812cca69a7157840ea6b3217709ba65b018b9da796e", func := "hatstand/hatstandlaw2.WmemApart", spec := "wmemApart", apart := false, narrowed := true }
def WmemApartUptoSaid : Prop := wmemApartUptoRow.holds Try.pinned (OpenSpec.upto wmemApartSpec)

/-- 'hatstandlaw2.WmemCuts', WHERE WHAT IT READS IS OF BULK AT MOST 1048576: true; the input reads as it did. -/
def wmemCutsUptoRow : OpenClaim := { program := "ytgcddnajflgmbaa", sum := "b41e5f168242b07125f02812cca69a7157840ea6b3217709ba65b018b9da796e", func := "hatstand/hatstandlaw2.WmemCuts", spec := "wmemCuts", apart := false, narrowed := true }
def WmemCutsUptoSaid : Prop := wmemCutsUptoRow.holds Try.pinned (OpenSpec.upto wmemCutsSpec)

/-- 'hatstandlaw2.WmemLeads', WHERE WHAT IT READS IS OF BULK AT MOST 1048576: true; the input reads as it did. -/
def wmemLeadsUptoRow : OpenClaim := { program := "ytgcddnajflgmbaa", sum := "b41e5f168242b07125f02812cca69a7157840ea6b3217709ba65b018b9da796e", func := "hatstand/hatstandlaw2.WmemLeads", spec := "wmemLeads", apart := false, narrowed := true }
def WmemLeadsUptoSaid : Prop := wmemLeadsUptoRow.holds Try.pinned (OpenSpec.upto wmemLeadsSpec)

/-- 'hatstandlaw2.WmemPlays', WHERE WHAT IT READS IS OF BULK AT MOST 1048576: true; the input reads as it did. -/
def wmemPlaysUptoRow : OpenClaim := { program := "ytgcddnajflgmbaa", sum := "b41e5f168242b07125f02812cca69a7157840ea6b3217709ba65b018b9da796e", func := "hatstand/hatstandlaw2.WmemPlays", spec := "wmemPlays", apart := false, narrowed := true }
def WmemPlaysUptoSaid : Prop := wmemPlaysUptoRow.holds Try.pinned (OpenSpec.upto wmemPlaysSpec)

end Rows
end Go.Proofs.Ytgcddnajflgmbaa
