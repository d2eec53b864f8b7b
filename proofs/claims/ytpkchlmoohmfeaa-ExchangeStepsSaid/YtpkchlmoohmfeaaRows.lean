/-
  No cell of these rows narrows 'for every input' (looked for: loops, veiled, ifaces, maps, wideKeys, modest, calm, conditions, laid).
  DERIVED. THE GIVEN ROWS OF THIS SEAT. 7 by the template 'for every input the law returns true; each argument reads behind the call as it read before'; 0 by the template 'total and deterministic' (their statements: YtpkchlmoohmfeaaTotals.lean).
  GIVEN WITH THE SEED: the statements are not yours to turn. If you find one false, say at which input.
  Laid BY PROGRAM, IN A SANDBOX (cutbox-rows.mjs): the forced cells as the released guide's own fill.sh prints them over the translation acf4b9a83f1ca29d… (all of the seat's roots in one cut). By AI agents, Wed Nov 11 2026. No macro, syntax, notation, axiom, sorry.
-/
import Derived.Test.YtpkchlmoohmfeaaChecked
import GoSem.Claim
import GoSem.ClaimJoined
import GoSem.ClaimMapViews
import Derived.JoinedTies
import Derived.KernelRfl
namespace Go.Proofs.Ytpkchlmoohmfeaa
/- THE CELL 'sum', in the pinned program and in every row, IS THE sha256 OF THE DUMP (.gsa) THAT YtpkchlmoohmfeaaProg.lean LOADS. Nothing in Lean hashes anything: it is a label: what it is worth is what the hold of that sum in a sandbox is worth. -/
noncomputable def Try.pinned : Pinned := { name := "ytpkchlmoohmfeaa", sum := "acf4b9a83f1ca29dec8fbd69e50df4b93f50e31e2135e5b16e732aa35ae13a39", checked := Try.checked }
namespace Rows
def none {H : Type} : Left H := { results := [], args := [] }

/-- 'hatstandlaw10.ExchangeMeets': WHATEVER THE INPUT: true; the input reads as it did. -/
def exchangeMeetsSpec : ChangeSpec := { name := "exchangeMeets", fn := fun _ => fun
  | [d1, d2, d3, d4] => { results := [.lit (.bool true)], args := [d1, d2, d3, d4] }
  | _ => none }
def exchangeMeetsRow : OpenClaim := { program := "ytpkchlmoohmfeaa", sum := "acf4b9a83f1ca29dec8fbd69e50df4b93f50e31e2135e5b16e732aa35ae13a39", func := "hatstand/hatstandlaw10.ExchangeMeets", spec := "exchangeMeets", unfollowed := true, recurses := true, apart := false }
def ExchangeMeetsSaid : Prop := exchangeMeetsRow.holds Try.pinned (OpenSpec.ofChange exchangeMeetsSpec)

/-- ITS FALSE NEIGHBOUR: 'it returns false'. Refute it at one input. -/
def exchangeMeetsWrong : ChangeSpec := { name := "exchangeMeets", fn := fun _ => fun
  | [d1, d2, d3, d4] => { results := [.lit (.bool false)], args := [d1, d2, d3, d4] }
  | _ => none }
def ExchangeMeetsWrongFalsely : Prop := exchangeMeetsRow.holds Try.pinned (OpenSpec.ofChange exchangeMeetsWrong)

/-- 'hatstandlaw10.ExchangeShort': WHATEVER THE INPUT: true; the input reads as it did. -/
def exchangeShortSpec : ChangeSpec := { name := "exchangeShort", fn := fun _ => fun
  | [d1, d2, d3] => { results := [.lit (.bool true)], args := [d1, d2, d3] }
  | _ => none }
def exchangeShortRow : OpenClaim := { program := "ytpkchlmoohmfeaa", sum := "acf4b9a83f1ca29dec8fbd69e50df4b93f50e31e2135e5b16e732aa35ae13a39", func := "hatstand/hatstandlaw10.ExchangeShort", spec := "exchangeShort", unfollowed := true, recurses := true, apart := false }
def ExchangeShortSaid : Prop := exchangeShortRow.holds Try.pinned (OpenSpec.ofChange exchangeShortSpec)

/-- ITS FALSE NEIGHBOUR: 'it returns false'. Refute it at one input. -/
def exchangeShortWrong : ChangeSpec := { name := "exchangeShort", fn := fun _ => fun
  | [d1, d2, d3] => { results := [.lit (.bool false)], args := [d1, d2, d3] }
  | _ => none }
def ExchangeShortWrongFalsely : Prop := exchangeShortRow.holds Try.pinned (OpenSpec.ofChange exchangeShortWrong)

/-- 'hatstandlaw10.ExchangeTwo': WHATEVER THE INPUT: true; the input reads as it did. -/
def exchangeTwoSpec : ChangeSpec := { name := "exchangeTwo", fn := fun _ => fun
  | [d1, d2, d3, d4] => { results := [.lit (.bool true)], args := [d1, d2, d3, d4] }
  | _ => none }
def exchangeTwoRow : OpenClaim := { program := "ytpkchlmoohmfeaa", sum := "acf4b9a83f1ca29dec8fbd69e50df4b93f50e31e2135e5b16e732aa35ae13a39", func := "hatstand/hatstandlaw10.ExchangeTwo", spec := "exchangeTwo", unfollowed := true, recurses := true, apart := false }
def ExchangeTwoSaid : Prop := exchangeTwoRow.holds Try.pinned (OpenSpec.ofChange exchangeTwoSpec)

/-- ITS FALSE NEIGHBOUR: 'it returns false'. Refute it at one input. -/
def exchangeTwoWrong : ChangeSpec := { name := "exchangeTwo", fn := fun _ => fun
  | [d1, d2, d3, d4] => { results := [.lit (.bool false)], args := [d1, d2, d3, d4] }
  | _ => none }
def ExchangeTwoWrongFalsely : Prop := exchangeTwoRow.holds Try.pinned (OpenSpec.ofChange exchangeTwoWrong)

/-- 'hatstandlaw10.ExchangeSteps': WHATEVER THE INPUT: true; the input reads as it did. -/
def exchangeStepsSpec : ChangeSpec := { name := "exchangeSteps", fn := fun _ => fun
  | [d1, d2, d3] => { results := [.lit (.bool true)], args := [d1, d2, d3] }
  | _ => none }
def exchangeStepsRow : OpenClaim := { program := "ytpkchlmoohmfeaa", sum := "acf4b9a83f1ca29dec8fbd69e50df4b93f50e31e2135e5b16e732aa35ae13a39", func := "hatstand/hatstandlaw10.ExchangeSteps", spec := "exchangeSteps", unfollowed := true, recurses := true, apart := false }
def ExchangeStepsSaid : Prop := exchangeStepsRow.holds Try.pinned (OpenSpec.ofChange exchangeStepsSpec)

/-- ITS FALSE NEIGHBOUR: 'it returns false'. Refute it at one input. -/
def exchangeStepsWrong : ChangeSpec := { name := "exchangeSteps", fn := fun _ => fun
  | [d1, d2, d3] => { results := [.lit (.bool false)], args := [d1, d2, d3] }
  | _ => none }
def ExchangeStepsWrongFalsely : Prop := exchangeStepsRow.holds Try.pinned (OpenSpec.ofChange exchangeStepsWrong)

/-- 'hatstandlaw10.ExchangeAlone': WHATEVER THE INPUT: true; the input reads as it did. -/
def exchangeAloneSpec : ChangeSpec := { name := "exchangeAlone", fn := fun _ => fun
  | [d1, d2, d3, d4] => { results := [.lit (.bool true)], args := [d1, d2, d3, d4] }
  | _ => none }
def exchangeAloneRow : OpenClaim := { program := "ytpkchlmoohmfeaa", sum := "acf4b9a83f1ca29dec8fbd69e50df4b93f50e31e2135e5b16e732aa35ae13a39", func := "hatstand/hatstandlaw10.ExchangeAlone", spec := "exchangeAlone", unfollowed := true, recurses := true, apart := false }
def ExchangeAloneSaid : Prop := exchangeAloneRow.holds Try.pinned (OpenSpec.ofChange exchangeAloneSpec)

/-- ITS FALSE NEIGHBOUR: 'it returns false'. Refute it at one input. -/
def exchangeAloneWrong : ChangeSpec := { name := "exchangeAlone", fn := fun _ => fun
  | [d1, d2, d3, d4] => { results := [.lit (.bool false)], args := [d1, d2, d3, d4] }
  | _ => none }
def ExchangeAloneWrongFalsely : Prop := exchangeAloneRow.holds Try.pinned (OpenSpec.ofChange exchangeAloneWrong)

/-- 'hatstandlaw10.ExchangeBusy': WHATEVER THE INPUT: true; the input reads as it did. -/
def exchangeBusySpec : ChangeSpec := { name := "exchangeBusy", fn := fun _ => fun
  | [d1, d2, d3, d4, d5] => { results := [.lit (.bool true)], args := [d1, d2, d3, d4, d5] }
  | _ => none }
def exchangeBusyRow : OpenClaim := { program := "ytpkchlmoohmfeaa", sum := "acf4b9a83f1ca29dec8fbd69e50df4b93f50e31e2135e5b16e732aa35ae13a39", func := "hatstand/hatstandlaw10.ExchangeBusy", spec := "exchangeBusy", unfollowed := true, recurses := true, apart := false }
def ExchangeBusySaid : Prop := exchangeBusyRow.holds Try.pinned (OpenSpec.ofChange exchangeBusySpec)

/-- ITS FALSE NEIGHBOUR: 'it returns false'. Refute it at one input. -/
def exchangeBusyWrong : ChangeSpec := { name := "exchangeBusy", fn := fun _ => fun
  | [d1, d2, d3, d4, d5] => { results := [.lit (.bool false)], args := [d1, d2, d3, d4, d5] }
  | _ => none }
def ExchangeBusyWrongFalsely : Prop := exchangeBusyRow.holds Try.pinned (OpenSpec.ofChange exchangeBusyWrong)

/-- 'hatstandlaw10.ExchangeLate': WHATEVER THE INPUT: true; the input reads as it did. -/
def exchangeLateSpec : ChangeSpec := { name := "exchangeLate", fn := fun _ => fun
  | [d1, d2, d3, d4] => { results := [.lit (.bool true)], args := [d1, d2, d3, d4] }
  | _ => none }
def exchangeLateRow : OpenClaim := { program := "ytpkchlmoohmfeaa", sum := "acf4b9a83f1ca29dec8fbd69e50df4b93f50e31e2135e5b16e732aa35ae13a39", func := "hatstand/hatstandlaw10.ExchangeLate", spec := "exchangeLate", unfollowed := true, recurses := true, apart := false }
def ExchangeLateSaid : Prop := exchangeLateRow.holds Try.pinned (OpenSpec.ofChange exchangeLateSpec)

/-- ITS FALSE NEIGHBOUR: 'it returns false'. Refute it at one input. -/
def exchangeLateWrong : ChangeSpec := { name := "exchangeLate", fn := fun _ => fun
  | [d1, d2, d3, d4] => { results := [.lit (.bool false)], args := [d1, d2, d3, d4] }
  | _ => none }
def ExchangeLateWrongFalsely : Prop := exchangeLateRow.holds Try.pinned (OpenSpec.ofChange exchangeLateWrong)

/- THE SECOND FORM. 'bulk': how many values and letters a reading holds, each counted each time it is reached (what is shared counts as often as it is met; a slice's spare places count too). A statement '..UptoSaid' is the law's where the arguments, and the package variables that the reading takes, are together of bulk at most 1048576: NARROWER than '..Said'. Prove '..Said' where nothing that the law and all that it calls make is longer than what came in: it says more and counts as full. Else prove '..UptoSaid'. A law counts once. -/
mutual
def uptoBulk {H : Type} : DataW H → Nat
  | .lit (.string bytes) => bytes.length + 1
  | .lit _ => 1
  | .nil => 1
  | .ptr d => uptoBulk d + 1
  | .slice elems spare => uptoBulkAll elems + uptoBulkAll spare + 1
  | .agg parts => uptoBulkAll parts + 1
  | .iface _ d => uptoBulk d + 1
  | .map entries => uptoBulkEntries entries + 1
  | .held _ => 1
def uptoBulkAll {H : Type} : List (DataW H) → Nat
  | [] => 0
  | d :: r => uptoBulk d + uptoBulkAll r
def uptoBulkEntries {H : Type} : List (Lit × DataW H) → Nat
  | [] => 0
  | x :: r => uptoBulkEntry x + uptoBulkEntries r
def uptoBulkEntry {H : Type} : Lit × DataW H → Nat
  | (.string bytes, d) => bytes.length + uptoBulk d + 1
  | (_, d) => uptoBulk d + 1
 end
def uptoSmall : (H : Type) → List (DataW H) → Bool := fun _ ds => decide (uptoBulkAll ds ≤ 1048576)
def OpenSpec.upto (s : _root_.Go.ChangeSpec) : _root_.Go.OpenSpec := { _root_.Go.OpenSpec.ofChange s with cond := some uptoSmall }

/-- 'hatstandlaw10.ExchangeMeets', WHERE WHAT IT READS IS OF BULK AT MOST 1048576: true; the input reads as it did. -/
def exchangeMeetsUptoRow : OpenClaim := { program := "ytpkchlmoohmfeaa", sum := "acf4b9a83f1ca29dec8fbd69e50df4b93f50e31e2135e5b16e732aa35ae13a39", func := "hatstand/hatstandlaw10.ExchangeMeets", spec := "exchangeMeets", unfollowed := true, recurses := true, apart := false, narrowed := true }
def ExchangeMeetsUptoSaid : Prop := exchangeMeetsUptoRow.holds Try.pinned (OpenSpec.upto exchangeMeetsSpec)

/-- 'hatstandlaw10.ExchangeShort', WHERE WHAT IT READS IS OF BULK AT MOST 1048576: true; the input reads as it did. -/
def exchangeShortUptoRow : OpenClaim := { program := "ytpkchlmoohmfeaa", sum := "acf4b9a83f1ca29dec8fbd69e50df4b93f50e31e2135e5b16e732aa35ae13a39", func := "hatstand/hatstandlaw10.ExchangeShort", spec := "exchangeShort", unfollowed := true, recurses := true, apart := false, narrowed := true }
def ExchangeShortUptoSaid : Prop := exchangeShortUptoRow.holds Try.pinned (OpenSpec.upto exchangeShortSpec)

/-- 'hatstandlaw10.ExchangeTwo', WHERE WHAT IT READS IS OF BULK AT MOST 1048576: true; the input reads as it did. -/
def exchangeTwoUptoRow : OpenClaim := { program := "ytpkchlmoohmfeaa", sum := "acf4b9a83f1ca29dec8fbd69e50df4b93f50e31e2135e5b16e732aa35ae13a39", func := "hatstand/hatstandlaw10.ExchangeTwo", spec := "exchangeTwo", unfollowed := true, recurses := true, apart := false, narrowed := true }
def ExchangeTwoUptoSaid : Prop := exchangeTwoUptoRow.holds Try.pinned (OpenSpec.upto exchangeTwoSpec)

/-- 'hatstandlaw10.ExchangeSteps', WHERE WHAT IT READS IS OF BULK AT MOST 1048576: true; the input reads as it did. -/
def exchangeStepsUptoRow : OpenClaim := { program := "ytpkchlmoohmfeaa", sum := "acf4b9a83f1ca29dec8fbd69e50df4b93f50e31e2135e5b16e732aa35ae13a39", func := "hatstand/hatstandlaw10.ExchangeSteps", spec := "exchangeSteps", unfollowed := true, recurses := true, apart := false, narrowed := true }
def ExchangeStepsUptoSaid : Prop := exchangeStepsUptoRow.holds Try.pinned (OpenSpec.upto exchangeStepsSpec)

/-- 'hatstandlaw10.ExchangeAlone', WHERE WHAT IT READS IS OF BULK AT MOST 1048576: true; the input reads as it did. -/
def exchangeAloneUptoRow : OpenClaim := { program := "ytpkchlmoohmfeaa", sum := "acf4b9a83f1ca29dec8fbd69e50df4b93f50e31e2135e5b16e732aa35ae13a39", func := "hatstand/hatstandlaw10.ExchangeAlone", spec := "exchangeAlone", unfollowed := true, recurses := true, apart := false, narrowed := true }
def ExchangeAloneUptoSaid : Prop := exchangeAloneUptoRow.holds Try.pinned (OpenSpec.upto exchangeAloneSpec)

/-- 'hatstandlaw10.ExchangeBusy', WHERE WHAT IT READS IS OF BULK AT MOST 1048576: true; the input reads as it did. -/
def exchangeBusyUptoRow : OpenClaim := { program := "ytpkchlmoohmfeaa", sum := "acf4b9a83f1ca29dec8fbd69e50df4b93f50e31e2135e5b16e732aa35ae13a39", func := "hatstand/hatstandlaw10.ExchangeBusy", spec := "exchangeBusy", unfollowed := true, recurses := true, apart := false, narrowed := true }
def ExchangeBusyUptoSaid : Prop := exchangeBusyUptoRow.holds Try.pinned (OpenSpec.upto exchangeBusySpec)

/-- 'hatstandlaw10.ExchangeLate', WHERE WHAT IT READS IS OF BULK AT MOST 1048576: true; the input reads as it did. -/
def exchangeLateUptoRow : OpenClaim := { program := "ytpkchlmoohmfeaa", sum := "acf4b9a83f1ca29dec8fbd69e50df4b93f50e31e2135e5b16e732aa35ae13a39", func := "hatstand/hatstandlaw10.ExchangeLate", spec := "exchangeLate", unfollowed := true, recurses := true, apart := false, narrowed := true }
def ExchangeLateUptoSaid : Prop := exchangeLateUptoRow.holds Try.pinned (OpenSpec.upto exchangeLateSpec)

end Rows
end Go.Proofs.Ytpkchlmoohmfeaa
