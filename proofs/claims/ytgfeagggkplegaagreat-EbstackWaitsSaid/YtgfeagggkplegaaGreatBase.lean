/-
  Small lemmas on worlds that the walks of this seat use.
-/
import Derived.WalkKit
import Derived.BigQuiet
import Derived.Deep.QuietTactic
import Derived.RowKit3
import Derived.Handy
import Derived.LoopN
import Derived.Lib.Hide
namespace Go.Proofs.YtgfeagggkplegaaGreat
open Go.RowKit
set_option linter.unusedVariables false
set_option linter.unusedSimpArgs false

theorem bl_refl (w : World) : Below w.heap.size w w := Below.refl _ _
theorem bl_alloc {w W : World} (h : Below w.heap.size w W) (o : Obj) : Below w.heap.size w (W.alloc o) := h.alloc h.size o
theorem bl_drew {w W : World} (h : Below w.heap.size w W) : Below w.heap.size w W.drew := h.drew
theorem bl_drewN {w W : World} (h : Below w.heap.size w W) (n : Nat) : Below w.heap.size w (W.drewN n) := ⟨h.os, h.tape, h.output, h.size, h.block⟩
theorem bl_set {w W : World} (h : Below w.heap.size w W) {p : Addr} (hp : w.heap.size ≤ p.block) (v : Value) : Below w.heap.size w (W.setCell p v) := h.setCell hp v
theorem bl_then {w W1 W2 : World} (h : Below w.heap.size w W1) (k : Below W1.heap.size W1 W2) : Below w.heap.size w W2 := h.trans (k.mono h.size)
/-- Behind a call that only makes memory: old cells, old marks, old blocks are there. -/
theorem bcell {W w1 : World} (hb : Below W.heap.size W w1) : (∀ b o, b < W.heap.size → w1.cell? ⟨b, o, none⟩ = W.cell? ⟨b, o, none⟩) ∧ (∀ b o, b < W.heap.size → w1.frozen? ⟨b, o, none⟩ = W.frozen? ⟨b, o, none⟩) :=
  ⟨fun b o h => hb.cell (p := ⟨b, o, none⟩) h, fun b o h => hb.frozen (p := ⟨b, o, none⟩) h⟩
theorem bsz {W w1 : World} (hb : Below W.heap.size W w1) {b : Nat} (h : b < W.heap.size) : b < w1.heap.size := Nat.lt_of_lt_of_le h hb.size
end Go.Proofs.YtgfeagggkplegaaGreat
