/-
  Rows that came in: whole numbers, bools.
-/
import Derived.Test.YtgfeagggkplegaaGreatOpen
import Derived.Test.YtgfeagggkplegaaGreatRow2
import Derived.Deep.Grids
namespace Go.Proofs.YtgfeagggkplegaaGreat
open Go.ChangeShapes Go.WideShapes Go.ChangeAt Go.RowKit Go.Joins
set_option linter.unusedVariables false
set_option linter.unusedSimpArgs false

/-- Whole numbers that came in, as a walk asks for them. -/
def RdI (w : World) (B : Option Addr) (zs : List Int) (m : Nat) : Prop := ∀ j, j < m → ∃ bd, B = some bd ∧ w.cell? (bd.add j) = some (.int .i64 (zs.getD j 0)) ∧ (Lit.int .i64 (zs.getD j 0)).wf = true
theorem IsRow.rdI {w : World} {B : Option Addr} {m d : Nat} {zs : List Int} (h : IsRow .i64 w B m d zs) : RdI w B zs m := by
  intro j hj
  rcases h with ⟨rfl, rfl, rfl, rfl⟩ | ⟨ad, rfl, hl, hm, hz, hc, hw⟩
  · omega
  · refine ⟨ad, rfl, hc j (by omega), hw _ ?_⟩
    have : j < zs.length := by omega
    simp only [List.getD_eq_getElem?_getD, List.getElem?_eq_getElem this, Option.getD_some]
    exact List.getElem_mem this
theorem IsRow.le {k : IntKind} {w : World} {B : Option Addr} {m d : Nat} {zs : List Int} (h : IsRow k w B m d zs) : m ≤ maxLen := by
  rcases h with ⟨rfl, rfl, rfl, rfl⟩ | ⟨ad, rfl, hl, hm, hz, hc, hw⟩
  · unfold maxLen; omega
  · omega
theorem RdI.kept {w w' : World} {B : Option Addr} {m : Nat} {zs : List Int} (h : RdI w B zs m) (hb : Below w.heap.size w w') : RdI w' B zs m := by
  intro j hj
  obtain ⟨bd, rfl, hc, hw⟩ := h j hj
  exact ⟨bd, rfl, (hb.cell (World.block_lt_of_cell? w _ hc)).trans hc, hw⟩
/-- Bools that came in. -/
def RdB (w : World) (B : Option Addr) (m : Nat) (F : Nat → Bool) : Prop := m ≤ maxLen ∧ ∀ j, j < m → ∃ bd, B = some bd ∧ w.cell? (bd.add j) = some (.bool (F j))
theorem RdB.kept {w w' : World} {B : Option Addr} {m : Nat} {F : Nat → Bool} (h : RdB w B m F) (hb : Below w.heap.size w w') : RdB w' B m F := by
  refine ⟨h.1, fun j hj => ?_⟩
  obtain ⟨bd, rfl, hc⟩ := h.2 j hj
  exact ⟨bd, rfl, (hb.cell (World.block_lt_of_cell? w _ hc)).trans hc⟩
section
variable {H : Type} {enc : TypeId × Value → H} {w : World} {base : Nat} {held : Bool}
theorem open_bls {fuel len cap : Nat} {A : Option Addr} {x : DataW H × List MemPlace} (h : DataW.trod enc Tryz.prog w base (fun _ => true) held fuel 65 [.slice A len cap] = some x) : ∃ F, RdB w A len F := by
 rcases Deep.open_bools Tryz.underlying65 Tryz.underlying4 (by kernel_rfl) h with ⟨hcs, _⟩ | ⟨ad, len', cap', F, hcs, _, hl, hm, _, hc⟩
 · simp at hcs
   obtain ⟨rfl, rfl, rfl⟩ := hcs
   exact ⟨fun _ => false, by unfold maxLen; omega, fun j hj => by omega⟩
 · simp at hcs
   obtain ⟨rfl, rfl, rfl⟩ := hcs
   exact ⟨F, by omega, fun j hj => ⟨ad, rfl, hc j (by omega)⟩⟩
end
end Go.Proofs.YtgfeagggkplegaaGreat
