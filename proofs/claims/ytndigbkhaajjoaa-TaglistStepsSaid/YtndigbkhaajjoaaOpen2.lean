/-
  Rows that came in: whole numbers, bools.
-/
import Derived.Test.YtndigbkhaajjoaaOpen
import Derived.Test.YtndigbkhaajjoaaRow2
import Derived.Deep.Grids
namespace Go.Proofs.Ytndigbkhaajjoaa
open Go.ChangeShapes Go.WideShapes Go.ChangeAt Go.RowKit Go.Joins
set_option linter.unusedVariables false
set_option linter.unusedSimpArgs false

/-- Whole numbers that came in, as a walk asks for them. -/
def RdI (w : World) (B : Option Addr) (zs : List Int) (m : Nat) : Prop := ∀ j, j < m → ∃ bd, B = some bd ∧ w.cell? (bd.add j) = some (.int .i64 (zs.getD j 0)) ∧ (Lit.int .i64 (zs.getD j 0)).wf = true
theorem IsRow.rdI {w : World} {B : Option Addr} {m d : Nat} {zs : List Int} (h : IsRow .i64 w B m d zs) : RdI w B zs m := by
  intro j hj
  rcases h with ⟨rfl, rfl, rfl, rfl⟩ | ⟨ad, rfl, hl, hm, hz, hc, hw⟩
  · omega
  · refine ⟨ad, rfl, hc j (by omega), hw _ ?_⟩
    have : j < zs.length := by omega
    simp only [List.getD_eq_getElem?_getD, List.getElem?_eq_getElem this, Option.getD_some]
    exact List.getElem_mem this
theorem IsRow.le {k : IntKind} {w : World} {B : Option Addr} {m d : Nat} {zs : List Int} (h : IsRow k w B m d zs) : m ≤ maxLen := by
  rcases h with ⟨rfl, rfl, rfl, rfl⟩ | ⟨ad, rfl, hl, hm, hz, hc, hw⟩
  · unfold maxLen; omega
  · omega
theorem RdI.kept {w w' : World} {B : Option Addr} {m : Nat} {zs : List Int} (h : RdI w B zs m) (hb : Below w.heap.size w w') : RdI w' B zs m := by
  intro j hj
  obtain ⟨bd, rfl, hc, hw⟩ := h j hj
  exact ⟨bd, rfl, (hb.cell (World.block_lt_of_cell? w _ hc)).trans hc, hw⟩
/-- Bools that came in. -/
def RdB (w : World) (B : Option Addr) (m : Nat) (F : Nat → Bool) : Prop := m ≤ maxLen ∧ ∀ j, j < m → ∃ bd, B = some bd ∧ w.cell? (bd.add j) = some (.bool (F j))
theorem RdB.kept {w w' : World} {B : Option Addr} {m : Nat} {F : Nat → Bool} (h : RdB w B m F) (hb : Below w.heap.size w w') : RdB w' B m F := by
  refine ⟨h.1, fun j hj => ?_⟩
  obtain ⟨bd, rfl, hc⟩ := h.2 j hj
  exact ⟨bd, rfl, (hb.cell (World.block_lt_of_cell? w _ hc)).trans hc⟩
section
variable {H : Type} {enc : TypeId × Value → H} {w : World} {base : Nat} {held : Bool}
end
end Go.Proofs.Ytndigbkhaajjoaa
