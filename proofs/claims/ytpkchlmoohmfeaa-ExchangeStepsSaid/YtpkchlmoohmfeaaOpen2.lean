/-
  Rows that came in: whole numbers, bools.
-/
import Derived.Test.YtpkchlmoohmfeaaOpen
import Derived.Test.YtpkchlmoohmfeaaRow
import Derived.Deep.Grids
namespace Go.Proofs.Ytpkchlmoohmfeaa
open Go.ChangeShapes Go.WideShapes Go.ChangeAt Go.RowKit Go.Joins
set_option linter.unusedVariables false
set_option linter.unusedSimpArgs false

/-- Whole numbers that came in, as a walk asks for them. -/
def RdI (w : World) (B : Option Addr) (zs : List Int) (m : Nat) : Prop := ∀ j, j < m → ∃ bd, B = some bd ∧ w.cell? (bd.add j) = some (.int .i64 (zs.getD j 0)) ∧ (Lit.int .i64 (zs.getD j 0)).wf = true
theorem IsRow.rdI {w : World} {B : Option Addr} {m d : Nat} {zs : List Int} (h : IsRow .i64 w B m d zs) : RdI w B zs m := by
  intro j hj
  rcases h with ⟨rfl, rfl, rfl, rfl⟩ | ⟨ad, rfl, hl, hm, hz, hc, hw⟩
  · omega
  · refine ⟨ad, rfl, hc j (by omega), hw _ ?_⟩
    have : j < zs.length := by omega
    simp only [List.getD_eq_getElem?_getD, List.getElem?_eq_getElem this, Option.getD_some]
    exact List.getElem_mem this
theorem IsRow.le {k : IntKind} {w : World} {B : Option Addr} {m d : Nat} {zs : List Int} (h : IsRow k w B m d zs) : m ≤ maxLen := by
  rcases h with ⟨rfl, rfl, rfl, rfl⟩ | ⟨ad, rfl, hl, hm, hz, hc, hw⟩
  · unfold maxLen; omega
  · omega
theorem RdI.kept {w w' : World} {B : Option Addr} {m : Nat} {zs : List Int} (h : RdI w B zs m) (hb : Below w.heap.size w w') : RdI w' B zs m := by
  intro j hj
  obtain ⟨bd, rfl, hc, hw⟩ := h j hj
  exact ⟨bd, rfl, (hb.cell (World.block_lt_of_cell? w _ hc)).trans hc, hw⟩
/-- Bools that came in. -/
def RdB (w : World) (B : Option Addr) (m : Nat) (F : Nat → Bool) : Prop := m ≤ maxLen ∧ ∀ j, j < m → ∃ bd, B = some bd ∧ w.cell? (bd.add j) = some (.bool (F j))
theorem RdB.kept {w w' : World} {B : Option Addr} {m : Nat} {F : Nat → Bool} (h : RdB w B m F) (hb : Below w.heap.size w w') : RdB w' B m F := by
  refine ⟨h.1, fun j hj => ?_⟩
  obtain ⟨bd, rfl, hc⟩ := h.2 j hj
  exact ⟨bd, rfl, (hb.cell (World.block_lt_of_cell? w _ hc)).trans hc⟩
section
variable {H : Type} {enc : TypeId × Value → H} {w : World} {base : Nat} {held : Bool}
theorem open_bls {fuel len cap : Nat} {A : Option Addr} {x : DataW H × List MemPlace} (h : DataW.trod enc Try.prog w base (fun _ => true) held fuel 22 [.slice A len cap] = some x) : ∃ F, RdB w A len F := by
 rcases Deep.open_bools Try.underlying22 Try.underlying4 (by kernel_rfl) h with ⟨hcs, _⟩ | ⟨ad, len', cap', F, hcs, _, hl, hm, _, hc⟩
 · simp at hcs
   obtain ⟨rfl, rfl, rfl⟩ := hcs
   exact ⟨fun _ => false, by unfold maxLen; omega, fun j hj => by omega⟩
 · simp at hcs
   obtain ⟨rfl, rfl, rfl⟩ := hcs
   exact ⟨F, by omega, fun j hj => ⟨ad, rfl, hc j (by omega)⟩⟩
end
theorem St.rowOf {w0 w : World} {l : List Asn} (h : St w0 l w) (j : Nat) {v : Value} {n size : Nat} {e : TypeId} {xs : List Value} (he : l[j]? = some (rowA e size v n xs)) : w.ownsRow 0 e size v n xs := by
  obtain ⟨_, F, _, hh⟩ := h
  exact (hh j _ he).1
theorem St.ne {w0 w : World} {l : List Asn} (h : St w0 l w) (i j : Nat) (hij : i ≠ j) {g c n size g' c' n' size' : Nat} {e e' : TypeId} {xs xs' : List Value} (h1 : l[i]? = some (rowG g c e size n xs)) (h2 : l[j]? = some (rowG g' c' e' size' n' xs')) : g ≠ g' := by
  obtain ⟨_, F, ho, hh⟩ := h
  have a := (hh i _ h1).2 g rfl
  have b := (hh j _ h2).2 g' rfl
  intro e
  subst e
  exact hij (ho.one _ _ _ a b)
theorem row_some {w : World} {e : TypeId} {size n : Nat} {v : Value} {xs : List Value} (h : w.ownsRow 0 e size v n xs) (hn : 0 < n) : ∃ g c, v = .slice (some ⟨g, 0, none⟩) n c := by
  rcases h.2 with ⟨_, h2⟩ | ⟨g, cap, cur, hv, _⟩
  · omega
  · exact ⟨g, cap, hv⟩
theorem row_is {w : World} {e : TypeId} {size n : Nat} {v : Value} {xs : List Value} (h : w.ownsRow 0 e size v n xs) : ∃ A c, v = .slice A n c ∧ n ≤ maxLen := by
  rcases h.2 with ⟨h1, h2⟩ | ⟨g, cap, cur, hv, _, _, h3, h4, _⟩
  · exact ⟨none, 0, by rw [h1, h2], by unfold maxLen; omega⟩
  · exact ⟨_, cap, hv, by omega⟩
theorem made_one (v : Value) (n : Nat) : (madeCells #[v] (n * 1)).toList = List.replicate n v := by
  apply List.ext_getElem
  · simp [madeCells]
  · intro i h1 h2
    simp [madeCells, Nat.mod_one]
end Go.Proofs.Ytpkchlmoohmfeaa
