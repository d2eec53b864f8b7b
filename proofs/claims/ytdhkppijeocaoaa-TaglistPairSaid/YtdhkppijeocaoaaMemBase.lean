/-
  Worlds by their blocks: small lemmas for walks that write into objects.
-/
import Derived.Test.YtdhkppijeocaoaaProg
import Derived.Test.YtdhkppijeocaoaaBase
import Derived.BigRegion
import Derived.Deep.RegionHeld3
import Derived.Deep.RegionLaw
import Derived.Deep.RegionLawGrows
import Derived.Deep.AppendLies
import Derived.KernelRfl
namespace Go.Proofs.Ytdhkppijeocaoaa
open Go.RowKit
set_option linter.unusedVariables false
set_option linter.unusedSimpArgs false

theorem heap_new {w : World} {o : Obj} {b : Nat} (h : w.heap.size = b) : (w.alloc o).heap[b]? = some o := by
  subst h
  show (w.heap.push o)[w.heap.size]? = _
  simp
theorem heap_old {w : World} {o : Obj} {b : Nat} (h : b < w.heap.size) : (w.alloc o).heap[b]? = w.heap[b]? := Below.heap_alloc _ _ _ h
theorem heap_set_ne {w : World} {a : Addr} {v : Value} {b : Nat} (h : b ≠ a.block) : (w.setCell a v).heap[b]? = w.heap[b]? := Below.heap_setCell _ _ _ _ h
theorem heap_set {w : World} {g o : Nat} {v : Value} {c : Array Value} {e : TypeId} {f : Nat × Nat} (h : w.heap[g]? = some (.cells c e f)) : (w.setCell ⟨g, o, none⟩ v).heap[g]? = some (.cells (c.setIfInBounds o v) e f) := by
  simp only [World.setCell, Array.getElem?_modify, if_true, h, Option.map_some]
  rfl
theorem heap_drew (w : World) : w.drew.heap = w.heap := rfl
theorem heap_size_set (w : World) (a : Addr) (v : Value) : (w.setCell a v).heap.size = w.heap.size := by simp [World.setCell]
theorem heap_size_drew (w : World) : w.drew.heap.size = w.heap.size := rfl
theorem own_drew {w : World} {base : Nat} {e : TypeId} {size : Nat} {v : Value} {n : Nat} {xs : List Value} (h : w.ownsRow base e size v n xs) : w.drew.ownsRow base e size v n xs := h
theorem own_of_block {w w' : World} {base : Nat} {e : TypeId} {size : Nat} {v : Value} {n : Nat} {xs : List Value} (h : w.ownsRow base e size v n xs) (hb : ∀ b, v.ownBlock = some b → w'.heap[b]? = w.heap[b]?) : w'.ownsRow base e size v n xs := by
  refine ⟨h.1, ?_⟩
  rcases h.2 with e | ⟨g, cap, cur, hv, hb', hh, r⟩
  · exact .inl e
  · refine .inr ⟨g, cap, cur, hv, hb', ?_, r⟩
    rw [hb g (by subst hv; rfl)]
    exact hh
theorem own_set {w : World} {base : Nat} {e : TypeId} {size : Nat} {v : Value} {n : Nat} {xs : List Value} (h : w.ownsRow base e size v n xs) {a : Addr} (ha : v.ownBlock ≠ some a.block) (u : Value) : (w.setCell a u).ownsRow base e size v n xs :=
  own_of_block h fun b hb => heap_set_ne fun e => ha (by rw [hb, e])
theorem cell_of {w : World} {b : Nat} {c : Array Value} {e : TypeId} {f : Nat × Nat} (h : w.heap[b]? = some (.cells c e f)) (o : Nat) : w.cell? ⟨b, o, none⟩ = c[o]? := by simp [World.cell?, h]
theorem free_of {w : World} {b : Nat} {c : Array Value} {e : TypeId} (h : w.heap[b]? = some (.cells c e (0, 0))) (o : Nat) : w.frozen? ⟨b, o, none⟩ = false := by simp [World.frozen?, h]
theorem lt_of_heap {w : World} {b : Nat} {o : Obj} (h : w.heap[b]? = some o) : b < w.heap.size := by
  rcases Nat.lt_or_ge b w.heap.size with h1 | h1
  · exact h1
  · rw [Array.getElem?_eq_none h1] at h; cases h
theorem cells2 {w : World} {b : Nat} {a0 a1 : Value} {e : TypeId} (h : w.heap[b]? = some (.cells #[a0, a1] e (0, 0))) : w.cell? ⟨b, 0, none⟩ = some a0 ∧ w.cell? ⟨b, 1, none⟩ = some a1 ∧ w.frozen? ⟨b, 0, none⟩ = false ∧ w.frozen? ⟨b, 1, none⟩ = false :=
  ⟨cell_of h 0, cell_of h 1, free_of h 0, free_of h 1⟩
theorem cells5 {w : World} {b : Nat} {a0 a1 a2 a3 a4 : Value} {e : TypeId} (h : w.heap[b]? = some (.cells #[a0, a1, a2, a3, a4] e (0, 0))) :
    w.cell? ⟨b, 0, none⟩ = some a0 ∧ w.cell? ⟨b, 1, none⟩ = some a1 ∧ w.cell? ⟨b, 2, none⟩ = some a2 ∧ w.cell? ⟨b, 3, none⟩ = some a3 ∧ w.cell? ⟨b, 4, none⟩ = some a4 ∧
    w.frozen? ⟨b, 0, none⟩ = false ∧ w.frozen? ⟨b, 1, none⟩ = false ∧ w.frozen? ⟨b, 2, none⟩ = false ∧ w.frozen? ⟨b, 3, none⟩ = false ∧ w.frozen? ⟨b, 4, none⟩ = false :=
  ⟨cell_of h 0, cell_of h 1, cell_of h 2, cell_of h 3, cell_of h 4, free_of h 0, free_of h 1, free_of h 2, free_of h 3, free_of h 4⟩
/-- The streams are as they were, and no block has gone. -/
structure Str (w w' : World) : Prop where
  os : w'.os = w.os
  tape : w'.tape = w.tape
  output : w'.output = w.output
  size : w.heap.size ≤ w'.heap.size
theorem Str.refl (w : World) : Str w w := ⟨rfl, rfl, rfl, Nat.le_refl _⟩
theorem Str.trans {a b c : World} (h : Str a b) (k : Str b c) : Str a c := ⟨k.os.trans h.os, k.tape.trans h.tape, k.output.trans h.output, Nat.le_trans h.size k.size⟩
theorem Str.alloc {a w : World} (h : Str a w) (o : Obj) : Str a (w.alloc o) := h.trans ⟨rfl, rfl, rfl, by simp⟩
theorem Str.set {a w : World} (h : Str a w) (p : Addr) (v : Value) : Str a (w.setCell p v) := h.trans ⟨rfl, rfl, rfl, by rw [heap_size_set]; exact Nat.le_refl _⟩
theorem Str.drew {a w : World} (h : Str a w) : Str a w.drew := ⟨h.os, h.tape, h.output, h.size⟩
theorem Str.grown {a w w' : World} {row : Option Nat} (h : Str a w) (g : w.grownBy w' row) : Str a w' := h.trans ⟨g.os, g.tape, g.output, g.size⟩
theorem Str.below {a w w' : World} {B : Nat} (h : Str a w) (g : Below B w w') : Str a w' := h.trans ⟨g.os, g.tape, g.output, g.size⟩
end Go.Proofs.Ytdhkppijeocaoaa
