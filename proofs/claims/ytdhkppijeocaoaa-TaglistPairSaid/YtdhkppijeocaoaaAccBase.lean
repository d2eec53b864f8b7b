/-
  What an access of a memory leaves, as blocks.
-/
import Derived.Test.YtdhkppijeocaoaaMemBase
namespace Go.Proofs.Ytdhkppijeocaoaa
open Go.RowKit
set_option linter.unusedVariables false
set_option linter.unusedSimpArgs false

theorem infoAcc : (Try.prog.info? 115).map (fun i => (i.zero, i.size, i.bytes)) = some (some (.agg #[.int .u8 0, .int .i64 0, .int .u64 0, .int .u64 0, .bool false]), 5, 40) := by kernel_rfl
set_option maxHeartbeats 1000000 in
theorem ret_acc {R : Ending → World → Prop} {a : Act} {w : World} {b : Nat} {x0 x1 x2 x3 x4 y : Value} (ht : a.tmps.getD 6 undef = .pointer (some ⟨b, 0, none⟩)) (hy : a.tmps.getD 7 undef = y)
    (hb : w.heap[b]? = some (.cells #[x0, x1, x2, x3, x4] 115 (0, 0))) (hd : a.defers = []) (hR : R (.returned (.tuple #[.agg #[x0, x1, x2, x3, x4], y])) w) : bodyPost Try.prog Try.f56 R .ret a w := by
  obtain ⟨c0, c1, c2, c3, c4, _, _, _, _, _⟩ := cells5 hb
  refine bodyPost_ret (v := .tuple #[.agg #[x0, x1, x2, x3, x4], y]) ?_ hd hR
  simp only [Array.getD_eq_getD_getElem?] at ht hy
  simp [results, Try.results56, go_sem, ht, hy, c0, c1, c2, c3, c4]

/-- What is behind an access: the word and the note; all else is as it was. -/
structure AccPost (w w' : World) (p g : Nat) (wv nv : Value) (cur : Array Value) (k : Nat) (ns : List Value) (at_ : Nat) (u : Value) (note : List Value) : Prop where
  str : Str w w'
  words : w'.heap[g]? = some (.cells (cur.setIfInBounds at_ u) 41 (0, 0))
  notes : ∃ nv', w'.heap[p]? = some (.cells #[wv, nv'] 82 (0, 0)) ∧ w'.ownsRow 0 115 5 nv' (k + 1) (ns ++ note) ∧ ∃ b, nv'.ownBlock = some b ∧ (nv.ownBlock = some b ∨ w.heap.size ≤ b)
  keep : ∀ b, b < w.heap.size → b ≠ p → b ≠ g → some b ≠ nv.ownBlock → w'.heap[b]? = w.heap[b]?

theorem acc_tail {w w1 : World} {p g g' cap : Nat} {wv nv : Value} {cur : Array Value} {k : Nat} {ns : List Value} {at_ : Nat} {u : Value} {note : List Value} {x0 x1 x2 x3 x4 : Value}
    (lt0 : p < w.heap.size) (lt1 : g < w.heap.size) (hpg : p ≠ g) (hnp : nv.ownBlock ≠ some p) (hnl : ∀ b, w.heap.size ≤ b → some b ≠ nv.ownBlock)
    (st : Str w w1) (bp : w1.heap[p]? = some (.cells #[wv, nv] 82 (0, 0))) (bg : w1.heap[g]? = some (.cells (cur.setIfInBounds at_ u) 41 (0, 0)))
    (bk : ∀ b, b < w.heap.size → b ≠ g → some b ≠ nv.ownBlock → w1.heap[b]? = w.heap[b]?) (ho : w1.ownsRow 0 115 5 (.slice (some ⟨g', 0, none⟩) (k + 1) cap) (k + 1) (ns ++ note))
    (hat : nv.ownBlock = some g' ∨ w.heap.size + 4 ≤ g') :
    AccPost w ((((((w1.setCell ⟨p, 1, none⟩ (.slice (some ⟨g', 0, none⟩) (k + 1) cap)).setCell ⟨w.heap.size, 0, none⟩ x0).setCell ⟨w.heap.size, 1, none⟩ x1).setCell ⟨w.heap.size, 2, none⟩ x2).setCell ⟨w.heap.size, 3, none⟩ x3).setCell ⟨w.heap.size, 4, none⟩ x4) p g wv nv cur k ns at_ u note := by
  have hg6 : g' ≠ w.heap.size := fun e => hat.elim (fun h => hnl _ (Nat.le_refl _) (by rw [← e, h])) (fun h => by omega)
  have hgp' : g' ≠ p := fun e => hat.elim (fun h => hnp (by rw [h, e])) (fun h => by omega)
  have n0 : p ≠ w.heap.size := by omega
  have n1 : g ≠ w.heap.size := by omega
  refine ⟨((((((st.set _ _).set _ _).set _ _).set _ _).set _ _).set _ _), ?_, ⟨.slice (some ⟨g', 0, none⟩) (k + 1) cap, ?_, ?_, g', rfl, hat.imp id (fun h => by omega)⟩, ?_⟩
  · rw [heap_set_ne n1, heap_set_ne n1, heap_set_ne n1, heap_set_ne n1, heap_set_ne n1, heap_set_ne hpg.symm]
    exact bg
  · rw [heap_set_ne n0, heap_set_ne n0, heap_set_ne n0, heap_set_ne n0, heap_set_ne n0]
    exact heap_set bp
  · refine own_of_block ho fun b hb => ?_
    obtain rfl : g' = b := Option.some.inj hb
    rw [heap_set_ne hg6, heap_set_ne hg6, heap_set_ne hg6, heap_set_ne hg6, heap_set_ne hg6, heap_set_ne hgp']
  · intro b h1 h2 h3 h4
    have n2 : b ≠ w.heap.size := by omega
    rw [heap_set_ne n2, heap_set_ne n2, heap_set_ne n2, heap_set_ne n2, heap_set_ne n2, heap_set_ne h2]
    exact bk b h1 h3 h4
theorem acc_box {w1 : World} {p b6 : Nat} {v : Value} {x0 x1 x2 x3 x4 y0 y1 y2 y3 y4 : Value} (b6h : w1.heap[b6]? = some (.cells #[y0, y1, y2, y3, y4] 115 (0, 0))) (hne : b6 ≠ p) :
    ((((((w1.setCell ⟨p, 1, none⟩ v).setCell ⟨b6, 0, none⟩ x0).setCell ⟨b6, 1, none⟩ x1).setCell ⟨b6, 2, none⟩ x2).setCell ⟨b6, 3, none⟩ x3).setCell ⟨b6, 4, none⟩ x4).heap[b6]? = some (.cells #[x0, x1, x2, x3, x4] 115 (0, 0)) := by
  have h0 : (w1.setCell ⟨p, 1, none⟩ v).heap[b6]? = some (.cells #[y0, y1, y2, y3, y4] 115 (0, 0)) := by rw [heap_set_ne hne]; exact b6h
  exact heap_set (heap_set (heap_set (heap_set (heap_set h0))))
end Go.Proofs.Ytdhkppijeocaoaa
