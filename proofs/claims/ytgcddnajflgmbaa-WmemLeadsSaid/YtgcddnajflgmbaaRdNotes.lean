/-
  A row of notes, read note by note.
-/
import Derived.Test.YtgcddnajflgmbaaDuo
import Derived.Laws.StructEq
namespace Go.Proofs.Ytgcddnajflgmbaa
open Go.RowKit Go.Proofs.YtgcddnajflgmbaaW.PrintWords
set_option linter.unusedVariables false
set_option linter.unusedSimpArgs false

theorem notes_cell {ms : List Note} {j t : Nat} {a : Note} {v : Value} (ha : ms[j]? = some a) (ht : a.cells[t]? = some v) : (noteCells ms)[j * 5 + t]? = some v := by
  rw [← List.getElem?_drop, ← noteCells_drop]
  obtain ⟨hj, rfl⟩ := List.getElem?_eq_some_iff.1 ha
  rw [List.drop_eq_getElem_cons hj]
  show (_ ++ noteCells _)[t]? = some v
  rw [List.getElem?_append_left (List.getElem?_eq_some_iff.1 ht).1, ht]
/-- Notes that can be read at A, each cell as a walk asks for it. -/
def RdNotes (w : World) (A : Option Addr) (ms : List Note) : Prop :=
  ∀ j a, ms[j]? = some a → ∃ ad, A = some ad ∧ ad.block < w.heap.size ∧ ∀ t v, a.cells[t]? = some v → w.cell? (ad.add (j * 5 + t)) = some v
theorem rdNotes {w : World} {base n c : Nat} {e : TypeId} {A : Option Addr} {ms : List Note} (h : w.ownsRow base e 5 (.slice A n c) n (noteCells ms)) : RdNotes w A ms := by
  intro j a ha
  rcases h.2 with ⟨e1, e0⟩ | ⟨g, cap, cur, e1, hg0, hh, hc1, hc2, hc3, hc4⟩
  · have := h.1
    rw [noteCells_len] at this
    have := (List.getElem?_eq_some_iff.1 ha).1
    omega
  · simp only [Value.slice.injEq] at e1
    obtain ⟨rfl, _, _⟩ := e1
    refine ⟨_, rfl, lt_of_heap hh, fun t v ht => ?_⟩
    rw [add_zero', cell_of hh]
    have := notes_cell ha ht
    rw [← hc4, List.getElem?_take] at this
    split at this
    · simpa using this
    · cases this
theorem RdNotes.kept {w w' : World} {A : Option Addr} {ms : List Note} (h : RdNotes w A ms) (hb : Below w.heap.size w w') : RdNotes w' A ms := by
  intro j a ha
  obtain ⟨ad, rfl, hlt, hc⟩ := h j a ha
  exact ⟨ad, rfl, Nat.lt_of_lt_of_le hlt hb.size, fun t v ht => (hb.cell (by unfold Addr.add; split <;> exact hlt)).trans (hc t v ht)⟩
theorem RdNotes.at_ {w : World} {A : Option Addr} {ms : List Note} (h : RdNotes w A ms) {j : Nat} {a : Note} (ha : ms[j]? = some a) : ∃ ad, A = some ad ∧ w.cell? (ad.add (j * 5)) = some (.int .u8 a.kind) ∧ w.cell? ⟨(ad.add (j * 5)).block, (ad.add (j * 5)).off + 1, none⟩ = some (.int .i64 a.at_) ∧
    w.cell? ⟨(ad.add (j * 5)).block, (ad.add (j * 5)).off + 2, none⟩ = some (.int .u64 a.old) ∧ w.cell? ⟨(ad.add (j * 5)).block, (ad.add (j * 5)).off + 3, none⟩ = some (.int .u64 a.new) ∧ w.cell? ⟨(ad.add (j * 5)).block, (ad.add (j * 5)).off + 4, none⟩ = some (.bool a.ok) := by
  obtain ⟨ad, rfl, hlt, hc⟩ := h j a ha
  refine ⟨ad, rfl, hc 0 _ rfl, ?_, ?_, ?_, ?_⟩ <;> rw [add_at _ _ _ (by decide)]
  · exact hc 1 _ rfl
  · exact hc 2 _ rfl
  · exact hc 3 _ rfl
  · exact hc 4 _ rfl
theorem neq_acc (a0 a1 a2 a3 : Int) (a4 : Bool) (w : World) : (binOp .neq 52 (.agg #[.int .u8 a0, .int .i64 a1, .int .u64 a2, .int .u64 a3, .bool a4]) (.agg #[.int .u8 a0, .int .i64 a1, .int .u64 a2, .int .u64 a3, .bool a4])).run Try.prog w = .ok (.bool false) w := by
  have u1 := Try.underlying3
  have u2 := Try.underlying23
  have u3 := Try.underlying5
  have u4 := Try.underlying4
  have hS : Try.prog.underlying 52 = some (.struct (Try.prog.fieldsOf 52)) := by kernel_rfl
  have hp : Try.prog.stoodInHeld 52 = false := by kernel_rfl
  rw [run_neq_struct, show (10000 : Nat) = 9999 + 1 from rfl, run_equalIn_agg w 9999 52 _ _ hS hp]
  simp only [Program.fieldsOf, Try.underlying52]
  go_simp
end Go.Proofs.Ytgcddnajflgmbaa
