/-
  Rows of structs that came in.
-/
import Derived.Test.YtndigbkhaajjoaaOpen2
import Derived.Test.YtndigbkhaajjoaaWf
import Derived.Deep.Slices
namespace Go.Proofs.Ytndigbkhaajjoaa
open Go.ChangeShapes Go.WideShapes Go.ChangeAt Go.RowKit Go.Joins
set_option linter.unusedVariables false
set_option linter.unusedSimpArgs false

theorem addr_at (ad : Addr) (i j : Nat) (hj : j ≠ 0) : (⟨(ad.add i).block, (ad.add i).off + j, none⟩ : Addr) = ad.add (i + j) := by
  rw [← Deep.add_add]
  show _ = Addr.add _ _
  rw [show ∀ a : Addr, a.add j = ⟨a.block, a.off + j, none⟩ from fun a => by simp [Addr.add, hj]]
structure PJob where
  give : Bool
  head : Bool
  at_ : Int
  i : Int
def PJob.ok (a : PJob) : Prop := (-9223372036854775808 ≤ a.at_ ∧ a.at_ < 9223372036854775808) ∧ (-9223372036854775808 ≤ a.i ∧ a.i < 9223372036854775808)
def PJob.cells (a : PJob) : List Value := [.bool a.give, .bool a.head, .int .i64 a.at_, .int .i64 a.i]
instance : Inhabited PJob := ⟨⟨false, false, 0, 0⟩⟩
def RdJob (w : World) (A : Option Addr) (m : Nat) (F : Nat → PJob) : Prop :=
  m ≤ maxLen ∧ ∀ i, i < m → ∃ ad, A = some ad ∧ ad.block < w.heap.size ∧ (∀ j v, (F i).cells[j]? = some v → w.cell? (ad.add (i * 4 + j)) = some v) ∧ (F i).ok
theorem list_job {α : Type} {cs : List α} (h : cs.length = 4) : ∃ c0 c1 c2 c3, cs = [c0, c1, c2, c3] := by
  match cs, h with
  | [c0, c1, c2, c3], _ => exact ⟨c0, c1, c2, c3, rfl⟩
section
variable {H : Type} {enc : TypeId × Value → H} {w : World} {base : Nat} {held : Bool}
theorem open_job {spare : Nat → Bool} {fuel : Nat} {cs : List Value} {x : DataW H × List MemPlace} (h : DataW.trod enc Try.prog w base spare held fuel 59 cs = some x) :
    ∃ a : PJob, cs = a.cells ∧ a.ok := by
  have z5 : Try.prog.cellsOf 59 = 4 := by kernel_rfl
  have z_bool : Try.prog.cellsOf 4 = 1 := by kernel_rfl
  have z_i64 : Try.prog.cellsOf 3 = 1 := by kernel_rfl
  obtain ⟨xs, n, _, _, hcl, hl, hall⟩ := DataW.trod_struct Try.underlying59 h
  obtain ⟨x0, x1, x2, x3, rfl⟩ : ∃ x0 x1 x2 x3, xs = [x0, x1, x2, x3] := by
    match xs, hl with
    | [x0, x1, x2, x3], _ => exact ⟨x0, x1, x2, x3, rfl⟩
  obtain ⟨c0, c1, c2, c3, rfl⟩ := list_job (hcl.trans z5)
  obtain ⟨a0, e0, _⟩ := DataW.trod_bool Try.underlying4 (hall 0 _ rfl)
  obtain ⟨a1, e1, _⟩ := DataW.trod_bool Try.underlying4 (hall 1 _ rfl)
  obtain ⟨a2, e2, _, w2⟩ := DataW.trod_int Try.underlying3 (hall 2 _ rfl)
  obtain ⟨a3, e3, _, w3⟩ := DataW.trod_int Try.underlying3 (hall 3 _ rfl)
  simp [z_bool, z_i64] at e0 e1 e2 e3
  subst e0 e1 e2 e3
  exact ⟨⟨a0, a1, a2, a3⟩, rfl, rngI64 w2, rngI64 w3⟩
theorem open_jobs {fuel len cap : Nat} {A : Option Addr} {x : DataW H × List MemPlace} (h : DataW.trod enc Try.prog w base (fun _ => true) held fuel 44 [.slice A len cap] = some x) :
    ∃ F, RdJob w A len F := by
  rcases Deep.open_slice Try.underlying44 h with ⟨hcs, _⟩ | ⟨ad, len', cap', m, n, D, Pl, hcs, _, hl, hm, hmm, _, hx⟩
  · simp at hcs
    obtain ⟨rfl, rfl, rfl⟩ := hcs
    exact ⟨fun _ => default, by unfold maxLen; omega, fun i hi => by omega⟩
  · simp at hcs
    obtain ⟨rfl, rfl, rfl⟩ := hcs
    have z5 : Try.prog.cellsOf 59 = 4 := by kernel_rfl
    have hlm : len ≤ m := by rw [hmm]; split <;> omega
    obtain ⟨F, hF⟩ := Deep.choose_lt (α := PJob) (n := len) (p := fun i a => (∀ j v, a.cells[j]? = some v → w.cell? (ad.add (i * 4 + j)) = some v) ∧ a.ok) (fun i hi => by
      obtain ⟨cs', h1, h2⟩ := hx i (by omega)
      obtain ⟨a, rfl, ha⟩ := open_job h2
      refine ⟨a, fun j v hv => ?_, ha⟩
      rw [z5] at h1
      obtain ⟨_, hlen, hc⟩ := World.cells?_some h1
      have hj : j < 4 := (List.getElem?_eq_some_iff.1 hv).1
      have := hc j hj
      rw [Deep.add_add] at this
      rw [this]
      exact hv)
    refine ⟨F, by omega, fun i hi => ?_⟩
    obtain ⟨h1, h2⟩ := hF i hi
    exact ⟨ad, rfl, (by have := World.block_lt_of_cell? w _ (h1 0 _ rfl); unfold Addr.add at this; split at this <;> exact this), h1, h2⟩
end
theorem RdJob.kept {w w' : World} {A : Option Addr} {m : Nat} {F : Nat → PJob} (h : RdJob w A m F) (hb : Below w.heap.size w w') : RdJob w' A m F := by
  refine ⟨h.1, fun i hi => ?_⟩
  obtain ⟨ad, rfl, hlt, h0, h5⟩ := h.2 i hi
  have hs := hb.size
  exact ⟨ad, rfl, by omega, fun j v hv => (hb.cell (by unfold Addr.add; split <;> exact hlt)).trans (h0 j v hv), h5⟩
theorem RdJob.at_ {w : World} {A : Option Addr} {m : Nat} {F : Nat → PJob} (h : RdJob w A m F) {i : Nat} (hi : i < m) : ∃ ad, A = some ad ∧ w.cell? (ad.add (i * 4)) = some (.bool (F i).give) ∧ w.cell? ⟨(ad.add (i * 4)).block, (ad.add (i * 4)).off + 1, none⟩ = some (.bool (F i).head) ∧ w.cell? ⟨(ad.add (i * 4)).block, (ad.add (i * 4)).off + 2, none⟩ = some (.int .i64 (F i).at_) ∧ w.cell? ⟨(ad.add (i * 4)).block, (ad.add (i * 4)).off + 3, none⟩ = some (.int .i64 (F i).i) ∧ (F i).ok := by
  obtain ⟨ad, rfl, hlt, h0, h5⟩ := h.2 i hi
  refine ⟨ad, rfl, h0 0 _ rfl, ?_, ?_, ?_, h5⟩ <;> rw [addr_at _ _ _ (by decide)]
  · exact h0 1 _ rfl
  · exact h0 2 _ rfl
  · exact h0 3 _ rfl
end Go.Proofs.Ytndigbkhaajjoaa
