/-
  Rows of structs that came in.
-/
import Derived.Test.YthnjeiandfdpgaaOpen2
import Derived.Test.YthnjeiandfdpgaaWf
import Derived.Deep.Slices
namespace Go.Proofs.Ythnjeiandfdpgaa
open Go.ChangeShapes Go.WideShapes Go.ChangeAt Go.RowKit Go.Joins
set_option linter.unusedVariables false
set_option linter.unusedSimpArgs false

theorem addr_at (ad : Addr) (i j : Nat) (hj : j ≠ 0) : (⟨(ad.add i).block, (ad.add i).off + j, none⟩ : Addr) = ad.add (i + j) := by
  rw [← Deep.add_add]
  show _ = Addr.add _ _
  rw [show ∀ a : Addr, a.add j = ⟨a.block, a.off + j, none⟩ from fun a => by simp [Addr.add, hj]]
structure PStt where
  rg : Int
  ex : Int
def PStt.ok (a : PStt) : Prop := (-9223372036854775808 ≤ a.rg ∧ a.rg < 9223372036854775808) ∧ (-9223372036854775808 ≤ a.ex ∧ a.ex < 9223372036854775808)
def PStt.cells (a : PStt) : List Value := [.int .i64 a.rg, .int .i64 a.ex]
instance : Inhabited PStt := ⟨⟨0, 0⟩⟩
def RdStt (w : World) (A : Option Addr) (m : Nat) (F : Nat → PStt) : Prop :=
  m ≤ maxLen ∧ ∀ i, i < m → ∃ ad, A = some ad ∧ ad.block < w.heap.size ∧ (∀ j v, (F i).cells[j]? = some v → w.cell? (ad.add (i * 2 + j)) = some v) ∧ (F i).ok
theorem list_stt {α : Type} {cs : List α} (h : cs.length = 2) : ∃ c0 c1, cs = [c0, c1] := by
  match cs, h with
  | [c0, c1], _ => exact ⟨c0, c1, rfl⟩
section
variable {H : Type} {enc : TypeId × Value → H} {w : World} {base : Nat} {held : Bool}
theorem open_stt {spare : Nat → Bool} {fuel : Nat} {cs : List Value} {x : DataW H × List MemPlace} (h : DataW.trod enc Try.prog w base spare held fuel 23 cs = some x) :
    ∃ a : PStt, cs = a.cells ∧ a.ok := by
  have z5 : Try.prog.cellsOf 23 = 2 := by kernel_rfl
  have z_i64 : Try.prog.cellsOf 3 = 1 := by kernel_rfl
  obtain ⟨xs, n, _, _, hcl, hl, hall⟩ := DataW.trod_struct Try.underlying23 h
  obtain ⟨x0, x1, rfl⟩ : ∃ x0 x1, xs = [x0, x1] := by
    match xs, hl with
    | [x0, x1], _ => exact ⟨x0, x1, rfl⟩
  obtain ⟨c0, c1, rfl⟩ := list_stt (hcl.trans z5)
  obtain ⟨a0, e0, _, w0⟩ := DataW.trod_int Try.underlying3 (hall 0 _ rfl)
  obtain ⟨a1, e1, _, w1⟩ := DataW.trod_int Try.underlying3 (hall 1 _ rfl)
  simp [z_i64] at e0 e1
  subst e0 e1
  exact ⟨⟨a0, a1⟩, rfl, rngI64 w0, rngI64 w1⟩
end
structure PJob where
  rg : Int
  ex : Int
  push : Bool
  i : Int
  base : Int
  wait : Int
def PJob.ok (a : PJob) : Prop := (-9223372036854775808 ≤ a.rg ∧ a.rg < 9223372036854775808) ∧ (-9223372036854775808 ≤ a.ex ∧ a.ex < 9223372036854775808) ∧ (0 ≤ a.i ∧ a.i < 4294967296) ∧ (-9223372036854775808 ≤ a.base ∧ a.base < 9223372036854775808) ∧ (0 ≤ a.wait ∧ a.wait < 18446744073709551616)
def PJob.cells (a : PJob) : List Value := [.int .i64 a.rg, .int .i64 a.ex, .bool a.push, .int .u32 a.i, .int .i64 a.base, .int .u64 a.wait]
instance : Inhabited PJob := ⟨⟨0, 0, false, 0, 0, 0⟩⟩
def RdJob (w : World) (A : Option Addr) (m : Nat) (F : Nat → PJob) : Prop :=
  m ≤ maxLen ∧ ∀ i, i < m → ∃ ad, A = some ad ∧ ad.block < w.heap.size ∧ (∀ j v, (F i).cells[j]? = some v → w.cell? (ad.add (i * 6 + j)) = some v) ∧ (F i).ok
theorem list_job {α : Type} {cs : List α} (h : cs.length = 6) : ∃ c0 c1 c2 c3 c4 c5, cs = [c0, c1, c2, c3, c4, c5] := by
  match cs, h with
  | [c0, c1, c2, c3, c4, c5], _ => exact ⟨c0, c1, c2, c3, c4, c5, rfl⟩
section
variable {H : Type} {enc : TypeId × Value → H} {w : World} {base : Nat} {held : Bool}
theorem open_job {spare : Nat → Bool} {fuel : Nat} {cs : List Value} {x : DataW H × List MemPlace} (h : DataW.trod enc Try.prog w base spare held fuel 73 cs = some x) :
    ∃ a : PJob, cs = a.cells ∧ a.ok := by
  have z5 : Try.prog.cellsOf 73 = 6 := by kernel_rfl
  have z_bool : Try.prog.cellsOf 4 = 1 := by kernel_rfl
  have z_i64 : Try.prog.cellsOf 3 = 1 := by kernel_rfl
  have z_u32 : Try.prog.cellsOf 26 = 1 := by kernel_rfl
  have z_u64 : Try.prog.cellsOf 35 = 1 := by kernel_rfl
  obtain ⟨xs, n, _, _, hcl, hl, hall⟩ := DataW.trod_struct Try.underlying73 h
  obtain ⟨x0, x1, x2, x3, x4, rfl⟩ : ∃ x0 x1 x2 x3 x4, xs = [x0, x1, x2, x3, x4] := by
    match xs, hl with
    | [x0, x1, x2, x3, x4], _ => exact ⟨x0, x1, x2, x3, x4, rfl⟩
  have z_st : Try.prog.cellsOf 23 = 2 := by kernel_rfl
  obtain ⟨c0, c1, c2, c3, c4, c5, rfl⟩ := list_job (hcl.trans z5)
  obtain ⟨st, es, hst⟩ := open_stt (hall 0 _ rfl)
  obtain ⟨a2, e2, _⟩ := DataW.trod_bool Try.underlying4 (hall 1 _ rfl)
  obtain ⟨a3, e3, _, w3⟩ := DataW.trod_int Try.underlying26 (hall 2 _ rfl)
  obtain ⟨a4, e4, _, w4⟩ := DataW.trod_int Try.underlying3 (hall 3 _ rfl)
  obtain ⟨a5, e5, _, w5⟩ := DataW.trod_int Try.underlying35 (hall 4 _ rfl)
  simp [z_bool, z_i64, z_u32, z_u64, z_st, PStt.cells] at es e2 e3 e4 e5
  obtain ⟨es0, es1⟩ := es
  subst es0 es1 e2 e3 e4 e5
  exact ⟨⟨st.rg, st.ex, a2, a3, a4, a5⟩, rfl, hst.1, hst.2, rngU32 w3, rngI64 w4, rngU64 w5⟩
theorem open_jobs {fuel len cap : Nat} {A : Option Addr} {x : DataW H × List MemPlace} (h : DataW.trod enc Try.prog w base (fun _ => true) held fuel 60 [.slice A len cap] = some x) :
    ∃ F, RdJob w A len F := by
  rcases Deep.open_slice Try.underlying60 h with ⟨hcs, _⟩ | ⟨ad, len', cap', m, n, D, Pl, hcs, _, hl, hm, hmm, _, hx⟩
  · simp at hcs
    obtain ⟨rfl, rfl, rfl⟩ := hcs
    exact ⟨fun _ => default, by unfold maxLen; omega, fun i hi => by omega⟩
  · simp at hcs
    obtain ⟨rfl, rfl, rfl⟩ := hcs
    have z5 : Try.prog.cellsOf 73 = 6 := by kernel_rfl
    have hlm : len ≤ m := by rw [hmm]; split <;> omega
    obtain ⟨F, hF⟩ := Deep.choose_lt (α := PJob) (n := len) (p := fun i a => (∀ j v, a.cells[j]? = some v → w.cell? (ad.add (i * 6 + j)) = some v) ∧ a.ok) (fun i hi => by
      obtain ⟨cs', h1, h2⟩ := hx i (by omega)
      obtain ⟨a, rfl, ha⟩ := open_job h2
      refine ⟨a, fun j v hv => ?_, ha⟩
      rw [z5] at h1
      obtain ⟨_, hlen, hc⟩ := World.cells?_some h1
      have hj : j < 6 := (List.getElem?_eq_some_iff.1 hv).1
      have := hc j hj
      rw [Deep.add_add] at this
      rw [this]
      exact hv)
    refine ⟨F, by omega, fun i hi => ?_⟩
    obtain ⟨h1, h2⟩ := hF i hi
    exact ⟨ad, rfl, (by have := World.block_lt_of_cell? w _ (h1 0 _ rfl); unfold Addr.add at this; split at this <;> exact this), h1, h2⟩
end
theorem RdJob.kept {w w' : World} {A : Option Addr} {m : Nat} {F : Nat → PJob} (h : RdJob w A m F) (hb : Below w.heap.size w w') : RdJob w' A m F := by
  refine ⟨h.1, fun i hi => ?_⟩
  obtain ⟨ad, rfl, hlt, h0, h5⟩ := h.2 i hi
  have hs := hb.size
  exact ⟨ad, rfl, by omega, fun j v hv => (hb.cell (by unfold Addr.add; split <;> exact hlt)).trans (h0 j v hv), h5⟩
theorem RdJob.at_ {w : World} {A : Option Addr} {m : Nat} {F : Nat → PJob} (h : RdJob w A m F) {i : Nat} (hi : i < m) : ∃ ad, A = some ad ∧ w.cell? (ad.add (i * 6)) = some (.int .i64 (F i).rg) ∧ w.cell? ⟨(ad.add (i * 6)).block, (ad.add (i * 6)).off + 1, none⟩ = some (.int .i64 (F i).ex) ∧ w.cell? ⟨(ad.add (i * 6)).block, (ad.add (i * 6)).off + 2, none⟩ = some (.bool (F i).push) ∧ w.cell? ⟨(ad.add (i * 6)).block, (ad.add (i * 6)).off + 3, none⟩ = some (.int .u32 (F i).i) ∧ w.cell? ⟨(ad.add (i * 6)).block, (ad.add (i * 6)).off + 4, none⟩ = some (.int .i64 (F i).base) ∧ w.cell? ⟨(ad.add (i * 6)).block, (ad.add (i * 6)).off + 5, none⟩ = some (.int .u64 (F i).wait) ∧ (F i).ok := by
  obtain ⟨ad, rfl, hlt, h0, h5⟩ := h.2 i hi
  refine ⟨ad, rfl, h0 0 _ rfl, ?_, ?_, ?_, ?_, ?_, h5⟩ <;> rw [addr_at _ _ _ (by decide)]
  · exact h0 1 _ rfl
  · exact h0 2 _ rfl
  · exact h0 3 _ rfl
  · exact h0 4 _ rfl
  · exact h0 5 _ rfl
structure PTurn where
  op : Int
  which : Int
  n : Int
def PTurn.ok (a : PTurn) : Prop := (-9223372036854775808 ≤ a.op ∧ a.op < 9223372036854775808) ∧ (-9223372036854775808 ≤ a.which ∧ a.which < 9223372036854775808) ∧ (0 ≤ a.n ∧ a.n < 18446744073709551616)
def PTurn.cells (a : PTurn) : List Value := [.int .i64 a.op, .int .i64 a.which, .int .u64 a.n]
instance : Inhabited PTurn := ⟨⟨0, 0, 0⟩⟩
def RdTurn (w : World) (A : Option Addr) (m : Nat) (F : Nat → PTurn) : Prop :=
  m ≤ maxLen ∧ ∀ i, i < m → ∃ ad, A = some ad ∧ ad.block < w.heap.size ∧ (∀ j v, (F i).cells[j]? = some v → w.cell? (ad.add (i * 3 + j)) = some v) ∧ (F i).ok
theorem list_turn {α : Type} {cs : List α} (h : cs.length = 3) : ∃ c0 c1 c2, cs = [c0, c1, c2] := by
  match cs, h with
  | [c0, c1, c2], _ => exact ⟨c0, c1, c2, rfl⟩
section
variable {H : Type} {enc : TypeId × Value → H} {w : World} {base : Nat} {held : Bool}
theorem open_turn {spare : Nat → Bool} {fuel : Nat} {cs : List Value} {x : DataW H × List MemPlace} (h : DataW.trod enc Try.prog w base spare held fuel 82 cs = some x) :
    ∃ a : PTurn, cs = a.cells ∧ a.ok := by
  have z5 : Try.prog.cellsOf 82 = 3 := by kernel_rfl
  have z_i64 : Try.prog.cellsOf 3 = 1 := by kernel_rfl
  have z_u64 : Try.prog.cellsOf 35 = 1 := by kernel_rfl
  obtain ⟨xs, n, _, _, hcl, hl, hall⟩ := DataW.trod_struct Try.underlying82 h
  obtain ⟨x0, x1, x2, rfl⟩ : ∃ x0 x1 x2, xs = [x0, x1, x2] := by
    match xs, hl with
    | [x0, x1, x2], _ => exact ⟨x0, x1, x2, rfl⟩
  obtain ⟨c0, c1, c2, rfl⟩ := list_turn (hcl.trans z5)
  obtain ⟨a0, e0, _, w0⟩ := DataW.trod_int Try.underlying3 (hall 0 _ rfl)
  obtain ⟨a1, e1, _, w1⟩ := DataW.trod_int Try.underlying3 (hall 1 _ rfl)
  obtain ⟨a2, e2, _, w2⟩ := DataW.trod_int Try.underlying35 (hall 2 _ rfl)
  simp [z_i64, z_u64] at e0 e1 e2
  subst e0 e1 e2
  exact ⟨⟨a0, a1, a2⟩, rfl, rngI64 w0, rngI64 w1, rngU64 w2⟩
theorem open_turns {fuel len cap : Nat} {A : Option Addr} {x : DataW H × List MemPlace} (h : DataW.trod enc Try.prog w base (fun _ => true) held fuel 61 [.slice A len cap] = some x) :
    ∃ F, RdTurn w A len F := by
  rcases Deep.open_slice Try.underlying61 h with ⟨hcs, _⟩ | ⟨ad, len', cap', m, n, D, Pl, hcs, _, hl, hm, hmm, _, hx⟩
  · simp at hcs
    obtain ⟨rfl, rfl, rfl⟩ := hcs
    exact ⟨fun _ => default, by unfold maxLen; omega, fun i hi => by omega⟩
  · simp at hcs
    obtain ⟨rfl, rfl, rfl⟩ := hcs
    have z5 : Try.prog.cellsOf 82 = 3 := by kernel_rfl
    have hlm : len ≤ m := by rw [hmm]; split <;> omega
    obtain ⟨F, hF⟩ := Deep.choose_lt (α := PTurn) (n := len) (p := fun i a => (∀ j v, a.cells[j]? = some v → w.cell? (ad.add (i * 3 + j)) = some v) ∧ a.ok) (fun i hi => by
      obtain ⟨cs', h1, h2⟩ := hx i (by omega)
      obtain ⟨a, rfl, ha⟩ := open_turn h2
      refine ⟨a, fun j v hv => ?_, ha⟩
      rw [z5] at h1
      obtain ⟨_, hlen, hc⟩ := World.cells?_some h1
      have hj : j < 3 := (List.getElem?_eq_some_iff.1 hv).1
      have := hc j hj
      rw [Deep.add_add] at this
      rw [this]
      exact hv)
    refine ⟨F, by omega, fun i hi => ?_⟩
    obtain ⟨h1, h2⟩ := hF i hi
    exact ⟨ad, rfl, (by have := World.block_lt_of_cell? w _ (h1 0 _ rfl); unfold Addr.add at this; split at this <;> exact this), h1, h2⟩
end
theorem RdTurn.kept {w w' : World} {A : Option Addr} {m : Nat} {F : Nat → PTurn} (h : RdTurn w A m F) (hb : Below w.heap.size w w') : RdTurn w' A m F := by
  refine ⟨h.1, fun i hi => ?_⟩
  obtain ⟨ad, rfl, hlt, h0, h5⟩ := h.2 i hi
  have hs := hb.size
  exact ⟨ad, rfl, by omega, fun j v hv => (hb.cell (by unfold Addr.add; split <;> exact hlt)).trans (h0 j v hv), h5⟩
theorem RdTurn.at_ {w : World} {A : Option Addr} {m : Nat} {F : Nat → PTurn} (h : RdTurn w A m F) {i : Nat} (hi : i < m) : ∃ ad, A = some ad ∧ w.cell? (ad.add (i * 3)) = some (.int .i64 (F i).op) ∧ w.cell? ⟨(ad.add (i * 3)).block, (ad.add (i * 3)).off + 1, none⟩ = some (.int .i64 (F i).which) ∧ w.cell? ⟨(ad.add (i * 3)).block, (ad.add (i * 3)).off + 2, none⟩ = some (.int .u64 (F i).n) ∧ (F i).ok := by
  obtain ⟨ad, rfl, hlt, h0, h5⟩ := h.2 i hi
  refine ⟨ad, rfl, h0 0 _ rfl, ?_, ?_, h5⟩ <;> rw [addr_at _ _ _ (by decide)]
  · exact h0 1 _ rfl
  · exact h0 2 _ rfl
end Go.Proofs.Ythnjeiandfdpgaa
