/-
  ebstack's Op as it lies in the heap, and what each of its functions does, each way.
-/
import Derived.Test.YtgfeagggkplegaaGreatOpM
import Derived.Deep.DeepCutAuto
namespace Go.Proofs.YtgfeagggkplegaaGreat
open Go.RowKit
set_option linter.unusedVariables false
set_option linter.unusedSimpArgs false

/-- An operation's cells. -/
abbrev opB (p : Nat) (n s h t bud base wait : Int) (sv : Value) (rg ex : Int) (push : Bool) (v i failed : Int) (pv : Value) (st : Int) (retry : Bool) : Asn := boxA p #[.int .i64 n, .int .i64 s, .int .i64 h, .int .u32 t, .int .i64 bud, .int .i64 base, .int .u64 wait, sv, .int .i64 rg, .int .i64 ex, .bool push, .int .u64 v, .int .u32 i, .int .i64 failed, pv, .int .i64 st, .bool retry] 124
abbrev ptI (v : Nat) : Value := .iface 119 (.pointer (some ⟨v, 0, none⟩))
abbrev pgI (v : Nat) : Value := .iface 181 (.pointer (some ⟨v, 0, none⟩))
abbrev pvI (v : Nat) : Value := .iface 126 (.pointer (some ⟨v, 0, none⟩))
abbrev paI (a : Int) (wr : Bool) : Value := .iface 183 (.agg #[.int .i64 a, .bool wr])
theorem cells17 {w : World} {b : Nat} {a0 a1 a2 a3 a4 a5 a6 a7 a8 a9 a10 a11 a12 a13 a14 a15 a16 : Value} {e : TypeId} (h : w.heap[b]? = some (.cells #[a0, a1, a2, a3, a4, a5, a6, a7, a8, a9, a10, a11, a12, a13, a14, a15, a16] e (0, 0))) :
    (w.cell? ⟨b, 0, none⟩ = some a0 ∧ w.cell? ⟨b, 1, none⟩ = some a1 ∧ w.cell? ⟨b, 2, none⟩ = some a2 ∧ w.cell? ⟨b, 3, none⟩ = some a3 ∧ w.cell? ⟨b, 4, none⟩ = some a4 ∧ w.cell? ⟨b, 5, none⟩ = some a5 ∧ w.cell? ⟨b, 6, none⟩ = some a6 ∧ w.cell? ⟨b, 7, none⟩ = some a7 ∧ w.cell? ⟨b, 8, none⟩ = some a8 ∧ w.cell? ⟨b, 9, none⟩ = some a9 ∧ w.cell? ⟨b, 10, none⟩ = some a10 ∧ w.cell? ⟨b, 11, none⟩ = some a11 ∧ w.cell? ⟨b, 12, none⟩ = some a12 ∧ w.cell? ⟨b, 13, none⟩ = some a13 ∧ w.cell? ⟨b, 14, none⟩ = some a14 ∧ w.cell? ⟨b, 15, none⟩ = some a15 ∧ w.cell? ⟨b, 16, none⟩ = some a16) ∧ (w.frozen? ⟨b, 7, none⟩ = false ∧ w.frozen? ⟨b, 8, none⟩ = false ∧ w.frozen? ⟨b, 9, none⟩ = false ∧ w.frozen? ⟨b, 11, none⟩ = false ∧ w.frozen? ⟨b, 12, none⟩ = false ∧ w.frozen? ⟨b, 13, none⟩ = false ∧ w.frozen? ⟨b, 14, none⟩ = false ∧ w.frozen? ⟨b, 15, none⟩ = false ∧ w.frozen? ⟨b, 16, none⟩ = false) ∧ b < w.heap.size :=
  ⟨⟨cell_of h 0, cell_of h 1, cell_of h 2, cell_of h 3, cell_of h 4, cell_of h 5, cell_of h 6, cell_of h 7, cell_of h 8, cell_of h 9, cell_of h 10, cell_of h 11, cell_of h 12, cell_of h 13, cell_of h 14, cell_of h 15, cell_of h 16⟩, ⟨free_of h 7, free_of h 8, free_of h 9, free_of h 11, free_of h 12, free_of h 13, free_of h 14, free_of h 15, free_of h 16⟩, lt_of_heap h⟩
/-- What an interface value's assertions tell. -/
theorem as_take (v : Value) (w : World) : (Instr.typeAssert (.iface 119 v) 20 119 false).run Tryz.prog w = .ok v w := by kernel_rfl
theorem as_give (v : Value) (w : World) : (Instr.typeAssert (.iface 181 v) 20 181 false).run Tryz.prog w = .ok v w := by kernel_rfl
theorem as_visit (v : Value) (w : World) : (Instr.typeAssert (.iface 126 v) 20 126 false).run Tryz.prog w = .ok v w := by kernel_rfl
theorem as_acc (v : Value) (w : World) : (Instr.typeAssert (.iface 183 v) 20 183 false).run Tryz.prog w = .ok v w := by kernel_rfl
theorem as_tkT (v : Value) (w : World) : (Instr.typeAssert (.iface 121 v) 20 169 false).run Tryz.prog w = .ok (.iface 121 v) w := by kernel_rfl
theorem as_tkG (v : Value) (w : World) : (Instr.typeAssert (.iface 230 v) 20 169 false).run Tryz.prog w = .ok (.iface 230 v) w := by kernel_rfl
theorem is_take_take (v : Value) (w : World) : (Instr.typeAssert (.iface 119 v) 20 119 true).run Tryz.prog w = .ok (.tuple #[v, .bool true]) w := by kernel_rfl
theorem is_take_give (v : Value) (w : World) : (Instr.typeAssert (.iface 119 v) 20 181 true).run Tryz.prog w = .ok (.tuple #[.pointer none, .bool false]) w := by kernel_rfl
theorem is_take_visit (v : Value) (w : World) : (Instr.typeAssert (.iface 119 v) 20 126 true).run Tryz.prog w = .ok (.tuple #[.pointer none, .bool false]) w := by kernel_rfl
theorem is_take_acc (v : Value) (w : World) : (Instr.typeAssert (.iface 119 v) 20 183 true).run Tryz.prog w = .ok (.tuple #[.agg #[.int .i64 0, .bool false], .bool false]) w := by kernel_rfl
theorem is_give_take (v : Value) (w : World) : (Instr.typeAssert (.iface 181 v) 20 119 true).run Tryz.prog w = .ok (.tuple #[.pointer none, .bool false]) w := by kernel_rfl
theorem is_give_give (v : Value) (w : World) : (Instr.typeAssert (.iface 181 v) 20 181 true).run Tryz.prog w = .ok (.tuple #[v, .bool true]) w := by kernel_rfl
theorem is_give_visit (v : Value) (w : World) : (Instr.typeAssert (.iface 181 v) 20 126 true).run Tryz.prog w = .ok (.tuple #[.pointer none, .bool false]) w := by kernel_rfl
theorem is_give_acc (v : Value) (w : World) : (Instr.typeAssert (.iface 181 v) 20 183 true).run Tryz.prog w = .ok (.tuple #[.agg #[.int .i64 0, .bool false], .bool false]) w := by kernel_rfl
theorem is_visit_take (v : Value) (w : World) : (Instr.typeAssert (.iface 126 v) 20 119 true).run Tryz.prog w = .ok (.tuple #[.pointer none, .bool false]) w := by kernel_rfl
theorem is_visit_give (v : Value) (w : World) : (Instr.typeAssert (.iface 126 v) 20 181 true).run Tryz.prog w = .ok (.tuple #[.pointer none, .bool false]) w := by kernel_rfl
theorem is_visit_visit (v : Value) (w : World) : (Instr.typeAssert (.iface 126 v) 20 126 true).run Tryz.prog w = .ok (.tuple #[v, .bool true]) w := by kernel_rfl
theorem is_visit_acc (v : Value) (w : World) : (Instr.typeAssert (.iface 126 v) 20 183 true).run Tryz.prog w = .ok (.tuple #[.agg #[.int .i64 0, .bool false], .bool false]) w := by kernel_rfl
theorem is_acc_take (v : Value) (w : World) : (Instr.typeAssert (.iface 183 v) 20 119 true).run Tryz.prog w = .ok (.tuple #[.pointer none, .bool false]) w := by kernel_rfl
theorem is_acc_give (v : Value) (w : World) : (Instr.typeAssert (.iface 183 v) 20 181 true).run Tryz.prog w = .ok (.tuple #[.pointer none, .bool false]) w := by kernel_rfl
theorem is_acc_visit (v : Value) (w : World) : (Instr.typeAssert (.iface 183 v) 20 126 true).run Tryz.prog w = .ok (.tuple #[.pointer none, .bool false]) w := by kernel_rfl
theorem is_acc_acc (v : Value) (w : World) : (Instr.typeAssert (.iface 183 v) 20 183 true).run Tryz.prog w = .ok (.tuple #[v, .bool true]) w := by kernel_rfl
theorem is_tkT_take (v : Value) (w : World) : (Instr.typeAssert (.iface 121 v) 20 119 true).run Tryz.prog w = .ok (.tuple #[.pointer none, .bool false]) w := by kernel_rfl
theorem is_tkT_give (v : Value) (w : World) : (Instr.typeAssert (.iface 121 v) 20 181 true).run Tryz.prog w = .ok (.tuple #[.pointer none, .bool false]) w := by kernel_rfl
theorem is_tkT_visit (v : Value) (w : World) : (Instr.typeAssert (.iface 121 v) 20 126 true).run Tryz.prog w = .ok (.tuple #[.pointer none, .bool false]) w := by kernel_rfl
theorem is_tkT_acc (v : Value) (w : World) : (Instr.typeAssert (.iface 121 v) 20 183 true).run Tryz.prog w = .ok (.tuple #[.agg #[.int .i64 0, .bool false], .bool false]) w := by kernel_rfl
theorem is_tkG_take (v : Value) (w : World) : (Instr.typeAssert (.iface 230 v) 20 119 true).run Tryz.prog w = .ok (.tuple #[.pointer none, .bool false]) w := by kernel_rfl
theorem is_tkG_give (v : Value) (w : World) : (Instr.typeAssert (.iface 230 v) 20 181 true).run Tryz.prog w = .ok (.tuple #[.pointer none, .bool false]) w := by kernel_rfl
theorem is_tkG_visit (v : Value) (w : World) : (Instr.typeAssert (.iface 230 v) 20 126 true).run Tryz.prog w = .ok (.tuple #[.pointer none, .bool false]) w := by kernel_rfl
theorem is_tkG_acc (v : Value) (w : World) : (Instr.typeAssert (.iface 230 v) 20 183 true).run Tryz.prog w = .ok (.tuple #[.agg #[.int .i64 0, .bool false], .bool false]) w := by kernel_rfl
/-- The place of a node's value. -/
theorem value_any (n s h t i : Int) (w : World) (i0 : 0 ≤ i) (i1 : i < 4294967296) :
    Calls Tryz.prog 82 #[.agg #[.int .i64 n, .int .i64 s, .int .i64 h, .int .u32 t], .int .u32 i] w fun e w' => e = .returned (.int .i64 (valI n s h i)) ∧ Below w.heap.size w w' := by
  by_cases c : i = 0
  · subst c
    go_enter Tryz.func82, Tryz.ntmps82
    go_wp2
    go_ret
    exact ⟨rfl, by go_grown⟩
  · have hv : valI n s h i = atI n s h 0 (2 * (i - 1) + 1) := by unfold valI; rw [if_neg c]
    rw [hv]
    have c0 : (i == 0) = false := by simpa using c
    have e1 : IntKind.i64.wrap (IntKind.i64.wrap (2 * IntKind.i64.wrap (IntKind.i64.wrap i - 1)) + 1) = 2 * (i - 1) + 1 := by simp only [IntKind.wrap_i64]; omega
    have hA := Lib.hid (fun w => at_any n s h t 0 (2 * (i - 1) + 1) w (by decide))
    clear hv e1
    go_enter Tryz.func82, Tryz.ntmps82
    go_wp2_with (go_at_call 83; refine (hA.out _).mono ?_; rintro e w1 ⟨rfl, hb⟩; (have HB1 := Lib.hid hb); clear hb)
    go_ret
    exact ⟨rfl, (bl_alloc (bl_refl w) _).trans (HB1.out.mono (by simp))⟩

set_option maxHeartbeats 8000000 in
theorem o_goes_take {w0 w : World} {p : Nat} {L : List Asn} {n s h t bud base wait : Int} {sv : Value} {rg ex : Int} {push : Bool} {v i failed : Int} {pv : Value} {st : Int} {retry : Bool} {x : Nat} (hS : St w0 (opB p n s h t bud base wait sv rg ex push v i failed pv st retry :: L) w) :
    Calls Tryz.prog 110 #[.pointer (some ⟨p, 0, none⟩), ptI x] w fun e w' => e = .returned (.int .i64 0) ∧ St w0 (opB p n s h t bud base wait sv rg ex push v i failed (ptI x) st retry :: L) w' := by
  have H := Lib.hid hS
  obtain ⟨⟨c0, c1, c2, c3, c4, c5, c6, c7, c8, c9, c10, c11, c12, c13, c14, c15, c16⟩, ⟨z7, z8, z9, z11, z12, z13, z14, z15, z16⟩, lp⟩ := cells17 (hS.cells 0 rfl)
  clear hS
  go_enter Tryz.func110, Tryz.ntmps110
  go_wp2
  go_ret
  exact ⟨rfl, H.out.setAt 0 rfl 14 _⟩

set_option maxHeartbeats 8000000 in
theorem o_goes_give {w0 w : World} {p : Nat} {L : List Asn} {n s h t bud base wait : Int} {sv : Value} {rg ex : Int} {push : Bool} {v i failed : Int} {pv : Value} {st : Int} {retry : Bool} {x : Nat} (hS : St w0 (opB p n s h t bud base wait sv rg ex push v i failed pv st retry :: L) w) :
    Calls Tryz.prog 110 #[.pointer (some ⟨p, 0, none⟩), pgI x] w fun e w' => e = .returned (.int .i64 0) ∧ St w0 (opB p n s h t bud base wait sv rg ex push v i failed (pgI x) st retry :: L) w' := by
  have H := Lib.hid hS
  obtain ⟨⟨c0, c1, c2, c3, c4, c5, c6, c7, c8, c9, c10, c11, c12, c13, c14, c15, c16⟩, ⟨z7, z8, z9, z11, z12, z13, z14, z15, z16⟩, lp⟩ := cells17 (hS.cells 0 rfl)
  clear hS
  go_enter Tryz.func110, Tryz.ntmps110
  go_wp2
  go_ret
  exact ⟨rfl, H.out.setAt 0 rfl 14 _⟩

set_option maxHeartbeats 8000000 in
theorem o_goes_visit {w0 w : World} {p : Nat} {L : List Asn} {n s h t bud base wait : Int} {sv : Value} {rg ex : Int} {push : Bool} {v i failed : Int} {pv : Value} {st : Int} {retry : Bool} {x : Nat} (hS : St w0 (opB p n s h t bud base wait sv rg ex push v i failed pv st retry :: L) w) :
    Calls Tryz.prog 110 #[.pointer (some ⟨p, 0, none⟩), pvI x] w fun e w' => e = .returned (.int .i64 0) ∧ St w0 (opB p n s h t bud base wait sv rg ex push v i failed (pvI x) st retry :: L) w' := by
  have H := Lib.hid hS
  obtain ⟨⟨c0, c1, c2, c3, c4, c5, c6, c7, c8, c9, c10, c11, c12, c13, c14, c15, c16⟩, ⟨z7, z8, z9, z11, z12, z13, z14, z15, z16⟩, lp⟩ := cells17 (hS.cells 0 rfl)
  clear hS
  go_enter Tryz.func110, Tryz.ntmps110
  go_wp2
  go_ret
  exact ⟨rfl, H.out.setAt 0 rfl 14 _⟩

set_option maxHeartbeats 8000000 in
theorem o_goes_tkT {w0 w : World} {p : Nat} {L : List Asn} {n s h t bud base wait : Int} {sv : Value} {rg ex : Int} {push : Bool} {v i failed : Int} {pv : Value} {st : Int} {retry : Bool} {x : Nat} (hS : St w0 (opB p n s h t bud base wait sv rg ex push v i failed pv st retry :: L) w) :
    Calls Tryz.prog 110 #[.pointer (some ⟨p, 0, none⟩), tkI x] w fun e w' => e = .returned (.int .i64 0) ∧ St w0 (opB p n s h t bud base wait sv rg ex push v i failed (tkI x) st retry :: L) w' := by
  have H := Lib.hid hS
  obtain ⟨⟨c0, c1, c2, c3, c4, c5, c6, c7, c8, c9, c10, c11, c12, c13, c14, c15, c16⟩, ⟨z7, z8, z9, z11, z12, z13, z14, z15, z16⟩, lp⟩ := cells17 (hS.cells 0 rfl)
  clear hS
  go_enter Tryz.func110, Tryz.ntmps110
  go_wp2
  go_ret
  exact ⟨rfl, H.out.setAt 0 rfl 14 _⟩

set_option maxHeartbeats 8000000 in
theorem o_goes_tkG {w0 w : World} {p : Nat} {L : List Asn} {n s h t bud base wait : Int} {sv : Value} {rg ex : Int} {push : Bool} {v i failed : Int} {pv : Value} {st : Int} {retry : Bool} {x : Nat} (hS : St w0 (opB p n s h t bud base wait sv rg ex push v i failed pv st retry :: L) w) :
    Calls Tryz.prog 110 #[.pointer (some ⟨p, 0, none⟩), gvI x] w fun e w' => e = .returned (.int .i64 0) ∧ St w0 (opB p n s h t bud base wait sv rg ex push v i failed (gvI x) st retry :: L) w' := by
  have H := Lib.hid hS
  obtain ⟨⟨c0, c1, c2, c3, c4, c5, c6, c7, c8, c9, c10, c11, c12, c13, c14, c15, c16⟩, ⟨z7, z8, z9, z11, z12, z13, z14, z15, z16⟩, lp⟩ := cells17 (hS.cells 0 rfl)
  clear hS
  go_enter Tryz.func110, Tryz.ntmps110
  go_wp2
  go_ret
  exact ⟨rfl, H.out.setAt 0 rfl 14 _⟩

set_option maxHeartbeats 8000000 in
theorem o_goes_acc {w0 w : World} {p : Nat} {L : List Asn} {n s h t bud base wait : Int} {sv : Value} {rg ex : Int} {push : Bool} {v i failed : Int} {pv : Value} {st : Int} {retry : Bool} {a : Int} {wr : Bool} (hS : St w0 (opB p n s h t bud base wait sv rg ex push v i failed pv st retry :: L) w) :
    Calls Tryz.prog 110 #[.pointer (some ⟨p, 0, none⟩), paI a wr] w fun e w' => e = .returned (.int .i64 0) ∧ St w0 (opB p n s h t bud base wait sv rg ex push v i failed (paI a wr) st retry :: L) w' := by
  have H := Lib.hid hS
  obtain ⟨⟨c0, c1, c2, c3, c4, c5, c6, c7, c8, c9, c10, c11, c12, c13, c14, c15, c16⟩, ⟨z7, z8, z9, z11, z12, z13, z14, z15, z16⟩, lp⟩ := cells17 (hS.cells 0 rfl)
  clear hS
  go_enter Tryz.func110, Tryz.ntmps110
  go_wp2
  go_ret
  exact ⟨rfl, H.out.setAt 0 rfl 14 _⟩

set_option maxHeartbeats 8000000 in
theorem o_core_push {w0 w : World} {p : Nat} {L : List Asn} {n s h t bud base wait : Int} {sv : Value} {rg ex : Int}  {v i failed : Int} {pv : Value} {st : Int} {retry : Bool} (hS : St w0 (opB p n s h t bud base wait sv rg ex true v i failed pv st retry :: L) w) :
    Calls Tryz.prog 115 #[.pointer (some ⟨p, 0, none⟩)] w fun e w' => ∃ x, e = .returned (.int .i64 0) ∧ St w0 (tlA x (newGv n s h t 0 i) :: opB p n s h t bud base wait sv rg ex true v i failed (gvI x) st retry :: L) w' := by
  have H := Lib.hid hS
  obtain ⟨⟨c0, c1, c2, c3, c4, c5, c6, c7, c8, c9, c10, c11, c12, c13, c14, c15, c16⟩, ⟨z7, z8, z9, z11, z12, z13, z14, z15, z16⟩, lp⟩ := cells17 (hS.cells 0 rfl)
  clear hS
  go_enter Tryz.func115, Tryz.ntmps115
  go_upto_region 2 with (fail)
  go_region_with (first | ((have _h := H1); go_at_call 110; refine (o_goes_tkG (H1.out.front 1 rfl)).mono ?_; rintro e w2 ⟨rfl, k⟩; (have H2 := Lib.hid k); clear k _h) | (go_at_call 141; refine (give_new n s h t 0 i H.out.drew).mono ?_; rintro e w1 ⟨x, rfl, k⟩; (have H1 := Lib.hid k); clear k; clear c0 c1 c2 c3 c4 c5 c6 c7 c8 c9 c10 c11 c12 c13 c14 c15 c16 z7 z8 z9 z11 z12 z13 z14 z15 z16 lp; obtain ⟨⟨c0, c1, c2, c3, c4, c5, c6, c7, c8, c9, c10, c11, c12, c13, c14, c15, c16⟩, ⟨z7, z8, z9, z11, z12, z13, z14, z15, z16⟩, lp⟩ := cells17 (H1.out.cells 1 rfl)))
  all_goals go_wp2
  all_goals go_ret
  all_goals exact ⟨x, rfl, H2.out.front 1 rfl⟩

set_option maxHeartbeats 8000000 in
theorem o_core_pop {w0 w : World} {p : Nat} {L : List Asn} {n s h t bud base wait : Int} {sv : Value} {rg ex : Int}  {v i failed : Int} {pv : Value} {st : Int} {retry : Bool} (hS : St w0 (opB p n s h t bud base wait sv rg ex false v i failed pv st retry :: L) w) :
    Calls Tryz.prog 115 #[.pointer (some ⟨p, 0, none⟩)] w fun e w' => ∃ x, e = .returned (.int .i64 0) ∧ St w0 (tlA x (newTk n s h t 0) :: opB p n s h t bud base wait sv rg ex false v i failed (tkI x) st retry :: L) w' := by
  have H := Lib.hid hS
  obtain ⟨⟨c0, c1, c2, c3, c4, c5, c6, c7, c8, c9, c10, c11, c12, c13, c14, c15, c16⟩, ⟨z7, z8, z9, z11, z12, z13, z14, z15, z16⟩, lp⟩ := cells17 (hS.cells 0 rfl)
  clear hS
  go_enter Tryz.func115, Tryz.ntmps115
  go_wp2_with (first | ((have _h := H1); go_at_call 110; refine (o_goes_tkT (H1.out.front 1 rfl)).mono ?_; rintro e w2 ⟨rfl, k⟩; (have H2 := Lib.hid k); clear k _h) | (go_at_call 57; refine (take_new n s h t 0 H.out).mono ?_; rintro e w1 ⟨x, rfl, k⟩; (have H1 := Lib.hid k); clear k; clear c0 c1 c2 c3 c4 c5 c6 c7 c8 c9 c10 c11 c12 c13 c14 c15 c16 z7 z8 z9 z11 z12 z13 z14 z15 z16 lp; obtain ⟨⟨c0, c1, c2, c3, c4, c5, c6, c7, c8, c9, c10, c11, c12, c13, c14, c15, c16⟩, ⟨z7, z8, z9, z11, z12, z13, z14, z15, z16⟩, lp⟩ := cells17 (H1.out.cells 1 rfl)))
  go_ret
  exact ⟨x, rfl, H2.out.front 1 rfl⟩

set_option maxHeartbeats 8000000 in
theorem o_has {w0 w : World} {p : Nat} {L : List Asn} {n s h t bud base wait : Int} {sv : Value} {rg ex : Int} {push : Bool} {v i failed : Int} {pv : Value} {st : Int} {retry : Bool} {j : Int} (hS : St w0 (opB p n s h t bud base wait sv rg ex push v i failed pv st retry :: L) w) (j0 : 0 ≤ j) (j1 : j < 4294967296) (a : Int) (ha : valI n s h j = a) :
    Calls Tryz.prog 116 #[.pointer (some ⟨p, 0, none⟩), .int .u32 j] w fun e w' => e = .returned (.int .i64 0) ∧ St w0 (opB p n s h t bud base wait sv rg ex push v j failed (paI a false) st retry :: L) w' := by
  have H := Lib.hid hS
  have HA := Lib.hid ha
  obtain ⟨⟨c0, c1, c2, c3, c4, c5, c6, c7, c8, c9, c10, c11, c12, c13, c14, c15, c16⟩, ⟨z7, z8, z9, z11, z12, z13, z14, z15, z16⟩, lp⟩ := cells17 (hS.cells 0 rfl)
  clear hS ha
  go_enter Tryz.func116, Tryz.ntmps116
  go_wp2_with (first | ((have _h := H1); go_at_call 110; refine (o_goes_acc (H1.out.front 0 rfl)).mono ?_; rintro e w2 ⟨rfl, k⟩; (have H2 := Lib.hid k); clear k _h) | (go_at_call 82; refine (value_any n s h t j _ j0 j1).mono ?_; rintro e w1 ⟨rfl, k⟩; rw [HA.out]; (have H1 := Lib.hid ((H.out.setAt 0 rfl 12 (.int .u32 j)).below k)); clear k; clear c0 c1 c2 c3 c4 c5 c6 c7 c8 c9 c10 c11 c12 c13 c14 c15 c16 z7 z8 z9 z11 z12 z13 z14 z15 z16 lp; obtain ⟨⟨c0, c1, c2, c3, c4, c5, c6, c7, c8, c9, c10, c11, c12, c13, c14, c15, c16⟩, ⟨z7, z8, z9, z11, z12, z13, z14, z15, z16⟩, lp⟩ := cells17 (H1.out.cells 0 rfl)))
  go_ret
  exact ⟨rfl, H2.out⟩

set_option maxHeartbeats 8000000 in
theorem o_back {w0 w : World} {p : Nat} {L : List Asn} {n s h t bud base wait : Int} {rg ex : Int} {push : Bool} {v i failed : Int} {pv : Value} {st : Int} {retry : Bool} {A : Option Addr} {c : Nat} {l : List Int} (hS : St w0 (opB p n s h t bud base wait (.slice A l.length c) rg ex push v i failed pv st retry :: row32 (.slice A l.length c) l :: L) w) (hl : l.length ≤ 1000000000000) :
    Calls Tryz.prog 117 #[.pointer (some ⟨p, 0, none⟩)] w fun e w' => ∃ x, e = .returned (.int .i64 0) ∧ St w0 (arA x (newAG n s h t bud l i) :: opB p n s h t bud base wait (.slice A l.length c) rg ex push v i failed (pgI x) st retry :: row32 (.slice A l.length c) l :: L) w' := by
  have HH := Lib.hid hS
  have HR := Lib.hid (row32_rd (hS.rowOf 1 rfl)).1
  have HCS : Hid (∀ (L' : List Asn) (k : Nat) (pv' : Value) (w' : World), St w0 L' w' → L'[k]? = some (opB p n s h t bud base wait (.slice A l.length c) rg ex push v i failed pv' st retry) → w'.cell? ⟨p, 0, none⟩ = some (.int .i64 n) ∧ w'.cell? ⟨p, 1, none⟩ = some (.int .i64 s) ∧ w'.cell? ⟨p, 2, none⟩ = some (.int .i64 h) ∧ w'.cell? ⟨p, 3, none⟩ = some (.int .u32 t) ∧ w'.cell? ⟨p, 4, none⟩ = some (.int .i64 bud) ∧ w'.cell? ⟨p, 7, none⟩ = some (.slice A l.length c) ∧ w'.cell? ⟨p, 12, none⟩ = some (.int .u32 i)) := Lib.hid fun L' k pv' w' h e => by
    obtain ⟨⟨c0, c1, c2, c3, c4, c5, c6, c7, c8, c9, c10, c11, c12, c13, c14, c15, c16⟩, ⟨z7, z8, z9, z11, z12, z13, z14, z15, z16⟩, lp⟩ := cells17 (h.cells k e)
    exact ⟨c0, c1, c2, c3, c4, c7, c12⟩
  clear hS
  go_enter Tryz.func117, Tryz.ntmps117
  go_upto_region 1 with (fail)
  go_region_held3 (fun w' => w'.cell? ⟨p, 0, none⟩ = some (.int .i64 n) ∧ w'.cell? ⟨p, 1, none⟩ = some (.int .i64 s) ∧ w'.cell? ⟨p, 2, none⟩ = some (.int .i64 h) ∧ w'.cell? ⟨p, 3, none⟩ = some (.int .u32 t) ∧ w'.cell? ⟨p, 4, none⟩ = some (.int .i64 bud) ∧ w'.cell? ⟨p, 7, none⟩ = some (.slice A l.length c) ∧ w'.cell? ⟨p, 12, none⟩ = some (.int .u32 i)) (first | exact HCS.out _ 0 _ _ H2.out rfl | exact HCS.out _ 1 _ _ H1.out rfl | exact HCS.out _ 0 _ _ HH.out.drew rfl | exact HCS.out _ 0 _ _ HH.out rfl) (first | ((have _h := H1); go_at_call 110; refine (o_goes_give (H1.out.front 1 rfl)).mono ?_; rintro e w2 ⟨rfl, k⟩; (have H2 := Lib.hid k); clear k _h) | (go_at_call 142; refine (agive_new n s h t bud i A l.length c l HH.out.drew (HR.out.kept (bl_drew (bl_refl w))) rfl hl).mono ?_; rintro e w1 ⟨x, rfl, k⟩; (have H1 := Lib.hid k); clear k))
  go_wp2
  go_ret
  exact ⟨x, rfl, (show St w0 (_ :: arA x _ :: _ :: L) _ from H2.out).re 3 [1, 0, 2]⟩

set_option maxHeartbeats 8000000 in
theorem o_cont_retry {w0 w : World} {p : Nat} {L : List Asn} {n s h t bud base wait : Int} {rg ex : Int}  {v i failed : Int} {pv : Value} {st : Int} {retry : Bool} {A : Option Addr} {c : Nat} {l : List Int} (hS : St w0 (opB p n s h t bud base wait (.slice A l.length c) rg ex true v i failed pv st retry :: row32 (.slice A l.length c) l :: L) w) (f0 : 0 ≤ failed) (f1 : failed ≤ 1000) (hm : bud < failed + 1) (hl : l.length ≤ 1000000000000) :
    Calls Tryz.prog 118 #[.pointer (some ⟨p, 0, none⟩)] w fun e w' => ∃ x, e = .returned (.int .i64 0) ∧ St w0 (arA x (newAG n s h t bud l i) :: opB p n s h t bud base wait (.slice A l.length c) rg ex true v i (failed + 1) (pgI x) st true :: row32 (.slice A l.length c) l :: L) w' := by
  have H := Lib.hid hS
  have wf : IntKind.i64.wrap (failed + 1) = failed + 1 := by rw [IntKind.wrap_i64]; omega
  have dm : decide (bud < failed + 1) = true := decide_eq_true (by omega)
  obtain ⟨⟨c0, c1, c2, c3, c4, c5, c6, c7, c8, c9, c10, c11, c12, c13, c14, c15, c16⟩, ⟨z7, z8, z9, z11, z12, z13, z14, z15, z16⟩, lp⟩ := cells17 (hS.cells 0 rfl)
  clear hS hm
  go_enter Tryz.func118, Tryz.ntmps118
  go_upto_region 2 with (fail)
  have h5 := H.out.setAt 0 rfl 13 (.int .i64 (failed + 1))
  generalize w.setCell ⟨p, 13, none⟩ (.int .i64 (failed + 1)) = W5 at *
  have H5 := Lib.hid h5
  clear c0 c1 c2 c3 c4 c5 c6 c7 c8 c9 c10 c11 c12 c13 c14 c15 c16 z7 z8 z9 z11 z12 z13 z14 z15 z16 lp
  obtain ⟨⟨c0, c1, c2, c3, c4, c5, c6, c7, c8, c9, c10, c11, c12, c13, c14, c15, c16⟩, ⟨z7, z8, z9, z11, z12, z13, z14, z15, z16⟩, lp⟩ := cells17 (h5.cells 0 rfl)
  clear h5
  go_quiet (fail)
  go_wp2_with (go_at_call 117; refine (o_back (H5.out.drewN nq |>.setAt 0 rfl 16 (.bool true)) hl).mono ?_; rintro e w1 ⟨x, rfl, k⟩; (have H1 := Lib.hid k); clear k)
  go_ret
  exact ⟨x, rfl, H1.out⟩

set_option maxHeartbeats 8000000 in
theorem o_cont_over {w0 w : World} {p : Nat} {L : List Asn} {n s h t bud base wait : Int} {rg ex : Int}  {v i failed : Int} {pv : Value} {st : Int} {retry : Bool} {A : Option Addr} {c : Nat} {l : List Int} (hS : St w0 (opB p n s h t bud base wait (.slice A l.length c) rg ex false v i failed pv st retry :: row32 (.slice A l.length c) l :: L) w) (f0 : 0 ≤ failed) (f1 : failed ≤ 1000) (hm : bud < failed + 1) :
    Calls Tryz.prog 118 #[.pointer (some ⟨p, 0, none⟩)] w fun e w' => e = .returned (.int .i64 6) ∧ St w0 (opB p n s h t bud base wait (.slice A l.length c) rg ex false v i (failed + 1) pv st retry :: row32 (.slice A l.length c) l :: L) w' := by
  have H := Lib.hid hS
  have wf : IntKind.i64.wrap (failed + 1) = failed + 1 := by rw [IntKind.wrap_i64]; omega
  have dm : decide (bud < failed + 1) = true := decide_eq_true (by omega)
  obtain ⟨⟨c0, c1, c2, c3, c4, c5, c6, c7, c8, c9, c10, c11, c12, c13, c14, c15, c16⟩, ⟨z7, z8, z9, z11, z12, z13, z14, z15, z16⟩, lp⟩ := cells17 (hS.cells 0 rfl)
  clear hS hm
  go_enter Tryz.func118, Tryz.ntmps118
  go_upto_region 2 with (fail)
  have h5 := H.out.setAt 0 rfl 13 (.int .i64 (failed + 1))
  generalize w.setCell ⟨p, 13, none⟩ (.int .i64 (failed + 1)) = W5 at *
  have H5 := Lib.hid h5
  clear c0 c1 c2 c3 c4 c5 c6 c7 c8 c9 c10 c11 c12 c13 c14 c15 c16 z7 z8 z9 z11 z12 z13 z14 z15 z16 lp
  obtain ⟨⟨c0, c1, c2, c3, c4, c5, c6, c7, c8, c9, c10, c11, c12, c13, c14, c15, c16⟩, ⟨z7, z8, z9, z11, z12, z13, z14, z15, z16⟩, lp⟩ := cells17 (h5.cells 0 rfl)
  clear h5
  go_quiet (fail)
  have H6 := Lib.hid (H5.out.drewN nq)
  generalize W5.drewN nq = W6 at *
  clear c0 c1 c2 c3 c4 c5 c6 c7 c8 c9 c10 c11 c12 c13 c14 c15 c16 z7 z8 z9 z11 z12 z13 z14 z15 z16 lp
  obtain ⟨⟨c0, c1, c2, c3, c4, c5, c6, c7, c8, c9, c10, c11, c12, c13, c14, c15, c16⟩, ⟨z7, z8, z9, z11, z12, z13, z14, z15, z16⟩, lp⟩ := cells17 (H6.out.cells 0 rfl)
  go_upto_region 5 with (fail)
  go_quiet (fail)
  go_wp2
  go_ret
  exact ⟨rfl, H6.out.drewN nq⟩

set_option maxHeartbeats 8000000 in
theorem o_cont_core_push {w0 w : World} {p : Nat} {L : List Asn} {n s h t bud base wait : Int} {rg ex : Int}  {v i failed : Int} {pv : Value} {st : Int} {retry : Bool} {A : Option Addr} {c : Nat} {l : List Int} (hS : St w0 (opB p n s h t bud base wait (.slice A l.length c) rg ex true v i failed pv st retry :: row32 (.slice A l.length c) l :: L) w) (f0 : 0 ≤ failed) (f1 : failed ≤ 1000) (hm : failed + 1 ≤ bud) (hs : s = 0) :
    Calls Tryz.prog 118 #[.pointer (some ⟨p, 0, none⟩)] w fun e w' => ∃ x, e = .returned (.int .i64 0) ∧ St w0 (tlA x (newGv n s h t 0 i) :: opB p n s h t bud base wait (.slice A l.length c) rg ex true v i (failed + 1) (gvI x) st retry :: row32 (.slice A l.length c) l :: L) w' := by
  have H := Lib.hid hS
  have wf : IntKind.i64.wrap (failed + 1) = failed + 1 := by rw [IntKind.wrap_i64]; omega
  have dm : decide (bud < failed + 1) = false := decide_eq_false (by omega)
  have s0 : (s == 0) = true := by simp [hs]
  clear hs
  obtain ⟨⟨c0, c1, c2, c3, c4, c5, c6, c7, c8, c9, c10, c11, c12, c13, c14, c15, c16⟩, ⟨z7, z8, z9, z11, z12, z13, z14, z15, z16⟩, lp⟩ := cells17 (hS.cells 0 rfl)
  clear hS hm
  go_enter Tryz.func118, Tryz.ntmps118
  go_upto_region 2 with (fail)
  have h5 := H.out.setAt 0 rfl 13 (.int .i64 (failed + 1))
  generalize w.setCell ⟨p, 13, none⟩ (.int .i64 (failed + 1)) = W5 at *
  have H5 := Lib.hid h5
  clear c0 c1 c2 c3 c4 c5 c6 c7 c8 c9 c10 c11 c12 c13 c14 c15 c16 z7 z8 z9 z11 z12 z13 z14 z15 z16 lp
  obtain ⟨⟨c0, c1, c2, c3, c4, c5, c6, c7, c8, c9, c10, c11, c12, c13, c14, c15, c16⟩, ⟨z7, z8, z9, z11, z12, z13, z14, z15, z16⟩, lp⟩ := cells17 (h5.cells 0 rfl)
  clear h5
  go_quiet (fail)
  have H6 := Lib.hid (H5.out.drewN nq)
  generalize W5.drewN nq = W6 at *
  clear c0 c1 c2 c3 c4 c5 c6 c7 c8 c9 c10 c11 c12 c13 c14 c15 c16 z7 z8 z9 z11 z12 z13 z14 z15 z16 lp
  obtain ⟨⟨c0, c1, c2, c3, c4, c5, c6, c7, c8, c9, c10, c11, c12, c13, c14, c15, c16⟩, ⟨z7, z8, z9, z11, z12, z13, z14, z15, z16⟩, lp⟩ := cells17 (H6.out.cells 0 rfl)
  go_upto_region 5 with (fail)
  go_quiet (fail)
  have HH := Lib.hid (show St w0 (opB p n s h t bud base wait (.slice A l.length c) rg ex true v i (failed + 1) pv st retry :: row32 (.slice A l.length c) l :: L) _ from H6.out.drewN nq)
  go_wp2_with (go_at_call 115; refine (o_core_push HH.out).mono ?_; rintro e w1 ⟨x, rfl, k⟩; (have H1 := Lib.hid k); clear k)
  go_ret
  exact ⟨x, rfl, H1.out⟩

set_option maxHeartbeats 8000000 in
theorem o_cont_visit_push {w0 w : World} {p : Nat} {L : List Asn} {n s h t bud base wait : Int} {rg ex : Int}  {v i failed : Int} {pv : Value} {st : Int} {retry : Bool} {A : Option Addr} {c : Nat} {l : List Int} (hS : St w0 (opB p n s h t bud base wait (.slice A l.length c) rg ex true v i failed pv st retry :: row32 (.slice A l.length c) l :: L) w) (f0 : 0 ≤ failed) (f1 : failed ≤ 1000) (hm : failed + 1 ≤ bud) (hs : s ≠ 0) :
    Calls Tryz.prog 118 #[.pointer (some ⟨p, 0, none⟩)] w fun e w' => ∃ x, e = .returned (.int .i64 0) ∧ St w0 (opB p n s h t bud base wait (.slice A l.length c) rg ex true v i (failed + 1) (pvI x) st retry :: row32 (.slice A l.length c) l :: emA x (newEM n s h t rg ex true i base wait) :: L) w' := by
  have H := Lib.hid hS
  have wf : IntKind.i64.wrap (failed + 1) = failed + 1 := by rw [IntKind.wrap_i64]; omega
  have dm : decide (bud < failed + 1) = false := decide_eq_false (by omega)
  have s0 : (s == 0) = false := by simpa using hs
  clear hs
  have HCS : Hid (∀ (L' : List Asn) (k : Nat) (pv' : Value) (w' : World), St w0 L' w' → L'[k]? = some (opB p n s h t bud base wait (.slice A l.length c) rg ex true v i (failed + 1) pv' st retry) → w'.cell? ⟨p, 0, none⟩ = some (.int .i64 n) ∧ w'.cell? ⟨p, 1, none⟩ = some (.int .i64 s) ∧ w'.cell? ⟨p, 2, none⟩ = some (.int .i64 h) ∧ w'.cell? ⟨p, 3, none⟩ = some (.int .u32 t) ∧ w'.cell? ⟨p, 5, none⟩ = some (.int .i64 base) ∧ w'.cell? ⟨p, 6, none⟩ = some (.int .u64 wait) ∧ w'.cell? ⟨p, 8, none⟩ = some (.int .i64 rg) ∧ w'.cell? ⟨p, 9, none⟩ = some (.int .i64 ex) ∧ w'.cell? ⟨p, 10, none⟩ = some (.bool true) ∧ w'.cell? ⟨p, 12, none⟩ = some (.int .u32 i)) := Lib.hid fun L' k pv' w' h e => by
    obtain ⟨⟨c0, c1, c2, c3, c4, c5, c6, c7, c8, c9, c10, c11, c12, c13, c14, c15, c16⟩, ⟨z7, z8, z9, z11, z12, z13, z14, z15, z16⟩, lp⟩ := cells17 (h.cells k e)
    exact ⟨c0, c1, c2, c3, c5, c6, c8, c9, c10, c12⟩
  obtain ⟨⟨c0, c1, c2, c3, c4, c5, c6, c7, c8, c9, c10, c11, c12, c13, c14, c15, c16⟩, ⟨z7, z8, z9, z11, z12, z13, z14, z15, z16⟩, lp⟩ := cells17 (hS.cells 0 rfl)
  clear hS hm
  go_enter Tryz.func118, Tryz.ntmps118
  go_upto_region 2 with (fail)
  have h5 := H.out.setAt 0 rfl 13 (.int .i64 (failed + 1))
  generalize w.setCell ⟨p, 13, none⟩ (.int .i64 (failed + 1)) = W5 at *
  have H5 := Lib.hid h5
  clear c0 c1 c2 c3 c4 c5 c6 c7 c8 c9 c10 c11 c12 c13 c14 c15 c16 z7 z8 z9 z11 z12 z13 z14 z15 z16 lp
  obtain ⟨⟨c0, c1, c2, c3, c4, c5, c6, c7, c8, c9, c10, c11, c12, c13, c14, c15, c16⟩, ⟨z7, z8, z9, z11, z12, z13, z14, z15, z16⟩, lp⟩ := cells17 (h5.cells 0 rfl)
  clear h5
  go_quiet (fail)
  have H6 := Lib.hid (H5.out.drewN nq)
  generalize W5.drewN nq = W6 at *
  clear c0 c1 c2 c3 c4 c5 c6 c7 c8 c9 c10 c11 c12 c13 c14 c15 c16 z7 z8 z9 z11 z12 z13 z14 z15 z16 lp
  obtain ⟨⟨c0, c1, c2, c3, c4, c5, c6, c7, c8, c9, c10, c11, c12, c13, c14, c15, c16⟩, ⟨z7, z8, z9, z11, z12, z13, z14, z15, z16⟩, lp⟩ := cells17 (H6.out.cells 0 rfl)
  go_upto_region 5 with (fail)
  go_quiet (fail)
  go_upto_region 9 with (fail)
  have HH := Lib.hid (show St w0 (opB p n s h t bud base wait (.slice A l.length c) rg ex true v i (failed + 1) pv st retry :: row32 (.slice A l.length c) l :: L) _ from H6.out.drewN nq)
  go_region_held3 (fun w' => w'.cell? ⟨p, 0, none⟩ = some (.int .i64 n) ∧ w'.cell? ⟨p, 1, none⟩ = some (.int .i64 s) ∧ w'.cell? ⟨p, 2, none⟩ = some (.int .i64 h) ∧ w'.cell? ⟨p, 3, none⟩ = some (.int .u32 t) ∧ w'.cell? ⟨p, 5, none⟩ = some (.int .i64 base) ∧ w'.cell? ⟨p, 6, none⟩ = some (.int .u64 wait) ∧ w'.cell? ⟨p, 8, none⟩ = some (.int .i64 rg) ∧ w'.cell? ⟨p, 9, none⟩ = some (.int .i64 ex) ∧ w'.cell? ⟨p, 10, none⟩ = some (.bool true) ∧ w'.cell? ⟨p, 12, none⟩ = some (.int .u32 i)) (first | exact HCS.out _ 0 _ _ H2.out rfl | exact HCS.out _ 0 _ _ H1.out rfl | exact HCS.out _ 0 _ _ HH.out.drew rfl | exact HCS.out _ 0 _ _ HH.out rfl) (first | ((have _h := H1); go_at_call 110; refine (o_goes_visit H1.out).mono ?_; rintro e w2 ⟨rfl, k⟩; (have H2 := Lib.hid k); clear k _h) | (go_at_call 143; refine (em_new n s h t rg ex true i base wait HH.out.drew).mono ?_; rintro e w1 ⟨x, rfl, k⟩; (have H1 := Lib.hid k); clear k))
  go_wp2
  go_ret
  exact ⟨x, rfl, H2.out⟩

set_option maxHeartbeats 8000000 in
theorem o_cont_core_pop {w0 w : World} {p : Nat} {L : List Asn} {n s h t bud base wait : Int} {rg ex : Int}  {v i failed : Int} {pv : Value} {st : Int} {retry : Bool} {A : Option Addr} {c : Nat} {l : List Int} (hS : St w0 (opB p n s h t bud base wait (.slice A l.length c) rg ex false v i failed pv st retry :: row32 (.slice A l.length c) l :: L) w) (f0 : 0 ≤ failed) (f1 : failed ≤ 1000) (hm : failed + 1 ≤ bud) (hs : s = 0) :
    Calls Tryz.prog 118 #[.pointer (some ⟨p, 0, none⟩)] w fun e w' => ∃ x, e = .returned (.int .i64 0) ∧ St w0 (tlA x (newTk n s h t 0) :: opB p n s h t bud base wait (.slice A l.length c) rg ex false v i (failed + 1) (tkI x) st retry :: row32 (.slice A l.length c) l :: L) w' := by
  have H := Lib.hid hS
  have wf : IntKind.i64.wrap (failed + 1) = failed + 1 := by rw [IntKind.wrap_i64]; omega
  have dm : decide (bud < failed + 1) = false := decide_eq_false (by omega)
  have s0 : (s == 0) = true := by simp [hs]
  clear hs
  obtain ⟨⟨c0, c1, c2, c3, c4, c5, c6, c7, c8, c9, c10, c11, c12, c13, c14, c15, c16⟩, ⟨z7, z8, z9, z11, z12, z13, z14, z15, z16⟩, lp⟩ := cells17 (hS.cells 0 rfl)
  clear hS hm
  go_enter Tryz.func118, Tryz.ntmps118
  go_upto_region 2 with (fail)
  have h5 := H.out.setAt 0 rfl 13 (.int .i64 (failed + 1))
  generalize w.setCell ⟨p, 13, none⟩ (.int .i64 (failed + 1)) = W5 at *
  have H5 := Lib.hid h5
  clear c0 c1 c2 c3 c4 c5 c6 c7 c8 c9 c10 c11 c12 c13 c14 c15 c16 z7 z8 z9 z11 z12 z13 z14 z15 z16 lp
  obtain ⟨⟨c0, c1, c2, c3, c4, c5, c6, c7, c8, c9, c10, c11, c12, c13, c14, c15, c16⟩, ⟨z7, z8, z9, z11, z12, z13, z14, z15, z16⟩, lp⟩ := cells17 (h5.cells 0 rfl)
  clear h5
  go_quiet (fail)
  have H6 := Lib.hid (H5.out.drewN nq)
  generalize W5.drewN nq = W6 at *
  clear c0 c1 c2 c3 c4 c5 c6 c7 c8 c9 c10 c11 c12 c13 c14 c15 c16 z7 z8 z9 z11 z12 z13 z14 z15 z16 lp
  obtain ⟨⟨c0, c1, c2, c3, c4, c5, c6, c7, c8, c9, c10, c11, c12, c13, c14, c15, c16⟩, ⟨z7, z8, z9, z11, z12, z13, z14, z15, z16⟩, lp⟩ := cells17 (H6.out.cells 0 rfl)
  go_upto_region 5 with (fail)
  go_quiet (fail)
  have HH := Lib.hid (show St w0 (opB p n s h t bud base wait (.slice A l.length c) rg ex false v i (failed + 1) pv st retry :: row32 (.slice A l.length c) l :: L) _ from H6.out.drewN nq)
  go_wp2_with (go_at_call 115; refine (o_core_pop HH.out).mono ?_; rintro e w1 ⟨x, rfl, k⟩; (have H1 := Lib.hid k); clear k)
  go_ret
  exact ⟨x, rfl, H1.out⟩

set_option maxHeartbeats 8000000 in
theorem o_cont_visit_pop {w0 w : World} {p : Nat} {L : List Asn} {n s h t bud base wait : Int} {rg ex : Int}  {v i failed : Int} {pv : Value} {st : Int} {retry : Bool} {A : Option Addr} {c : Nat} {l : List Int} (hS : St w0 (opB p n s h t bud base wait (.slice A l.length c) rg ex false v i failed pv st retry :: row32 (.slice A l.length c) l :: L) w) (f0 : 0 ≤ failed) (f1 : failed ≤ 1000) (hm : failed + 1 ≤ bud) (hs : s ≠ 0) :
    Calls Tryz.prog 118 #[.pointer (some ⟨p, 0, none⟩)] w fun e w' => ∃ x, e = .returned (.int .i64 0) ∧ St w0 (opB p n s h t bud base wait (.slice A l.length c) rg ex false v i (failed + 1) (pvI x) st retry :: row32 (.slice A l.length c) l :: emA x (newEM n s h t rg ex false i base wait) :: L) w' := by
  have H := Lib.hid hS
  have wf : IntKind.i64.wrap (failed + 1) = failed + 1 := by rw [IntKind.wrap_i64]; omega
  have dm : decide (bud < failed + 1) = false := decide_eq_false (by omega)
  have s0 : (s == 0) = false := by simpa using hs
  clear hs
  have HCS : Hid (∀ (L' : List Asn) (k : Nat) (pv' : Value) (w' : World), St w0 L' w' → L'[k]? = some (opB p n s h t bud base wait (.slice A l.length c) rg ex false v i (failed + 1) pv' st retry) → w'.cell? ⟨p, 0, none⟩ = some (.int .i64 n) ∧ w'.cell? ⟨p, 1, none⟩ = some (.int .i64 s) ∧ w'.cell? ⟨p, 2, none⟩ = some (.int .i64 h) ∧ w'.cell? ⟨p, 3, none⟩ = some (.int .u32 t) ∧ w'.cell? ⟨p, 5, none⟩ = some (.int .i64 base) ∧ w'.cell? ⟨p, 6, none⟩ = some (.int .u64 wait) ∧ w'.cell? ⟨p, 8, none⟩ = some (.int .i64 rg) ∧ w'.cell? ⟨p, 9, none⟩ = some (.int .i64 ex) ∧ w'.cell? ⟨p, 10, none⟩ = some (.bool false) ∧ w'.cell? ⟨p, 12, none⟩ = some (.int .u32 i)) := Lib.hid fun L' k pv' w' h e => by
    obtain ⟨⟨c0, c1, c2, c3, c4, c5, c6, c7, c8, c9, c10, c11, c12, c13, c14, c15, c16⟩, ⟨z7, z8, z9, z11, z12, z13, z14, z15, z16⟩, lp⟩ := cells17 (h.cells k e)
    exact ⟨c0, c1, c2, c3, c5, c6, c8, c9, c10, c12⟩
  obtain ⟨⟨c0, c1, c2, c3, c4, c5, c6, c7, c8, c9, c10, c11, c12, c13, c14, c15, c16⟩, ⟨z7, z8, z9, z11, z12, z13, z14, z15, z16⟩, lp⟩ := cells17 (hS.cells 0 rfl)
  clear hS hm
  go_enter Tryz.func118, Tryz.ntmps118
  go_upto_region 2 with (fail)
  have h5 := H.out.setAt 0 rfl 13 (.int .i64 (failed + 1))
  generalize w.setCell ⟨p, 13, none⟩ (.int .i64 (failed + 1)) = W5 at *
  have H5 := Lib.hid h5
  clear c0 c1 c2 c3 c4 c5 c6 c7 c8 c9 c10 c11 c12 c13 c14 c15 c16 z7 z8 z9 z11 z12 z13 z14 z15 z16 lp
  obtain ⟨⟨c0, c1, c2, c3, c4, c5, c6, c7, c8, c9, c10, c11, c12, c13, c14, c15, c16⟩, ⟨z7, z8, z9, z11, z12, z13, z14, z15, z16⟩, lp⟩ := cells17 (h5.cells 0 rfl)
  clear h5
  go_quiet (fail)
  have H6 := Lib.hid (H5.out.drewN nq)
  generalize W5.drewN nq = W6 at *
  clear c0 c1 c2 c3 c4 c5 c6 c7 c8 c9 c10 c11 c12 c13 c14 c15 c16 z7 z8 z9 z11 z12 z13 z14 z15 z16 lp
  obtain ⟨⟨c0, c1, c2, c3, c4, c5, c6, c7, c8, c9, c10, c11, c12, c13, c14, c15, c16⟩, ⟨z7, z8, z9, z11, z12, z13, z14, z15, z16⟩, lp⟩ := cells17 (H6.out.cells 0 rfl)
  go_upto_region 5 with (fail)
  go_quiet (fail)
  go_upto_region 9 with (fail)
  have HH := Lib.hid (show St w0 (opB p n s h t bud base wait (.slice A l.length c) rg ex false v i (failed + 1) pv st retry :: row32 (.slice A l.length c) l :: L) _ from H6.out.drewN nq)
  go_region_held3 (fun w' => w'.cell? ⟨p, 0, none⟩ = some (.int .i64 n) ∧ w'.cell? ⟨p, 1, none⟩ = some (.int .i64 s) ∧ w'.cell? ⟨p, 2, none⟩ = some (.int .i64 h) ∧ w'.cell? ⟨p, 3, none⟩ = some (.int .u32 t) ∧ w'.cell? ⟨p, 5, none⟩ = some (.int .i64 base) ∧ w'.cell? ⟨p, 6, none⟩ = some (.int .u64 wait) ∧ w'.cell? ⟨p, 8, none⟩ = some (.int .i64 rg) ∧ w'.cell? ⟨p, 9, none⟩ = some (.int .i64 ex) ∧ w'.cell? ⟨p, 10, none⟩ = some (.bool false) ∧ w'.cell? ⟨p, 12, none⟩ = some (.int .u32 i)) (first | exact HCS.out _ 0 _ _ H2.out rfl | exact HCS.out _ 0 _ _ H1.out rfl | exact HCS.out _ 0 _ _ HH.out.drew rfl | exact HCS.out _ 0 _ _ HH.out rfl) (first | ((have _h := H1); go_at_call 110; refine (o_goes_visit H1.out).mono ?_; rintro e w2 ⟨rfl, k⟩; (have H2 := Lib.hid k); clear k _h) | (go_at_call 143; refine (em_new n s h t rg ex false i base wait HH.out.drew).mono ?_; rintro e w1 ⟨x, rfl, k⟩; (have H1 := Lib.hid k); clear k))
  go_wp2
  go_ret
  exact ⟨x, rfl, H2.out⟩

set_option maxHeartbeats 8000000 in
theorem o_took_n {w0 w : World} {q p : Nat} {ws ws' : List Int} {ns ns' nt : List Note} {L : List Asn} {n s h t bud base wait : Int} {rg ex : Int} {push : Bool} {v i failed : Int}  {st : Int} {retry : Bool} {A : Option Addr} {c : Nat} {l : List Int} {x : Nat} {S S' : AM} {r z : Int} (hS : St w0 (memA q ws ns :: arA x S :: opB p n s h t bud base wait (.slice A l.length c) rg ex push v i failed (ptI x) st retry :: row32 (.slice A l.length c) l :: L) w) (he : S.step ws = ⟨r, z, S', ws', nt⟩) (hn : ns ++ nt = ns') (hg : S.give = false) (hg' : S'.give = false) (hok : S.ok ws.length) (hk : ns.length ≤ 1000000000000) (hlen : S'.shelf.length ≤ 1000000000000) (hr : (r != 1) = true) :
    Calls Tryz.prog 88 #[.pointer (some ⟨p, 0, none⟩), .pointer (some ⟨q, 0, none⟩)] w fun e w' => ∃ a cq, e = .returned (.int .i64 r) ∧ St w0 (memA q ws' ns' :: arA x S' :: opB p n s h t bud base wait (.slice a S'.shelf.length cq) rg ex push v i failed (ptI x) st retry :: row32 (.slice a S'.shelf.length cq) S'.shelf :: L) w' := by
  have H := Lib.hid hS
  have HE := Lib.hid he
  have HN := Lib.hid hn
  have HOK := Lib.hid hok
  have hAS := as_take
  obtain ⟨⟨c0, c1, c2, c3, c4, c5, c6, c7, c8, c9, c10, c11, c12, c13, c14, c15, c16⟩, ⟨z7, z8, z9, z11, z12, z13, z14, z15, z16⟩, lp⟩ := cells17 (hS.cells 2 rfl)
  clear hS he hn hok
  go_enter Tryz.func88, Tryz.ntmps88
  go_wp2_with (first | ((have _h := H1); go_at_call 109; refine (ar_shelf_t hg' H1.out hlen).mono ?_; rintro e w2 ⟨a, cq, rfl, k⟩; (have H2 := Lib.hid k); clear k _h; clear c0 c1 c2 c3 c4 c5 c6 c7 c8 c9 c10 c11 c12 c13 c14 c15 c16 z7 z8 z9 z11 z12 z13 z14 z15 z16 lp; obtain ⟨⟨c0, c1, c2, c3, c4, c5, c6, c7, c8, c9, c10, c11, c12, c13, c14, c15, c16⟩, ⟨z7, z8, z9, z11, z12, z13, z14, z15, z16⟩, lp⟩ := cells17 (H2.out.cells 3 rfl)) | (go_at_call 108; refine (ar_out_t HE.out HN.out hg H.out HOK.out hk).mono ?_; rintro e w1 ⟨rfl, k⟩; (have H1 := Lib.hid k); clear k; clear c0 c1 c2 c3 c4 c5 c6 c7 c8 c9 c10 c11 c12 c13 c14 c15 c16 z7 z8 z9 z11 z12 z13 z14 z15 z16 lp; obtain ⟨⟨c0, c1, c2, c3, c4, c5, c6, c7, c8, c9, c10, c11, c12, c13, c14, c15, c16⟩, ⟨z7, z8, z9, z11, z12, z13, z14, z15, z16⟩, lp⟩ := cells17 (H1.out.cells 2 rfl)))
  go_ret
  exact ⟨a, cq, rfl, (show St w0 (row32 _ S'.shelf :: memA q ws' ns' :: arA x S' :: _ :: _ :: L) _ from H2.out.setAt 3 rfl 7 _).re 5 [1, 2, 3, 0]⟩

set_option maxHeartbeats 8000000 in
theorem o_took_1 {w0 w : World} {q p : Nat} {ws ws' : List Int} {ns ns' nt : List Note} {L : List Asn} {n s h t bud base wait : Int} {rg ex : Int} {push : Bool} {v i failed : Int}  {st : Int} {retry : Bool} {A : Option Addr} {c : Nat} {l : List Int} {x : Nat} {S S' : AM} {r z : Int} (hS : St w0 (memA q ws ns :: arA x S :: opB p n s h t bud base wait (.slice A l.length c) rg ex push v i failed (ptI x) st retry :: row32 (.slice A l.length c) l :: L) w) (he : S.step ws = ⟨r, z, S', ws', nt⟩) (hn : ns ++ nt = ns') (hg : S.give = false) (hg' : S'.give = false) (hok : S.ok ws.length) (hk : ns.length ≤ 1000000000000) (hlen : S'.shelf.length ≤ 1000000000000) (hr : r = 1) (z0 : 0 ≤ z) (z1 : z < 4294967296) (at_ : Int) (ha : valI n s h z = at_) :
    Calls Tryz.prog 88 #[.pointer (some ⟨p, 0, none⟩), .pointer (some ⟨q, 0, none⟩)] w fun e w' => ∃ a cq, e = .returned (.int .i64 0) ∧ St w0 (memA q ws' ns' :: arA x S' :: opB p n s h t bud base wait (.slice a S'.shelf.length cq) rg ex push v z failed (paI at_ true) st retry :: row32 (.slice a S'.shelf.length cq) S'.shelf :: L) w' := by
  have H := Lib.hid hS
  have HE := Lib.hid he
  have HN := Lib.hid hn
  have HOK := Lib.hid hok
  have HA := Lib.hid ha
  clear ha
  subst hr
  have hAS := as_take
  obtain ⟨⟨c0, c1, c2, c3, c4, c5, c6, c7, c8, c9, c10, c11, c12, c13, c14, c15, c16⟩, ⟨z7, z8, z9, z11, z12, z13, z14, z15, z16⟩, lp⟩ := cells17 (hS.cells 2 rfl)
  clear hS he hn hok
  go_enter Tryz.func88, Tryz.ntmps88
  go_wp2_with (first | ((have _h := H3); go_at_call 110; refine (o_goes_acc (H3.out.front 3 rfl)).mono ?_; rintro e w4 ⟨rfl, k⟩; (have H4 := Lib.hid k); clear k _h) | ((have _h := H2); go_at_call 82; refine (value_any n s h t z _ z0 z1).mono ?_; rintro e w3 ⟨rfl, k⟩; rw [HA.out]; (have H3 := Lib.hid (((H2.out.setAt 3 rfl 7 (.slice a S'.shelf.length cq)).setAt 3 rfl 12 (.int .u32 z)).below k)); clear k _h; clear c0 c1 c2 c3 c4 c5 c6 c7 c8 c9 c10 c11 c12 c13 c14 c15 c16 z7 z8 z9 z11 z12 z13 z14 z15 z16 lp; obtain ⟨⟨c0, c1, c2, c3, c4, c5, c6, c7, c8, c9, c10, c11, c12, c13, c14, c15, c16⟩, ⟨z7, z8, z9, z11, z12, z13, z14, z15, z16⟩, lp⟩ := cells17 (H3.out.cells 3 rfl)) | ((have _h := H1); go_at_call 109; refine (ar_shelf_t hg' H1.out hlen).mono ?_; rintro e w2 ⟨a, cq, rfl, k⟩; (have H2 := Lib.hid k); clear k _h; clear c0 c1 c2 c3 c4 c5 c6 c7 c8 c9 c10 c11 c12 c13 c14 c15 c16 z7 z8 z9 z11 z12 z13 z14 z15 z16 lp; obtain ⟨⟨c0, c1, c2, c3, c4, c5, c6, c7, c8, c9, c10, c11, c12, c13, c14, c15, c16⟩, ⟨z7, z8, z9, z11, z12, z13, z14, z15, z16⟩, lp⟩ := cells17 (H2.out.cells 3 rfl)) | (go_at_call 108; refine (ar_out_t HE.out HN.out hg H.out HOK.out hk).mono ?_; rintro e w1 ⟨rfl, k⟩; (have H1 := Lib.hid k); clear k; clear c0 c1 c2 c3 c4 c5 c6 c7 c8 c9 c10 c11 c12 c13 c14 c15 c16 z7 z8 z9 z11 z12 z13 z14 z15 z16 lp; obtain ⟨⟨c0, c1, c2, c3, c4, c5, c6, c7, c8, c9, c10, c11, c12, c13, c14, c15, c16⟩, ⟨z7, z8, z9, z11, z12, z13, z14, z15, z16⟩, lp⟩ := cells17 (H1.out.cells 2 rfl)))
  go_ret
  exact ⟨a, cq, rfl, (show St w0 (_ :: row32 _ S'.shelf :: memA q ws' ns' :: arA x S' :: _ :: L) _ from H4.out).re 5 [2, 3, 0, 1]⟩

set_option maxHeartbeats 8000000 in
theorem o_gave_n {w0 w : World} {q p : Nat} {ws ws' : List Int} {ns ns' nt : List Note} {L : List Asn} {n s h t bud base wait : Int} {rg ex : Int} {push : Bool} {v i failed : Int}  {st : Int} {retry : Bool} {A : Option Addr} {c : Nat} {l : List Int} {x : Nat} {S S' : AM} {r z : Int} (hS : St w0 (memA q ws ns :: arA x S :: opB p n s h t bud base wait (.slice A l.length c) rg ex push v i failed (pgI x) st retry :: row32 (.slice A l.length c) l :: L) w) (he : S.step ws = ⟨r, z, S', ws', nt⟩) (hn : ns ++ nt = ns') (hg : S.give = true) (hg' : S'.give = true) (hok : S.ok ws.length) (hk : ns.length ≤ 1000000000000) (hlen : S'.shelf.length ≤ 1000000000000) (hr : (r != 1) = true) :
    Calls Tryz.prog 89 #[.pointer (some ⟨p, 0, none⟩), .pointer (some ⟨q, 0, none⟩)] w fun e w' => ∃ a cq, e = .returned (.int .i64 r) ∧ St w0 (memA q ws' ns' :: arA x S' :: opB p n s h t bud base wait (.slice a S'.shelf.length cq) rg ex push v i failed (pgI x) st retry :: row32 (.slice a S'.shelf.length cq) S'.shelf :: L) w' := by
  have H := Lib.hid hS
  have HE := Lib.hid he
  have HN := Lib.hid hn
  have HOK := Lib.hid hok
  have hAS := as_give
  obtain ⟨⟨c0, c1, c2, c3, c4, c5, c6, c7, c8, c9, c10, c11, c12, c13, c14, c15, c16⟩, ⟨z7, z8, z9, z11, z12, z13, z14, z15, z16⟩, lp⟩ := cells17 (hS.cells 2 rfl)
  clear hS he hn hok
  go_enter Tryz.func89, Tryz.ntmps89
  go_wp2_with (first | ((have _h := H1); go_at_call 112; refine (ar_shelf_g hg' H1.out hlen).mono ?_; rintro e w2 ⟨a, cq, rfl, k⟩; (have H2 := Lib.hid k); clear k _h; clear c0 c1 c2 c3 c4 c5 c6 c7 c8 c9 c10 c11 c12 c13 c14 c15 c16 z7 z8 z9 z11 z12 z13 z14 z15 z16 lp; obtain ⟨⟨c0, c1, c2, c3, c4, c5, c6, c7, c8, c9, c10, c11, c12, c13, c14, c15, c16⟩, ⟨z7, z8, z9, z11, z12, z13, z14, z15, z16⟩, lp⟩ := cells17 (H2.out.cells 3 rfl)) | (go_at_call 111; refine (ar_out_g HE.out HN.out hg H.out HOK.out hk).mono ?_; rintro e w1 ⟨rfl, k⟩; (have H1 := Lib.hid k); clear k; clear c0 c1 c2 c3 c4 c5 c6 c7 c8 c9 c10 c11 c12 c13 c14 c15 c16 z7 z8 z9 z11 z12 z13 z14 z15 z16 lp; obtain ⟨⟨c0, c1, c2, c3, c4, c5, c6, c7, c8, c9, c10, c11, c12, c13, c14, c15, c16⟩, ⟨z7, z8, z9, z11, z12, z13, z14, z15, z16⟩, lp⟩ := cells17 (H1.out.cells 2 rfl)))
  go_ret
  exact ⟨a, cq, rfl, (show St w0 (row32 _ S'.shelf :: memA q ws' ns' :: arA x S' :: _ :: _ :: L) _ from H2.out.setAt 3 rfl 7 _).re 5 [1, 2, 3, 0]⟩

set_option maxHeartbeats 8000000 in
theorem o_gave_1t {w0 w : World} {q p : Nat} {ws ws' : List Int} {ns ns' nt : List Note} {L : List Asn} {n s h t bud base wait : Int} {rg ex : Int} {push : Bool} {v i failed : Int}  {st : Int} {retry : Bool} {A : Option Addr} {c : Nat} {l : List Int} {x : Nat} {S S' : AM} {r z : Int} (hS : St w0 (memA q ws ns :: arA x S :: opB p n s h t bud base wait (.slice A l.length c) rg ex push v i failed (pgI x) st retry :: row32 (.slice A l.length c) l :: L) w) (he : S.step ws = ⟨r, z, S', ws', nt⟩) (hn : ns ++ nt = ns') (hg : S.give = true) (hg' : S'.give = true) (hok : S.ok ws.length) (hk : ns.length ≤ 1000000000000) (hlen : S'.shelf.length ≤ 1000000000000) (hr : r = 1) (hrt : retry = true) :
    Calls Tryz.prog 89 #[.pointer (some ⟨p, 0, none⟩), .pointer (some ⟨q, 0, none⟩)] w fun e w' => ∃ a cq, e = .returned (.int .i64 6) ∧ St w0 (memA q ws' ns' :: arA x S' :: opB p n s h t bud base wait (.slice a S'.shelf.length cq) rg ex push v 0 failed (pgI x) st retry :: row32 (.slice a S'.shelf.length cq) S'.shelf :: L) w' := by
  have H := Lib.hid hS
  have HE := Lib.hid he
  have HN := Lib.hid hn
  have HOK := Lib.hid hok
  subst hr hrt
  have hAS := as_give
  obtain ⟨⟨c0, c1, c2, c3, c4, c5, c6, c7, c8, c9, c10, c11, c12, c13, c14, c15, c16⟩, ⟨z7, z8, z9, z11, z12, z13, z14, z15, z16⟩, lp⟩ := cells17 (hS.cells 2 rfl)
  clear hS he hn hok
  go_enter Tryz.func89, Tryz.ntmps89
  go_wp2_with (first | ((have _h := H1); go_at_call 112; refine (ar_shelf_g hg' H1.out hlen).mono ?_; rintro e w2 ⟨a, cq, rfl, k⟩; (have H2 := Lib.hid k); clear k _h; clear c0 c1 c2 c3 c4 c5 c6 c7 c8 c9 c10 c11 c12 c13 c14 c15 c16 z7 z8 z9 z11 z12 z13 z14 z15 z16 lp; obtain ⟨⟨c0, c1, c2, c3, c4, c5, c6, c7, c8, c9, c10, c11, c12, c13, c14, c15, c16⟩, ⟨z7, z8, z9, z11, z12, z13, z14, z15, z16⟩, lp⟩ := cells17 (H2.out.cells 3 rfl)) | (go_at_call 111; refine (ar_out_g HE.out HN.out hg H.out HOK.out hk).mono ?_; rintro e w1 ⟨rfl, k⟩; (have H1 := Lib.hid k); clear k; clear c0 c1 c2 c3 c4 c5 c6 c7 c8 c9 c10 c11 c12 c13 c14 c15 c16 z7 z8 z9 z11 z12 z13 z14 z15 z16 lp; obtain ⟨⟨c0, c1, c2, c3, c4, c5, c6, c7, c8, c9, c10, c11, c12, c13, c14, c15, c16⟩, ⟨z7, z8, z9, z11, z12, z13, z14, z15, z16⟩, lp⟩ := cells17 (H1.out.cells 2 rfl)))
  go_ret
  exact ⟨a, cq, rfl, (show St w0 (row32 _ S'.shelf :: memA q ws' ns' :: arA x S' :: _ :: _ :: L) _ from (H2.out.setAt 3 rfl 7 _).setAt 3 rfl 12 _).re 5 [1, 2, 3, 0]⟩

set_option maxHeartbeats 8000000 in
theorem o_gave_1f {w0 w : World} {q p : Nat} {ws ws' : List Int} {ns ns' nt : List Note} {L : List Asn} {n s h t bud base wait : Int} {rg ex : Int} {push : Bool} {v i failed : Int}  {st : Int} {retry : Bool} {A : Option Addr} {c : Nat} {l : List Int} {x : Nat} {S S' : AM} {r z : Int} (hS : St w0 (memA q ws ns :: arA x S :: opB p n s h t bud base wait (.slice A l.length c) rg ex push v i failed (pgI x) st retry :: row32 (.slice A l.length c) l :: L) w) (he : S.step ws = ⟨r, z, S', ws', nt⟩) (hn : ns ++ nt = ns') (hg : S.give = true) (hg' : S'.give = true) (hok : S.ok ws.length) (hk : ns.length ≤ 1000000000000) (hlen : S'.shelf.length ≤ 1000000000000) (hr : r = 1) (hrt : retry = false) :
    Calls Tryz.prog 89 #[.pointer (some ⟨p, 0, none⟩), .pointer (some ⟨q, 0, none⟩)] w fun e w' => ∃ a cq, e = .returned (.int .i64 1) ∧ St w0 (memA q ws' ns' :: arA x S' :: opB p n s h t bud base wait (.slice a S'.shelf.length cq) rg ex push v 0 failed (pgI x) st retry :: row32 (.slice a S'.shelf.length cq) S'.shelf :: L) w' := by
  have H := Lib.hid hS
  have HE := Lib.hid he
  have HN := Lib.hid hn
  have HOK := Lib.hid hok
  subst hr hrt
  have hAS := as_give
  obtain ⟨⟨c0, c1, c2, c3, c4, c5, c6, c7, c8, c9, c10, c11, c12, c13, c14, c15, c16⟩, ⟨z7, z8, z9, z11, z12, z13, z14, z15, z16⟩, lp⟩ := cells17 (hS.cells 2 rfl)
  clear hS he hn hok
  go_enter Tryz.func89, Tryz.ntmps89
  go_wp2_with (first | ((have _h := H1); go_at_call 112; refine (ar_shelf_g hg' H1.out hlen).mono ?_; rintro e w2 ⟨a, cq, rfl, k⟩; (have H2 := Lib.hid k); clear k _h; clear c0 c1 c2 c3 c4 c5 c6 c7 c8 c9 c10 c11 c12 c13 c14 c15 c16 z7 z8 z9 z11 z12 z13 z14 z15 z16 lp; obtain ⟨⟨c0, c1, c2, c3, c4, c5, c6, c7, c8, c9, c10, c11, c12, c13, c14, c15, c16⟩, ⟨z7, z8, z9, z11, z12, z13, z14, z15, z16⟩, lp⟩ := cells17 (H2.out.cells 3 rfl)) | (go_at_call 111; refine (ar_out_g HE.out HN.out hg H.out HOK.out hk).mono ?_; rintro e w1 ⟨rfl, k⟩; (have H1 := Lib.hid k); clear k; clear c0 c1 c2 c3 c4 c5 c6 c7 c8 c9 c10 c11 c12 c13 c14 c15 c16 z7 z8 z9 z11 z12 z13 z14 z15 z16 lp; obtain ⟨⟨c0, c1, c2, c3, c4, c5, c6, c7, c8, c9, c10, c11, c12, c13, c14, c15, c16⟩, ⟨z7, z8, z9, z11, z12, z13, z14, z15, z16⟩, lp⟩ := cells17 (H1.out.cells 2 rfl)))
  go_ret
  exact ⟨a, cq, rfl, (show St w0 (row32 _ S'.shelf :: memA q ws' ns' :: arA x S' :: _ :: _ :: L) _ from (H2.out.setAt 3 rfl 7 _).setAt 3 rfl 12 _).re 5 [1, 2, 3, 0]⟩

set_option maxHeartbeats 8000000 in
theorem o_acc_no_t {w0 w : World} {q p : Nat} {ws : List Int} {ns : List Note} {L : List Asn} {n s h t bud base wait : Int} {sv : Value} {rg ex : Int} {push : Bool} {v i failed : Int}  {st : Int} {retry : Bool} (at_ : Int) (hS : St w0 (memA q ws ns :: opB p n s h t bud base wait sv rg ex push v i failed (paI at_ true) st retry :: L) w) (ha : at_ < 0 ∨ (ws.length : Int) ≤ at_) :
    Calls Tryz.prog 91 #[.pointer (some ⟨p, 0, none⟩), .pointer (some ⟨q, 0, none⟩)] w fun e w' => e = .returned (.int .i64 5) ∧ St w0 (memA q ws ns :: opB p n s h t bud base wait sv rg ex push v i failed (paI at_ true) st retry :: L) w' := by
  have H := Lib.hid hS
  have hAS := as_acc
  have HB := Lib.hid (show St w0 (memA q ws ns :: boxA w.heap.size _ _ :: opB p n s h t bud base wait sv rg ex push v i failed (paI at_ true) st retry :: L) _ from ((H.out.alloc #[.int .i64 at_, .bool true] 183).re 3 [1, 0, 2]))
  obtain ⟨⟨c0, c1, c2, c3, c4, c5, c6, c7, c8, c9, c10, c11, c12, c13, c14, c15, c16⟩, ⟨z7, z8, z9, z11, z12, z13, z14, z15, z16⟩, lp⟩ := cells17 (hS.cells 1 rfl)
  clear hS
  go_enter Tryz.func91, Tryz.ntmps91
  go_upto_region 3 with (fail)
  go_region_with (go_at_call 32; refine (store_no HB.out.drew at_ v ha).mono ?_; rintro e w1 ⟨rfl, k⟩; (have H1 := Lib.hid k); clear k; clear c0 c1 c2 c3 c4 c5 c6 c7 c8 c9 c10 c11 c12 c13 c14 c15 c16 z7 z8 z9 z11 z12 z13 z14 z15 z16 lp; obtain ⟨⟨c0, c1, c2, c3, c4, c5, c6, c7, c8, c9, c10, c11, c12, c13, c14, c15, c16⟩, ⟨z7, z8, z9, z11, z12, z13, z14, z15, z16⟩, lp⟩ := cells17 (H1.out.cells 2 rfl))
  all_goals go_wp2
  all_goals go_ret
  all_goals exact ⟨rfl, (show St w0 (memA q ws ns :: _ :: _ :: L) _ from H1.out).re 3 [0, 2]⟩

set_option maxHeartbeats 8000000 in
theorem o_acc_no_f {w0 w : World} {q p : Nat} {ws : List Int} {ns : List Note} {L : List Asn} {n s h t bud base wait : Int} {sv : Value} {rg ex : Int} {push : Bool} {v i failed : Int}  {st : Int} {retry : Bool} (at_ : Int) (hS : St w0 (memA q ws ns :: opB p n s h t bud base wait sv rg ex push v i failed (paI at_ false) st retry :: L) w) (ha : at_ < 0 ∨ (ws.length : Int) ≤ at_) :
    Calls Tryz.prog 91 #[.pointer (some ⟨p, 0, none⟩), .pointer (some ⟨q, 0, none⟩)] w fun e w' => e = .returned (.int .i64 5) ∧ St w0 (memA q ws ns :: opB p n s h t bud base wait sv rg ex push v i failed (paI at_ false) st retry :: L) w' := by
  have H := Lib.hid hS
  have hAS := as_acc
  have HB := Lib.hid (show St w0 (memA q ws ns :: boxA w.heap.size _ _ :: opB p n s h t bud base wait sv rg ex push v i failed (paI at_ false) st retry :: L) _ from ((H.out.alloc #[.int .i64 at_, .bool false] 183).re 3 [1, 0, 2]))
  obtain ⟨⟨c0, c1, c2, c3, c4, c5, c6, c7, c8, c9, c10, c11, c12, c13, c14, c15, c16⟩, ⟨z7, z8, z9, z11, z12, z13, z14, z15, z16⟩, lp⟩ := cells17 (hS.cells 1 rfl)
  clear hS
  go_enter Tryz.func91, Tryz.ntmps91
  go_wp2_with (go_at_call 106; refine (load_no HB.out at_ ha).mono ?_; rintro e w1 ⟨rfl, k⟩; (have H1 := Lib.hid k); clear k; clear c0 c1 c2 c3 c4 c5 c6 c7 c8 c9 c10 c11 c12 c13 c14 c15 c16 z7 z8 z9 z11 z12 z13 z14 z15 z16 lp; obtain ⟨⟨c0, c1, c2, c3, c4, c5, c6, c7, c8, c9, c10, c11, c12, c13, c14, c15, c16⟩, ⟨z7, z8, z9, z11, z12, z13, z14, z15, z16⟩, lp⟩ := cells17 (H1.out.cells 2 rfl))
  go_ret
  exact ⟨rfl, (show St w0 (memA q ws ns :: _ :: _ :: L) _ from H1.out).re 3 [0, 2]⟩

set_option maxHeartbeats 8000000 in
theorem o_acc_write {w0 w : World} {q p : Nat} {ws : List Int} {ns : List Note} {L : List Asn} {n s h t bud base wait : Int} {sv : Value} {rg ex : Int}  {v i failed : Int}  {st : Int} {retry : Bool} (a : Nat) (y : Int) (hS : St w0 (memA q ws ns :: opB p n s h t bud base wait sv rg ex true v i failed (paI a true) st retry :: L) w) (ha : a < ws.length) (hy : rdW ws a = y) (hk : ns.length ≤ 1000000000000) (v0 : 0 ≤ v) (v1 : v < 18446744073709551616) :
    Calls Tryz.prog 91 #[.pointer (some ⟨p, 0, none⟩), .pointer (some ⟨q, 0, none⟩)] w fun e w' => ∃ x, e = .returned (.int .i64 0) ∧ St w0 (tlA x (newGv n s h t 0 i) :: opB p n s h t bud base wait sv rg ex true v i failed (gvI x) st retry :: memA q (ws.set a v) (ns ++ [stN a y v]) :: L) w' := by
  have H := Lib.hid hS
  have HY := Lib.hid hy
  have hAS := as_acc
  have HB := Lib.hid (show St w0 (memA q ws ns :: boxA w.heap.size _ _ :: opB p n s h t bud base wait sv rg ex true v i failed (paI a true) st retry :: L) _ from ((H.out.alloc #[.int .i64 a, .bool true] 183).re 3 [1, 0, 2]))
  obtain ⟨⟨c0, c1, c2, c3, c4, c5, c6, c7, c8, c9, c10, c11, c12, c13, c14, c15, c16⟩, ⟨z7, z8, z9, z11, z12, z13, z14, z15, z16⟩, lp⟩ := cells17 (hS.cells 1 rfl)
  clear hS hy
  go_enter Tryz.func91, Tryz.ntmps91
  go_upto_region 3 with (fail)
  go_region_with (go_at_call 32; refine (store_st HB.out.drew a y v HY.out ha hk v0 v1).mono ?_; rintro e w1 ⟨rfl, k⟩; (have H1 := Lib.hid k); clear k; clear c0 c1 c2 c3 c4 c5 c6 c7 c8 c9 c10 c11 c12 c13 c14 c15 c16 z7 z8 z9 z11 z12 z13 z14 z15 z16 lp; obtain ⟨⟨c0, c1, c2, c3, c4, c5, c6, c7, c8, c9, c10, c11, c12, c13, c14, c15, c16⟩, ⟨z7, z8, z9, z11, z12, z13, z14, z15, z16⟩, lp⟩ := cells17 (H1.out.cells 2 rfl))
  all_goals go_wp2_with (go_at_call 115; refine (o_core_push (H1.out.front 2 rfl)).mono ?_; rintro e w2 ⟨x, rfl, k⟩; (have H2 := Lib.hid k); clear k)
  all_goals go_ret
  all_goals exact ⟨x, rfl, (show St w0 (tlA x _ :: _ :: memA q _ _ :: _ :: L) _ from H2.out).re 4 [0, 1, 2]⟩

set_option maxHeartbeats 8000000 in
theorem o_acc_read {w0 w : World} {q p : Nat} {ws : List Int} {ns : List Note} {L : List Asn} {n s h t bud base wait : Int} {rg ex : Int} {push : Bool} {v i failed : Int}  {st : Int} {retry : Bool} {A : Option Addr} {c : Nat} {l : List Int} (a : Nat) (y : Int) (hS : St w0 (memA q ws ns :: opB p n s h t bud base wait (.slice A l.length c) rg ex push v i failed (paI a false) st retry :: row32 (.slice A l.length c) l :: L) w) (ha : a < ws.length) (hy : rdW ws a = y) (hk : ns.length ≤ 1000000000000) (hl : l.length ≤ 1000000000000) :
    Calls Tryz.prog 91 #[.pointer (some ⟨p, 0, none⟩), .pointer (some ⟨q, 0, none⟩)] w fun e w' => ∃ x, e = .returned (.int .i64 0) ∧ St w0 (arA x (newAG n s h t bud l i) :: opB p n s h t bud base wait (.slice A l.length c) rg ex push y i failed (pgI x) st retry :: row32 (.slice A l.length c) l :: memA q ws (ns ++ [ldN a y]) :: L) w' := by
  have H := Lib.hid hS
  have HY := Lib.hid hy
  have hAS := as_acc
  have HB := Lib.hid (show St w0 (memA q ws ns :: boxA w.heap.size _ _ :: opB p n s h t bud base wait (.slice A l.length c) rg ex push v i failed (paI a false) st retry :: row32 (.slice A l.length c) l :: L) _ from ((H.out.alloc #[.int .i64 a, .bool false] 183).re 4 [1, 0, 2, 3]))
  obtain ⟨⟨c0, c1, c2, c3, c4, c5, c6, c7, c8, c9, c10, c11, c12, c13, c14, c15, c16⟩, ⟨z7, z8, z9, z11, z12, z13, z14, z15, z16⟩, lp⟩ := cells17 (hS.cells 1 rfl)
  clear hS hy
  go_enter Tryz.func91, Tryz.ntmps91
  go_wp2_with (first | ((have _h := H1); go_at_call 117; refine (o_back ((show St w0 (memA q ws (ns ++ [ldN a y]) :: _ :: _ :: row32 _ l :: L) _ from H1.out.setAt 2 rfl 11 (.int .u64 y)).re 4 [2, 3, 0]) hl).mono ?_; rintro e w2 ⟨x, rfl, k⟩; (have H2 := Lib.hid k); clear k _h) | (go_at_call 106; refine (load_st HB.out a y HY.out ha hk).mono ?_; rintro e w1 ⟨rfl, k⟩; (have H1 := Lib.hid k); clear k; clear c0 c1 c2 c3 c4 c5 c6 c7 c8 c9 c10 c11 c12 c13 c14 c15 c16 z7 z8 z9 z11 z12 z13 z14 z15 z16 lp; obtain ⟨⟨c0, c1, c2, c3, c4, c5, c6, c7, c8, c9, c10, c11, c12, c13, c14, c15, c16⟩, ⟨z7, z8, z9, z11, z12, z13, z14, z15, z16⟩, lp⟩ := cells17 (H1.out.cells 2 rfl)))
  go_ret
  exact ⟨x, rfl, H2.out⟩

set_option maxHeartbeats 8000000 in
theorem o_tried_3_push {w0 w : World} {q p : Nat} {ws ws' : List Int} {ns ns' nt : List Note} {L : List Asn} {n s h t bud base wait : Int} {sv : Value} {rg ex : Int}  {v i failed : Int}  {st : Int} {retry : Bool} {x : Nat} {S S' : TM} {r z : Int} {R : Int → World → Prop} (hS : St w0 (memA q ws ns :: tlA x S :: opB p n s h t bud base wait sv rg ex true v i failed (gvI x) st retry :: L) w) (he : S.step ws = ⟨r, S', ws', nt⟩) (hn : ns ++ nt = ns') (hz : S'.told r = z) (hg : S.give = true) (hok : S.ok ws.length) (hk : ns.length ≤ 1000000000000) (hr : r = 3) (hP : ∀ w1, St w0 (memA q ws' ns' :: tlA x S' :: opB p n s h t bud base wait sv rg ex true v i failed (gvI x) st retry :: L) w1 → Calls Tryz.prog 118 #[.pointer (some ⟨p, 0, none⟩)] w1 fun e w' => ∃ c, e = .returned (.int .i64 c) ∧ R c w') :
    Calls Tryz.prog 92 #[.pointer (some ⟨p, 0, none⟩), .pointer (some ⟨q, 0, none⟩)] w fun e w' => ∃ c, e = .returned (.int .i64 c) ∧ R c w' := by
  have H := Lib.hid hS
  have HE := Lib.hid he
  have HN := Lib.hid hn
  have HZ := Lib.hid hz
  have HOK := Lib.hid hok
  subst hr
  have HP := Lib.hid hP
  have hAS := as_tkG
  obtain ⟨⟨c0, c1, c2, c3, c4, c5, c6, c7, c8, c9, c10, c11, c12, c13, c14, c15, c16⟩, ⟨z7, z8, z9, z11, z12, z13, z14, z15, z16⟩, lp⟩ := cells17 (hS.cells 2 rfl)
  clear hS he hn hz hok hP
  go_enter Tryz.func92, Tryz.ntmps92
  go_wp2_with (first | ((have _h := H1); go_at_call 118; refine (HP.out _ H1.out).mono ?_; rintro e w2 ⟨cr, rfl, hq⟩; (have HQ := Lib.hid hq); clear _h hq) | (go_at_call 218; refine (gv_out HE.out HN.out HZ.out hg H.out HOK.out hk).mono ?_; rintro e w1 ⟨rfl, k⟩; (have H1 := Lib.hid k); clear k; clear c0 c1 c2 c3 c4 c5 c6 c7 c8 c9 c10 c11 c12 c13 c14 c15 c16 z7 z8 z9 z11 z12 z13 z14 z15 z16 lp; obtain ⟨⟨c0, c1, c2, c3, c4, c5, c6, c7, c8, c9, c10, c11, c12, c13, c14, c15, c16⟩, ⟨z7, z8, z9, z11, z12, z13, z14, z15, z16⟩, lp⟩ := cells17 (H1.out.cells 2 rfl)))
  go_ret
  exact ⟨_, rfl, HQ.out⟩

set_option maxHeartbeats 8000000 in
theorem o_tried_n_push {w0 w : World} {q p : Nat} {ws ws' : List Int} {ns ns' nt : List Note} {L : List Asn} {n s h t bud base wait : Int} {sv : Value} {rg ex : Int}  {v i failed : Int}  {st : Int} {retry : Bool} {x : Nat} {S S' : TM} {r z : Int} (hS : St w0 (memA q ws ns :: tlA x S :: opB p n s h t bud base wait sv rg ex true v i failed (gvI x) st retry :: L) w) (he : S.step ws = ⟨r, S', ws', nt⟩) (hn : ns ++ nt = ns') (hz : S'.told r = z) (hg : S.give = true) (hok : S.ok ws.length) (hk : ns.length ≤ 1000000000000) (h3 : (r == 3) = false) (h1 : (r != 1) = true) :
    Calls Tryz.prog 92 #[.pointer (some ⟨p, 0, none⟩), .pointer (some ⟨q, 0, none⟩)] w fun e w' => e = .returned (.int .i64 r) ∧ St w0 (memA q ws' ns' :: tlA x S' :: opB p n s h t bud base wait sv rg ex true v i failed (gvI x) st retry :: L) w' := by
  have H := Lib.hid hS
  have HE := Lib.hid he
  have HN := Lib.hid hn
  have HZ := Lib.hid hz
  have HOK := Lib.hid hok
  have hAS := as_tkG
  obtain ⟨⟨c0, c1, c2, c3, c4, c5, c6, c7, c8, c9, c10, c11, c12, c13, c14, c15, c16⟩, ⟨z7, z8, z9, z11, z12, z13, z14, z15, z16⟩, lp⟩ := cells17 (hS.cells 2 rfl)
  clear hS he hn hz hok
  go_enter Tryz.func92, Tryz.ntmps92
  go_wp2_with (go_at_call 218; refine (gv_out HE.out HN.out HZ.out hg H.out HOK.out hk).mono ?_; rintro e w1 ⟨rfl, k⟩; (have H1 := Lib.hid k); clear k; clear c0 c1 c2 c3 c4 c5 c6 c7 c8 c9 c10 c11 c12 c13 c14 c15 c16 z7 z8 z9 z11 z12 z13 z14 z15 z16 lp; obtain ⟨⟨c0, c1, c2, c3, c4, c5, c6, c7, c8, c9, c10, c11, c12, c13, c14, c15, c16⟩, ⟨z7, z8, z9, z11, z12, z13, z14, z15, z16⟩, lp⟩ := cells17 (H1.out.cells 2 rfl))
  go_ret
  exact ⟨rfl, H1.out⟩

set_option maxHeartbeats 8000000 in
theorem o_tried_1_push {w0 w : World} {q p : Nat} {ws ws' : List Int} {ns ns' nt : List Note} {L : List Asn} {n s h t bud base wait : Int} {sv : Value} {rg ex : Int}  {v i failed : Int}  {st : Int} {retry : Bool} {x : Nat} {S S' : TM} {r z : Int} (hS : St w0 (memA q ws ns :: tlA x S :: opB p n s h t bud base wait sv rg ex true v i failed (gvI x) st retry :: L) w) (he : S.step ws = ⟨r, S', ws', nt⟩) (hn : ns ++ nt = ns') (hz : S'.told r = z) (hg : S.give = true) (hok : S.ok ws.length) (hk : ns.length ≤ 1000000000000) (hr : r = 1) :
    Calls Tryz.prog 92 #[.pointer (some ⟨p, 0, none⟩), .pointer (some ⟨q, 0, none⟩)] w fun e w' => e = .returned (.int .i64 1) ∧ St w0 (memA q ws' ns' :: tlA x S' :: opB p n s h t bud base wait sv rg ex true v 0 failed (gvI x) st retry :: L) w' := by
  have H := Lib.hid hS
  have HE := Lib.hid he
  have HN := Lib.hid hn
  have HZ := Lib.hid hz
  have HOK := Lib.hid hok
  subst hr
  have hAS := as_tkG
  obtain ⟨⟨c0, c1, c2, c3, c4, c5, c6, c7, c8, c9, c10, c11, c12, c13, c14, c15, c16⟩, ⟨z7, z8, z9, z11, z12, z13, z14, z15, z16⟩, lp⟩ := cells17 (hS.cells 2 rfl)
  clear hS he hn hz hok
  go_enter Tryz.func92, Tryz.ntmps92
  go_wp2_with (go_at_call 218; refine (gv_out HE.out HN.out HZ.out hg H.out HOK.out hk).mono ?_; rintro e w1 ⟨rfl, k⟩; (have H1 := Lib.hid k); clear k; clear c0 c1 c2 c3 c4 c5 c6 c7 c8 c9 c10 c11 c12 c13 c14 c15 c16 z7 z8 z9 z11 z12 z13 z14 z15 z16 lp; obtain ⟨⟨c0, c1, c2, c3, c4, c5, c6, c7, c8, c9, c10, c11, c12, c13, c14, c15, c16⟩, ⟨z7, z8, z9, z11, z12, z13, z14, z15, z16⟩, lp⟩ := cells17 (H1.out.cells 2 rfl))
  go_ret
  exact ⟨rfl, H1.out.setAt 2 rfl 12 _⟩

set_option maxHeartbeats 8000000 in
theorem o_tried_3_pop {w0 w : World} {q p : Nat} {ws ws' : List Int} {ns ns' nt : List Note} {L : List Asn} {n s h t bud base wait : Int} {sv : Value} {rg ex : Int}  {v i failed : Int}  {st : Int} {retry : Bool} {x : Nat} {S S' : TM} {r z : Int} {R : Int → World → Prop} (hS : St w0 (memA q ws ns :: tlA x S :: opB p n s h t bud base wait sv rg ex false v i failed (tkI x) st retry :: L) w) (he : S.step ws = ⟨r, S', ws', nt⟩) (hn : ns ++ nt = ns') (hz : S'.told r = z) (hg : S.give = false) (hok : S.ok ws.length) (hk : ns.length ≤ 1000000000000) (hr : r = 3) (hP : ∀ w1, St w0 (memA q ws' ns' :: tlA x S' :: opB p n s h t bud base wait sv rg ex false v i failed (tkI x) st retry :: L) w1 → Calls Tryz.prog 118 #[.pointer (some ⟨p, 0, none⟩)] w1 fun e w' => ∃ c, e = .returned (.int .i64 c) ∧ R c w') :
    Calls Tryz.prog 92 #[.pointer (some ⟨p, 0, none⟩), .pointer (some ⟨q, 0, none⟩)] w fun e w' => ∃ c, e = .returned (.int .i64 c) ∧ R c w' := by
  have H := Lib.hid hS
  have HE := Lib.hid he
  have HN := Lib.hid hn
  have HZ := Lib.hid hz
  have HOK := Lib.hid hok
  subst hr
  have HP := Lib.hid hP
  have hAS := as_tkT
  obtain ⟨⟨c0, c1, c2, c3, c4, c5, c6, c7, c8, c9, c10, c11, c12, c13, c14, c15, c16⟩, ⟨z7, z8, z9, z11, z12, z13, z14, z15, z16⟩, lp⟩ := cells17 (hS.cells 2 rfl)
  clear hS he hn hz hok hP
  go_enter Tryz.func92, Tryz.ntmps92
  go_wp2_with (first | ((have _h := H1); go_at_call 118; refine (HP.out _ H1.out).mono ?_; rintro e w2 ⟨cr, rfl, hq⟩; (have HQ := Lib.hid hq); clear _h hq) | (go_at_call 215; refine (tk_out HE.out HN.out HZ.out hg H.out HOK.out hk).mono ?_; rintro e w1 ⟨rfl, k⟩; (have H1 := Lib.hid k); clear k; clear c0 c1 c2 c3 c4 c5 c6 c7 c8 c9 c10 c11 c12 c13 c14 c15 c16 z7 z8 z9 z11 z12 z13 z14 z15 z16 lp; obtain ⟨⟨c0, c1, c2, c3, c4, c5, c6, c7, c8, c9, c10, c11, c12, c13, c14, c15, c16⟩, ⟨z7, z8, z9, z11, z12, z13, z14, z15, z16⟩, lp⟩ := cells17 (H1.out.cells 2 rfl)))
  go_ret
  exact ⟨_, rfl, HQ.out⟩

set_option maxHeartbeats 8000000 in
theorem o_tried_n_pop {w0 w : World} {q p : Nat} {ws ws' : List Int} {ns ns' nt : List Note} {L : List Asn} {n s h t bud base wait : Int} {sv : Value} {rg ex : Int}  {v i failed : Int}  {st : Int} {retry : Bool} {x : Nat} {S S' : TM} {r z : Int} (hS : St w0 (memA q ws ns :: tlA x S :: opB p n s h t bud base wait sv rg ex false v i failed (tkI x) st retry :: L) w) (he : S.step ws = ⟨r, S', ws', nt⟩) (hn : ns ++ nt = ns') (hz : S'.told r = z) (hg : S.give = false) (hok : S.ok ws.length) (hk : ns.length ≤ 1000000000000) (h3 : (r == 3) = false) (h1 : (r != 1) = true) :
    Calls Tryz.prog 92 #[.pointer (some ⟨p, 0, none⟩), .pointer (some ⟨q, 0, none⟩)] w fun e w' => e = .returned (.int .i64 r) ∧ St w0 (memA q ws' ns' :: tlA x S' :: opB p n s h t bud base wait sv rg ex false v i failed (tkI x) st retry :: L) w' := by
  have H := Lib.hid hS
  have HE := Lib.hid he
  have HN := Lib.hid hn
  have HZ := Lib.hid hz
  have HOK := Lib.hid hok
  have hAS := as_tkT
  obtain ⟨⟨c0, c1, c2, c3, c4, c5, c6, c7, c8, c9, c10, c11, c12, c13, c14, c15, c16⟩, ⟨z7, z8, z9, z11, z12, z13, z14, z15, z16⟩, lp⟩ := cells17 (hS.cells 2 rfl)
  clear hS he hn hz hok
  go_enter Tryz.func92, Tryz.ntmps92
  go_wp2_with (go_at_call 215; refine (tk_out HE.out HN.out HZ.out hg H.out HOK.out hk).mono ?_; rintro e w1 ⟨rfl, k⟩; (have H1 := Lib.hid k); clear k; clear c0 c1 c2 c3 c4 c5 c6 c7 c8 c9 c10 c11 c12 c13 c14 c15 c16 z7 z8 z9 z11 z12 z13 z14 z15 z16 lp; obtain ⟨⟨c0, c1, c2, c3, c4, c5, c6, c7, c8, c9, c10, c11, c12, c13, c14, c15, c16⟩, ⟨z7, z8, z9, z11, z12, z13, z14, z15, z16⟩, lp⟩ := cells17 (H1.out.cells 2 rfl))
  go_ret
  exact ⟨rfl, H1.out⟩

set_option maxHeartbeats 8000000 in
theorem o_tried_1_pop {w0 w : World} {q p : Nat} {ws ws' : List Int} {ns ns' nt : List Note} {L : List Asn} {n s h t bud base wait : Int} {sv : Value} {rg ex : Int}  {v i failed : Int}  {st : Int} {retry : Bool} {x : Nat} {S S' : TM} {r z : Int} (hS : St w0 (memA q ws ns :: tlA x S :: opB p n s h t bud base wait sv rg ex false v i failed (tkI x) st retry :: L) w) (he : S.step ws = ⟨r, S', ws', nt⟩) (hn : ns ++ nt = ns') (hz : S'.told r = z) (hg : S.give = false) (hok : S.ok ws.length) (hk : ns.length ≤ 1000000000000) (hr : r = 1) (z0 : 0 ≤ z) (z1 : z < 4294967296) (a : Int) (ha : valI n s h z = a) :
    Calls Tryz.prog 92 #[.pointer (some ⟨p, 0, none⟩), .pointer (some ⟨q, 0, none⟩)] w fun e w' => e = .returned (.int .i64 0) ∧ St w0 (opB p n s h t bud base wait sv rg ex false v z failed (paI a false) st retry :: memA q ws' ns' :: tlA x S' :: L) w' := by
  have H := Lib.hid hS
  have HE := Lib.hid he
  have HN := Lib.hid hn
  have HZ := Lib.hid hz
  have HOK := Lib.hid hok
  subst hr
  have hAS := as_tkT
  obtain ⟨⟨c0, c1, c2, c3, c4, c5, c6, c7, c8, c9, c10, c11, c12, c13, c14, c15, c16⟩, ⟨z7, z8, z9, z11, z12, z13, z14, z15, z16⟩, lp⟩ := cells17 (hS.cells 2 rfl)
  clear hS he hn hz hok
  go_enter Tryz.func92, Tryz.ntmps92
  go_wp2_with (first | ((have _h := H1); go_at_call 116; refine (o_has (H1.out.front 2 rfl) z0 z1 a ha).mono ?_; rintro e w2 ⟨rfl, k⟩; (have H2 := Lib.hid k); clear k _h) | (go_at_call 215; refine (tk_out HE.out HN.out HZ.out hg H.out HOK.out hk).mono ?_; rintro e w1 ⟨rfl, k⟩; (have H1 := Lib.hid k); clear k; clear c0 c1 c2 c3 c4 c5 c6 c7 c8 c9 c10 c11 c12 c13 c14 c15 c16 z7 z8 z9 z11 z12 z13 z14 z15 z16 lp; obtain ⟨⟨c0, c1, c2, c3, c4, c5, c6, c7, c8, c9, c10, c11, c12, c13, c14, c15, c16⟩, ⟨z7, z8, z9, z11, z12, z13, z14, z15, z16⟩, lp⟩ := cells17 (H1.out.cells 2 rfl)))
  go_ret
  exact ⟨rfl, H2.out⟩
end Go.Proofs.YtgfeagggkplegaaGreat
