/-
  More methods of a memory: places that are none, its length, its words, what was noted; a memory that is made.
-/
import Derived.Test.YtdhkppijeocaoaaMemOps
namespace Go.Proofs.Ytdhkppijeocaoaa
open Go.RowKit
set_option linter.unusedVariables false
set_option linter.unusedSimpArgs false

set_option maxHeartbeats 1000000 in
theorem acc_low (p n c : Nat) (A : Option Addr) (i : Int) (x : Value) (w : World) (hp0 : w.cell? ⟨p, 0, none⟩ = some (.slice A n c)) (hi : i < 0) :
    Calls Try.prog 56 #[.pointer (some ⟨p, 0, none⟩), .int .i64 i, x] w fun e w' => e = .returned (.tuple #[.agg #[.int .u8 0, .int .i64 0, .int .u64 0, .int .u64 0, .bool false], .int .i64 2]) ∧ Below w.heap.size w w' := by
  have d0 : decide (i < 0) = true := decide_eq_true hi
  go_enter Try.func56, Try.ntmps56
  go_wp2
  refine ret_acc rfl rfl (b := w.heap.size) (heap_new rfl) rfl ⟨rfl, ?_⟩
  repeat (first | exact bl_refl _ | refine bl_alloc ?_ _ | refine bl_drew ?_)
set_option maxHeartbeats 1000000 in
theorem acc_high (p n c : Nat) (A : Option Addr) (i : Int) (x : Value) (w : World) (hp0 : w.cell? ⟨p, 0, none⟩ = some (.slice A n c)) (hi : (n : Int) ≤ i) (hm : n ≤ 9223372036854775807) :
    Calls Try.prog 56 #[.pointer (some ⟨p, 0, none⟩), .int .i64 i, x] w fun e w' => e = .returned (.tuple #[.agg #[.int .u8 0, .int .i64 0, .int .u64 0, .int .u64 0, .bool false], .int .i64 2]) ∧ Below w.heap.size w w' := by
  have d0 : decide (i < 0) = false := decide_eq_false (by omega)
  have d1 : decide ((n : Int) ≤ i) = true := decide_eq_true hi
  have lt0 : p < w.heap.size := World.block_lt_of_cell? w _ hp0
  go_enter Try.func56, Try.ntmps56
  go_wp2
  refine ret_acc rfl rfl (b := w.heap.size) (heap_new rfl) rfl ⟨rfl, ?_⟩
  repeat (first | exact bl_refl _ | refine bl_alloc ?_ _ | refine bl_drew ?_)
theorem acc_out (own : Nat → Nat) (t p : Nat) (ws : List Int) (ns : List Note) (i : Int) (x : Value) (w : World) (h : IsMem own t w p ws ns) (hi : i < 0 ∨ (ws.length : Int) ≤ i) :
    Calls Try.prog 56 #[.pointer (some ⟨p, 0, none⟩), .int .i64 i, x] w fun e w' => e = .returned (.tuple #[.agg #[.int .u8 0, .int .i64 0, .int .u64 0, .int .u64 0, .bool false], .int .i64 2]) ∧ Below w.heap.size w w' := by
  obtain ⟨A, c, nv, hP, _⟩ := h.body
  have hl := h.len
  rcases hi with hi | hi
  · exact acc_low p _ c A i x w (cells2 hP).1 hi
  · exact acc_high p _ c A i x w (cells2 hP).1 hi (by omega)
set_option maxHeartbeats 1000000 in
theorem load_out (own : Nat → Nat) (t p : Nat) (ws : List Int) (ns : List Note) (i : Int) (w : World) (h : IsMem own t w p ws ns) (hi : i < 0 ∨ (ws.length : Int) ≤ i) :
    Calls Try.prog 50 #[.pointer (some ⟨p, 0, none⟩), .int .i64 i] w fun e w' => e = .returned (.tuple #[.int .u64 0, .int .i64 2]) ∧ Below w.heap.size w w' := by
  have HA := Lib.hid (acc_out own t p ws ns i (.iface 118 (.agg #[])) w h hi)
  clear hi h
  go_enter Try.func50, Try.ntmps50
  go_wp2_with (go_at_call 56; refine HA.out.mono ?_; rintro e w' ⟨rfl, hp⟩; (have HP := Lib.hid hp); clear hp)
  go_ret2
  exact ⟨rfl, by repeat (first | exact HP.out | refine bl_alloc ?_ _ | refine bl_drew ?_)⟩
set_option maxHeartbeats 1000000 in
theorem store_out (own : Nat → Nat) (t p : Nat) (ws : List Int) (ns : List Note) (i v : Int) (w : World) (h : IsMem own t w p ws ns) (hi : i < 0 ∨ (ws.length : Int) ≤ i) :
    Calls Try.prog 59 #[.pointer (some ⟨p, 0, none⟩), .int .i64 i, .int .u64 v] w fun e w' => e = .returned (.int .i64 2) ∧ Below w.heap.size w w' := by
  have HA := Lib.hid (acc_out own t p ws ns i (.iface 121 (.agg #[.int .u64 v])) w h hi)
  clear hi h
  go_enter Try.func59, Try.ntmps59
  go_wp2_with (go_at_call 56; refine HA.out.mono ?_; rintro e w' ⟨rfl, hp⟩; (have HP := Lib.hid hp); clear hp)
  go_ret
  exact ⟨rfl, by repeat (first | exact HP.out | refine bl_alloc ?_ _ | refine bl_drew ?_)⟩
set_option maxHeartbeats 1000000 in
theorem swap_out (own : Nat → Nat) (t p : Nat) (ws : List Int) (ns : List Note) (i u v : Int) (w : World) (h : IsMem own t w p ws ns) (hi : i < 0 ∨ (ws.length : Int) ≤ i) :
    Calls Try.prog 61 #[.pointer (some ⟨p, 0, none⟩), .int .i64 i, .int .u64 u, .int .u64 v] w fun e w' => e = .returned (.tuple #[.bool false, .int .i64 2]) ∧ Below w.heap.size w w' := by
  have HA := Lib.hid (acc_out own t p ws ns i (.iface 123 (.agg #[.int .u64 u, .int .u64 v])) w h hi)
  clear hi h
  go_enter Try.func61, Try.ntmps61
  go_wp2_with (go_at_call 56; refine HA.out.mono ?_; rintro e w' ⟨rfl, hp⟩; (have HP := Lib.hid hp); clear hp)
  go_ret2
  exact ⟨rfl, by repeat (first | exact HP.out | refine bl_alloc ?_ _ | refine bl_drew ?_)⟩


theorem add_zero' (g j : Nat) : (⟨g, 0, none⟩ : Addr).add j = ⟨g, j, none⟩ := by unfold Addr.add; split <;> simp_all
theorem words_read {own : Nat → Nat} {t p : Nat} {ws : List Int} {ns : List Note} {w : World} (h : IsMem own t w p ws ns) :
    ∃ A c nv, w.heap[p]? = some (.cells #[.slice A ws.length c, nv] 82 (0, 0)) ∧ (0 < ws.length → ∃ ad, A = some ad ∧ ∀ j u, (ws.map fun x => Value.int .u64 x)[j]? = some u → w.cell? (ad.add j) = some u) := by
  obtain ⟨A, c, nv, hP, hn, hb, hg⟩ := h.body
  refine ⟨A, c, nv, hP, fun h0 => ?_⟩
  rcases hg with e | ⟨g, cur, rfl, e2, e3, e4, e5, e6⟩
  · subst e; cases h0
  · refine ⟨_, rfl, fun j u hu => ?_⟩
    rw [add_zero', cell_of e4]
    rw [← e5] at hu
    have hj : j < ws.length := by
      rcases Nat.lt_or_ge j ws.length with h1 | h1
      · exact h1
      · rw [List.getElem?_take, if_neg (by omega)] at hu; cases hu
    rw [List.getElem?_take, if_pos hj] at hu
    simpa using hu
/-- The words, in a row of their own. -/
def WordsPost (w : World) (ws : List Int) (e : Ending) (w' : World) : Prop :=
  ∃ v, e = .returned v ∧ w'.ownsRow w.heap.size 41 1 v ws.length (ws.map fun x => Value.int .u64 x) ∧ Below w.heap.size w w' ∧ ∃ a c, v = .slice a ws.length c
end Go.Proofs.Ytdhkppijeocaoaa
