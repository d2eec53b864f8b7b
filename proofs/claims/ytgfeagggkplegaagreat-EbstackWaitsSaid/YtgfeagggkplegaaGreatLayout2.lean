/-
  Package layout, more: a slot's place, a check whose outcome is known.
-/
import Derived.Test.YtgfeagggkplegaaGreatRow2
import Derived.Test.YtgfeagggkplegaaGreatLayout
namespace Go.Proofs.YtgfeagggkplegaaGreat
open Go.RowKit
set_option linter.unusedVariables false
set_option linter.unusedSimpArgs false

theorem slot_any (n s h t k : Int) (w : World) :
    Calls Tryz.prog 52 #[.agg #[.int .i64 n, .int .i64 s, .int .i64 h, .int .u32 t], .int .i64 k] w fun e w' => e = .returned (.int .i64 (atI n s h 1 k)) ∧ Below w.heap.size w w' := by
  have hA := Lib.hid (fun w => at_any n s h t 1 k w (by decide))
  go_enter Tryz.func52, Tryz.ntmps52
  go_wp2_with (go_at_call 83; refine (hA.out _).mono ?_; rintro e w1 ⟨rfl, hb⟩; (have HB1 := Lib.hid hb); clear hb)
  go_ret
  exact ⟨rfl, (bl_alloc (bl_refl w) _).trans (HB1.out.mono (by simp))⟩
theorem check_yes (n s h t : Int) (w : World) (hk : okC n s h = true) :
    Calls Tryz.prog 54 #[.agg #[.int .i64 n, .int .i64 s, .int .i64 h, .int .u32 t]] w fun e w' => e = .returned (.int .i64 0) ∧ Below w.heap.size w w' := by
  have := check_any n s h t w
  rw [if_pos hk] at this
  exact this
theorem check_no (n s h t : Int) (w : World) (hk : okC n s h = false) :
    Calls Tryz.prog 54 #[.agg #[.int .i64 n, .int .i64 s, .int .i64 h, .int .u32 t]] w fun e w' => e = .returned (.int .i64 1) ∧ Below w.heap.size w w' := by
  have := check_any n s h t w
  rw [if_neg (by simp [hk])] at this
  exact this
theorem cells4 {w : World} {b : Nat} {a0 a1 a2 a3 : Value} {e : TypeId} (h : w.heap[b]? = some (.cells #[a0, a1, a2, a3] e (0, 0))) : w.cell? ⟨b, 0, none⟩ = some a0 ∧ w.cell? ⟨b, 1, none⟩ = some a1 ∧ w.cell? ⟨b, 2, none⟩ = some a2 ∧ w.cell? ⟨b, 3, none⟩ = some a3 := ⟨cell_of h 0, cell_of h 1, cell_of h 2, cell_of h 3⟩
end Go.Proofs.YtgfeagggkplegaaGreat
