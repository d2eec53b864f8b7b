/-
  The contracts of layout's at and Cells and of pack's Index and Tag in the form in which the printed functions call them.
-/
import Derived.Test.YtdhkppijeocaoaaAt
import Derived.Test.YtdhkppijeocaoaaPack
namespace Go.Proofs.Ytdhkppijeocaoaa
open Go.RowKit
set_option linter.unusedVariables false
set_option linter.unusedSimpArgs false

theorem calls_mono {P : Program} {f : FuncId} {args : Array Value} {w : World} {R R' : Ending → World → Prop} (h : Calls P f args w R) (hr : ∀ e w', R e w' → R' e w') : Calls P f args w R' := h.mono hr

theorem at_any (n s h t : Int) (p : Nat) (k : Int) (w : World) (hp : p ≤ 2) :
    Calls Try.prog 49 #[cfgV n s h t, .int .i64 p, .int .i64 k] w fun e w' => e = .returned (.int .i64 (atI n s h p k)) ∧ Below w.heap.size w w' := by
  by_cases hk : k < 0
  · have e1 : atI n s h p k = -1 := by unfold atI; rw [if_neg (by omega)]
    rw [e1]
    exact at_neg n s h t p k w hk
  have hk0 : 0 ≤ k := by omega
  cases hq : okC n s h with
  | false =>
    have e1 : atI n s h p k = -1 := by unfold atI; rw [if_neg (by simp [hq])]
    rw [e1]
    rcases (by omega : p = 0 ∨ p = 1 ∨ p = 2) with rfl | rfl | rfl
    · exact at_no0 n s h t k w hk0 hq
    · exact at_no1 n s h t k w hk0 hq
    · exact at_no2 n s h t k w hk0 hq
  | true =>
    rcases (by omega : p = 0 ∨ p = 1 ∨ p = 2) with rfl | rfl | rfl
    · by_cases hl : k < 2 + 2 * n - 2
      · have e1 : atI n s h 0 k = 2 + k := by unfold atI; rw [if_pos ⟨hq, hk0, by simp [lenI]; omega⟩]; simp [loI]
        rw [e1]
        exact at_in0 n s h t k w hk0 hq hl
      · have e1 : atI n s h 0 k = -1 := by unfold atI; rw [if_neg (by simp [lenI]; omega)]
        rw [e1]
        exact at_out0 n s h t k w hk0 hq (by omega)
    · by_cases hl : k < 2 + 2 * n + s - (2 + 2 * n)
      · have e1 : atI n s h 1 k = 2 + 2 * n + k := by unfold atI; rw [if_pos ⟨hq, hk0, by simp [lenI]; omega⟩]; simp [loI]
        rw [e1]
        exact at_in1 n s h t k w hk0 hq hl
      · have e1 : atI n s h 1 k = -1 := by unfold atI; rw [if_neg (by simp [lenI]; omega)]
        rw [e1]
        exact at_out1 n s h t k w hk0 hq (by omega)
    · by_cases hl : k < 2 + 2 * n + s + h - (2 + 2 * n + s)
      · have e1 : atI n s h 2 k = 2 + 2 * n + s + k := by unfold atI; rw [if_pos ⟨hq, hk0, by simp [lenI]; omega⟩]; simp [loI]
        rw [e1]
        exact at_in2 n s h t k w hk0 hq hl
      · have e1 : atI n s h 2 k = -1 := by unfold atI; rw [if_neg (by simp [lenI]; omega)]
        rw [e1]
        exact at_out2 n s h t k w hk0 hq (by omega)

def cellsI (n s h : Int) : Int := if okC n s h = true then 2 + 2 * n + s + h else 0
set_option maxHeartbeats 1000000 in
theorem cells_any (n s h t : Int) (w : World) :
    Calls Try.prog 31 #[cfgV n s h t] w fun e w' => e = .returned (.int .i64 (cellsI n s h)) ∧ Below w.heap.size w w' := by
  have i3 : ∀ (a b c d : Value) (w : World), (Instr.index 105 (.agg #[a, b, c, d]) (.int .i64 3)).run Try.prog w = .ok d w := fun _ _ _ _ _ => by kernel_rfl
  cases hq : okC n s h with
  | false =>
    have e1 : cellsI n s h = 0 := by unfold cellsI; rw [if_neg (by simp [hq])]
    rw [e1]
    have Hq := Lib.hid hq
    clear hq e1
    go_enter Try.func31, Try.ntmps31
    go_wp2_with (go_at_call 48; refine (begins_no _ _ _ _ _ Hq.out).mono ?_; rintro e w' ⟨rfl, hw⟩)
    go_ret
    exact ⟨rfl, bl_then (bl_alloc (bl_refl _) _) hw⟩
  | true =>
    have e1 : cellsI n s h = 2 + 2 * n + s + h := by unfold cellsI; rw [if_pos hq]
    rw [e1]
    have Hq := Lib.hid hq
    clear hq e1
    go_enter Try.func31, Try.ntmps31
    go_wp2_with (go_at_call 48; refine (begins_ok _ _ _ _ _ Hq.out).mono ?_; rintro e w' ⟨rfl, hw⟩)
    go_ret
    exact ⟨rfl, bl_then (bl_alloc (bl_refl _) _) hw⟩
end Go.Proofs.Ytdhkppijeocaoaa
