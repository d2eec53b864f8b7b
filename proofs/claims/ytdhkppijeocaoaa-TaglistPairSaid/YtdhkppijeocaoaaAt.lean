/-
  Package layout: at, Cells. Package pack: Index, Tag.
-/
import Derived.Test.YtdhkppijeocaoaaLay
namespace Go.Proofs.Ytdhkppijeocaoaa
open Go.RowKit
set_option linter.unusedVariables false
set_option linter.unusedSimpArgs false

def loI (n s : Int) (part : Nat) : Int := if part = 0 then 2 else if part = 1 then 2 + 2 * n else 2 + 2 * n + s
def lenI (n s h : Int) (part : Nat) : Int := if part = 0 then 2 * n else if part = 1 then s else h
def atI (n s h : Int) (part : Nat) (k : Int) : Int := if okC n s h = true ∧ 0 ≤ k ∧ k < lenI n s h part then loI n s part + k else -1

set_option maxHeartbeats 1000000 in
theorem at_neg (n s h t p k : Int) (w : World) (hk : k < 0) :
    Calls Try.prog 49 #[cfgV n s h t, .int .i64 p, .int .i64 k] w fun e w' => e = .returned (.int .i64 (-1)) ∧ Below w.heap.size w w' := by
  cases hq : okC n s h with
  | true =>
    have Hq := Lib.hid hq
    clear hq
    go_enter Try.func49, Try.ntmps49
    go_wp2_with (go_at_call 48; refine (begins_ok _ _ _ _ _ Hq.out).mono ?_; rintro e w' ⟨rfl, hw⟩; obtain ⟨hc, hf⟩ := bcell hw; (have hz0 : w.heap.size < w'.heap.size := bsz hw (by simp only [World.size_alloc]; omega)))
    go_quiet (fail)
    go_wp2
    go_ret
    have hW : Below w.heap.size w w' := bl_then (bl_alloc (bl_refl _) _) hw
    exact ⟨rfl, by repeat (first | exact hW | refine bl_drewN ?_ _ | refine bl_alloc ?_ _)⟩
  | false =>
    have Hq := Lib.hid hq
    clear hq
    go_enter Try.func49, Try.ntmps49
    go_wp2_with (go_at_call 48; refine (begins_no _ _ _ _ _ Hq.out).mono ?_; rintro e w' ⟨rfl, hw⟩; obtain ⟨hc, hf⟩ := bcell hw; (have hz0 : w.heap.size < w'.heap.size := bsz hw (by simp only [World.size_alloc]; omega)))
    go_quiet (fail)
    go_wp2
    go_ret
    have hW : Below w.heap.size w w' := bl_then (bl_alloc (bl_refl _) _) hw
    exact ⟨rfl, by repeat (first | exact hW | refine bl_drewN ?_ _ | refine bl_alloc ?_ _)⟩
set_option maxHeartbeats 1000000 in
theorem at_no0 (n s h t k : Int) (w : World) (hk : 0 ≤ k) (hq : okC n s h = false) :
    Calls Try.prog 49 #[cfgV n s h t, .int .i64 0, .int .i64 k] w fun e w' => e = .returned (.int .i64 (-1)) ∧ Below w.heap.size w w' := by
  have d0 : decide (k < 0) = false := decide_eq_false (by omega)
  have Hq := Lib.hid hq
  clear hq
  go_enter Try.func49, Try.ntmps49
  go_wp2_with (go_at_call 48; refine (begins_no _ _ _ _ _ Hq.out).mono ?_; rintro e w' ⟨rfl, hw⟩; obtain ⟨hc, hf⟩ := bcell hw; (have hz0 : w.heap.size < w'.heap.size := bsz hw (by simp only [World.size_alloc]; omega)))
  go_quiet (fail)
  go_wp2
  go_ret
  have hW : Below w.heap.size w w' := bl_then (bl_alloc (bl_refl _) _) hw
  exact ⟨rfl, by repeat (first | exact hW | refine bl_drewN ?_ _ | refine bl_alloc ?_ _)⟩

set_option maxHeartbeats 1000000 in
theorem at_out0 (n s h t k : Int) (w : World) (hk : 0 ≤ k) (hq : okC n s h = true) (hge : 2 + 2 * n - (2) ≤ k) :
    Calls Try.prog 49 #[cfgV n s h t, .int .i64 0, .int .i64 k] w fun e w' => e = .returned (.int .i64 (-1)) ∧ Below w.heap.size w w' := by
  obtain ⟨b1, b2, b3, b4, b5, b6⟩ := okC_bounds hq
  have d1 : decide (2 + 2 * n - (2) ≤ k) = true := decide_eq_true hge
  have d0 : decide (k < 0) = false := decide_eq_false (by omega)
  have Hq := Lib.hid hq
  clear hq
  go_enter Try.func49, Try.ntmps49
  go_wp2_with (go_at_call 48; refine (begins_ok _ _ _ _ _ Hq.out).mono ?_; rintro e w' ⟨rfl, hw⟩; obtain ⟨hc, hf⟩ := bcell hw; (have hz0 : w.heap.size < w'.heap.size := bsz hw (by simp only [World.size_alloc]; omega)))
  go_quiet (fail)
  go_wp2
  go_ret
  have hW : Below w.heap.size w w' := bl_then (bl_alloc (bl_refl _) _) hw
  exact ⟨rfl, by repeat (first | exact hW | refine bl_drewN ?_ _ | refine bl_alloc ?_ _)⟩

set_option maxHeartbeats 1000000 in
theorem at_in0 (n s h t k : Int) (w : World) (hk : 0 ≤ k) (hq : okC n s h = true) (hlt : k < 2 + 2 * n - (2)) :
    Calls Try.prog 49 #[cfgV n s h t, .int .i64 0, .int .i64 k] w fun e w' => e = .returned (.int .i64 (2 + k)) ∧ Below w.heap.size w w' := by
  obtain ⟨b1, b2, b3, b4, b5, b6⟩ := okC_bounds hq
  have d1 : decide (2 + 2 * n - (2) ≤ k) = false := decide_eq_false (by omega)
  have d0 : decide (k < 0) = false := decide_eq_false (by omega)
  have Hq := Lib.hid hq
  clear hq
  go_enter Try.func49, Try.ntmps49
  go_wp2_with (go_at_call 48; refine (begins_ok _ _ _ _ _ Hq.out).mono ?_; rintro e w' ⟨rfl, hw⟩; obtain ⟨hc, hf⟩ := bcell hw; (have hz0 : w.heap.size < w'.heap.size := bsz hw (by simp only [World.size_alloc]; omega)))
  go_quiet (fail)
  go_wp2
  go_ret
  have hW : Below w.heap.size w w' := bl_then (bl_alloc (bl_refl _) _) hw
  exact ⟨rfl, by repeat (first | exact hW | refine bl_drewN ?_ _ | refine bl_alloc ?_ _)⟩

set_option maxHeartbeats 1000000 in
theorem at_no1 (n s h t k : Int) (w : World) (hk : 0 ≤ k) (hq : okC n s h = false) :
    Calls Try.prog 49 #[cfgV n s h t, .int .i64 1, .int .i64 k] w fun e w' => e = .returned (.int .i64 (-1)) ∧ Below w.heap.size w w' := by
  have d0 : decide (k < 0) = false := decide_eq_false (by omega)
  have Hq := Lib.hid hq
  clear hq
  go_enter Try.func49, Try.ntmps49
  go_wp2_with (go_at_call 48; refine (begins_no _ _ _ _ _ Hq.out).mono ?_; rintro e w' ⟨rfl, hw⟩; obtain ⟨hc, hf⟩ := bcell hw; (have hz0 : w.heap.size < w'.heap.size := bsz hw (by simp only [World.size_alloc]; omega)))
  go_quiet (fail)
  go_wp2
  go_ret
  have hW : Below w.heap.size w w' := bl_then (bl_alloc (bl_refl _) _) hw
  exact ⟨rfl, by repeat (first | exact hW | refine bl_drewN ?_ _ | refine bl_alloc ?_ _)⟩

set_option maxHeartbeats 1000000 in
theorem at_out1 (n s h t k : Int) (w : World) (hk : 0 ≤ k) (hq : okC n s h = true) (hge : 2 + 2 * n + s - (2 + 2 * n) ≤ k) :
    Calls Try.prog 49 #[cfgV n s h t, .int .i64 1, .int .i64 k] w fun e w' => e = .returned (.int .i64 (-1)) ∧ Below w.heap.size w w' := by
  obtain ⟨b1, b2, b3, b4, b5, b6⟩ := okC_bounds hq
  have d1 : decide (2 + 2 * n + s - (2 + 2 * n) ≤ k) = true := decide_eq_true hge
  have d0 : decide (k < 0) = false := decide_eq_false (by omega)
  have Hq := Lib.hid hq
  clear hq
  go_enter Try.func49, Try.ntmps49
  go_wp2_with (go_at_call 48; refine (begins_ok _ _ _ _ _ Hq.out).mono ?_; rintro e w' ⟨rfl, hw⟩; obtain ⟨hc, hf⟩ := bcell hw; (have hz0 : w.heap.size < w'.heap.size := bsz hw (by simp only [World.size_alloc]; omega)))
  go_quiet (fail)
  go_wp2
  go_ret
  have hW : Below w.heap.size w w' := bl_then (bl_alloc (bl_refl _) _) hw
  exact ⟨rfl, by repeat (first | exact hW | refine bl_drewN ?_ _ | refine bl_alloc ?_ _)⟩

set_option maxHeartbeats 1000000 in
theorem at_in1 (n s h t k : Int) (w : World) (hk : 0 ≤ k) (hq : okC n s h = true) (hlt : k < 2 + 2 * n + s - (2 + 2 * n)) :
    Calls Try.prog 49 #[cfgV n s h t, .int .i64 1, .int .i64 k] w fun e w' => e = .returned (.int .i64 (2 + 2 * n + k)) ∧ Below w.heap.size w w' := by
  obtain ⟨b1, b2, b3, b4, b5, b6⟩ := okC_bounds hq
  have d1 : decide (2 + 2 * n + s - (2 + 2 * n) ≤ k) = false := decide_eq_false (by omega)
  have d0 : decide (k < 0) = false := decide_eq_false (by omega)
  have Hq := Lib.hid hq
  clear hq
  go_enter Try.func49, Try.ntmps49
  go_wp2_with (go_at_call 48; refine (begins_ok _ _ _ _ _ Hq.out).mono ?_; rintro e w' ⟨rfl, hw⟩; obtain ⟨hc, hf⟩ := bcell hw; (have hz0 : w.heap.size < w'.heap.size := bsz hw (by simp only [World.size_alloc]; omega)))
  go_quiet (fail)
  go_wp2
  go_ret
  have hW : Below w.heap.size w w' := bl_then (bl_alloc (bl_refl _) _) hw
  exact ⟨rfl, by repeat (first | exact hW | refine bl_drewN ?_ _ | refine bl_alloc ?_ _)⟩

set_option maxHeartbeats 1000000 in
theorem at_no2 (n s h t k : Int) (w : World) (hk : 0 ≤ k) (hq : okC n s h = false) :
    Calls Try.prog 49 #[cfgV n s h t, .int .i64 2, .int .i64 k] w fun e w' => e = .returned (.int .i64 (-1)) ∧ Below w.heap.size w w' := by
  have d0 : decide (k < 0) = false := decide_eq_false (by omega)
  have Hq := Lib.hid hq
  clear hq
  go_enter Try.func49, Try.ntmps49
  go_wp2_with (go_at_call 48; refine (begins_no _ _ _ _ _ Hq.out).mono ?_; rintro e w' ⟨rfl, hw⟩; obtain ⟨hc, hf⟩ := bcell hw; (have hz0 : w.heap.size < w'.heap.size := bsz hw (by simp only [World.size_alloc]; omega)))
  go_quiet (fail)
  go_wp2
  go_ret
  have hW : Below w.heap.size w w' := bl_then (bl_alloc (bl_refl _) _) hw
  exact ⟨rfl, by repeat (first | exact hW | refine bl_drewN ?_ _ | refine bl_alloc ?_ _)⟩

set_option maxHeartbeats 1000000 in
theorem at_out2 (n s h t k : Int) (w : World) (hk : 0 ≤ k) (hq : okC n s h = true) (hge : 2 + 2 * n + s + h - (2 + 2 * n + s) ≤ k) :
    Calls Try.prog 49 #[cfgV n s h t, .int .i64 2, .int .i64 k] w fun e w' => e = .returned (.int .i64 (-1)) ∧ Below w.heap.size w w' := by
  obtain ⟨b1, b2, b3, b4, b5, b6⟩ := okC_bounds hq
  have d1 : decide (2 + 2 * n + s + h - (2 + 2 * n + s) ≤ k) = true := decide_eq_true hge
  have d0 : decide (k < 0) = false := decide_eq_false (by omega)
  have Hq := Lib.hid hq
  clear hq
  go_enter Try.func49, Try.ntmps49
  go_wp2_with (go_at_call 48; refine (begins_ok _ _ _ _ _ Hq.out).mono ?_; rintro e w' ⟨rfl, hw⟩; obtain ⟨hc, hf⟩ := bcell hw; (have hz0 : w.heap.size < w'.heap.size := bsz hw (by simp only [World.size_alloc]; omega)))
  go_quiet (fail)
  go_wp2
  go_ret
  have hW : Below w.heap.size w w' := bl_then (bl_alloc (bl_refl _) _) hw
  exact ⟨rfl, by repeat (first | exact hW | refine bl_drewN ?_ _ | refine bl_alloc ?_ _)⟩

set_option maxHeartbeats 1000000 in
theorem at_in2 (n s h t k : Int) (w : World) (hk : 0 ≤ k) (hq : okC n s h = true) (hlt : k < 2 + 2 * n + s + h - (2 + 2 * n + s)) :
    Calls Try.prog 49 #[cfgV n s h t, .int .i64 2, .int .i64 k] w fun e w' => e = .returned (.int .i64 (2 + 2 * n + s + k)) ∧ Below w.heap.size w w' := by
  obtain ⟨b1, b2, b3, b4, b5, b6⟩ := okC_bounds hq
  have d1 : decide (2 + 2 * n + s + h - (2 + 2 * n + s) ≤ k) = false := decide_eq_false (by omega)
  have d0 : decide (k < 0) = false := decide_eq_false (by omega)
  have Hq := Lib.hid hq
  clear hq
  go_enter Try.func49, Try.ntmps49
  go_wp2_with (go_at_call 48; refine (begins_ok _ _ _ _ _ Hq.out).mono ?_; rintro e w' ⟨rfl, hw⟩; obtain ⟨hc, hf⟩ := bcell hw; (have hz0 : w.heap.size < w'.heap.size := bsz hw (by simp only [World.size_alloc]; omega)))
  go_quiet (fail)
  go_wp2
  go_ret
  have hW : Below w.heap.size w w' := bl_then (bl_alloc (bl_refl _) _) hw
  exact ⟨rfl, by repeat (first | exact hW | refine bl_drewN ?_ _ | refine bl_alloc ?_ _)⟩

end Go.Proofs.Ytdhkppijeocaoaa
