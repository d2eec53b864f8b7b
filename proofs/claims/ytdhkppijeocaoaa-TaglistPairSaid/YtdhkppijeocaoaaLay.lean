/-
  Package layout: Check, begins, at.
-/
import Derived.Test.YtdhkppijeocaoaaProg
import Derived.Test.YtdhkppijeocaoaaBase
namespace Go.Proofs.Ytdhkppijeocaoaa
open Go.RowKit
set_option linter.unusedVariables false
set_option linter.unusedSimpArgs false

def okC (n s h : Int) : Bool := decide (1 ≤ n ∧ n ≤ 64 ∧ 0 ≤ s ∧ s ≤ 16 ∧ 0 ≤ h ∧ h ≤ 64)
theorem okC_bounds {n s h : Int} (hk : okC n s h = true) : 1 ≤ n ∧ n ≤ 64 ∧ 0 ≤ s ∧ s ≤ 16 ∧ 0 ≤ h ∧ h ≤ 64 := by simpa [okC] using hk
abbrev cfgV (n s h t : Int) : Value := .agg #[.int .i64 n, .int .i64 s, .int .i64 h, .int .u32 t]

set_option maxHeartbeats 400000 in
theorem check_any (n s h t : Int) (w : World) :
    Calls Try.prog 30 #[cfgV n s h t] w fun e w' => e = .returned (.int .i64 (if okC n s h = true then 0 else 1)) ∧ Below w.heap.size w w' := by
  unfold okC
  by_cases h1 : n < 1
  · rw [if_neg (by simp; omega)]
    go_enter Try.func30, Try.ntmps30
    go_wp2
    go_ret
    exact ⟨rfl, bl_alloc (bl_refl _) _⟩
  by_cases h2 : 64 < n
  · rw [if_neg (by simp; omega)]
    go_enter Try.func30, Try.ntmps30
    go_wp2
    go_ret
    exact ⟨rfl, bl_alloc (bl_refl _) _⟩
  by_cases h3 : s < 0
  · rw [if_neg (by simp; omega)]
    go_enter Try.func30, Try.ntmps30
    go_wp2
    go_ret
    exact ⟨rfl, bl_alloc (bl_refl _) _⟩
  by_cases h4 : 16 < s
  · rw [if_neg (by simp; omega)]
    go_enter Try.func30, Try.ntmps30
    go_wp2
    go_ret
    exact ⟨rfl, bl_alloc (bl_refl _) _⟩
  by_cases h5 : h < 0
  · rw [if_neg (by simp; omega)]
    go_enter Try.func30, Try.ntmps30
    go_wp2
    go_ret
    exact ⟨rfl, bl_alloc (bl_refl _) _⟩
  by_cases h6 : 64 < h
  · rw [if_neg (by simp; omega)]
    go_enter Try.func30, Try.ntmps30
    go_wp2
    go_ret
    exact ⟨rfl, bl_alloc (bl_refl _) _⟩
  · rw [if_pos (by simp; omega)]
    go_enter Try.func30, Try.ntmps30
    go_wp2
    go_ret
    exact ⟨rfl, bl_alloc (bl_refl _) _⟩

set_option maxHeartbeats 400000 in
theorem begins_ok (n s h t : Int) (w : World) (hk : okC n s h = true) :
    Calls Try.prog 48 #[cfgV n s h t] w fun e w' => e = .returned (.agg #[.int .i64 2, .int .i64 (2 + 2 * n), .int .i64 (2 + 2 * n + s), .int .i64 (2 + 2 * n + s + h)]) ∧ Below w.heap.size w w' := by
  obtain ⟨h1, h2, h3, h4, h5, h6⟩ := okC_bounds hk
  have i0 : ∀ (a b c : Value) (w : World), (Instr.index 114 (.agg #[a, b, c]) (.int .i64 0)).run Try.prog w = .ok a w := fun _ _ _ _ => by kernel_rfl
  have i1 : ∀ (a b c : Value) (w : World), (Instr.index 114 (.agg #[a, b, c]) (.int .i64 1)).run Try.prog w = .ok b w := fun _ _ _ _ => by kernel_rfl
  have i2 : ∀ (a b c : Value) (w : World), (Instr.index 114 (.agg #[a, b, c]) (.int .i64 2)).run Try.prog w = .ok c w := fun _ _ _ _ => by kernel_rfl
  go_enter Try.func48, Try.ntmps48
  go_wp2_with (go_at_call 30; refine (check_any _ _ _ _ _).mono ?_; rintro e w' ⟨rfl, hw⟩; rw [if_pos hk]; obtain ⟨hc, hf⟩ := bcell hw; (have hz0 : w.heap.size < w'.heap.size := bsz hw (by simp only [World.size_alloc]; omega)); (have hz1 : w.heap.size + 1 < w'.heap.size := bsz hw (by simp only [World.size_alloc]; omega)))
  refine wp_loop_rounds 4 ?_
  rw [rounds_succ]; go_wp2
  rw [rounds_succ]; go_wp2
  rw [rounds_succ]; go_wp2
  rw [rounds_succ]; go_wp2
  have hW : Below w.heap.size w w' := bl_then (bl_alloc (bl_alloc (bl_refl _) _) _) hw
  refine bodyPost_ret (v := .agg #[.int .i64 2, .int .i64 (2 + 2 * n), .int .i64 (2 + 2 * n + s), .int .i64 (2 + 2 * n + s + h)]) (by simp [results, Try.results48, go_sem, hc, hz1]) rfl ⟨rfl, ?_⟩
  repeat (first | exact hW | refine bl_set ?_ (by simp) _ | refine bl_alloc ?_ _)

set_option maxHeartbeats 400000 in
theorem begins_no (n s h t : Int) (w : World) (hk : okC n s h = false) :
    Calls Try.prog 48 #[cfgV n s h t] w fun e w' => e = .returned (.agg #[.int .i64 0, .int .i64 0, .int .i64 0, .int .i64 0]) ∧ Below w.heap.size w w' := by
  go_enter Try.func48, Try.ntmps48
  go_wp2_with (go_at_call 30; refine (check_any _ _ _ _ _).mono ?_; rintro e w' ⟨rfl, hw⟩; rw [if_neg (by simp [hk])]; obtain ⟨hc, hf⟩ := bcell hw; (have hz0 : w.heap.size < w'.heap.size := bsz hw (by simp only [World.size_alloc]; omega)); (have hz1 : w.heap.size + 1 < w'.heap.size := bsz hw (by simp only [World.size_alloc]; omega)))
  have hW : Below w.heap.size w w' := bl_then (bl_alloc (bl_alloc (bl_refl _) _) _) hw
  refine bodyPost_ret (v := .agg #[.int .i64 0, .int .i64 0, .int .i64 0, .int .i64 0]) (by simp [results, Try.results48, go_sem, hc, hz1]) rfl ⟨rfl, ?_⟩
  repeat (first | exact hW | refine bl_set ?_ (by simp) _ | refine bl_alloc ?_ _)
end Go.Proofs.Ytdhkppijeocaoaa
