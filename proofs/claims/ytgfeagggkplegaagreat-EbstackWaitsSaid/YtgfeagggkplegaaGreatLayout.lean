/-
  Package layout: Check, begins, at.
  Package layout: at, Cells. Package pack: Index, Tag.
  Package pack: Index, Tag.
  The contracts of layout's at and Cells and of pack's Index and Tag in the form in which the printed functions call them.
  Package pack: Word, Next; package layout: Next.
-/
import Derived.Test.YtgfeagggkplegaaGreatProg
import Derived.Test.YtgfeagggkplegaaGreatBase
import Derived.Laws.BitsLemmas
namespace Go.Proofs.YtgfeagggkplegaaGreat
open Go.RowKit
set_option linter.unusedVariables false
set_option linter.unusedSimpArgs false

def okC (n s h : Int) : Bool := decide (1 ≤ n ∧ n ≤ 64 ∧ 0 ≤ s ∧ s ≤ 16 ∧ 0 ≤ h ∧ h ≤ 64)
theorem okC_bounds {n s h : Int} (hk : okC n s h = true) : 1 ≤ n ∧ n ≤ 64 ∧ 0 ≤ s ∧ s ≤ 16 ∧ 0 ≤ h ∧ h ≤ 64 := by simpa [okC] using hk
abbrev cfgV (n s h t : Int) : Value := .agg #[.int .i64 n, .int .i64 s, .int .i64 h, .int .u32 t]

set_option maxHeartbeats 400000 in
theorem check_any (n s h t : Int) (w : World) :
    Calls Tryz.prog 54 #[cfgV n s h t] w fun e w' => e = .returned (.int .i64 (if okC n s h = true then 0 else 1)) ∧ Below w.heap.size w w' := by
  unfold okC
  by_cases h1 : n < 1
  · rw [if_neg (by simp; omega)]
    go_enter Tryz.func54, Tryz.ntmps54
    go_wp2
    go_ret
    exact ⟨rfl, bl_alloc (bl_refl _) _⟩
  by_cases h2 : 64 < n
  · rw [if_neg (by simp; omega)]
    go_enter Tryz.func54, Tryz.ntmps54
    go_wp2
    go_ret
    exact ⟨rfl, bl_alloc (bl_refl _) _⟩
  by_cases h3 : s < 0
  · rw [if_neg (by simp; omega)]
    go_enter Tryz.func54, Tryz.ntmps54
    go_wp2
    go_ret
    exact ⟨rfl, bl_alloc (bl_refl _) _⟩
  by_cases h4 : 16 < s
  · rw [if_neg (by simp; omega)]
    go_enter Tryz.func54, Tryz.ntmps54
    go_wp2
    go_ret
    exact ⟨rfl, bl_alloc (bl_refl _) _⟩
  by_cases h5 : h < 0
  · rw [if_neg (by simp; omega)]
    go_enter Tryz.func54, Tryz.ntmps54
    go_wp2
    go_ret
    exact ⟨rfl, bl_alloc (bl_refl _) _⟩
  by_cases h6 : 64 < h
  · rw [if_neg (by simp; omega)]
    go_enter Tryz.func54, Tryz.ntmps54
    go_wp2
    go_ret
    exact ⟨rfl, bl_alloc (bl_refl _) _⟩
  · rw [if_pos (by simp; omega)]
    go_enter Tryz.func54, Tryz.ntmps54
    go_wp2
    go_ret
    exact ⟨rfl, bl_alloc (bl_refl _) _⟩

set_option maxHeartbeats 400000 in
theorem begins_ok (n s h t : Int) (w : World) (hk : okC n s h = true) :
    Calls Tryz.prog 103 #[cfgV n s h t] w fun e w' => e = .returned (.agg #[.int .i64 2, .int .i64 (2 + 2 * n), .int .i64 (2 + 2 * n + s), .int .i64 (2 + 2 * n + s + h)]) ∧ Below w.heap.size w w' := by
  obtain ⟨h1, h2, h3, h4, h5, h6⟩ := okC_bounds hk
  have i0 : ∀ (a b c : Value) (w : World), (Instr.index 220 (.agg #[a, b, c]) (.int .i64 0)).run Tryz.prog w = .ok a w := fun _ _ _ _ => by kernel_rfl
  have i1 : ∀ (a b c : Value) (w : World), (Instr.index 220 (.agg #[a, b, c]) (.int .i64 1)).run Tryz.prog w = .ok b w := fun _ _ _ _ => by kernel_rfl
  have i2 : ∀ (a b c : Value) (w : World), (Instr.index 220 (.agg #[a, b, c]) (.int .i64 2)).run Tryz.prog w = .ok c w := fun _ _ _ _ => by kernel_rfl
  go_enter Tryz.func103, Tryz.ntmps103
  go_wp2_with (go_at_call 54; refine (check_any _ _ _ _ _).mono ?_; rintro e w' ⟨rfl, hw⟩; rw [if_pos hk]; obtain ⟨hc, hf⟩ := bcell hw; (have hz0 : w.heap.size < w'.heap.size := bsz hw (by simp only [World.size_alloc]; omega)); (have hz1 : w.heap.size + 1 < w'.heap.size := bsz hw (by simp only [World.size_alloc]; omega)))
  refine wp_loop_rounds 4 ?_
  rw [rounds_succ]; go_wp2
  rw [rounds_succ]; go_wp2
  rw [rounds_succ]; go_wp2
  rw [rounds_succ]; go_wp2
  have hW : Below w.heap.size w w' := bl_then (bl_alloc (bl_alloc (bl_refl _) _) _) hw
  refine bodyPost_ret (v := .agg #[.int .i64 2, .int .i64 (2 + 2 * n), .int .i64 (2 + 2 * n + s), .int .i64 (2 + 2 * n + s + h)]) (by simp [results, Tryz.results103, go_sem, hc, hz1]) rfl ⟨rfl, ?_⟩
  repeat (first | exact hW | refine bl_set ?_ (by simp) _ | refine bl_alloc ?_ _)

set_option maxHeartbeats 400000 in
theorem begins_no (n s h t : Int) (w : World) (hk : okC n s h = false) :
    Calls Tryz.prog 103 #[cfgV n s h t] w fun e w' => e = .returned (.agg #[.int .i64 0, .int .i64 0, .int .i64 0, .int .i64 0]) ∧ Below w.heap.size w w' := by
  go_enter Tryz.func103, Tryz.ntmps103
  go_wp2_with (go_at_call 54; refine (check_any _ _ _ _ _).mono ?_; rintro e w' ⟨rfl, hw⟩; rw [if_neg (by simp [hk])]; obtain ⟨hc, hf⟩ := bcell hw; (have hz0 : w.heap.size < w'.heap.size := bsz hw (by simp only [World.size_alloc]; omega)); (have hz1 : w.heap.size + 1 < w'.heap.size := bsz hw (by simp only [World.size_alloc]; omega)))
  have hW : Below w.heap.size w w' := bl_then (bl_alloc (bl_alloc (bl_refl _) _) _) hw
  refine bodyPost_ret (v := .agg #[.int .i64 0, .int .i64 0, .int .i64 0, .int .i64 0]) (by simp [results, Tryz.results103, go_sem, hc, hz1]) rfl ⟨rfl, ?_⟩
  repeat (first | exact hW | refine bl_set ?_ (by simp) _ | refine bl_alloc ?_ _)
end Go.Proofs.YtgfeagggkplegaaGreat
namespace Go.Proofs.YtgfeagggkplegaaGreat
open Go.RowKit
set_option linter.unusedVariables false
set_option linter.unusedSimpArgs false

def loI (n s : Int) (part : Nat) : Int := if part = 0 then 2 else if part = 1 then 2 + 2 * n else 2 + 2 * n + s
def lenI (n s h : Int) (part : Nat) : Int := if part = 0 then 2 * n else if part = 1 then s else h
def atI (n s h : Int) (part : Nat) (k : Int) : Int := if okC n s h = true ∧ 0 ≤ k ∧ k < lenI n s h part then loI n s part + k else -1

set_option maxHeartbeats 1000000 in
theorem at_neg (n s h t p k : Int) (w : World) (hk : k < 0) :
    Calls Tryz.prog 83 #[cfgV n s h t, .int .i64 p, .int .i64 k] w fun e w' => e = .returned (.int .i64 (-1)) ∧ Below w.heap.size w w' := by
  cases hq : okC n s h with
  | true =>
    have Hq := Lib.hid hq
    clear hq
    go_enter Tryz.func83, Tryz.ntmps83
    go_wp2_with (go_at_call 103; refine (begins_ok _ _ _ _ _ Hq.out).mono ?_; rintro e w' ⟨rfl, hw⟩; obtain ⟨hc, hf⟩ := bcell hw; (have hz0 : w.heap.size < w'.heap.size := bsz hw (by simp only [World.size_alloc]; omega)))
    go_quiet (fail)
    go_wp2
    go_ret
    have hW : Below w.heap.size w w' := bl_then (bl_alloc (bl_refl _) _) hw
    exact ⟨rfl, by repeat (first | exact hW | refine bl_drewN ?_ _ | refine bl_alloc ?_ _)⟩
  | false =>
    have Hq := Lib.hid hq
    clear hq
    go_enter Tryz.func83, Tryz.ntmps83
    go_wp2_with (go_at_call 103; refine (begins_no _ _ _ _ _ Hq.out).mono ?_; rintro e w' ⟨rfl, hw⟩; obtain ⟨hc, hf⟩ := bcell hw; (have hz0 : w.heap.size < w'.heap.size := bsz hw (by simp only [World.size_alloc]; omega)))
    go_quiet (fail)
    go_wp2
    go_ret
    have hW : Below w.heap.size w w' := bl_then (bl_alloc (bl_refl _) _) hw
    exact ⟨rfl, by repeat (first | exact hW | refine bl_drewN ?_ _ | refine bl_alloc ?_ _)⟩
set_option maxHeartbeats 1000000 in
theorem at_no0 (n s h t k : Int) (w : World) (hk : 0 ≤ k) (hq : okC n s h = false) :
    Calls Tryz.prog 83 #[cfgV n s h t, .int .i64 0, .int .i64 k] w fun e w' => e = .returned (.int .i64 (-1)) ∧ Below w.heap.size w w' := by
  have d0 : decide (k < 0) = false := decide_eq_false (by omega)
  have Hq := Lib.hid hq
  clear hq
  go_enter Tryz.func83, Tryz.ntmps83
  go_wp2_with (go_at_call 103; refine (begins_no _ _ _ _ _ Hq.out).mono ?_; rintro e w' ⟨rfl, hw⟩; obtain ⟨hc, hf⟩ := bcell hw; (have hz0 : w.heap.size < w'.heap.size := bsz hw (by simp only [World.size_alloc]; omega)))
  go_quiet (fail)
  go_wp2
  go_ret
  have hW : Below w.heap.size w w' := bl_then (bl_alloc (bl_refl _) _) hw
  exact ⟨rfl, by repeat (first | exact hW | refine bl_drewN ?_ _ | refine bl_alloc ?_ _)⟩

set_option maxHeartbeats 1000000 in
theorem at_out0 (n s h t k : Int) (w : World) (hk : 0 ≤ k) (hq : okC n s h = true) (hge : 2 + 2 * n - (2) ≤ k) :
    Calls Tryz.prog 83 #[cfgV n s h t, .int .i64 0, .int .i64 k] w fun e w' => e = .returned (.int .i64 (-1)) ∧ Below w.heap.size w w' := by
  obtain ⟨b1, b2, b3, b4, b5, b6⟩ := okC_bounds hq
  have d1 : decide (2 + 2 * n - (2) ≤ k) = true := decide_eq_true hge
  have d0 : decide (k < 0) = false := decide_eq_false (by omega)
  have Hq := Lib.hid hq
  clear hq
  go_enter Tryz.func83, Tryz.ntmps83
  go_wp2_with (go_at_call 103; refine (begins_ok _ _ _ _ _ Hq.out).mono ?_; rintro e w' ⟨rfl, hw⟩; obtain ⟨hc, hf⟩ := bcell hw; (have hz0 : w.heap.size < w'.heap.size := bsz hw (by simp only [World.size_alloc]; omega)))
  go_quiet (fail)
  go_wp2
  go_ret
  have hW : Below w.heap.size w w' := bl_then (bl_alloc (bl_refl _) _) hw
  exact ⟨rfl, by repeat (first | exact hW | refine bl_drewN ?_ _ | refine bl_alloc ?_ _)⟩

set_option maxHeartbeats 1000000 in
theorem at_in0 (n s h t k : Int) (w : World) (hk : 0 ≤ k) (hq : okC n s h = true) (hlt : k < 2 + 2 * n - (2)) :
    Calls Tryz.prog 83 #[cfgV n s h t, .int .i64 0, .int .i64 k] w fun e w' => e = .returned (.int .i64 (2 + k)) ∧ Below w.heap.size w w' := by
  obtain ⟨b1, b2, b3, b4, b5, b6⟩ := okC_bounds hq
  have d1 : decide (2 + 2 * n - (2) ≤ k) = false := decide_eq_false (by omega)
  have d0 : decide (k < 0) = false := decide_eq_false (by omega)
  have Hq := Lib.hid hq
  clear hq
  go_enter Tryz.func83, Tryz.ntmps83
  go_wp2_with (go_at_call 103; refine (begins_ok _ _ _ _ _ Hq.out).mono ?_; rintro e w' ⟨rfl, hw⟩; obtain ⟨hc, hf⟩ := bcell hw; (have hz0 : w.heap.size < w'.heap.size := bsz hw (by simp only [World.size_alloc]; omega)))
  go_quiet (fail)
  go_wp2
  go_ret
  have hW : Below w.heap.size w w' := bl_then (bl_alloc (bl_refl _) _) hw
  exact ⟨rfl, by repeat (first | exact hW | refine bl_drewN ?_ _ | refine bl_alloc ?_ _)⟩

set_option maxHeartbeats 1000000 in
theorem at_no1 (n s h t k : Int) (w : World) (hk : 0 ≤ k) (hq : okC n s h = false) :
    Calls Tryz.prog 83 #[cfgV n s h t, .int .i64 1, .int .i64 k] w fun e w' => e = .returned (.int .i64 (-1)) ∧ Below w.heap.size w w' := by
  have d0 : decide (k < 0) = false := decide_eq_false (by omega)
  have Hq := Lib.hid hq
  clear hq
  go_enter Tryz.func83, Tryz.ntmps83
  go_wp2_with (go_at_call 103; refine (begins_no _ _ _ _ _ Hq.out).mono ?_; rintro e w' ⟨rfl, hw⟩; obtain ⟨hc, hf⟩ := bcell hw; (have hz0 : w.heap.size < w'.heap.size := bsz hw (by simp only [World.size_alloc]; omega)))
  go_quiet (fail)
  go_wp2
  go_ret
  have hW : Below w.heap.size w w' := bl_then (bl_alloc (bl_refl _) _) hw
  exact ⟨rfl, by repeat (first | exact hW | refine bl_drewN ?_ _ | refine bl_alloc ?_ _)⟩

set_option maxHeartbeats 1000000 in
theorem at_out1 (n s h t k : Int) (w : World) (hk : 0 ≤ k) (hq : okC n s h = true) (hge : 2 + 2 * n + s - (2 + 2 * n) ≤ k) :
    Calls Tryz.prog 83 #[cfgV n s h t, .int .i64 1, .int .i64 k] w fun e w' => e = .returned (.int .i64 (-1)) ∧ Below w.heap.size w w' := by
  obtain ⟨b1, b2, b3, b4, b5, b6⟩ := okC_bounds hq
  have d1 : decide (2 + 2 * n + s - (2 + 2 * n) ≤ k) = true := decide_eq_true hge
  have d0 : decide (k < 0) = false := decide_eq_false (by omega)
  have Hq := Lib.hid hq
  clear hq
  go_enter Tryz.func83, Tryz.ntmps83
  go_wp2_with (go_at_call 103; refine (begins_ok _ _ _ _ _ Hq.out).mono ?_; rintro e w' ⟨rfl, hw⟩; obtain ⟨hc, hf⟩ := bcell hw; (have hz0 : w.heap.size < w'.heap.size := bsz hw (by simp only [World.size_alloc]; omega)))
  go_quiet (fail)
  go_wp2
  go_ret
  have hW : Below w.heap.size w w' := bl_then (bl_alloc (bl_refl _) _) hw
  exact ⟨rfl, by repeat (first | exact hW | refine bl_drewN ?_ _ | refine bl_alloc ?_ _)⟩

set_option maxHeartbeats 1000000 in
theorem at_in1 (n s h t k : Int) (w : World) (hk : 0 ≤ k) (hq : okC n s h = true) (hlt : k < 2 + 2 * n + s - (2 + 2 * n)) :
    Calls Tryz.prog 83 #[cfgV n s h t, .int .i64 1, .int .i64 k] w fun e w' => e = .returned (.int .i64 (2 + 2 * n + k)) ∧ Below w.heap.size w w' := by
  obtain ⟨b1, b2, b3, b4, b5, b6⟩ := okC_bounds hq
  have d1 : decide (2 + 2 * n + s - (2 + 2 * n) ≤ k) = false := decide_eq_false (by omega)
  have d0 : decide (k < 0) = false := decide_eq_false (by omega)
  have Hq := Lib.hid hq
  clear hq
  go_enter Tryz.func83, Tryz.ntmps83
  go_wp2_with (go_at_call 103; refine (begins_ok _ _ _ _ _ Hq.out).mono ?_; rintro e w' ⟨rfl, hw⟩; obtain ⟨hc, hf⟩ := bcell hw; (have hz0 : w.heap.size < w'.heap.size := bsz hw (by simp only [World.size_alloc]; omega)))
  go_quiet (fail)
  go_wp2
  go_ret
  have hW : Below w.heap.size w w' := bl_then (bl_alloc (bl_refl _) _) hw
  exact ⟨rfl, by repeat (first | exact hW | refine bl_drewN ?_ _ | refine bl_alloc ?_ _)⟩

set_option maxHeartbeats 1000000 in
theorem at_no2 (n s h t k : Int) (w : World) (hk : 0 ≤ k) (hq : okC n s h = false) :
    Calls Tryz.prog 83 #[cfgV n s h t, .int .i64 2, .int .i64 k] w fun e w' => e = .returned (.int .i64 (-1)) ∧ Below w.heap.size w w' := by
  have d0 : decide (k < 0) = false := decide_eq_false (by omega)
  have Hq := Lib.hid hq
  clear hq
  go_enter Tryz.func83, Tryz.ntmps83
  go_wp2_with (go_at_call 103; refine (begins_no _ _ _ _ _ Hq.out).mono ?_; rintro e w' ⟨rfl, hw⟩; obtain ⟨hc, hf⟩ := bcell hw; (have hz0 : w.heap.size < w'.heap.size := bsz hw (by simp only [World.size_alloc]; omega)))
  go_quiet (fail)
  go_wp2
  go_ret
  have hW : Below w.heap.size w w' := bl_then (bl_alloc (bl_refl _) _) hw
  exact ⟨rfl, by repeat (first | exact hW | refine bl_drewN ?_ _ | refine bl_alloc ?_ _)⟩

set_option maxHeartbeats 1000000 in
theorem at_out2 (n s h t k : Int) (w : World) (hk : 0 ≤ k) (hq : okC n s h = true) (hge : 2 + 2 * n + s + h - (2 + 2 * n + s) ≤ k) :
    Calls Tryz.prog 83 #[cfgV n s h t, .int .i64 2, .int .i64 k] w fun e w' => e = .returned (.int .i64 (-1)) ∧ Below w.heap.size w w' := by
  obtain ⟨b1, b2, b3, b4, b5, b6⟩ := okC_bounds hq
  have d1 : decide (2 + 2 * n + s + h - (2 + 2 * n + s) ≤ k) = true := decide_eq_true hge
  have d0 : decide (k < 0) = false := decide_eq_false (by omega)
  have Hq := Lib.hid hq
  clear hq
  go_enter Tryz.func83, Tryz.ntmps83
  go_wp2_with (go_at_call 103; refine (begins_ok _ _ _ _ _ Hq.out).mono ?_; rintro e w' ⟨rfl, hw⟩; obtain ⟨hc, hf⟩ := bcell hw; (have hz0 : w.heap.size < w'.heap.size := bsz hw (by simp only [World.size_alloc]; omega)))
  go_quiet (fail)
  go_wp2
  go_ret
  have hW : Below w.heap.size w w' := bl_then (bl_alloc (bl_refl _) _) hw
  exact ⟨rfl, by repeat (first | exact hW | refine bl_drewN ?_ _ | refine bl_alloc ?_ _)⟩

set_option maxHeartbeats 1000000 in
theorem at_in2 (n s h t k : Int) (w : World) (hk : 0 ≤ k) (hq : okC n s h = true) (hlt : k < 2 + 2 * n + s + h - (2 + 2 * n + s)) :
    Calls Tryz.prog 83 #[cfgV n s h t, .int .i64 2, .int .i64 k] w fun e w' => e = .returned (.int .i64 (2 + 2 * n + s + k)) ∧ Below w.heap.size w w' := by
  obtain ⟨b1, b2, b3, b4, b5, b6⟩ := okC_bounds hq
  have d1 : decide (2 + 2 * n + s + h - (2 + 2 * n + s) ≤ k) = false := decide_eq_false (by omega)
  have d0 : decide (k < 0) = false := decide_eq_false (by omega)
  have Hq := Lib.hid hq
  clear hq
  go_enter Tryz.func83, Tryz.ntmps83
  go_wp2_with (go_at_call 103; refine (begins_ok _ _ _ _ _ Hq.out).mono ?_; rintro e w' ⟨rfl, hw⟩; obtain ⟨hc, hf⟩ := bcell hw; (have hz0 : w.heap.size < w'.heap.size := bsz hw (by simp only [World.size_alloc]; omega)))
  go_quiet (fail)
  go_wp2
  go_ret
  have hW : Below w.heap.size w w' := bl_then (bl_alloc (bl_refl _) _) hw
  exact ⟨rfl, by repeat (first | exact hW | refine bl_drewN ?_ _ | refine bl_alloc ?_ _)⟩

end Go.Proofs.YtgfeagggkplegaaGreat
namespace Go.Proofs.YtgfeagggkplegaaGreat
open Go.RowKit
set_option linter.unusedVariables false
set_option linter.unusedSimpArgs false

set_option maxHeartbeats 1000000 in
theorem index_any (x : Int) (w : World) :
   Calls Tryz.prog 101 #[.int .u64 x] w fun e w' => e = .returned (.int .u32 (x % 4294967296)) ∧ Below w.heap.size w w' := by
 have f0 : ∀ (w : World), (Instr.typeAssert (.iface 219 (.agg #[])) 20 246 true).run Tryz.prog w = .ok (.tuple #[.iface 219 (.agg #[]), .bool true]) w := fun _ => by kernel_rfl
 go_enter Tryz.func101, Tryz.ntmps101
 go_wp2
 go_ret
 exact ⟨rfl, bl_alloc (bl_refl _) _⟩
set_option maxHeartbeats 1000000 in
theorem tag_any (x : Int) (w : World) (h0 : 0 ≤ x) (h1 : x < 18446744073709551616) :
   Calls Tryz.prog 175 #[.int .u64 x] w fun e w' => e = .returned (.int .u32 (x / 4294967296)) ∧ Below w.heap.size w w' := by
 have f0 : ∀ (w : World), (Instr.typeAssert (.iface 260 (.agg #[])) 20 246 true).run Tryz.prog w = .ok (.tuple #[.iface 260 (.agg #[]), .bool true]) w := fun _ => by kernel_rfl
 go_enter Tryz.func175, Tryz.ntmps175
 go_wp2
 go_ret
 exact ⟨rfl, bl_alloc (bl_refl _) _⟩
end Go.Proofs.YtgfeagggkplegaaGreat
namespace Go.Proofs.YtgfeagggkplegaaGreat
open Go.RowKit
set_option linter.unusedVariables false
set_option linter.unusedSimpArgs false

theorem calls_mono {P : Program} {f : FuncId} {args : Array Value} {w : World} {R R' : Ending → World → Prop} (h : Calls P f args w R) (hr : ∀ e w', R e w' → R' e w') : Calls P f args w R' := h.mono hr

theorem at_any (n s h t : Int) (p : Nat) (k : Int) (w : World) (hp : p ≤ 2) :
    Calls Tryz.prog 83 #[cfgV n s h t, .int .i64 p, .int .i64 k] w fun e w' => e = .returned (.int .i64 (atI n s h p k)) ∧ Below w.heap.size w w' := by
  by_cases hk : k < 0
  · have e1 : atI n s h p k = -1 := by unfold atI; rw [if_neg (by omega)]
    rw [e1]
    exact at_neg n s h t p k w hk
  have hk0 : 0 ≤ k := by omega
  cases hq : okC n s h with
  | false =>
    have e1 : atI n s h p k = -1 := by unfold atI; rw [if_neg (by simp [hq])]
    rw [e1]
    rcases (by omega : p = 0 ∨ p = 1 ∨ p = 2) with rfl | rfl | rfl
    · exact at_no0 n s h t k w hk0 hq
    · exact at_no1 n s h t k w hk0 hq
    · exact at_no2 n s h t k w hk0 hq
  | true =>
    rcases (by omega : p = 0 ∨ p = 1 ∨ p = 2) with rfl | rfl | rfl
    · by_cases hl : k < 2 + 2 * n - 2
      · have e1 : atI n s h 0 k = 2 + k := by unfold atI; rw [if_pos ⟨hq, hk0, by simp [lenI]; omega⟩]; simp [loI]
        rw [e1]
        exact at_in0 n s h t k w hk0 hq hl
      · have e1 : atI n s h 0 k = -1 := by unfold atI; rw [if_neg (by simp [lenI]; omega)]
        rw [e1]
        exact at_out0 n s h t k w hk0 hq (by omega)
    · by_cases hl : k < 2 + 2 * n + s - (2 + 2 * n)
      · have e1 : atI n s h 1 k = 2 + 2 * n + k := by unfold atI; rw [if_pos ⟨hq, hk0, by simp [lenI]; omega⟩]; simp [loI]
        rw [e1]
        exact at_in1 n s h t k w hk0 hq hl
      · have e1 : atI n s h 1 k = -1 := by unfold atI; rw [if_neg (by simp [lenI]; omega)]
        rw [e1]
        exact at_out1 n s h t k w hk0 hq (by omega)
    · by_cases hl : k < 2 + 2 * n + s + h - (2 + 2 * n + s)
      · have e1 : atI n s h 2 k = 2 + 2 * n + s + k := by unfold atI; rw [if_pos ⟨hq, hk0, by simp [lenI]; omega⟩]; simp [loI]
        rw [e1]
        exact at_in2 n s h t k w hk0 hq hl
      · have e1 : atI n s h 2 k = -1 := by unfold atI; rw [if_neg (by simp [lenI]; omega)]
        rw [e1]
        exact at_out2 n s h t k w hk0 hq (by omega)

def cellsI (n s h : Int) : Int := if okC n s h = true then 2 + 2 * n + s + h else 0
set_option maxHeartbeats 1000000 in
theorem cells_any (n s h t : Int) (w : World) :
    Calls Tryz.prog 75 #[cfgV n s h t] w fun e w' => e = .returned (.int .i64 (cellsI n s h)) ∧ Below w.heap.size w w' := by
  have i3 : ∀ (a b c d : Value) (w : World), (Instr.index 195 (.agg #[a, b, c, d]) (.int .i64 3)).run Tryz.prog w = .ok d w := fun _ _ _ _ _ => by kernel_rfl
  cases hq : okC n s h with
  | false =>
    have e1 : cellsI n s h = 0 := by unfold cellsI; rw [if_neg (by simp [hq])]
    rw [e1]
    have Hq := Lib.hid hq
    clear hq e1
    go_enter Tryz.func75, Tryz.ntmps75
    go_wp2_with (go_at_call 103; refine (begins_no _ _ _ _ _ Hq.out).mono ?_; rintro e w' ⟨rfl, hw⟩)
    go_ret
    exact ⟨rfl, bl_then (bl_alloc (bl_refl _) _) hw⟩
  | true =>
    have e1 : cellsI n s h = 2 + 2 * n + s + h := by unfold cellsI; rw [if_pos hq]
    rw [e1]
    have Hq := Lib.hid hq
    clear hq e1
    go_enter Tryz.func75, Tryz.ntmps75
    go_wp2_with (go_at_call 103; refine (begins_ok _ _ _ _ _ Hq.out).mono ?_; rintro e w' ⟨rfl, hw⟩)
    go_ret
    exact ⟨rfl, bl_then (bl_alloc (bl_refl _) _) hw⟩
end Go.Proofs.YtgfeagggkplegaaGreat
namespace Go.Proofs.YtgfeagggkplegaaGreat
open Go.RowKit
set_option linter.unusedVariables false
set_option linter.unusedSimpArgs false

theorem pword_or {a b : Int} (a0 : 0 ≤ a) (a1 : a < 4294967296) (b0 : 0 ≤ b) (b1 : b < 4294967296) :
    Go.bits .or .u64 a (b * 4294967296) = a + b * 4294967296 := by
  obtain ⟨x, rfl⟩ := Int.eq_ofNat_of_zero_le a0
  obtain ⟨y, rfl⟩ := Int.eq_ofNat_of_zero_le b0
  have hw : ∀ n : Int, 0 ≤ n → n < 2 ^ 64 → IntKind.u64.wrap n = n := fun n h0 h1 => by rw [IntKind.wrap_u64]; omega
  have e : ((y : Int) * 4294967296) = ((y * 4294967296 : Nat) : Int) := by omega
  rw [e, (bits_nat .u64 64 (by decide) hw x (y * 4294967296) (by omega) (by omega)).2, Nat.or_comm]
  have h2 := Nat.two_pow_add_eq_or_of_lt (i := 32) (b := x) (by omega) y
  rw [show (2 : Nat) ^ 32 = 4294967296 from rfl] at h2
  rw [Nat.mul_comm y, ← h2]
  omega
set_option maxHeartbeats 1000000 in
theorem word_any (a b : Int) (w : World) (a0 : 0 ≤ a) (a1 : a < 4294967296) (b0 : 0 ≤ b) (b1 : b < 4294967296) :
    Calls Tryz.prog 76 #[.int .u32 a, .int .u32 b] w fun e w' => e = .returned (.int .u64 (a + b * 4294967296)) ∧ Below w.heap.size w w' := by
  have hW := pword_or a0 a1 b0 b1
  go_enter Tryz.func76, Tryz.ntmps76
  go_wp2
  go_ret
  exact ⟨rfl, bl_refl _⟩
/-- The word of an index, with the tag behind that of x. -/
def nextW (x i : Int) : Int := i + (x / 4294967296 + 1) % 4294967296 * 4294967296
set_option maxHeartbeats 1000000 in
theorem pnext_any (x i : Int) (w : World) (h0 : 0 ≤ x) (h1 : x < 18446744073709551616) (i0 : 0 ≤ i) (i1 : i < 4294967296) :
   Calls Tryz.prog 158 #[.int .u64 x, .int .u32 i] w fun e w' => e = .returned (.int .u64 (nextW x i)) ∧ Below w.heap.size w w' := by
 have b0 : 0 ≤ (x / 4294967296 + 1) % 4294967296 := by omega
 have b1 : (x / 4294967296 + 1) % 4294967296 < 4294967296 := by omega
 have hW := Lib.hid (fun w => word_any i ((x / 4294967296 + 1) % 4294967296) w i0 i1 b0 b1)
 have hT := Lib.hid (fun w => tag_any x w h0 h1)
 go_enter Tryz.func158, Tryz.ntmps158
 go_wp2_with (first | (go_at_call 175; refine (hT.out _).mono ?_; rintro e w1 ⟨rfl, hb⟩; (have HB1 := Lib.hid hb); clear hb) | (go_at_call 76; refine (hW.out _).mono ?_; rintro e w2 ⟨rfl, hb⟩; (have HB2 := Lib.hid hb); clear hb))
 go_ret
 exact ⟨rfl, HB1.out.trans (HB2.out.mono HB1.out.size)⟩
set_option maxHeartbeats 1000000 in
theorem lnext_any (n s h t i : Int) (w : World) (i0 : 0 ≤ i) (i1 : i < 4294967296) :
    Calls Tryz.prog 77 #[.agg #[.int .i64 n, .int .i64 s, .int .i64 h, .int .u32 t], .int .u32 i] w fun e w' => e = .returned (.int .i64 (atI n s h 0 (2 * (i - 1)))) ∧ Below w.heap.size w w' := by
  have hA := Lib.hid (fun w => at_any n s h t 0 (2 * (i - 1)) w (by decide))
  go_enter Tryz.func77, Tryz.ntmps77
  go_wp2_with (go_at_call 83; refine (hA.out _).mono ?_; rintro e w1 ⟨rfl, hb⟩; (have HB1 := Lib.hid hb); clear hb)
  go_ret
  exact ⟨rfl, (bl_alloc (bl_refl w) _).trans (HB1.out.mono (by simp))⟩
end Go.Proofs.YtgfeagggkplegaaGreat
