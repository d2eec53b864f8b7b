/-
  Package policy, and the document's (hatstandref11): what each function tells.
-/
import Derived.Test.YtgfeagggkplegaaGreatRow
import Derived.Deep.QuietTactic
import Derived.Deep.LoopGhost
import Derived.Laws.StructEq
import Derived.Lib.MinMax
namespace Go.Proofs.YtgfeagggkplegaaGreat
open Go.RowKit
set_option linter.unusedVariables false
set_option linter.unusedSimpArgs false

abbrev polV (r e : Int) : Value := .agg #[.int .i64 r, .int .i64 e]
def pR (r n : Int) : Int := max (min r n) (min n 1)
def pE (e : Int) : Int := max (min e 6) 0
/-- Is a state right? -/
def pOk (r e n : Int) : Bool := decide (0 ≤ n ∧ n ≤ 16 ∧ r = pR r n ∧ e = pE e)
/-- How often a wait is doubled. -/
def pDbl : Nat → Int → Int
  | 0, n => n
  | k + 1, n => if n < 64 then pDbl k (n * 2) else n
def pPolls (e base : Int) : Int := min (pDbl e.toNat (max base 1)) 64
/-- The range, and the wait, behind a visit. -/
def pAr (r n st : Int) : Int := pR (if st = 3 then r * 2 else if st = 4 then r / 2 else r) n
def pAe (e st : Int) : Int := pE (if st = 4 then e + 1 else if st = 1 then 0 else e)

set_option maxHeartbeats 1000000 in
theorem within_any (r e n : Int) (w : World) :
    Calls Tryz.prog 72 #[polV r e, .int .i64 n] w fun z w' => z = .returned (polV (pR r n) (pE e)) ∧ Below w.heap.size w w' := by
  unfold pR pE
  go_enter Tryz.func72, Tryz.ntmps72
  go_wp2
  go_returns
  exact ⟨rfl, by go_grown⟩
theorem polEq (a b c d : Int) (w : World) : (binOp .eql 29 (polV a b) (polV c d)).run Tryz.prog w = .ok (.bool (a == c && b == d)) w := by
  have u1 := Tryz.underlying3
  have hS : Tryz.prog.underlying 29 = some (.struct (Tryz.prog.fieldsOf 29)) := by kernel_rfl
  have hp : Tryz.prog.stoodInHeld 29 = false := by kernel_rfl
  rw [run_eql_struct, show (10000 : Nat) = 9999 + 1 from rfl, run_equalIn_agg w 9999 29 _ _ hS hp]
  simp only [Program.fieldsOf, Tryz.underlying29]
  by_cases h1 : a = c
  · by_cases h2 : b = d
    · subst h1 h2
      go_simp
    · have e1 : (b == d) = false := by simpa using h2
      subst h1
      go_simp
  · have e1 : (a == c) = false := by simpa using h1
    go_simp
set_option maxHeartbeats 1000000 in
theorem right_neg (r e n : Int) (w : World) (h : n < 0) :
    Calls Tryz.prog 84 #[polV r e, .int .i64 n] w fun z w' => z = .returned (.bool false) ∧ Below w.heap.size w w' := by
  have d0 : decide (0 ≤ n) = false := decide_eq_false (by omega)
  go_enter Tryz.func84, Tryz.ntmps84
  go_wp2
  go_quiet (fail)
  go_wp2
  go_ret
  exact ⟨rfl, bl_drewN (bl_alloc (bl_refl _) _) _⟩
set_option maxHeartbeats 1000000 in
theorem right_big (r e n : Int) (w : World) (h : 16 < n) :
    Calls Tryz.prog 84 #[polV r e, .int .i64 n] w fun z w' => z = .returned (.bool false) ∧ Below w.heap.size w w' := by
  have d0 : decide (0 ≤ n) = true := decide_eq_true (by omega)
  have d1 : decide (n ≤ 16) = false := decide_eq_false (by omega)
  go_enter Tryz.func84, Tryz.ntmps84
  go_wp2
  go_quiet (fail)
  go_wp2
  go_ret
  exact ⟨rfl, bl_drewN (bl_alloc (bl_refl _) _) _⟩
set_option maxHeartbeats 1000000 in
theorem right_in (r e n : Int) (w : World) (h0 : 0 ≤ n) (h1 : n ≤ 16) :
    Calls Tryz.prog 84 #[polV r e, .int .i64 n] w fun z w' => z = .returned (.bool (r == pR r n && e == pE e)) ∧ Below w.heap.size w w' := by
  have d0 : decide (0 ≤ n) = true := decide_eq_true (by omega)
  have d1 : decide (n ≤ 16) = true := decide_eq_true (by omega)
  have hq : ∀ w, (binOp .eql 29 (polV r e) (polV (pR r n) (pE e))).run Tryz.prog w = .ok (.bool (r == pR r n && e == pE e)) w := fun w => polEq r e (pR r n) (pE e) w
  have H := Lib.hid ((St.nil w).alloc #[.int .i64 r, .int .i64 e] 29)
  go_enter Tryz.func84, Tryz.ntmps84
  go_wp2
  go_region_held3 (fun w' => w'.cell? ⟨w.heap.size, 0, none⟩ = some (.int .i64 r) ∧ w'.cell? ⟨w.heap.size, 1, none⟩ = some (.int .i64 e)) (first | exact ⟨cell_of (H2.out.cells 0 rfl) 0, cell_of (H2.out.cells 0 rfl) 1⟩ | exact ⟨cell_of (H.out.drew.cells 0 rfl) 0, cell_of (H.out.drew.cells 0 rfl) 1⟩ | exact ⟨cell_of (H.out.cells 0 rfl) 0, cell_of (H.out.cells 0 rfl) 1⟩) ((go_at_call 72; refine (within_any r e n _).mono ?_; rintro z w2 ⟨rfl, hb⟩; (have H2 := Lib.hid (H.out.drew.below hb)); clear hb))
  all_goals go_wp2
  all_goals go_ret
  all_goals exact ⟨rfl, H2.out.bel⟩
theorem right_any (r e n : Int) (w : World) :
    Calls Tryz.prog 84 #[polV r e, .int .i64 n] w fun z w' => z = .returned (.bool (pOk r e n)) ∧ Below w.heap.size w w' := by
  by_cases c0 : n < 0
  · rw [show pOk r e n = false from decide_eq_false (by omega)]
    exact right_neg r e n w c0
  by_cases c1 : 16 < n
  · rw [show pOk r e n = false from decide_eq_false (by omega)]
    exact right_big r e n w c1
  · have : pOk r e n = (r == pR r n && e == pE e) := by
      unfold pOk
      rw [Bool.eq_iff_iff]
      simp
      omega
    rw [this]
    exact right_in r e n w (by omega) (by omega)
/-- A right state's bounds. -/
theorem pOk_iff {r e n : Int} : pOk r e n = true ↔ (0 ≤ n ∧ n ≤ 16 ∧ min n 1 ≤ r ∧ r ≤ n ∧ 0 ≤ e ∧ e ≤ 6) := by
  unfold pOk pR pE
  rw [decide_eq_true_iff]
  constructor
  · rintro ⟨h1, h2, h3, h4⟩
    refine ⟨h1, h2, ?_, ?_, ?_, ?_⟩ <;> omega
  · rintro ⟨h1, h2, h3, h4, h5, h6⟩
    refine ⟨h1, h2, ?_, ?_⟩ <;> omega
set_option maxHeartbeats 2000000 in
theorem after_busy (r e n : Int) (w : World) (hr : 0 ≤ r ∧ r ≤ 16) (he : 0 ≤ e ∧ e ≤ 6) :
    Calls Tryz.prog 140 #[polV r e, .int .i64 n, .int .i64 3] w fun z w' => z = .returned (polV (pR (r * 2) n) (pE (e))) ∧ Below w.heap.size w w' := by
  obtain ⟨hr0, hr1⟩ := hr
  obtain ⟨he0, he1⟩ := he
  have H := Lib.hid (((St.nil w).alloc #[.int .i64 (r * 2), .int .i64 (e)] 29).alloc #[.int .i64 0, .int .i64 0] 29)
  skip
  go_enter Tryz.func140, Tryz.ntmps140
  go_wp2_with (go_at_call 72; refine (within_any (r * 2) (e) n _).mono ?_; rintro z w2 ⟨rfl, hb⟩; (have H2 := Lib.hid (H.out.below hb)); clear hb; (have k0 := cells2 (H2.out.cells 0 rfl)); rw [World.size_alloc] at k0; obtain ⟨k0, k1, k2, k3⟩ := k0)
  have h9 := (H2.out.setAt 0 rfl 0 (.int .i64 (pR (r * 2) n))).setAt 0 rfl 1 (.int .i64 (pE (e)))
  rw [World.size_alloc] at h9
  generalize (w2.setCell ⟨w.heap.size + 1, 0, none⟩ (.int .i64 (pR (r * 2) n))).setCell ⟨w.heap.size + 1, 1, none⟩ (.int .i64 (pE (e))) = W9 at *
  obtain ⟨k4, k5, _, _⟩ := cells2 (h9.cells 0 rfl)
  have H9 := Lib.hid h9
  clear h9
  (try simp only [Exit.inBlock, Exit.then])
  refine bodyPost_ret (by simp [results, Tryz.results140, go_sem, k4, k5]; try rfl) rfl ?_
  exact ⟨rfl, H9.out.bel⟩
set_option maxHeartbeats 2000000 in
theorem after_timeout (r e n : Int) (w : World) (hr : 0 ≤ r ∧ r ≤ 16) (he : 0 ≤ e ∧ e ≤ 6) :
    Calls Tryz.prog 140 #[polV r e, .int .i64 n, .int .i64 4] w fun z w' => z = .returned (polV (pR (r / 2) n) (pE (e + 1))) ∧ Below w.heap.size w w' := by
  obtain ⟨hr0, hr1⟩ := hr
  obtain ⟨he0, he1⟩ := he
  have H := Lib.hid (((St.nil w).alloc #[.int .i64 (r / 2), .int .i64 (e + 1)] 29).alloc #[.int .i64 0, .int .i64 0] 29)
  have e3 : r.tdiv 2 = r / 2 := Int.tdiv_eq_ediv_of_nonneg hr0
  go_enter Tryz.func140, Tryz.ntmps140
  go_wp2_with (go_at_call 72; refine (within_any (r / 2) (e + 1) n _).mono ?_; rintro z w2 ⟨rfl, hb⟩; (have H2 := Lib.hid (H.out.below hb)); clear hb; (have k0 := cells2 (H2.out.cells 0 rfl)); rw [World.size_alloc] at k0; obtain ⟨k0, k1, k2, k3⟩ := k0)
  have h9 := (H2.out.setAt 0 rfl 0 (.int .i64 (pR (r / 2) n))).setAt 0 rfl 1 (.int .i64 (pE (e + 1)))
  rw [World.size_alloc] at h9
  generalize (w2.setCell ⟨w.heap.size + 1, 0, none⟩ (.int .i64 (pR (r / 2) n))).setCell ⟨w.heap.size + 1, 1, none⟩ (.int .i64 (pE (e + 1))) = W9 at *
  obtain ⟨k4, k5, _, _⟩ := cells2 (h9.cells 0 rfl)
  have H9 := Lib.hid h9
  clear h9
  (try simp only [Exit.inBlock, Exit.then])
  refine bodyPost_ret (by simp [results, Tryz.results140, go_sem, k4, k5]; try rfl) rfl ?_
  exact ⟨rfl, H9.out.bel⟩
set_option maxHeartbeats 2000000 in
theorem after_done (r e n : Int) (w : World) (hr : 0 ≤ r ∧ r ≤ 16) (he : 0 ≤ e ∧ e ≤ 6) :
    Calls Tryz.prog 140 #[polV r e, .int .i64 n, .int .i64 1] w fun z w' => z = .returned (polV (pR (r) n) (pE (0))) ∧ Below w.heap.size w w' := by
  obtain ⟨hr0, hr1⟩ := hr
  obtain ⟨he0, he1⟩ := he
  have H := Lib.hid (((St.nil w).alloc #[.int .i64 (r), .int .i64 (0)] 29).alloc #[.int .i64 0, .int .i64 0] 29)
  skip
  go_enter Tryz.func140, Tryz.ntmps140
  go_wp2_with (go_at_call 72; refine (within_any (r) (0) n _).mono ?_; rintro z w2 ⟨rfl, hb⟩; (have H2 := Lib.hid (H.out.below hb)); clear hb; (have k0 := cells2 (H2.out.cells 0 rfl)); rw [World.size_alloc] at k0; obtain ⟨k0, k1, k2, k3⟩ := k0)
  have h9 := (H2.out.setAt 0 rfl 0 (.int .i64 (pR (r) n))).setAt 0 rfl 1 (.int .i64 (pE (0)))
  rw [World.size_alloc] at h9
  generalize (w2.setCell ⟨w.heap.size + 1, 0, none⟩ (.int .i64 (pR (r) n))).setCell ⟨w.heap.size + 1, 1, none⟩ (.int .i64 (pE (0))) = W9 at *
  obtain ⟨k4, k5, _, _⟩ := cells2 (h9.cells 0 rfl)
  have H9 := Lib.hid h9
  clear h9
  (try simp only [Exit.inBlock, Exit.then])
  refine bodyPost_ret (by simp [results, Tryz.results140, go_sem, k4, k5]; try rfl) rfl ?_
  exact ⟨rfl, H9.out.bel⟩
set_option maxHeartbeats 2000000 in
theorem after_other (r e n st : Int) (w : World) (hr : 0 ≤ r ∧ r ≤ 16) (he : 0 ≤ e ∧ e ≤ 6) (h3 : (st == 3) = false) (h4 : (st == 4) = false) (h1 : (st == 1) = false) :
    Calls Tryz.prog 140 #[polV r e, .int .i64 n, .int .i64 st] w fun z w' => z = .returned (polV (pR (r) n) (pE (e))) ∧ Below w.heap.size w w' := by
  obtain ⟨hr0, hr1⟩ := hr
  obtain ⟨he0, he1⟩ := he
  have H := Lib.hid (((St.nil w).alloc #[.int .i64 (r), .int .i64 (e)] 29).alloc #[.int .i64 0, .int .i64 0] 29)
  skip
  go_enter Tryz.func140, Tryz.ntmps140
  go_wp2_with (go_at_call 72; refine (within_any (r) (e) n _).mono ?_; rintro z w2 ⟨rfl, hb⟩; (have H2 := Lib.hid (H.out.below hb)); clear hb; (have k0 := cells2 (H2.out.cells 0 rfl)); rw [World.size_alloc] at k0; obtain ⟨k0, k1, k2, k3⟩ := k0)
  have h9 := (H2.out.setAt 0 rfl 0 (.int .i64 (pR (r) n))).setAt 0 rfl 1 (.int .i64 (pE (e)))
  rw [World.size_alloc] at h9
  generalize (w2.setCell ⟨w.heap.size + 1, 0, none⟩ (.int .i64 (pR (r) n))).setCell ⟨w.heap.size + 1, 1, none⟩ (.int .i64 (pE (e))) = W9 at *
  obtain ⟨k4, k5, _, _⟩ := cells2 (h9.cells 0 rfl)
  have H9 := Lib.hid h9
  clear h9
  (try simp only [Exit.inBlock, Exit.then])
  refine bodyPost_ret (by simp [results, Tryz.results140, go_sem, k4, k5]; try rfl) rfl ?_
  exact ⟨rfl, H9.out.bel⟩
theorem after_any (r e n st : Int) (w : World) (hr : 0 ≤ r ∧ r ≤ 16) (he : 0 ≤ e ∧ e ≤ 6) :
    Calls Tryz.prog 140 #[polV r e, .int .i64 n, .int .i64 st] w fun z w' => z = .returned (polV (pAr r n st) (pAe e st)) ∧ Below w.heap.size w w' := by
  by_cases c3 : st = 3
  · subst c3
    simpa [pAr, pAe] using after_busy r e n w hr he
  by_cases c4 : st = 4
  · subst c4
    simpa [pAr, pAe] using after_timeout r e n w hr he
  by_cases c1 : st = 1
  · subst c1
    simpa [pAr, pAe] using after_done r e n w hr he
  · have := after_other r e n st w hr he (by simpa using c3) (by simpa using c4) (by simpa using c1)
    simpa [pAr, pAe, c1, c3, c4] using this
theorem pDbl_rng : ∀ (k : Nat) (n : Int), 1 ≤ n → n ≤ pDbl k n ∧ pDbl k n ≤ max n 127
  | 0, n, h => by simp only [pDbl]; omega
  | k + 1, n, h => by
    simp only [pDbl]
    split
    · have := pDbl_rng k (n * 2) (by omega)
      omega
    · omega
theorem pDbl_stop (k : Nat) {n : Int} (h : 64 ≤ n) : pDbl k n = n := by
  cases k with
  | zero => rfl
  | succ k => simp only [pDbl]; rw [if_neg (by omega)]
theorem pPolls_rng (e base : Int) : 1 ≤ pPolls e base ∧ pPolls e base ≤ 64 := by
  have := pDbl_rng e.toNat (max base 1) (by omega)
  unfold pPolls
  omega
set_option maxHeartbeats 4000000 in
theorem polls_any (r e base : Int) (w : World) (he : 0 ≤ e ∧ e ≤ 6) (b0 : -9223372036854775808 ≤ base) (b1 : base < 9223372036854775808) :
    Calls Tryz.prog 164 #[polV r e, .int .i64 base] w fun z w' => z = .returned (.int .i64 (pPolls e base)) ∧ Below w.heap.size w w' := by
  obtain ⟨k, rfl⟩ := Int.eq_ofNat_of_zero_le he.1
  have hk : k ≤ 6 := by omega
  obtain ⟨m, hm⟩ : ∃ m, pDbl k (max base 1) = m := ⟨_, rfl⟩
  have e1 : pPolls k base = min m 64 := by unfold pPolls; rw [← hm]; simp
  rw [e1]
  have HM := Lib.hid hm
  obtain ⟨mb, hmb⟩ : ∃ mb, max base 1 = mb := ⟨_, rfl⟩
  have mb1 : 1 ≤ mb := by omega
  have mb2 : mb < 9223372036854775808 := by omega
  have H := Lib.hid ((St.nil w).alloc #[.int .i64 r, .int .i64 k] 29)
  clear hm e1 he
  go_enter Tryz.func164, Tryz.ntmps164
  go_wp2
  go_loopg [5, 6] 7 (fun kq n z w' => ∃ (i : Nat) (x : Int), n = .int .i64 x ∧ z = .int .i64 i ∧ i ≤ k ∧ i + kq = 7 ∧ 1 ≤ x ∧ x < 9223372036854775808 ∧ pDbl (k - i) x = m ∧ St w [boxA w.heap.size #[.int .i64 r, .int .i64 k] 29] w')
  case atStart => exact ⟨0, mb, rfl, rfl, by omega, by omega, mb1, mb2, by rw [← hmb]; exact HM.out, H.out⟩
  case round =>
    obtain ⟨i, x, rfl, rfl, hi, hkq, x1, x2, hx, hS⟩ := hrel
    have HS := Lib.hid hS
    obtain ⟨k0, k1, _, _⟩ := cells2 (hS.cells 0 rfl)
    cases gk with
    | zero => omega
    | succ kk =>
      by_cases c1 : i < k
      · by_cases c2 : x < 64
        · have c1b : decide ((i : Int) < k) = true := decide_eq_true (by omega)
          have c2b : decide (x < 64) = true := decide_eq_true c2
          have HX : Hid (pDbl (k - (i + 1)) (x * 2) = m) := Lib.hid (by
            rw [show k - i = (k - (i + 1)) + 1 by omega] at hx
            simp only [pDbl] at hx
            rwa [if_pos c2] at hx)
          clear hS hx
          go_wp2
          go_roundg kk
          case measure => omega
          case rel => exact ⟨i + 1, x * 2, rfl, rfl, by omega, by omega, by omega, by omega, HX.out, HS.out⟩
        · have c1b : decide ((i : Int) < k) = true := decide_eq_true (by omega)
          have c2b : decide (x < 64) = false := decide_eq_false c2
          rw [pDbl_stop _ (by omega)] at hx
          subst hx
          clear hS
          go_wp2
          go_ret
          exact ⟨rfl, HS.out.bel⟩
      · have c1b : decide ((i : Int) < k) = false := decide_eq_false (by omega)
        rw [show k - i = 0 by omega] at hx
        simp only [pDbl] at hx
        subst hx
        clear hS
        go_wp2
        go_ret
        exact ⟨rfl, HS.out.bel⟩
end Go.Proofs.YtgfeagggkplegaaGreat
