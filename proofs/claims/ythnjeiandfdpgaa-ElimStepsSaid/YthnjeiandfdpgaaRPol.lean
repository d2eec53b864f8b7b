/-
  The document's policy (hatstandref11), for states that are right.
-/
import Derived.Test.YthnjeiandfdpgaaPol
namespace Go.Proofs.Ythnjeiandfdpgaa
open Go.RowKit
set_option linter.unusedVariables false
set_option linter.unusedSimpArgs false

set_option maxHeartbeats 2000000 in
theorem rright_any (r e n : Int) (w : World) (n1 : 1 ≤ n) (n2 : n ≤ 16) :
    Calls Try.prog 52 #[polV r e, .int .i64 n] w fun z w' => z = .returned (.bool (pOk r e n)) ∧ Below w.heap.size w w' := by
  have d1 : decide (n < 0) = false := decide_eq_false (by omega)
  have d2 : decide (16 < n) = false := decide_eq_false (by omega)
  have d3 : (n == 0) = false := by simp; omega
  by_cases c1 : e < 0
  · have d4 : decide (e < 0) = true := decide_eq_true c1
    rw [show pOk r e n = false by rw [← Bool.not_eq_true]; intro h; have := pOk_iff.1 h; omega]
    go_enter Try.func52, Try.ntmps52
    go_wp2
    go_ret
    exact ⟨rfl, bl_alloc (bl_refl _) _⟩
  have d4 : decide (e < 0) = false := decide_eq_false c1
  by_cases c2 : 6 < e
  · have d5 : decide (6 < e) = true := decide_eq_true c2
    rw [show pOk r e n = false by rw [← Bool.not_eq_true]; intro h; have := pOk_iff.1 h; omega]
    go_enter Try.func52, Try.ntmps52
    go_wp2
    go_ret
    exact ⟨rfl, bl_alloc (bl_refl _) _⟩
  have d5 : decide (6 < e) = false := decide_eq_false c2
  by_cases c3 : 1 ≤ r
  · have d6 : decide (1 ≤ r) = true := decide_eq_true c3
    by_cases c4 : r ≤ n
    · have d7 : decide (r ≤ n) = true := decide_eq_true c4
      rw [show pOk r e n = true from pOk_iff.2 ⟨by omega, n2, by omega, c4, by omega, by omega⟩]
      go_enter Try.func52, Try.ntmps52
      go_wp2
      go_ret
      exact ⟨rfl, bl_alloc (bl_refl _) _⟩
    · have d7 : decide (r ≤ n) = false := decide_eq_false c4
      rw [show pOk r e n = false by rw [← Bool.not_eq_true]; intro h; have := pOk_iff.1 h; omega]
      go_enter Try.func52, Try.ntmps52
      go_wp2
      go_ret
      exact ⟨rfl, bl_alloc (bl_refl _) _⟩
  · have d6 : decide (1 ≤ r) = false := decide_eq_false c3
    rw [show pOk r e n = false by rw [← Bool.not_eq_true]; intro h; have := pOk_iff.1 h; omega]
    go_enter Try.func52, Try.ntmps52
    go_wp2
    go_ret
    exact ⟨rfl, bl_alloc (bl_refl _) _⟩
/-- The document's doubling. -/
def rDbl : Nat → Int → Int
  | 0, n => n
  | k + 1, n => rDbl k (min (2 * n) 64)
theorem rDbl_is : ∀ (k : Nat) (x : Int), 1 ≤ x → rDbl k (min x 64) = min (pDbl k x) 64
  | 0, x, h => rfl
  | k + 1, x, h => by
    simp only [rDbl, pDbl]
    by_cases c : x < 64
    · rw [if_pos c, show min x 64 = x by omega, ← rDbl_is k (x * 2) (by omega), show (2 : Int) * x = x * 2 by omega]
    · rw [if_neg c, show min (2 * min x 64) 64 = min x 64 by omega, rDbl_is k x h, pDbl_stop _ (by omega)]
set_option maxHeartbeats 4000000 in
theorem rpolls_any (r e base : Int) (w : World) (he : 0 ≤ e ∧ e ≤ 6) (b0 : -9223372036854775808 ≤ base) (b1 : base < 9223372036854775808) :
    Calls Try.prog 55 #[polV r e, .int .i64 base] w fun z w' => z = .returned (.int .i64 (pPolls e base)) ∧ Below w.heap.size w w' := by
  obtain ⟨k, rfl⟩ := Int.eq_ofNat_of_zero_le he.1
  have hk : k ≤ 6 := by omega
  obtain ⟨m, hm⟩ : ∃ m, pPolls (k : Int) base = m := ⟨_, rfl⟩
  obtain ⟨x0, hx0⟩ : ∃ x0, min (max base 1) 64 = x0 := ⟨_, rfl⟩
  have HM : Hid (rDbl k x0 = m) := Lib.hid (by rw [← hx0, rDbl_is k _ (by omega), ← hm]; unfold pPolls; simp)
  have x1 : 1 ≤ x0 := by omega
  have x2 : x0 ≤ 64 := by omega
  rw [hm]
  have H := Lib.hid ((St.nil w).alloc #[.int .i64 r, .int .i64 k] 76)
  have HX : Hid (∀ c : Bool, decide (base < 1) = c → ∀ d : Bool, decide (64 < base) = d → True) := Lib.hid (fun _ _ _ _ => trivial)
  have main : ∀ y : Int, y = x0 → True := fun _ _ => trivial
  clear main HX
  rcases (by omega : (base < 1 ∧ x0 = 1) ∨ (¬ base < 1 ∧ 64 < base ∧ x0 = 64) ∨ (¬ base < 1 ∧ ¬ 64 < base ∧ x0 = base)) with ⟨g1, g2⟩ | ⟨g1, g3, g2⟩ | ⟨g1, g3, g2⟩
  all_goals subst g2
  all_goals clear hm
  · have d1 : decide (base < 1) = true := decide_eq_true g1
    clear hx0
    go_enter Try.func55, Try.ntmps55
    go_wp2
    go_loopg [5, 6] 7 (fun kq a z w' => ∃ (i : Nat) (x : Int), a = .int .i64 x ∧ z = .int .i64 i ∧ i ≤ k ∧ i + kq = 7 ∧ 1 ≤ x ∧ x ≤ 64 ∧ rDbl (k - i) x = m ∧ St w [boxA w.heap.size #[.int .i64 r, .int .i64 k] 76] w')
    case atStart => exact ⟨0, 1, rfl, rfl, by omega, by omega, by omega, by omega, HM.out, H.out⟩
    case round =>
      obtain ⟨i, x, rfl, rfl, hi, hkq, y1, y2, hx, hS⟩ := hrel
      have HS := Lib.hid hS
      obtain ⟨k0, k1, _, _⟩ := cells2 (hS.cells 0 rfl)
      cases gk with
      | zero => omega
      | succ kk =>
        by_cases c1 : i < k
        · have c1b : decide ((i : Int) < k) = true := decide_eq_true (by omega)
          rw [show k - i = (k - (i + 1)) + 1 by omega] at hx
          simp only [rDbl] at hx
          by_cases c2 : 64 < 2 * x
          · have c2b : decide (64 < 2 * x) = true := decide_eq_true c2
            rw [show min (2 * x) 64 = 64 by omega] at hx
            have HX := Lib.hid hx
            clear hS hx
            go_wp2
            go_roundg kk
            case measure => omega
            case rel => exact ⟨i + 1, 64, rfl, rfl, by omega, by omega, by omega, by omega, HX.out, HS.out⟩
          · have c2b : decide (64 < 2 * x) = false := decide_eq_false c2
            rw [show min (2 * x) 64 = 2 * x by omega] at hx
            have HX := Lib.hid hx
            clear hS hx
            go_wp2
            go_roundg kk
            case measure => omega
            case rel => exact ⟨i + 1, 2 * x, rfl, rfl, by omega, by omega, by omega, by omega, HX.out, HS.out⟩
        · have c1b : decide ((i : Int) < k) = false := decide_eq_false (by omega)
          rw [show k - i = 0 by omega] at hx
          simp only [rDbl] at hx
          subst hx
          clear hS
          go_wp2
          go_ret
          exact ⟨rfl, HS.out.bel⟩
  · have d1 : decide (base < 1) = false := decide_eq_false g1
    have d2 : decide (64 < base) = true := decide_eq_true g3
    clear hx0
    go_enter Try.func55, Try.ntmps55
    go_wp2
    go_loopg [5, 6] 7 (fun kq a z w' => ∃ (i : Nat) (x : Int), a = .int .i64 x ∧ z = .int .i64 i ∧ i ≤ k ∧ i + kq = 7 ∧ 1 ≤ x ∧ x ≤ 64 ∧ rDbl (k - i) x = m ∧ St w [boxA w.heap.size #[.int .i64 r, .int .i64 k] 76] w')
    case atStart => exact ⟨0, 64, rfl, rfl, by omega, by omega, by omega, by omega, HM.out, H.out⟩
    case round =>
      obtain ⟨i, x, rfl, rfl, hi, hkq, y1, y2, hx, hS⟩ := hrel
      have HS := Lib.hid hS
      obtain ⟨k0, k1, _, _⟩ := cells2 (hS.cells 0 rfl)
      cases gk with
      | zero => omega
      | succ kk =>
        by_cases c1 : i < k
        · have c1b : decide ((i : Int) < k) = true := decide_eq_true (by omega)
          rw [show k - i = (k - (i + 1)) + 1 by omega] at hx
          simp only [rDbl] at hx
          by_cases c2 : 64 < 2 * x
          · have c2b : decide (64 < 2 * x) = true := decide_eq_true c2
            rw [show min (2 * x) 64 = 64 by omega] at hx
            have HX := Lib.hid hx
            clear hS hx
            go_wp2
            go_roundg kk
            case measure => omega
            case rel => exact ⟨i + 1, 64, rfl, rfl, by omega, by omega, by omega, by omega, HX.out, HS.out⟩
          · have c2b : decide (64 < 2 * x) = false := decide_eq_false c2
            rw [show min (2 * x) 64 = 2 * x by omega] at hx
            have HX := Lib.hid hx
            clear hS hx
            go_wp2
            go_roundg kk
            case measure => omega
            case rel => exact ⟨i + 1, 2 * x, rfl, rfl, by omega, by omega, by omega, by omega, HX.out, HS.out⟩
        · have c1b : decide ((i : Int) < k) = false := decide_eq_false (by omega)
          rw [show k - i = 0 by omega] at hx
          simp only [rDbl] at hx
          subst hx
          clear hS
          go_wp2
          go_ret
          exact ⟨rfl, HS.out.bel⟩
  · have d1 : decide (x0 < 1) = false := decide_eq_false g1
    have d2 : decide (64 < x0) = false := decide_eq_false g3
    clear hx0
    go_enter Try.func55, Try.ntmps55
    go_wp2
    go_loopg [5, 6] 7 (fun kq a z w' => ∃ (i : Nat) (x : Int), a = .int .i64 x ∧ z = .int .i64 i ∧ i ≤ k ∧ i + kq = 7 ∧ 1 ≤ x ∧ x ≤ 64 ∧ rDbl (k - i) x = m ∧ St w [boxA w.heap.size #[.int .i64 r, .int .i64 k] 76] w')
    case atStart => exact ⟨0, x0, rfl, rfl, by omega, by omega, by omega, by omega, HM.out, H.out⟩
    case round =>
      obtain ⟨i, x, rfl, rfl, hi, hkq, y1, y2, hx, hS⟩ := hrel
      have HS := Lib.hid hS
      obtain ⟨k0, k1, _, _⟩ := cells2 (hS.cells 0 rfl)
      cases gk with
      | zero => omega
      | succ kk =>
        by_cases c1 : i < k
        · have c1b : decide ((i : Int) < k) = true := decide_eq_true (by omega)
          rw [show k - i = (k - (i + 1)) + 1 by omega] at hx
          simp only [rDbl] at hx
          by_cases c2 : 64 < 2 * x
          · have c2b : decide (64 < 2 * x) = true := decide_eq_true c2
            rw [show min (2 * x) 64 = 64 by omega] at hx
            have HX := Lib.hid hx
            clear hS hx
            go_wp2
            go_roundg kk
            case measure => omega
            case rel => exact ⟨i + 1, 64, rfl, rfl, by omega, by omega, by omega, by omega, HX.out, HS.out⟩
          · have c2b : decide (64 < 2 * x) = false := decide_eq_false c2
            rw [show min (2 * x) 64 = 2 * x by omega] at hx
            have HX := Lib.hid hx
            clear hS hx
            go_wp2
            go_roundg kk
            case measure => omega
            case rel => exact ⟨i + 1, 2 * x, rfl, rfl, by omega, by omega, by omega, by omega, HX.out, HS.out⟩
        · have c1b : decide ((i : Int) < k) = false := decide_eq_false (by omega)
          rw [show k - i = 0 by omega] at hx
          simp only [rDbl] at hx
          subst hx
          clear hS
          go_wp2
          go_ret
          exact ⟨rfl, HS.out.bel⟩
set_option maxHeartbeats 2000000 in
theorem rafter_any (r e n st : Int) (w : World) (hp : pOk r e n = true) (n1 : 1 ≤ n) :
    Calls Try.prog 57 #[polV r e, .int .i64 n, .int .i64 st] w fun z w' => z = .returned (polV (pAr r n st) (pAe e st)) ∧ Below w.heap.size w w' := by
  obtain ⟨h1, h2, h3, h4, h5, h6⟩ := pOk_iff.1 hp
  have hr : 1 ≤ r := by omega
  clear hp h3
  by_cases c1 : st = 1
  · subst c1
    rw [show pAr r n 1 = r by unfold pAr pR; simp; omega, show pAe e 1 = 0 by unfold pAe pE; simp; decide]
    go_enter Try.func57, Try.ntmps57
    go_wp2
    go_returns
    exact ⟨rfl, by go_grown⟩
  have d1 : (st == 1) = false := by simpa using c1
  by_cases c3 : st = 3
  · subst c3
    by_cases c : n < 2 * r
    · have d2 : decide (n < 2 * r) = true := decide_eq_true c
      rw [show pAr r n 3 = n by unfold pAr pR; simp; omega, show pAe e 3 = e by unfold pAe pE; simp; omega]
      go_enter Try.func57, Try.ntmps57
      go_wp2
      go_returns
      exact ⟨rfl, by go_grown⟩
    · have d2 : decide (n < 2 * r) = false := decide_eq_false c
      rw [show pAr r n 3 = 2 * r by unfold pAr pR; simp; omega, show pAe e 3 = e by unfold pAe pE; simp; omega]
      go_enter Try.func57, Try.ntmps57
      go_wp2
      go_returns
      exact ⟨rfl, by go_grown⟩
  have d3 : (st == 3) = false := by simpa using c3
  by_cases c4 : st = 4
  · subst c4
    have e3 : r.tdiv 2 = r / 2 := Int.tdiv_eq_ediv_of_nonneg (by omega)
    have d4 : decide (0 < n) = true := decide_eq_true (by omega)
    by_cases c : r / 2 < 1
    · have d2 : decide (r / 2 < 1) = true := decide_eq_true c
      by_cases c6 : e < 6
      · have d5 : decide (e < 6) = true := decide_eq_true c6
        rw [show pAr r n 4 = 1 by unfold pAr pR; simp; omega, show pAe e 4 = e + 1 by unfold pAe pE; simp; omega]
        go_enter Try.func57, Try.ntmps57
        go_wp2
        go_returns
        exact ⟨rfl, by go_grown⟩
      · have d5 : decide (e < 6) = false := decide_eq_false c6
        rw [show pAr r n 4 = 1 by unfold pAr pR; simp; omega, show pAe e 4 = e by unfold pAe pE; simp; omega]
        go_enter Try.func57, Try.ntmps57
        go_wp2
        go_returns
        exact ⟨rfl, by go_grown⟩
    · have d2 : decide (r / 2 < 1) = false := decide_eq_false c
      by_cases c6 : e < 6
      · have d5 : decide (e < 6) = true := decide_eq_true c6
        rw [show pAr r n 4 = r / 2 by unfold pAr pR; simp; omega, show pAe e 4 = e + 1 by unfold pAe pE; simp; omega]
        go_enter Try.func57, Try.ntmps57
        go_wp2
        go_returns
        exact ⟨rfl, by go_grown⟩
      · have d5 : decide (e < 6) = false := decide_eq_false c6
        rw [show pAr r n 4 = r / 2 by unfold pAr pR; simp; omega, show pAe e 4 = e by unfold pAe pE; simp; omega]
        go_enter Try.func57, Try.ntmps57
        go_wp2
        go_returns
        exact ⟨rfl, by go_grown⟩
  · have d4 : (st != 4) = true := by simpa using c4
    rw [show pAr r n st = r by unfold pAr pR; simp [c3, c4]; omega, show pAe e st = e by unfold pAe pE; simp [c1, c4]; omega]
    go_enter Try.func57, Try.ntmps57
    go_wp2
    go_returns
    exact ⟨rfl, by go_grown⟩
end Go.Proofs.Ythnjeiandfdpgaa
