/-
  The law's pick.
-/
import Derived.Test.YtndigbkhaajjoaaCommonA
namespace Go.Proofs.Ytndigbkhaajjoaa
open Go.RowKit
set_option linter.unusedVariables false
set_option linter.unusedSimpArgs false

theorem pick7_is (c n k : Int) (w : World) (hk : pickI c n = k) (h0 : 0 < n) (h1 : n < 9223372036854775808) (c0 : -9223372036854775808 ≤ c) (c1 : c < 9223372036854775808) :
    Calls Try.prog 29 #[.int .i64 c, .int .i64 n] w fun e w' => e = .returned (.int .i64 k) ∧ w = w' := by
  subst hk
  by_cases hc : c < 0
  · have e : pickI c n = (-(c + 1)) % n := by simp [pickI, hc]
    rw [e]
    have d0 : decide (c < 0) = true := decide_eq_true hc
    have b1 : 0 ≤ -(c + 1) := by omega
    have b2 : -(c + 1) < 9223372036854775808 := by omega
    have b3 : -9223372036854775808 ≤ c + 1 := by omega
    have b4 : (-(c + 1)).tmod n = (-(c + 1)) % n := Int.tmod_eq_emod_of_nonneg b1
    go_enter Try.func29, Try.ntmps29
    go_wp2
    go_ret
    exact ⟨rfl, rfl⟩
  · have e : pickI c n = c % n := by simp [pickI, hc]
    rw [e]
    have d0 : decide (c < 0) = false := decide_eq_false hc
    have b1 : 0 ≤ c := by omega
    go_enter Try.func29, Try.ntmps29
    go_wp2
    go_ret
    exact ⟨rfl, rfl⟩
theorem cfg7_is (a b c t n s h : Int) (w : World) (hn : 1 + pickI a 64 = n) (hs : pickI b 17 = s) (hh : pickI c 65 = h) (a0 : -9223372036854775808 ≤ a) (a1 : a < 9223372036854775808) (b0 : -9223372036854775808 ≤ b) (b1 : b < 9223372036854775808) (c0 : -9223372036854775808 ≤ c) (c1 : c < 9223372036854775808) :
    Calls Try.prog 35 #[.int .i64 a, .int .i64 b, .int .i64 c, .int .u32 t] w fun e w' => e = .returned (.agg #[.int .i64 n, .int .i64 s, .int .i64 h, .int .u32 t]) ∧ Below w.heap.size w w' := by
  have r1 := pickI_rng (c := a) (n := 64) (by decide)
  obtain ⟨k, hk⟩ : ∃ k, pickI a 64 = k := ⟨_, rfl⟩
  rw [hk] at hn r1
  obtain ⟨r0, r1⟩ := r1
  have HK := Lib.hid hk
  have HS := Lib.hid hs
  have HH := Lib.hid hh
  clear hk hs hh
  subst hn
  have e1 : IntKind.i64.wrap (1 + k) = 1 + k := by rw [IntKind.wrap_i64]; omega
  have p1 : -9223372036854775808 ≤ 1 + k := by omega
  have p2 : 1 + k < 9223372036854775808 := by omega
  go_enter Try.func35, Try.ntmps35
  go_wp2_with (first | ((have _h := A2); go_at_call 29; refine (pick7_is c 65 h _ HH.out (by decide) (by decide) c0 c1).mono ?_; rintro e w1 ⟨rfl, rfl⟩) | ((have _h := A1); go_at_call 29; refine (pick7_is b 17 s _ HS.out (by decide) (by decide) b0 b1).mono ?_; rintro e w1 ⟨rfl, rfl⟩; (have A2 : True := trivial)) | (go_at_call 29; refine (pick7_is a 64 k _ HK.out (by decide) (by decide) a0 a1).mono ?_; rintro e w1 ⟨rfl, rfl⟩; (have A1 : True := trivial)))
  go_returns
  exact ⟨rfl, by go_grown⟩
end Go.Proofs.Ytndigbkhaajjoaa
