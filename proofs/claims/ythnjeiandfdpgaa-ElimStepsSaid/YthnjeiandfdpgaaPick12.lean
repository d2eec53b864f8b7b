/-
  The law's pick.
-/
import Derived.Test.YthnjeiandfdpgaaCommon
namespace Go.Proofs.Ythnjeiandfdpgaa
open Go.RowKit
set_option linter.unusedVariables false
set_option linter.unusedSimpArgs false

theorem pick_is (c n k : Int) (w : World) (hk : pickI c n = k) (h0 : 0 < n) (h1 : n < 9223372036854775808) (c0 : -9223372036854775808 ≤ c) (c1 : c < 9223372036854775808) :
    Calls Try.prog 10 #[.int .i64 c, .int .i64 n] w fun e w' => e = .returned (.int .i64 k) ∧ w = w' := by
  subst hk
  by_cases hc : c < 0
  · have e : pickI c n = (-(c + 1)) % n := by simp [pickI, hc]
    rw [e]
    have d0 : decide (c < 0) = true := decide_eq_true hc
    have b1 : 0 ≤ -(c + 1) := by omega
    have b2 : -(c + 1) < 9223372036854775808 := by omega
    have b3 : -9223372036854775808 ≤ c + 1 := by omega
    have b4 : (-(c + 1)).tmod n = (-(c + 1)) % n := Int.tmod_eq_emod_of_nonneg b1
    go_enter Try.func10, Try.ntmps10
    go_wp2
    go_ret
    exact ⟨rfl, rfl⟩
  · have e : pickI c n = c % n := by simp [pickI, hc]
    rw [e]
    have d0 : decide (c < 0) = false := decide_eq_false hc
    have b1 : 0 ≤ c := by omega
    go_enter Try.func10, Try.ntmps10
    go_wp2
    go_ret
    exact ⟨rfl, rfl⟩
end Go.Proofs.Ythnjeiandfdpgaa
