/-
  Package pack: Word, Next; package layout: Next.
-/
import Derived.Test.YtdhkppijeocaoaaCon
import Derived.Laws.BitsLemmas
namespace Go.Proofs.Ytdhkppijeocaoaa
open Go.RowKit
set_option linter.unusedVariables false
set_option linter.unusedSimpArgs false

theorem pword_or {a b : Int} (a0 : 0 ≤ a) (a1 : a < 4294967296) (b0 : 0 ≤ b) (b1 : b < 4294967296) :
    Go.bits .or .u64 a (b * 4294967296) = a + b * 4294967296 := by
  obtain ⟨x, rfl⟩ := Int.eq_ofNat_of_zero_le a0
  obtain ⟨y, rfl⟩ := Int.eq_ofNat_of_zero_le b0
  have hw : ∀ n : Int, 0 ≤ n → n < 2 ^ 64 → IntKind.u64.wrap n = n := fun n h0 h1 => by rw [IntKind.wrap_u64]; omega
  have e : ((y : Int) * 4294967296) = ((y * 4294967296 : Nat) : Int) := by omega
  rw [e, (bits_nat .u64 64 (by decide) hw x (y * 4294967296) (by omega) (by omega)).2, Nat.or_comm]
  have h2 := Nat.two_pow_add_eq_or_of_lt (i := 32) (b := x) (by omega) y
  rw [show (2 : Nat) ^ 32 = 4294967296 from rfl] at h2
  rw [Nat.mul_comm y, ← h2]
  omega
set_option maxHeartbeats 1000000 in
theorem word_any (a b : Int) (w : World) (a0 : 0 ≤ a) (a1 : a < 4294967296) (b0 : 0 ≤ b) (b1 : b < 4294967296) :
    Calls Try.prog 26 #[.int .u32 a, .int .u32 b] w fun e w' => e = .returned (.int .u64 (a + b * 4294967296)) ∧ Below w.heap.size w w' := by
  have hW := pword_or a0 a1 b0 b1
  go_enter Try.func26, Try.ntmps26
  go_wp2
  go_ret
  exact ⟨rfl, bl_refl _⟩
/-- The word of an index, with the tag behind that of x. -/
def nextW (x i : Int) : Int := i + (x / 4294967296 + 1) % 4294967296 * 4294967296
set_option maxHeartbeats 1000000 in
theorem pnext_any (x i : Int) (w : World) (h0 : 0 ≤ x) (h1 : x < 18446744073709551616) (i0 : 0 ≤ i) (i1 : i < 4294967296) :
    Calls Try.prog 62 #[.int .u64 x, .int .u32 i] w fun e w' => e = .returned (.int .u64 (nextW x i)) ∧ Below w.heap.size w w' := by
  have b0 : 0 ≤ (x / 4294967296 + 1) % 4294967296 := by omega
  have b1 : (x / 4294967296 + 1) % 4294967296 < 4294967296 := by omega
  have hW := Lib.hid (fun w => word_any i ((x / 4294967296 + 1) % 4294967296) w i0 i1 b0 b1)
  have hT := Lib.hid (fun w => tag_any x w h0 h1)
  go_enter Try.func62, Try.ntmps62
  go_wp2_with (first | (go_at_call 15; refine (hT.out _).mono ?_; rintro e w1 ⟨rfl, hb⟩; (have HB1 := Lib.hid hb); clear hb) | (go_at_call 26; refine (hW.out _).mono ?_; rintro e w2 ⟨rfl, hb⟩; (have HB2 := Lib.hid hb); clear hb))
  go_ret
  exact ⟨rfl, HB1.out.trans (HB2.out.mono HB1.out.size)⟩
set_option maxHeartbeats 1000000 in
theorem lnext_any (n s h t i : Int) (w : World) (i0 : 0 ≤ i) (i1 : i < 4294967296) :
    Calls Try.prog 32 #[.agg #[.int .i64 n, .int .i64 s, .int .i64 h, .int .u32 t], .int .u32 i] w fun e w' => e = .returned (.int .i64 (atI n s h 0 (2 * (i - 1)))) ∧ Below w.heap.size w w' := by
  have hA := Lib.hid (fun w => at_any n s h t 0 (2 * (i - 1)) w (by decide))
  go_enter Try.func32, Try.ntmps32
  go_wp2_with (go_at_call 49; refine (hA.out _).mono ?_; rintro e w1 ⟨rfl, hb⟩; (have HB1 := Lib.hid hb); clear hb)
  go_ret
  exact ⟨rfl, (bl_alloc (bl_refl w) _).trans (HB1.out.mono (by simp))⟩
end Go.Proofs.Ytdhkppijeocaoaa
