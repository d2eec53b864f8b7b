/-
  Package slot: the parts of a slot's word, and the words of it.
-/
import Derived.Test.YtgfeagggkplegaaGreatProg
import Derived.Test.YtgfeagggkplegaaGreatBase
import Derived.Laws.BitsLemmas
namespace Go.Proofs.YtgfeagggkplegaaGreat
open Go.RowKit
set_option linter.unusedVariables false
set_option linter.unusedSimpArgs false

/-- State, index, stamp of a slot's word; the word of such. -/
def sSt (w : Int) : Int := w % 4
def sIx (w : Int) : Int := w / 4 % 1073741824
def sTp (w : Int) : Int := w / 4294967296
def sW (s i t : Int) : Int := s + 4 * (i % 1073741824) + 4294967296 * t
theorem u64_wrap {n : Int} (h0 : 0 ≤ n) (h1 : n < 2 ^ 64) : IntKind.u64.wrap n = n := by rw [IntKind.wrap_u64]; omega
theorem and3 {w : Int} (h0 : 0 ≤ w) (h1 : w < 18446744073709551616) : Go.bits .and .u64 w 3 = w % 4 := bits_mask .u64 64 (by decide) (fun n => u64_wrap) 2 (by decide) w h0 h1
theorem and30 {w : Int} (h0 : 0 ≤ w) (h1 : w < 18446744073709551616) : Go.bits .and .u64 w 1073741823 = w % 1073741824 := bits_mask .u64 64 (by decide) (fun n => u64_wrap) 30 (by decide) w h0 h1
theorem or_add {a b : Int} (i : Nat) (hi : i ≤ 64) (a0 : 0 ≤ a) (a1 : a < 2 ^ i) (b0 : 0 ≤ b) (b1 : b * 2 ^ i < 2 ^ 64) : Go.bits .or .u64 a (b * 2 ^ i) = a + b * 2 ^ i := by
  obtain ⟨x, rfl⟩ := Int.eq_ofNat_of_zero_le a0
  obtain ⟨y, rfl⟩ := Int.eq_ofNat_of_zero_le b0
  have e : ((y : Int) * 2 ^ i) = ((y * 2 ^ i : Nat) : Int) := by push_cast; rfl
  have hx : x < 2 ^ i := by exact_mod_cast a1
  have hx64 : x < 2 ^ 64 := Nat.lt_of_lt_of_le hx (Nat.pow_le_pow_right (by decide) hi)
  have hy : y * 2 ^ i < 2 ^ 64 := by rw [e] at b1; exact_mod_cast b1
  rw [e, (bits_nat .u64 64 (by decide) (fun n => u64_wrap) x (y * 2 ^ i) hx64 hy).2, Nat.or_comm]
  have h2 := Nat.two_pow_add_eq_or_of_lt hx y
  rw [Nat.mul_comm y, ← h2]
  push_cast
  omega
theorem sW_rng {s i t : Int} (s0 : 0 ≤ s) (s1 : s < 4) (t0 : 0 ≤ t) (t1 : t < 4294967296) : 0 ≤ sW s i t ∧ sW s i t < 18446744073709551616 := by unfold sW; omega
theorem sSt_W {s i t : Int} (s0 : 0 ≤ s) (s1 : s < 4) : sSt (sW s i t) = s := by unfold sSt sW; omega
theorem sIx_W {s i t : Int} (s0 : 0 ≤ s) (s1 : s < 4) : sIx (sW s i t) = i % 1073741824 := by unfold sIx sW; omega
theorem sTp_W {s i t : Int} (s0 : 0 ≤ s) (s1 : s < 4) : sTp (sW s i t) = t := by unfold sTp sW; omega
theorem sIx_rng (w : Int) : 0 ≤ sIx w ∧ sIx w < 1073741824 := by unfold sIx; omega
theorem sTp_rng {w : Int} (h0 : 0 ≤ w) (h1 : w < 18446744073709551616) : 0 ≤ sTp w ∧ sTp w < 4294967296 := by unfold sTp; omega
theorem sSt_rng (w : Int) : 0 ≤ sSt w ∧ sSt w < 4 := by unfold sSt; omega
set_option maxHeartbeats 1000000 in
theorem slot_state (x y : Int) (w : World) (hy : sSt x = y) (h0 : 0 ≤ x) (h1 : x < 18446744073709551616) :
    Calls Tryz.prog 185 #[.int .u64 x] w fun e w' => e = .returned (.int .i64 y) ∧ Below w.heap.size w w' := by
  subst hy
  have hW := and3 h0 h1
  go_enter Tryz.func185, Tryz.ntmps185
  go_wp2
  go_ret
  exact ⟨rfl, bl_refl _⟩
set_option maxHeartbeats 1000000 in
theorem slot_index (x y : Int) (w : World) (hy : sIx x = y) (h0 : 0 ≤ x) (h1 : x < 18446744073709551616) :
    Calls Tryz.prog 60 #[.int .u64 x] w fun e w' => e = .returned (.int .u32 y) ∧ Below w.heap.size w w' := by
  subst hy
  have hW := and30 (w := x / 4) (by omega) (by omega)
  have hM : x / 4 % 1073741824 % 4294967296 = x / 4 % 1073741824 := by omega
  go_enter Tryz.func60, Tryz.ntmps60
  go_wp2
  go_ret
  exact ⟨rfl, bl_refl _⟩
set_option maxHeartbeats 1000000 in
theorem slot_stamp (x y : Int) (w : World) (hy : sTp x = y) (h0 : 0 ≤ x) (h1 : x < 18446744073709551616) :
    Calls Tryz.prog 193 #[.int .u64 x] w fun e w' => e = .returned (.int .u32 y) ∧ Below w.heap.size w w' := by
  subst hy
  go_enter Tryz.func193, Tryz.ntmps193
  go_wp2
  go_ret
  exact ⟨rfl, bl_refl _⟩
theorem slot_state_q (x : Int) (w : World) (h0 : 0 ≤ x) (h1 : x < 18446744073709551616) :
    Calls Tryz.prog 185 #[.int .u64 x] w fun e w' => e = .returned (.int .i64 (sSt x)) ∧ w' = w := by
  have hW := and3 h0 h1
  go_enter Tryz.func185, Tryz.ntmps185
  go_wp2
  go_ret
  exact ⟨rfl, rfl⟩
theorem slot_stamp_q (x : Int) (w : World) (h0 : 0 ≤ x) (h1 : x < 18446744073709551616) :
    Calls Tryz.prog 193 #[.int .u64 x] w fun e w' => e = .returned (.int .u32 (sTp x)) ∧ w' = w := by
  go_enter Tryz.func193, Tryz.ntmps193
  go_wp2
  go_ret
  exact ⟨rfl, rfl⟩
set_option maxHeartbeats 1000000 in
theorem slot_word (s i t v : Int) (w : World) (hv : sW s i t = v) (s0 : 0 ≤ s) (s1 : s < 4) (i0 : 0 ≤ i) (i1 : i < 4294967296) (t0 : 0 ≤ t) (t1 : t < 4294967296) :
    Calls Tryz.prog 192 #[.int .i64 s, .int .u32 i, .int .u32 t] w fun e w' => e = .returned (.int .u64 v) ∧ Below w.heap.size w w' := by
  have h1 : Go.bits .and .u64 s 3 = s := by rw [and3 s0 (by omega)]; omega
  have h2 : Go.bits .and .u64 i 1073741823 = i % 1073741824 := and30 i0 (by omega)
  have h3 : IntKind.u64.wrap (i % 1073741824 * 4) = i % 1073741824 * 4 := u64_wrap (by omega) (by omega)
  have h4 : Go.bits .or .u64 s (i % 1073741824 * 4) = s + i % 1073741824 * 4 := or_add (b := i % 1073741824) 2 (by decide) s0 s1 (by omega) (by omega)
  have h5 : Go.bits .or .u64 (s + i % 1073741824 * 4) (t * 4294967296) = v := by
    have := or_add (a := s + i % 1073741824 * 4) (b := t) 32 (by decide) (by omega) (by omega) t0 (by omega)
    rw [show (2 : Int) ^ 32 = 4294967296 from rfl] at this
    rw [this, ← hv]; unfold sW; omega
  clear hv
  go_enter Tryz.func192, Tryz.ntmps192
  go_wp2
  go_ret
  exact ⟨rfl, bl_refl _⟩
theorem slot_word_q (s i t v : Int) (w : World) (hv : sW s i t = v) (s0 : 0 ≤ s) (s1 : s < 4) (i0 : 0 ≤ i) (i1 : i < 4294967296) (t0 : 0 ≤ t) (t1 : t < 4294967296) :
    Calls Tryz.prog 192 #[.int .i64 s, .int .u32 i, .int .u32 t] w fun e w' => e = .returned (.int .u64 v) ∧ w = w' := by
  have h1 : Go.bits .and .u64 s 3 = s := by rw [and3 s0 (by omega)]; omega
  have h2 : Go.bits .and .u64 i 1073741823 = i % 1073741824 := and30 i0 (by omega)
  have h3 : IntKind.u64.wrap (i % 1073741824 * 4) = i % 1073741824 * 4 := u64_wrap (by omega) (by omega)
  have h4 : Go.bits .or .u64 s (i % 1073741824 * 4) = s + i % 1073741824 * 4 := or_add (b := i % 1073741824) 2 (by decide) s0 s1 (by omega) (by omega)
  have h5 : Go.bits .or .u64 (s + i % 1073741824 * 4) (t * 4294967296) = v := by
    have := or_add (a := s + i % 1073741824 * 4) (b := t) 32 (by decide) (by omega) (by omega) t0 (by omega)
    rw [show (2 : Int) ^ 32 = 4294967296 from rfl] at this
    rw [this, ← hv]; unfold sW; omega
  clear hv
  go_enter Tryz.func192, Tryz.ntmps192
  go_wp2
  go_ret
  exact ⟨rfl, rfl⟩
/-- The state in which one of a kind waits; whether one meets another one; the words of an offer, of a claim, of the end. -/
def sWaits (push : Bool) : Int := if push then 1 else 2
def sMeets (w : Int) (push : Bool) : Bool := sSt w == sWaits (!push)
def sClaim (w : Int) (push : Bool) (i : Int) : Int := sW 3 (if push then i else sIx w) (sTp w)
def sOffer (w : Int) (push : Bool) (i : Int) : Int := sW (sWaits push) (if push then i else 0) (sTp w)
def sClear (w : Int) : Int := sW 0 0 ((sTp w + 1) % 4294967296)
theorem sClaim_rng {x i : Int} {push : Bool} (h0 : 0 ≤ x) (h1 : x < 18446744073709551616) : 0 ≤ sClaim x push i ∧ sClaim x push i < 18446744073709551616 := by
  obtain ⟨t0, t1⟩ := sTp_rng h0 h1
  exact sW_rng (by decide) (by decide) t0 t1
theorem sOffer_rng {x i : Int} {push : Bool} (h0 : 0 ≤ x) (h1 : x < 18446744073709551616) : 0 ≤ sOffer x push i ∧ sOffer x push i < 18446744073709551616 := by
  obtain ⟨t0, t1⟩ := sTp_rng h0 h1
  unfold sOffer
  cases push
  · exact sW_rng (by decide) (by decide) t0 t1
  · exact sW_rng (by decide) (by decide) t0 t1
theorem sClear_rng (x : Int) : 0 ≤ sClear x ∧ sClear x < 18446744073709551616 := by
  exact sW_rng (by decide) (by decide) (by omega) (by omega)
theorem sWaits_rng (push : Bool) : 0 ≤ sWaits push ∧ sWaits push < 4 := by cases push <;> decide
theorem slot_waits (push : Bool) (y : Int) (w : World) (hy : sWaits push = y) :
    Calls Tryz.prog 187 #[.bool push] w fun e w' => e = .returned (.int .i64 y) ∧ Below w.heap.size w w' := by
  subst hy
  cases push
  all_goals
    go_enter Tryz.func187, Tryz.ntmps187
    go_wp2
    go_ret
    exact ⟨rfl, bl_refl _⟩
set_option maxHeartbeats 1000000 in
theorem slot_meets (x : Int) (push b : Bool) (w : World) (hb : sMeets x push = b) (h0 : 0 ≤ x) (h1 : x < 18446744073709551616) :
    Calls Tryz.prog 183 #[.int .u64 x, .bool push] w fun e w' => e = .returned (.bool b) ∧ Below w.heap.size w w' := by
  subst hb
  obtain ⟨s, hs⟩ : ∃ s, sSt x = s := ⟨_, rfl⟩
  obtain ⟨y, hy⟩ : ∃ y, sWaits (!push) = y := ⟨_, rfl⟩
  have HS := Lib.hid hs
  have HY := Lib.hid hy
  have e : sMeets x push = (s == y) := by unfold sMeets; rw [hs, hy]
  rw [e]
  clear e hs hy
  go_enter Tryz.func183, Tryz.ntmps183
  go_wp2_with (first | (go_at_call 185; refine (slot_state x s _ HS.out h0 h1).mono ?_; rintro e w1 ⟨rfl, hb⟩; (have HB1 := Lib.hid hb); clear hb) | (go_at_call 187; refine (slot_waits _ y _ HY.out).mono ?_; rintro e w2 ⟨rfl, hb⟩; (have HB2 := Lib.hid hb); clear hb))
  go_ret
  exact ⟨rfl, bl_then HB1.out HB2.out⟩
set_option maxHeartbeats 1000000 in
theorem slot_claim (x i v : Int) (push : Bool) (w : World) (hv : sClaim x push i = v) (hm : sMeets x push = true) (h0 : 0 ≤ x) (h1 : x < 18446744073709551616) (i0 : 0 ≤ i) (i1 : i < 4294967296) :
    Calls Tryz.prog 188 #[.int .u64 x, .bool push, .int .u32 i] w fun e w' => e = .returned (.tuple #[.int .u64 v, .bool true]) ∧ Below w.heap.size w w' := by
  subst hv
  obtain ⟨t, ht⟩ : ∃ t, sTp x = t := ⟨_, rfl⟩
  obtain ⟨k, hk⟩ : ∃ k, sIx x = k := ⟨_, rfl⟩
  have ht' := sTp_rng h0 h1
  have hk' := sIx_rng x
  rw [ht] at ht'
  rw [hk] at hk'
  obtain ⟨t0, t1⟩ := ht'
  obtain ⟨k0, k1⟩ := hk'
  have k1' : k < 4294967296 := by omega
  have HM := Lib.hid hm
  have HT := Lib.hid ht
  have HK := Lib.hid hk
  cases push
  · have e : sClaim x false i = sW 3 k t := by unfold sClaim; rw [ht, hk]; rfl
    rw [e]
    clear e hm ht hk
    go_enter Tryz.func188, Tryz.ntmps188
    go_wp2_with (first | (go_at_call 183; refine (slot_meets x _ true _ HM.out h0 h1).mono ?_; rintro e w1 ⟨rfl, hb⟩; (have HB1 := Lib.hid hb); clear hb) | (go_at_call 60; refine (slot_index x k _ HK.out h0 h1).mono ?_; rintro e w2 ⟨rfl, hb⟩; (have HB2 := Lib.hid hb); clear hb) | (go_at_call 193; refine (slot_stamp x t _ HT.out h0 h1).mono ?_; rintro e w3 ⟨rfl, hb⟩; (have HB3 := Lib.hid hb); clear hb) | (go_at_call 192; refine (slot_word 3 k t _ _ rfl (by decide) (by decide) k0 k1' t0 t1).mono ?_; rintro e w4 ⟨rfl, hb⟩; (have HB4 := Lib.hid hb); clear hb))
    go_ret2
    exact ⟨rfl, bl_then (bl_then (bl_then HB1.out HB2.out) HB3.out) HB4.out⟩
  · have e : sClaim x true i = sW 3 i t := by unfold sClaim; rw [ht]; rfl
    rw [e]
    clear e hm ht hk
    go_enter Tryz.func188, Tryz.ntmps188
    go_wp2_with (first | (go_at_call 183; refine (slot_meets x _ true _ HM.out h0 h1).mono ?_; rintro e w1 ⟨rfl, hb⟩; (have HB1 := Lib.hid hb); clear hb) | (go_at_call 193; refine (slot_stamp x t _ HT.out h0 h1).mono ?_; rintro e w3 ⟨rfl, hb⟩; (have HB3 := Lib.hid hb); clear hb) | (go_at_call 192; refine (slot_word 3 i t _ _ rfl (by decide) (by decide) i0 i1 t0 t1).mono ?_; rintro e w4 ⟨rfl, hb⟩; (have HB4 := Lib.hid hb); clear hb))
    go_ret2
    exact ⟨rfl, bl_then (bl_then HB1.out HB3.out) HB4.out⟩
set_option maxHeartbeats 1000000 in
theorem slot_offer (x i v : Int) (push : Bool) (w : World) (hv : sOffer x push i = v) (hm : sSt x = 0) (h0 : 0 ≤ x) (h1 : x < 18446744073709551616) (i0 : 0 ≤ i) (i1 : i < 4294967296) :
    Calls Tryz.prog 190 #[.int .u64 x, .bool push, .int .u32 i] w fun e w' => e = .returned (.tuple #[.int .u64 v, .bool true]) ∧ Below w.heap.size w w' := by
  subst hv
  obtain ⟨t, ht⟩ : ∃ t, sTp x = t := ⟨_, rfl⟩
  have ht' := sTp_rng h0 h1
  rw [ht] at ht'
  obtain ⟨t0, t1⟩ := ht'
  obtain ⟨s, hs⟩ : ∃ s, sWaits push = s := ⟨_, rfl⟩
  obtain ⟨s0, s1⟩ := sWaits_rng push
  rw [hs] at s0 s1
  have HM := Lib.hid hm
  have HT := Lib.hid ht
  have HS := Lib.hid hs
  have e : sOffer x push i = sW s (if push then i else 0) t := by unfold sOffer; rw [ht, hs]
  rw [e]
  clear e hm ht hs
  cases push
  · rw [show (if false = true then i else 0) = 0 from rfl]
    go_enter Tryz.func190, Tryz.ntmps190
    go_wp2_with (first | (go_at_call 185; refine (slot_state x 0 _ HM.out h0 h1).mono ?_; rintro e w1 ⟨rfl, hb⟩; (have HB1 := Lib.hid hb); clear hb) | (go_at_call 187; refine (slot_waits _ s _ HS.out).mono ?_; rintro e w2 ⟨rfl, hb⟩; (have HB2 := Lib.hid hb); clear hb) | (go_at_call 193; refine (slot_stamp x t _ HT.out h0 h1).mono ?_; rintro e w3 ⟨rfl, hb⟩; (have HB3 := Lib.hid hb); clear hb) | (go_at_call 192; refine (slot_word s 0 t _ _ rfl s0 s1 (by decide) (by decide) t0 t1).mono ?_; rintro e w4 ⟨rfl, hb⟩; (have HB4 := Lib.hid hb); clear hb))
    go_ret2
    exact ⟨rfl, bl_then (bl_then (bl_then HB1.out HB2.out) HB3.out) HB4.out⟩
  · rw [show (if true = true then i else 0) = i from rfl]
    go_enter Tryz.func190, Tryz.ntmps190
    go_wp2_with (first | (go_at_call 185; refine (slot_state x 0 _ HM.out h0 h1).mono ?_; rintro e w1 ⟨rfl, hb⟩; (have HB1 := Lib.hid hb); clear hb) | (go_at_call 187; refine (slot_waits _ s _ HS.out).mono ?_; rintro e w2 ⟨rfl, hb⟩; (have HB2 := Lib.hid hb); clear hb) | (go_at_call 193; refine (slot_stamp x t _ HT.out h0 h1).mono ?_; rintro e w3 ⟨rfl, hb⟩; (have HB3 := Lib.hid hb); clear hb) | (go_at_call 192; refine (slot_word s i t _ _ rfl s0 s1 i0 i1 t0 t1).mono ?_; rintro e w4 ⟨rfl, hb⟩; (have HB4 := Lib.hid hb); clear hb))
    go_ret2
    exact ⟨rfl, bl_then (bl_then (bl_then HB1.out HB2.out) HB3.out) HB4.out⟩
set_option maxHeartbeats 1000000 in
theorem slot_clear (x v : Int) (w : World) (hv : sClear x = v) (h0 : 0 ≤ x) (h1 : x < 18446744073709551616) :
    Calls Tryz.prog 198 #[.int .u64 x] w fun e w' => e = .returned (.int .u64 v) ∧ Below w.heap.size w w' := by
  subst hv
  obtain ⟨t, ht⟩ : ∃ t, sTp x = t := ⟨_, rfl⟩
  have HT := Lib.hid ht
  have e : sClear x = sW 0 0 ((t + 1) % 4294967296) := by unfold sClear; rw [ht]
  rw [e]
  clear e
  have t0 : 0 ≤ (t + 1) % 4294967296 := by omega
  have t1 : (t + 1) % 4294967296 < 4294967296 := by omega
  clear ht
  go_enter Tryz.func198, Tryz.ntmps198
  go_wp2_with (first | (go_at_call 193; refine (slot_stamp x t _ HT.out h0 h1).mono ?_; rintro e w3 ⟨rfl, hb⟩; (have HB3 := Lib.hid hb); clear hb) | (go_at_call 192; refine (slot_word 0 0 ((t + 1) % 4294967296) _ _ rfl (by decide) (by decide) (by decide) (by decide) t0 t1).mono ?_; rintro e w4 ⟨rfl, hb⟩; (have HB4 := Lib.hid hb); clear hb))
  go_ret
  exact ⟨rfl, bl_then HB3.out HB4.out⟩
end Go.Proofs.YtgfeagggkplegaaGreat
