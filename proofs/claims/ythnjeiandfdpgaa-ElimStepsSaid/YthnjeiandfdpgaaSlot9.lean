/-
  The document's slot words (hatstandref9).
-/
import Derived.Test.YthnjeiandfdpgaaSlot
namespace Go.Proofs.Ythnjeiandfdpgaa
open Go.RowKit
set_option linter.unusedVariables false
set_option linter.unusedSimpArgs false

set_option maxHeartbeats 1000000 in
theorem r9_state (x y : Int) (w : World) (hy : sSt x = y) (h0 : 0 ≤ x) (h1 : x < 18446744073709551616) :
    Calls Try.prog 67 #[.int .u64 x] w fun e w' => e = .returned (.int .i64 y) ∧ w' = w := by
  have e : x % 4 = y := hy
  clear hy
  go_enter Try.func67, Try.ntmps67
  go_wp2
  go_ret
  exact ⟨rfl, rfl⟩
set_option maxHeartbeats 1000000 in
theorem r9_index (x y : Int) (w : World) (hy : sIx x = y) (h0 : 0 ≤ x) (h1 : x < 18446744073709551616) :
    Calls Try.prog 83 #[.int .u64 x] w fun e w' => e = .returned (.int .u32 y) ∧ w' = w := by
  have e : x / 4 % 1073741824 = y := hy
  have y0 : 0 ≤ y := by omega
  have y1 : y % 4294967296 = y := by omega
  clear hy
  go_enter Try.func83, Try.ntmps83
  go_wp2
  go_ret
  exact ⟨rfl, rfl⟩
set_option maxHeartbeats 1000000 in
theorem r9_stamp (x y : Int) (w : World) (hy : sTp x = y) (h0 : 0 ≤ x) (h1 : x < 18446744073709551616) :
    Calls Try.prog 82 #[.int .u64 x] w fun e w' => e = .returned (.int .u32 y) ∧ w' = w := by
  have e : x / 4294967296 = y := hy
  have y1 : y % 4294967296 = y := by omega
  clear hy
  go_enter Try.func82, Try.ntmps82
  go_wp2
  go_ret
  exact ⟨rfl, rfl⟩
set_option maxHeartbeats 1000000 in
theorem r9_word (s i t v : Int) (w : World) (hv : sW s i t = v) (s0 : 0 ≤ s) (s1 : s < 4) (i0 : 0 ≤ i) (i1 : i < 4294967296) (t0 : 0 ≤ t) (t1 : t < 4294967296) :
    Calls Try.prog 81 #[.int .i64 s, .int .u32 i, .int .u32 t] w fun e w' => e = .returned (.int .u64 v) ∧ w' = w := by
  have h1 : s % 4 = s := by omega
  have h2 : 0 ≤ i % 1073741824 := by omega
  have h3 : i % 1073741824 < 1073741824 := by omega
  subst hv
  go_enter Try.func81, Try.ntmps81
  go_wp2
  go_ret
  exact ⟨rfl, rfl⟩
theorem sMeets_st9 {x : Int} {push : Bool} (h : sMeets x push = true) : sSt x = sWaits (!push) := by unfold sMeets at h; simpa using h
theorem sMeets_eq (x s : Int) (push : Bool) (hs : sSt x = s) : sMeets x push = if push then s == 2 else s == 1 := by
  unfold sMeets sWaits
  rw [hs]
  cases push <;> rfl
set_option maxHeartbeats 1000000 in
theorem r9_meets (x : Int) (push b : Bool) (w : World) (hb : sMeets x push = b) (h0 : 0 ≤ x) (h1 : x < 18446744073709551616) :
    Calls Try.prog 66 #[.int .u64 x, .bool push] w fun e w' => e = .returned (.bool b) ∧ w' = w := by
  obtain ⟨s, hs⟩ : ∃ s, sSt x = s := ⟨_, rfl⟩
  rw [sMeets_eq x s push hs] at hb
  have HS := Lib.hid hs
  clear hs
  cases push
  · obtain rfl : b = (s == 1) := by rw [← hb]; rfl
    clear hb
    by_cases h2 : s = 2
    · have e2 : (s == 2) = true := by simp [h2]
      have HE2 := Lib.hid h2
      clear h2
      go_enter Try.func66, Try.ntmps66
      go_wp2_with (go_at_call 67; refine (r9_state x s _ HS.out h0 h1).mono ?_; rintro e w1 ⟨rfl, rfl⟩)
      go_ret
      exact ⟨rfl, rfl⟩
    · have e2 : (s == 2) = false := by simpa using h2
      clear h2
      go_enter Try.func66, Try.ntmps66
      go_wp2_with (go_at_call 67; refine (r9_state x s _ HS.out h0 h1).mono ?_; rintro e w1 ⟨rfl, rfl⟩)
      go_ret
      exact ⟨rfl, rfl⟩
  · obtain rfl : b = (s == 2) := by rw [← hb]; rfl
    clear hb
    by_cases h2 : s = 2
    · subst h2
      go_enter Try.func66, Try.ntmps66
      go_wp2_with (go_at_call 67; refine (r9_state x 2 _ HS.out h0 h1).mono ?_; rintro e w1 ⟨rfl, rfl⟩)
      go_ret
      exact ⟨rfl, rfl⟩
    · have e2 : (s == 2) = false := by simpa using h2
      rw [e2]
      clear h2
      go_enter Try.func66, Try.ntmps66
      go_wp2_with (go_at_call 67; refine (r9_state x s _ HS.out h0 h1).mono ?_; rintro e w1 ⟨rfl, rfl⟩)
      go_ret
      exact ⟨rfl, rfl⟩
set_option maxHeartbeats 1000000 in
theorem r9_clear (x v : Int) (w : World) (hv : sClear x = v) (h0 : 0 ≤ x) (h1 : x < 18446744073709551616) :
    Calls Try.prog 73 #[.int .u64 x] w fun e w' => e = .returned (.int .u64 v) ∧ w' = w := by
  subst hv
  obtain ⟨t, ht⟩ : ∃ t, sTp x = t := ⟨_, rfl⟩
  have htr := sTp_rng h0 h1
  rw [ht] at htr
  obtain ⟨q0, q1⟩ := htr
  have HT := Lib.hid ht
  have e : sClear x = sW 0 0 ((t + 1) % 4294967296) := by unfold sClear; rw [ht]
  rw [e]
  clear e
  have t0 : 0 ≤ (t + 1) % 4294967296 := by omega
  have t1 : (t + 1) % 4294967296 < 4294967296 := by omega
  have t2 : (t + 1) % 4294967296 % 4294967296 = (t + 1) % 4294967296 := by omega
  clear ht
  go_enter Try.func73, Try.ntmps73
  go_wp2_with (first | (go_at_call 82; refine (r9_stamp x t _ HT.out h0 h1).mono ?_; rintro e w3 ⟨rfl, rfl⟩) | (go_at_call 81; refine (r9_word 0 0 ((t + 1) % 4294967296) _ _ rfl (by decide) (by decide) (by decide) (by decide) t0 t1).mono ?_; rintro e w4 ⟨rfl, rfl⟩))
  go_ret
  exact ⟨rfl, rfl⟩
set_option maxHeartbeats 1000000 in
theorem r9_claim (x i v : Int) (push : Bool) (w : World) (hv : sClaim x push i = v) (hm : sMeets x push = true) (h0 : 0 ≤ x) (h1 : x < 18446744073709551616) (i0 : 0 ≤ i) (i1 : i < 4294967296) :
    Calls Try.prog 68 #[.int .u64 x, .bool push, .int .u32 i] w fun e w' => e = .returned (.tuple #[.int .u64 v, .bool true]) ∧ w' = w := by
  subst hv
  have hs := sMeets_st9 hm
  obtain ⟨t, ht⟩ : ∃ t, sTp x = t := ⟨_, rfl⟩
  obtain ⟨k, hk⟩ : ∃ k, sIx x = k := ⟨_, rfl⟩
  have ht' := sTp_rng h0 h1
  have hk' := sIx_rng x
  rw [ht] at ht'
  rw [hk] at hk'
  obtain ⟨t0, t1⟩ := ht'
  obtain ⟨k0, k1⟩ := hk'
  have k1' : k < 4294967296 := by omega
  have HT := Lib.hid ht
  have HK := Lib.hid hk
  have HS := Lib.hid hs
  cases push
  · have e : sClaim x false i = sW 3 k t := by unfold sClaim; rw [ht, hk]; rfl
    rw [e]
    clear e hm ht hk hs
    go_enter Try.func68, Try.ntmps68
    go_wp2_with (first | (go_at_call 67; refine (r9_state x 1 _ HS.out h0 h1).mono ?_; rintro e w1 ⟨rfl, rfl⟩) | (go_at_call 83; refine (r9_index x k _ HK.out h0 h1).mono ?_; rintro e w2 ⟨rfl, rfl⟩) | (go_at_call 82; refine (r9_stamp x t _ HT.out h0 h1).mono ?_; rintro e w3 ⟨rfl, rfl⟩) | (go_at_call 81; refine (r9_word 3 k t _ _ rfl (by decide) (by decide) k0 k1' t0 t1).mono ?_; rintro e w4 ⟨rfl, rfl⟩))
    go_ret2
    exact ⟨rfl, rfl⟩
  · have e : sClaim x true i = sW 3 i t := by unfold sClaim; rw [ht]; rfl
    rw [e]
    clear e hm ht hk hs
    go_enter Try.func68, Try.ntmps68
    go_wp2_with (first | (go_at_call 67; refine (r9_state x 2 _ HS.out h0 h1).mono ?_; rintro e w1 ⟨rfl, rfl⟩) | (go_at_call 82; refine (r9_stamp x t _ HT.out h0 h1).mono ?_; rintro e w3 ⟨rfl, rfl⟩) | (go_at_call 81; refine (r9_word 3 i t _ _ rfl (by decide) (by decide) i0 i1 t0 t1).mono ?_; rintro e w4 ⟨rfl, rfl⟩))
    go_ret2
    exact ⟨rfl, rfl⟩
set_option maxHeartbeats 1000000 in
theorem r9_offer (x i v : Int) (push : Bool) (w : World) (hv : sOffer x push i = v) (hm : sSt x = 0) (h0 : 0 ≤ x) (h1 : x < 18446744073709551616) (i0 : 0 ≤ i) (i1 : i < 4294967296) :
    Calls Try.prog 71 #[.int .u64 x, .bool push, .int .u32 i] w fun e w' => e = .returned (.tuple #[.int .u64 v, .bool true]) ∧ w' = w := by
  subst hv
  obtain ⟨t, ht⟩ : ∃ t, sTp x = t := ⟨_, rfl⟩
  have ht' := sTp_rng h0 h1
  rw [ht] at ht'
  obtain ⟨t0, t1⟩ := ht'
  have HM := Lib.hid hm
  have HT := Lib.hid ht
  cases push
  · have e : sOffer x false i = sW 2 0 t := by unfold sOffer; rw [ht]; rfl
    rw [e]
    clear e hm ht
    go_enter Try.func71, Try.ntmps71
    go_wp2_with (first | (go_at_call 67; refine (r9_state x 0 _ HM.out h0 h1).mono ?_; rintro e w1 ⟨rfl, rfl⟩) | (go_at_call 82; refine (r9_stamp x t _ HT.out h0 h1).mono ?_; rintro e w3 ⟨rfl, rfl⟩) | (go_at_call 81; refine (r9_word 2 0 t _ _ rfl (by decide) (by decide) (by decide) (by decide) t0 t1).mono ?_; rintro e w4 ⟨rfl, rfl⟩))
    go_ret2
    exact ⟨rfl, rfl⟩
  · have e : sOffer x true i = sW 1 i t := by unfold sOffer; rw [ht]; rfl
    rw [e]
    clear e hm ht
    go_enter Try.func71, Try.ntmps71
    go_wp2_with (first | (go_at_call 67; refine (r9_state x 0 _ HM.out h0 h1).mono ?_; rintro e w1 ⟨rfl, rfl⟩) | (go_at_call 82; refine (r9_stamp x t _ HT.out h0 h1).mono ?_; rintro e w3 ⟨rfl, rfl⟩) | (go_at_call 81; refine (r9_word 1 i t _ _ rfl (by decide) (by decide) i0 i1 t0 t1).mono ?_; rintro e w4 ⟨rfl, rfl⟩))
    go_ret2
    exact ⟨rfl, rfl⟩
end Go.Proofs.Ythnjeiandfdpgaa
