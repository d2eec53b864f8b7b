/-
  The law ExchangeBusy: the walk.
-/
import Derived.Test.YtpkchlmoohmfeaaLaw10
namespace Go.Proofs.Ytpkchlmoohmfeaa
open Go.RowKit
set_option linter.unusedVariables false
set_option linter.unusedSimpArgs false

theorem busy_1 {push : Bool} {v : Int} (hm : sMeets v push = false) (hs : sSt v ≠ 0) : (newVM 0 push 7 9 9).step [v] 0 = ⟨3, ⟨0, push, 7, 9, 9, v, .first, 3, false⟩, [v], [ldN 0 v]⟩ := by
  simp [VM.step, VM.go, newVM, rdW, hm, hs]; decide
theorem busy_2 {push : Bool} {v : Int} (hs : sSt v = 0) : (newVM 0 push 7 9 9).step [v] 0 = ⟨0, ⟨0, push, 7, 9, 9, v, .offer, 0, false⟩, [v], [ldN 0 v]⟩ := by
  have hm : sMeets v push = false := by unfold sMeets; rw [hs]; cases push <;> rfl
  simp [VM.step, VM.go, newVM, rdW, hm, hs]; decide
theorem busy_3 {push : Bool} {b v : Int} (hne : v ≠ b) : VM.step ⟨0, push, 7, 9, 9, b, .offer, 0, false⟩ [v] 0 = ⟨3, ⟨0, push, 7, 9, 9, b, .offer, 3, false⟩, [v], [noN 0 v]⟩ := by
  simp [VM.step, VM.go, rdW, hne]
theorem busy_ok {push : Bool} {v st : Int} (k : Nat) (v0 : 0 ≤ v) (v1 : v < 18446744073709551616) : VM.ok ⟨0, push, 7, 9, 9, v, .first, st, false⟩ 1 k :=
  mkok (by decide) (by decide) (by decide) (by decide) v0 v1 (by omega) (by decide) (fun _ h => (h rfl).elim) (fun h => by cases h) trivial
theorem busy_ok2 {push : Bool} {v st : Int} (k : Nat) (hs : sSt v = 0) (v0 : 0 ≤ v) (v1 : v < 18446744073709551616) : VM.ok ⟨0, push, 7, 9, 9, v, .offer, st, false⟩ 1 k :=
  mkok (by decide) (by decide) (by decide) (by decide) v0 v1 (by omega) (by decide) (fun _ _ => ⟨by decide, by decide⟩) (fun h => by cases h) hs
theorem sMeets_W {s i t : Int} {push b : Bool} (s0 : 0 ≤ s) (s1 : s < 4) (h : (s == sWaits (!push)) = b) : sMeets (sW s i t) push = b := by
  unfold sMeets; rw [sSt_W s0 s1]; exact h

set_option maxHeartbeats 8000000 in
theorem busy_now_one_false (i stamp : Int) (i0 : 0 ≤ i) (i1 : i < 4294967296) (t0 : 0 ≤ stamp) (t1 : stamp < 4294967296) (w : World) : Calls Try.prog 8 #[.bool false, .int .u32 i, .int .u32 stamp, .bool false, .bool false] w fun e w' => e = .returned (.bool true) ∧ Below w.heap.size w w' := by
  obtain ⟨v, hv⟩ : ∃ v, sW 2 i stamp = v := ⟨_, rfl⟩
  obtain ⟨v0, v1⟩ := sW_rng (s := 2) (i := i) (by decide) (by decide) t0 t1
  rw [hv] at v0 v1
  have hm : sMeets v false = false := hv ▸ sMeets_W (by decide) (by decide) rfl
  have hs : sSt v ≠ 0 := by rw [← hv, sSt_W (by decide) (by decide)]; decide
  have HV := Lib.hid hv
  have HS1 := Lib.hid (busy_1 hm hs)
  have HRg := Lib.hid (rng1 v0 v1)
  have H := Lib.hid (St.nil w)
  clear hv hm hs
  go_enter Try.func8, Try.ntmps8
  go_wp2_with (first | ((have _h := H8); go_at_call 16; refine (visit_met _ 1 _ 1 1 [v] false H8.out (busy_ok 1 v0 v1) HRb.out rfl rfl).mono ?_; rintro e w9 ⟨rfl, hb⟩; (have H9 := Lib.hid (H8.out.below hb)); clear hb; clear _h) | ((have _h := H7); go_at_call 17; refine (words_pos 1 H7.out rfl (by decide)).mono ?_; rintro e w8 ⟨gb, cb, rfl, hc, hr, hcc, hb⟩; (have H8 := Lib.hid (H7.out.below hb)); (have kb : w8.cell? ⟨gb, 0, none⟩ = some (.int .u64 v) := hc 0 (by decide)); (have HRb := Lib.hid hr); clear hc hr hcc hb; clear _h) | ((have _h := H6); go_at_call 17; refine (words_pos 1 H6.out rfl (by decide)).mono ?_; rintro e w7 ⟨ga, ca, rfl, hc, hr, hcc, hb⟩; (have H7 := Lib.hid (H6.out.below hb)); (have ka : w7.cell? ⟨ga, 0, none⟩ = some (.int .u64 v) := hc 0 (by decide)); (have HRa := Lib.hid hr); clear hc hr hcc hb; clear _h) | ((have _h := H5); go_at_call 19; refine (count_st H5.out 1 rfl).mono ?_; rintro e w6 ⟨rfl, rfl⟩; (have H6 := Lib.hid (H5.out)); clear _h) | ((have _h := H4); go_at_call 15; refine (vstep 0 HS1.out rfl rfl H4.out (newVM_ok 1 0 (by decide) (by decide) (by decide) (by decide) (by decide)) (by simp)).mono ?_; rintro e w5 ⟨rfl, h⟩; (have H5 := Lib.hid (h)); clear h; clear _h) | ((have _h := H3); go_at_call 13; refine (visit_new 0 false 7 9 9 H3.out).mono ?_; rintro e w4 ⟨p, rfl, h⟩; (have H4 := Lib.hid (h)); clear h; clear _h) | ((have _h := H2); go_at_call 11; refine (new_st (H2.out.below (bl_alloc (bl_refl _) _)) (some ⟨_, 0, none⟩) _ 1 [v] (lit1 (heap_new rfl)) (by decide) HRg.out rfl).mono ?_; rintro e w3 ⟨q, rfl, h⟩; (have H3 := Lib.hid (h)); clear h; clear _h) | ((have _h := H1); go_at_call 12; refine (slot_word 2 i stamp v _ HV.out (by decide) (by decide) i0 i1 t0 t1).mono ?_; rintro e w2 ⟨rfl, hb⟩; (have H2 := Lib.hid (H1.out.below hb)); clear hb; clear _h) | ((have _h := H); go_at_call 10; refine (shown10 _).mono ?_; rintro e w1 ⟨rfl, hb⟩; (have H1 := Lib.hid (H.out.below hb)); clear hb; clear _h))
  go_ret
  exact ⟨rfl, H9.out.bel⟩
set_option maxHeartbeats 8000000 in
theorem busy_now_one_true (i stamp : Int) (i0 : 0 ≤ i) (i1 : i < 4294967296) (t0 : 0 ≤ stamp) (t1 : stamp < 4294967296) (w : World) : Calls Try.prog 8 #[.bool true, .int .u32 i, .int .u32 stamp, .bool false, .bool false] w fun e w' => e = .returned (.bool true) ∧ Below w.heap.size w w' := by
  obtain ⟨v, hv⟩ : ∃ v, sW 1 i stamp = v := ⟨_, rfl⟩
  obtain ⟨v0, v1⟩ := sW_rng (s := 1) (i := i) (by decide) (by decide) t0 t1
  rw [hv] at v0 v1
  have hm : sMeets v true = false := hv ▸ sMeets_W (by decide) (by decide) rfl
  have hs : sSt v ≠ 0 := by rw [← hv, sSt_W (by decide) (by decide)]; decide
  have HV := Lib.hid hv
  have HS1 := Lib.hid (busy_1 hm hs)
  have HRg := Lib.hid (rng1 v0 v1)
  have H := Lib.hid (St.nil w)
  clear hv hm hs
  go_enter Try.func8, Try.ntmps8
  go_wp2_with (first | ((have _h := H8); go_at_call 16; refine (visit_met _ 1 _ 1 1 [v] false H8.out (busy_ok 1 v0 v1) HRb.out rfl rfl).mono ?_; rintro e w9 ⟨rfl, hb⟩; (have H9 := Lib.hid (H8.out.below hb)); clear hb; clear _h) | ((have _h := H7); go_at_call 17; refine (words_pos 1 H7.out rfl (by decide)).mono ?_; rintro e w8 ⟨gb, cb, rfl, hc, hr, hcc, hb⟩; (have H8 := Lib.hid (H7.out.below hb)); (have kb : w8.cell? ⟨gb, 0, none⟩ = some (.int .u64 v) := hc 0 (by decide)); (have HRb := Lib.hid hr); clear hc hr hcc hb; clear _h) | ((have _h := H6); go_at_call 17; refine (words_pos 1 H6.out rfl (by decide)).mono ?_; rintro e w7 ⟨ga, ca, rfl, hc, hr, hcc, hb⟩; (have H7 := Lib.hid (H6.out.below hb)); (have ka : w7.cell? ⟨ga, 0, none⟩ = some (.int .u64 v) := hc 0 (by decide)); (have HRa := Lib.hid hr); clear hc hr hcc hb; clear _h) | ((have _h := H5); go_at_call 19; refine (count_st H5.out 1 rfl).mono ?_; rintro e w6 ⟨rfl, rfl⟩; (have H6 := Lib.hid (H5.out)); clear _h) | ((have _h := H4); go_at_call 15; refine (vstep 0 HS1.out rfl rfl H4.out (newVM_ok 1 0 (by decide) (by decide) (by decide) (by decide) (by decide)) (by simp)).mono ?_; rintro e w5 ⟨rfl, h⟩; (have H5 := Lib.hid (h)); clear h; clear _h) | ((have _h := H3); go_at_call 13; refine (visit_new 0 true 7 9 9 H3.out).mono ?_; rintro e w4 ⟨p, rfl, h⟩; (have H4 := Lib.hid (h)); clear h; clear _h) | ((have _h := H2); go_at_call 11; refine (new_st (H2.out.below (bl_alloc (bl_refl _) _)) (some ⟨_, 0, none⟩) _ 1 [v] (lit1 (heap_new rfl)) (by decide) HRg.out rfl).mono ?_; rintro e w3 ⟨q, rfl, h⟩; (have H3 := Lib.hid (h)); clear h; clear _h) | ((have _h := H1); go_at_call 12; refine (slot_word 1 i stamp v _ HV.out (by decide) (by decide) i0 i1 t0 t1).mono ?_; rintro e w2 ⟨rfl, hb⟩; (have H2 := Lib.hid (H1.out.below hb)); clear hb; clear _h) | ((have _h := H); go_at_call 10; refine (shown10 _).mono ?_; rintro e w1 ⟨rfl, hb⟩; (have H1 := Lib.hid (H.out.below hb)); clear hb; clear _h))
  go_ret
  exact ⟨rfl, H9.out.bel⟩
set_option maxHeartbeats 8000000 in
theorem busy_now_two_false (i stamp : Int) (i0 : 0 ≤ i) (i1 : i < 4294967296) (t0 : 0 ≤ stamp) (t1 : stamp < 4294967296) (w : World) : Calls Try.prog 8 #[.bool false, .int .u32 i, .int .u32 stamp, .bool true, .bool false] w fun e w' => e = .returned (.bool true) ∧ Below w.heap.size w w' := by
  obtain ⟨v, hv⟩ : ∃ v, sW 3 i stamp = v := ⟨_, rfl⟩
  obtain ⟨v0, v1⟩ := sW_rng (s := 3) (i := i) (by decide) (by decide) t0 t1
  rw [hv] at v0 v1
  have hm : sMeets v false = false := hv ▸ sMeets_W (by decide) (by decide) rfl
  have hs : sSt v ≠ 0 := by rw [← hv, sSt_W (by decide) (by decide)]; decide
  have HV := Lib.hid hv
  have HS1 := Lib.hid (busy_1 hm hs)
  have HRg := Lib.hid (rng1 v0 v1)
  have H := Lib.hid (St.nil w)
  clear hv hm hs
  go_enter Try.func8, Try.ntmps8
  go_wp2_with (first | ((have _h := H8); go_at_call 16; refine (visit_met _ 1 _ 1 1 [v] false H8.out (busy_ok 1 v0 v1) HRb.out rfl rfl).mono ?_; rintro e w9 ⟨rfl, hb⟩; (have H9 := Lib.hid (H8.out.below hb)); clear hb; clear _h) | ((have _h := H7); go_at_call 17; refine (words_pos 1 H7.out rfl (by decide)).mono ?_; rintro e w8 ⟨gb, cb, rfl, hc, hr, hcc, hb⟩; (have H8 := Lib.hid (H7.out.below hb)); (have kb : w8.cell? ⟨gb, 0, none⟩ = some (.int .u64 v) := hc 0 (by decide)); (have HRb := Lib.hid hr); clear hc hr hcc hb; clear _h) | ((have _h := H6); go_at_call 17; refine (words_pos 1 H6.out rfl (by decide)).mono ?_; rintro e w7 ⟨ga, ca, rfl, hc, hr, hcc, hb⟩; (have H7 := Lib.hid (H6.out.below hb)); (have ka : w7.cell? ⟨ga, 0, none⟩ = some (.int .u64 v) := hc 0 (by decide)); (have HRa := Lib.hid hr); clear hc hr hcc hb; clear _h) | ((have _h := H5); go_at_call 19; refine (count_st H5.out 1 rfl).mono ?_; rintro e w6 ⟨rfl, rfl⟩; (have H6 := Lib.hid (H5.out)); clear _h) | ((have _h := H4); go_at_call 15; refine (vstep 0 HS1.out rfl rfl H4.out (newVM_ok 1 0 (by decide) (by decide) (by decide) (by decide) (by decide)) (by simp)).mono ?_; rintro e w5 ⟨rfl, h⟩; (have H5 := Lib.hid (h)); clear h; clear _h) | ((have _h := H3); go_at_call 13; refine (visit_new 0 false 7 9 9 H3.out).mono ?_; rintro e w4 ⟨p, rfl, h⟩; (have H4 := Lib.hid (h)); clear h; clear _h) | ((have _h := H2); go_at_call 11; refine (new_st (H2.out.below (bl_alloc (bl_refl _) _)) (some ⟨_, 0, none⟩) _ 1 [v] (lit1 (heap_new rfl)) (by decide) HRg.out rfl).mono ?_; rintro e w3 ⟨q, rfl, h⟩; (have H3 := Lib.hid (h)); clear h; clear _h) | ((have _h := H1); go_at_call 12; refine (slot_word 3 i stamp v _ HV.out (by decide) (by decide) i0 i1 t0 t1).mono ?_; rintro e w2 ⟨rfl, hb⟩; (have H2 := Lib.hid (H1.out.below hb)); clear hb; clear _h) | ((have _h := H); go_at_call 10; refine (shown10 _).mono ?_; rintro e w1 ⟨rfl, hb⟩; (have H1 := Lib.hid (H.out.below hb)); clear hb; clear _h))
  go_ret
  exact ⟨rfl, H9.out.bel⟩
set_option maxHeartbeats 8000000 in
theorem busy_now_two_true (i stamp : Int) (i0 : 0 ≤ i) (i1 : i < 4294967296) (t0 : 0 ≤ stamp) (t1 : stamp < 4294967296) (w : World) : Calls Try.prog 8 #[.bool true, .int .u32 i, .int .u32 stamp, .bool true, .bool false] w fun e w' => e = .returned (.bool true) ∧ Below w.heap.size w w' := by
  obtain ⟨v, hv⟩ : ∃ v, sW 3 i stamp = v := ⟨_, rfl⟩
  obtain ⟨v0, v1⟩ := sW_rng (s := 3) (i := i) (by decide) (by decide) t0 t1
  rw [hv] at v0 v1
  have hm : sMeets v true = false := hv ▸ sMeets_W (by decide) (by decide) rfl
  have hs : sSt v ≠ 0 := by rw [← hv, sSt_W (by decide) (by decide)]; decide
  have HV := Lib.hid hv
  have HS1 := Lib.hid (busy_1 hm hs)
  have HRg := Lib.hid (rng1 v0 v1)
  have H := Lib.hid (St.nil w)
  clear hv hm hs
  go_enter Try.func8, Try.ntmps8
  go_wp2_with (first | ((have _h := H8); go_at_call 16; refine (visit_met _ 1 _ 1 1 [v] false H8.out (busy_ok 1 v0 v1) HRb.out rfl rfl).mono ?_; rintro e w9 ⟨rfl, hb⟩; (have H9 := Lib.hid (H8.out.below hb)); clear hb; clear _h) | ((have _h := H7); go_at_call 17; refine (words_pos 1 H7.out rfl (by decide)).mono ?_; rintro e w8 ⟨gb, cb, rfl, hc, hr, hcc, hb⟩; (have H8 := Lib.hid (H7.out.below hb)); (have kb : w8.cell? ⟨gb, 0, none⟩ = some (.int .u64 v) := hc 0 (by decide)); (have HRb := Lib.hid hr); clear hc hr hcc hb; clear _h) | ((have _h := H6); go_at_call 17; refine (words_pos 1 H6.out rfl (by decide)).mono ?_; rintro e w7 ⟨ga, ca, rfl, hc, hr, hcc, hb⟩; (have H7 := Lib.hid (H6.out.below hb)); (have ka : w7.cell? ⟨ga, 0, none⟩ = some (.int .u64 v) := hc 0 (by decide)); (have HRa := Lib.hid hr); clear hc hr hcc hb; clear _h) | ((have _h := H5); go_at_call 19; refine (count_st H5.out 1 rfl).mono ?_; rintro e w6 ⟨rfl, rfl⟩; (have H6 := Lib.hid (H5.out)); clear _h) | ((have _h := H4); go_at_call 15; refine (vstep 0 HS1.out rfl rfl H4.out (newVM_ok 1 0 (by decide) (by decide) (by decide) (by decide) (by decide)) (by simp)).mono ?_; rintro e w5 ⟨rfl, h⟩; (have H5 := Lib.hid (h)); clear h; clear _h) | ((have _h := H3); go_at_call 13; refine (visit_new 0 true 7 9 9 H3.out).mono ?_; rintro e w4 ⟨p, rfl, h⟩; (have H4 := Lib.hid (h)); clear h; clear _h) | ((have _h := H2); go_at_call 11; refine (new_st (H2.out.below (bl_alloc (bl_refl _) _)) (some ⟨_, 0, none⟩) _ 1 [v] (lit1 (heap_new rfl)) (by decide) HRg.out rfl).mono ?_; rintro e w3 ⟨q, rfl, h⟩; (have H3 := Lib.hid (h)); clear h; clear _h) | ((have _h := H1); go_at_call 12; refine (slot_word 3 i stamp v _ HV.out (by decide) (by decide) i0 i1 t0 t1).mono ?_; rintro e w2 ⟨rfl, hb⟩; (have H2 := Lib.hid (H1.out.below hb)); clear hb; clear _h) | ((have _h := H); go_at_call 10; refine (shown10 _).mono ?_; rintro e w1 ⟨rfl, hb⟩; (have H1 := Lib.hid (H.out.below hb)); clear hb; clear _h))
  go_ret
  exact ⟨rfl, H9.out.bel⟩
set_option maxHeartbeats 8000000 in
theorem busy_late_one_false (i stamp : Int) (i0 : 0 ≤ i) (i1 : i < 4294967296) (t0 : 0 ≤ stamp) (t1 : stamp < 4294967296) (w : World) : Calls Try.prog 8 #[.bool false, .int .u32 i, .int .u32 stamp, .bool false, .bool true] w fun e w' => e = .returned (.bool true) ∧ Below w.heap.size w w' := by
  obtain ⟨v, hv⟩ : ∃ v, sW 2 i stamp = v := ⟨_, rfl⟩
  obtain ⟨v0, v1⟩ := sW_rng (s := 2) (i := i) (by decide) (by decide) t0 t1
  rw [hv] at v0 v1
  have hm : sMeets v false = false := hv ▸ sMeets_W (by decide) (by decide) rfl
  have hs : sSt v ≠ 0 := by rw [← hv, sSt_W (by decide) (by decide)]; decide
  have HV := Lib.hid hv
  obtain ⟨b, hb⟩ : ∃ b, sW 0 0 stamp = b := ⟨_, rfl⟩
  obtain ⟨b0, b1⟩ := sW_rng (s := 0) (i := 0) (by decide) (by decide) t0 t1
  rw [hb] at b0 b1
  have hz : sSt b = 0 := by rw [← hb, sSt_W (by decide) (by decide)]
  have hne : v ≠ b := fun e => hs (by rw [e, hz])
  have HB := Lib.hid hb
  have HZ := Lib.hid hz
  have HS1 := Lib.hid (busy_2 (push := false) hz)
  have HS2 := Lib.hid (busy_3 (push := false) hne)
  have HRg := Lib.hid (rng1 b0 b1)
  clear hb hz hne
  have H := Lib.hid (St.nil w)
  clear hv hm hs
  go_enter Try.func8, Try.ntmps8
  go_wp2_with (first | ((have _h := H10); go_at_call 16; refine (visit_met _ 1 _ 1 3 [v] false H10.out (busy_ok2 3 HZ.out b0 b1) HRb.out rfl rfl).mono ?_; rintro e w11 ⟨rfl, hb⟩; (have H11 := Lib.hid (H10.out.below hb)); clear hb; clear _h) | ((have _h := H9); go_at_call 17; refine (words_pos 1 H9.out rfl (by decide)).mono ?_; rintro e w10 ⟨gb, cb, rfl, hc, hr, hcc, hb⟩; (have H10 := Lib.hid (H9.out.below hb)); (have kb : w10.cell? ⟨gb, 0, none⟩ = some (.int .u64 v) := hc 0 (by decide)); (have HRb := Lib.hid hr); clear hc hr hcc hb; clear _h) | ((have _h := H8); go_at_call 17; refine (words_pos 1 H8.out rfl (by decide)).mono ?_; rintro e w9 ⟨ga, ca, rfl, hc, hr, hcc, hb⟩; (have H9 := Lib.hid (H8.out.below hb)); (have ka : w9.cell? ⟨ga, 0, none⟩ = some (.int .u64 v) := hc 0 (by decide)); (have HRa := Lib.hid hr); clear hc hr hcc hb; clear _h) | ((have _h := H7); go_at_call 15; refine (vstep (ws := [v]) 0 HS2.out rfl rfl H7.out (busy_ok2 2 HZ.out b0 b1) (by simp)).mono ?_; rintro e w8 ⟨rfl, h⟩; (have H8 := Lib.hid (h)); clear h; clear _h) | ((have _h := H6); go_at_call 21; refine (store_st H6.out 0 b v rfl Nat.one_pos (by simp) v0 v1).mono ?_; rintro e w7 ⟨rfl, h⟩; (have H7 := Lib.hid (h)); clear h; clear _h) | ((have _h := H5); go_at_call 15; refine (vstep 0 HS1.out rfl rfl H5.out (newVM_ok 1 0 (by decide) (by decide) (by decide) (by decide) (by decide)) (by simp)).mono ?_; rintro e w6 ⟨rfl, h⟩; (have H6 := Lib.hid (h)); clear h; clear _h) | ((have _h := H4); go_at_call 13; refine (visit_new 0 false 7 9 9 H4.out).mono ?_; rintro e w5 ⟨p, rfl, h⟩; (have H5 := Lib.hid (h)); clear h; clear _h) | ((have _h := H3); go_at_call 11; refine (new_st (H3.out.below (bl_alloc (bl_refl _) _)) (some ⟨_, 0, none⟩) _ 1 [b] (lit1 (heap_new rfl)) (by decide) HRg.out rfl).mono ?_; rintro e w4 ⟨q, rfl, h⟩; (have H4 := Lib.hid (h)); clear h; clear _h) | ((have _h := H2); go_at_call 12; refine (slot_word 0 0 stamp b _ HB.out (by decide) (by decide) (by decide) (by decide) t0 t1).mono ?_; rintro e w3 ⟨rfl, hb⟩; (have H3 := Lib.hid (H2.out.below hb)); clear hb; clear _h) | ((have _h := H1); go_at_call 12; refine (slot_word 2 i stamp v _ HV.out (by decide) (by decide) i0 i1 t0 t1).mono ?_; rintro e w2 ⟨rfl, hb⟩; (have H2 := Lib.hid (H1.out.below hb)); clear hb; clear _h) | ((have _h := H); go_at_call 10; refine (shown10 _).mono ?_; rintro e w1 ⟨rfl, hb⟩; (have H1 := Lib.hid (H.out.below hb)); clear hb; clear _h))
  go_ret
  exact ⟨rfl, H11.out.bel⟩
set_option maxHeartbeats 8000000 in
theorem busy_late_one_true (i stamp : Int) (i0 : 0 ≤ i) (i1 : i < 4294967296) (t0 : 0 ≤ stamp) (t1 : stamp < 4294967296) (w : World) : Calls Try.prog 8 #[.bool true, .int .u32 i, .int .u32 stamp, .bool false, .bool true] w fun e w' => e = .returned (.bool true) ∧ Below w.heap.size w w' := by
  obtain ⟨v, hv⟩ : ∃ v, sW 1 i stamp = v := ⟨_, rfl⟩
  obtain ⟨v0, v1⟩ := sW_rng (s := 1) (i := i) (by decide) (by decide) t0 t1
  rw [hv] at v0 v1
  have hm : sMeets v true = false := hv ▸ sMeets_W (by decide) (by decide) rfl
  have hs : sSt v ≠ 0 := by rw [← hv, sSt_W (by decide) (by decide)]; decide
  have HV := Lib.hid hv
  obtain ⟨b, hb⟩ : ∃ b, sW 0 0 stamp = b := ⟨_, rfl⟩
  obtain ⟨b0, b1⟩ := sW_rng (s := 0) (i := 0) (by decide) (by decide) t0 t1
  rw [hb] at b0 b1
  have hz : sSt b = 0 := by rw [← hb, sSt_W (by decide) (by decide)]
  have hne : v ≠ b := fun e => hs (by rw [e, hz])
  have HB := Lib.hid hb
  have HZ := Lib.hid hz
  have HS1 := Lib.hid (busy_2 (push := true) hz)
  have HS2 := Lib.hid (busy_3 (push := true) hne)
  have HRg := Lib.hid (rng1 b0 b1)
  clear hb hz hne
  have H := Lib.hid (St.nil w)
  clear hv hm hs
  go_enter Try.func8, Try.ntmps8
  go_wp2_with (first | ((have _h := H10); go_at_call 16; refine (visit_met _ 1 _ 1 3 [v] false H10.out (busy_ok2 3 HZ.out b0 b1) HRb.out rfl rfl).mono ?_; rintro e w11 ⟨rfl, hb⟩; (have H11 := Lib.hid (H10.out.below hb)); clear hb; clear _h) | ((have _h := H9); go_at_call 17; refine (words_pos 1 H9.out rfl (by decide)).mono ?_; rintro e w10 ⟨gb, cb, rfl, hc, hr, hcc, hb⟩; (have H10 := Lib.hid (H9.out.below hb)); (have kb : w10.cell? ⟨gb, 0, none⟩ = some (.int .u64 v) := hc 0 (by decide)); (have HRb := Lib.hid hr); clear hc hr hcc hb; clear _h) | ((have _h := H8); go_at_call 17; refine (words_pos 1 H8.out rfl (by decide)).mono ?_; rintro e w9 ⟨ga, ca, rfl, hc, hr, hcc, hb⟩; (have H9 := Lib.hid (H8.out.below hb)); (have ka : w9.cell? ⟨ga, 0, none⟩ = some (.int .u64 v) := hc 0 (by decide)); (have HRa := Lib.hid hr); clear hc hr hcc hb; clear _h) | ((have _h := H7); go_at_call 15; refine (vstep (ws := [v]) 0 HS2.out rfl rfl H7.out (busy_ok2 2 HZ.out b0 b1) (by simp)).mono ?_; rintro e w8 ⟨rfl, h⟩; (have H8 := Lib.hid (h)); clear h; clear _h) | ((have _h := H6); go_at_call 21; refine (store_st H6.out 0 b v rfl Nat.one_pos (by simp) v0 v1).mono ?_; rintro e w7 ⟨rfl, h⟩; (have H7 := Lib.hid (h)); clear h; clear _h) | ((have _h := H5); go_at_call 15; refine (vstep 0 HS1.out rfl rfl H5.out (newVM_ok 1 0 (by decide) (by decide) (by decide) (by decide) (by decide)) (by simp)).mono ?_; rintro e w6 ⟨rfl, h⟩; (have H6 := Lib.hid (h)); clear h; clear _h) | ((have _h := H4); go_at_call 13; refine (visit_new 0 true 7 9 9 H4.out).mono ?_; rintro e w5 ⟨p, rfl, h⟩; (have H5 := Lib.hid (h)); clear h; clear _h) | ((have _h := H3); go_at_call 11; refine (new_st (H3.out.below (bl_alloc (bl_refl _) _)) (some ⟨_, 0, none⟩) _ 1 [b] (lit1 (heap_new rfl)) (by decide) HRg.out rfl).mono ?_; rintro e w4 ⟨q, rfl, h⟩; (have H4 := Lib.hid (h)); clear h; clear _h) | ((have _h := H2); go_at_call 12; refine (slot_word 0 0 stamp b _ HB.out (by decide) (by decide) (by decide) (by decide) t0 t1).mono ?_; rintro e w3 ⟨rfl, hb⟩; (have H3 := Lib.hid (H2.out.below hb)); clear hb; clear _h) | ((have _h := H1); go_at_call 12; refine (slot_word 1 i stamp v _ HV.out (by decide) (by decide) i0 i1 t0 t1).mono ?_; rintro e w2 ⟨rfl, hb⟩; (have H2 := Lib.hid (H1.out.below hb)); clear hb; clear _h) | ((have _h := H); go_at_call 10; refine (shown10 _).mono ?_; rintro e w1 ⟨rfl, hb⟩; (have H1 := Lib.hid (H.out.below hb)); clear hb; clear _h))
  go_ret
  exact ⟨rfl, H11.out.bel⟩
set_option maxHeartbeats 8000000 in
theorem busy_late_two_false (i stamp : Int) (i0 : 0 ≤ i) (i1 : i < 4294967296) (t0 : 0 ≤ stamp) (t1 : stamp < 4294967296) (w : World) : Calls Try.prog 8 #[.bool false, .int .u32 i, .int .u32 stamp, .bool true, .bool true] w fun e w' => e = .returned (.bool true) ∧ Below w.heap.size w w' := by
  obtain ⟨v, hv⟩ : ∃ v, sW 3 i stamp = v := ⟨_, rfl⟩
  obtain ⟨v0, v1⟩ := sW_rng (s := 3) (i := i) (by decide) (by decide) t0 t1
  rw [hv] at v0 v1
  have hm : sMeets v false = false := hv ▸ sMeets_W (by decide) (by decide) rfl
  have hs : sSt v ≠ 0 := by rw [← hv, sSt_W (by decide) (by decide)]; decide
  have HV := Lib.hid hv
  obtain ⟨b, hb⟩ : ∃ b, sW 0 0 stamp = b := ⟨_, rfl⟩
  obtain ⟨b0, b1⟩ := sW_rng (s := 0) (i := 0) (by decide) (by decide) t0 t1
  rw [hb] at b0 b1
  have hz : sSt b = 0 := by rw [← hb, sSt_W (by decide) (by decide)]
  have hne : v ≠ b := fun e => hs (by rw [e, hz])
  have HB := Lib.hid hb
  have HZ := Lib.hid hz
  have HS1 := Lib.hid (busy_2 (push := false) hz)
  have HS2 := Lib.hid (busy_3 (push := false) hne)
  have HRg := Lib.hid (rng1 b0 b1)
  clear hb hz hne
  have H := Lib.hid (St.nil w)
  clear hv hm hs
  go_enter Try.func8, Try.ntmps8
  go_wp2_with (first | ((have _h := H10); go_at_call 16; refine (visit_met _ 1 _ 1 3 [v] false H10.out (busy_ok2 3 HZ.out b0 b1) HRb.out rfl rfl).mono ?_; rintro e w11 ⟨rfl, hb⟩; (have H11 := Lib.hid (H10.out.below hb)); clear hb; clear _h) | ((have _h := H9); go_at_call 17; refine (words_pos 1 H9.out rfl (by decide)).mono ?_; rintro e w10 ⟨gb, cb, rfl, hc, hr, hcc, hb⟩; (have H10 := Lib.hid (H9.out.below hb)); (have kb : w10.cell? ⟨gb, 0, none⟩ = some (.int .u64 v) := hc 0 (by decide)); (have HRb := Lib.hid hr); clear hc hr hcc hb; clear _h) | ((have _h := H8); go_at_call 17; refine (words_pos 1 H8.out rfl (by decide)).mono ?_; rintro e w9 ⟨ga, ca, rfl, hc, hr, hcc, hb⟩; (have H9 := Lib.hid (H8.out.below hb)); (have ka : w9.cell? ⟨ga, 0, none⟩ = some (.int .u64 v) := hc 0 (by decide)); (have HRa := Lib.hid hr); clear hc hr hcc hb; clear _h) | ((have _h := H7); go_at_call 15; refine (vstep (ws := [v]) 0 HS2.out rfl rfl H7.out (busy_ok2 2 HZ.out b0 b1) (by simp)).mono ?_; rintro e w8 ⟨rfl, h⟩; (have H8 := Lib.hid (h)); clear h; clear _h) | ((have _h := H6); go_at_call 21; refine (store_st H6.out 0 b v rfl Nat.one_pos (by simp) v0 v1).mono ?_; rintro e w7 ⟨rfl, h⟩; (have H7 := Lib.hid (h)); clear h; clear _h) | ((have _h := H5); go_at_call 15; refine (vstep 0 HS1.out rfl rfl H5.out (newVM_ok 1 0 (by decide) (by decide) (by decide) (by decide) (by decide)) (by simp)).mono ?_; rintro e w6 ⟨rfl, h⟩; (have H6 := Lib.hid (h)); clear h; clear _h) | ((have _h := H4); go_at_call 13; refine (visit_new 0 false 7 9 9 H4.out).mono ?_; rintro e w5 ⟨p, rfl, h⟩; (have H5 := Lib.hid (h)); clear h; clear _h) | ((have _h := H3); go_at_call 11; refine (new_st (H3.out.below (bl_alloc (bl_refl _) _)) (some ⟨_, 0, none⟩) _ 1 [b] (lit1 (heap_new rfl)) (by decide) HRg.out rfl).mono ?_; rintro e w4 ⟨q, rfl, h⟩; (have H4 := Lib.hid (h)); clear h; clear _h) | ((have _h := H2); go_at_call 12; refine (slot_word 0 0 stamp b _ HB.out (by decide) (by decide) (by decide) (by decide) t0 t1).mono ?_; rintro e w3 ⟨rfl, hb⟩; (have H3 := Lib.hid (H2.out.below hb)); clear hb; clear _h) | ((have _h := H1); go_at_call 12; refine (slot_word 3 i stamp v _ HV.out (by decide) (by decide) i0 i1 t0 t1).mono ?_; rintro e w2 ⟨rfl, hb⟩; (have H2 := Lib.hid (H1.out.below hb)); clear hb; clear _h) | ((have _h := H); go_at_call 10; refine (shown10 _).mono ?_; rintro e w1 ⟨rfl, hb⟩; (have H1 := Lib.hid (H.out.below hb)); clear hb; clear _h))
  go_ret
  exact ⟨rfl, H11.out.bel⟩
set_option maxHeartbeats 8000000 in
theorem busy_late_two_true (i stamp : Int) (i0 : 0 ≤ i) (i1 : i < 4294967296) (t0 : 0 ≤ stamp) (t1 : stamp < 4294967296) (w : World) : Calls Try.prog 8 #[.bool true, .int .u32 i, .int .u32 stamp, .bool true, .bool true] w fun e w' => e = .returned (.bool true) ∧ Below w.heap.size w w' := by
  obtain ⟨v, hv⟩ : ∃ v, sW 3 i stamp = v := ⟨_, rfl⟩
  obtain ⟨v0, v1⟩ := sW_rng (s := 3) (i := i) (by decide) (by decide) t0 t1
  rw [hv] at v0 v1
  have hm : sMeets v true = false := hv ▸ sMeets_W (by decide) (by decide) rfl
  have hs : sSt v ≠ 0 := by rw [← hv, sSt_W (by decide) (by decide)]; decide
  have HV := Lib.hid hv
  obtain ⟨b, hb⟩ : ∃ b, sW 0 0 stamp = b := ⟨_, rfl⟩
  obtain ⟨b0, b1⟩ := sW_rng (s := 0) (i := 0) (by decide) (by decide) t0 t1
  rw [hb] at b0 b1
  have hz : sSt b = 0 := by rw [← hb, sSt_W (by decide) (by decide)]
  have hne : v ≠ b := fun e => hs (by rw [e, hz])
  have HB := Lib.hid hb
  have HZ := Lib.hid hz
  have HS1 := Lib.hid (busy_2 (push := true) hz)
  have HS2 := Lib.hid (busy_3 (push := true) hne)
  have HRg := Lib.hid (rng1 b0 b1)
  clear hb hz hne
  have H := Lib.hid (St.nil w)
  clear hv hm hs
  go_enter Try.func8, Try.ntmps8
  go_wp2_with (first | ((have _h := H10); go_at_call 16; refine (visit_met _ 1 _ 1 3 [v] false H10.out (busy_ok2 3 HZ.out b0 b1) HRb.out rfl rfl).mono ?_; rintro e w11 ⟨rfl, hb⟩; (have H11 := Lib.hid (H10.out.below hb)); clear hb; clear _h) | ((have _h := H9); go_at_call 17; refine (words_pos 1 H9.out rfl (by decide)).mono ?_; rintro e w10 ⟨gb, cb, rfl, hc, hr, hcc, hb⟩; (have H10 := Lib.hid (H9.out.below hb)); (have kb : w10.cell? ⟨gb, 0, none⟩ = some (.int .u64 v) := hc 0 (by decide)); (have HRb := Lib.hid hr); clear hc hr hcc hb; clear _h) | ((have _h := H8); go_at_call 17; refine (words_pos 1 H8.out rfl (by decide)).mono ?_; rintro e w9 ⟨ga, ca, rfl, hc, hr, hcc, hb⟩; (have H9 := Lib.hid (H8.out.below hb)); (have ka : w9.cell? ⟨ga, 0, none⟩ = some (.int .u64 v) := hc 0 (by decide)); (have HRa := Lib.hid hr); clear hc hr hcc hb; clear _h) | ((have _h := H7); go_at_call 15; refine (vstep (ws := [v]) 0 HS2.out rfl rfl H7.out (busy_ok2 2 HZ.out b0 b1) (by simp)).mono ?_; rintro e w8 ⟨rfl, h⟩; (have H8 := Lib.hid (h)); clear h; clear _h) | ((have _h := H6); go_at_call 21; refine (store_st H6.out 0 b v rfl Nat.one_pos (by simp) v0 v1).mono ?_; rintro e w7 ⟨rfl, h⟩; (have H7 := Lib.hid (h)); clear h; clear _h) | ((have _h := H5); go_at_call 15; refine (vstep 0 HS1.out rfl rfl H5.out (newVM_ok 1 0 (by decide) (by decide) (by decide) (by decide) (by decide)) (by simp)).mono ?_; rintro e w6 ⟨rfl, h⟩; (have H6 := Lib.hid (h)); clear h; clear _h) | ((have _h := H4); go_at_call 13; refine (visit_new 0 true 7 9 9 H4.out).mono ?_; rintro e w5 ⟨p, rfl, h⟩; (have H5 := Lib.hid (h)); clear h; clear _h) | ((have _h := H3); go_at_call 11; refine (new_st (H3.out.below (bl_alloc (bl_refl _) _)) (some ⟨_, 0, none⟩) _ 1 [b] (lit1 (heap_new rfl)) (by decide) HRg.out rfl).mono ?_; rintro e w4 ⟨q, rfl, h⟩; (have H4 := Lib.hid (h)); clear h; clear _h) | ((have _h := H2); go_at_call 12; refine (slot_word 0 0 stamp b _ HB.out (by decide) (by decide) (by decide) (by decide) t0 t1).mono ?_; rintro e w3 ⟨rfl, hb⟩; (have H3 := Lib.hid (H2.out.below hb)); clear hb; clear _h) | ((have _h := H1); go_at_call 12; refine (slot_word 3 i stamp v _ HV.out (by decide) (by decide) i0 i1 t0 t1).mono ?_; rintro e w2 ⟨rfl, hb⟩; (have H2 := Lib.hid (H1.out.below hb)); clear hb; clear _h) | ((have _h := H); go_at_call 10; refine (shown10 _).mono ?_; rintro e w1 ⟨rfl, hb⟩; (have H1 := Lib.hid (H.out.below hb)); clear hb; clear _h))
  go_ret
  exact ⟨rfl, H11.out.bel⟩
theorem exchangeBusy_walk (push : Bool) (i stamp : Int) (two late : Bool) (w : World) (h1 : (Lit.int .u32 i).wf = true) (h2 : (Lit.int .u32 stamp).wf = true) :
    Calls Try.prog 8 #[.bool push, .int .u32 i, .int .u32 stamp, .bool two, .bool late] w fun e w' => e = .returned (.bool true) ∧ Below w.heap.size w w' := by
  obtain ⟨i0, i1⟩ := rngU32 h1
  obtain ⟨t0, t1⟩ := rngU32 h2
  cases push <;> cases two <;> cases late
  · exact busy_now_one_false i stamp i0 i1 t0 t1 w
  · exact busy_late_one_false i stamp i0 i1 t0 t1 w
  · exact busy_now_two_false i stamp i0 i1 t0 t1 w
  · exact busy_late_two_false i stamp i0 i1 t0 t1 w
  · exact busy_now_one_true i stamp i0 i1 t0 t1 w
  · exact busy_late_one_true i stamp i0 i1 t0 t1 w
  · exact busy_now_two_true i stamp i0 i1 t0 t1 w
  · exact busy_late_two_true i stamp i0 i1 t0 t1 w
end Go.Proofs.Ytpkchlmoohmfeaa
