/-
  The law ExchangeAlone: the walk.
-/
import Derived.Test.YtpkchlmoohmfeaaLaw10
namespace Go.Proofs.Ytpkchlmoohmfeaa
open Go.RowKit
set_option linter.unusedVariables false
set_option linter.unusedSimpArgs false

/-- The visit ahead of its k-th step, the words then, the time of that step. -/
def aS (push : Bool) (d n w0 v : Int) (lk k : Nat) : VM :=
  if k = 0 then ⟨0, push, 7, d, n, 0, .first, 0, false⟩ else if k = 1 then ⟨0, push, 7, d, n, w0, .offer, 0, false⟩
  else if k < 2 + lk then ⟨0, push, 7, d, n - (k - 2), v, .look, 0, true⟩ else if k = 2 + lk then ⟨0, push, 7, d, n - (k - 2), v, .withdraw, 0, true⟩ else ⟨0, push, 7, d, n - (k - 3), v, .look, 4, true⟩
def aW (w0 v z : Int) (lk k : Nat) : List Int := [if k ≤ 1 then w0 else if k ≤ 2 + lk then v else z]
def aNow (k : Nat) : Int := if k ≤ 2 then 0 else (k : Int) - 2
theorem aS_step {push : Bool} {d n w0 v z : Int} {lk k : Nat} (hs : sSt w0 = 0) (hv : sOffer w0 push 7 = v) (hz : sClear v = z) (h1 : 1 ≤ lk) (hl : (lk : Int) ≤ n ∧ (lk : Int) ≤ d + 1) (he : n = lk ∨ d + 1 = lk) (hk : k < 3 + lk) :
    ∃ nt, (aS push d n w0 v lk k).step (aW w0 v z lk k) (aNow k) = ⟨if k = 2 + lk then 4 else 0, aS push d n w0 v lk (k + 1), aW w0 v z lk (k + 1), [nt]⟩ := by
  have hm : sMeets w0 push = false := by unfold sMeets; rw [hs]; cases push <;> rfl
  rcases (show k = 0 ∨ k = 1 ∨ (2 ≤ k ∧ k < 1 + lk) ∨ k = 1 + lk ∨ k = 2 + lk by omega) with rfl | rfl | ⟨c1, c2⟩ | rfl | rfl
  · have e1 : ¬ 0 = 2 + lk := by omega
    refine ⟨ldN 0 w0, ?_⟩
    simp [aS, aW, aNow, VM.step, VM.go, rdW, hm, hs, e1]
  · have e1 : ¬ 1 = 2 + lk := by omega
    have e2 : 0 < lk := by omega
    refine ⟨swN 0 w0 v, ?_⟩
    simp [aS, aW, aNow, VM.step, VM.go, rdW, hv, e1, e2]
  · have e1 : ¬ k = 0 := by omega
    have e2 : ¬ k = 1 := by omega
    have e3 : k < 2 + lk := by omega
    have e4 : ¬ k = 2 + lk := by omega
    have e5 : k + 1 < 2 + lk := by omega
    have e6 : ¬ k ≤ 1 := by omega
    have e7 : k ≤ 2 + lk := by omega
    have e8 : k + 1 ≤ 2 + lk := by omega
    have e9 : ¬ (n - ((k : Int) - 2) - 1 ≤ 0 ∨ d ≤ aNow k) := by
      unfold aNow
      split <;> omega
    have e10 : ¬ k = 0 := by omega
    have e11 : n - ((k : Int) - 2) - 1 = n - ((k : Int) + 1 - 2) := by omega
    refine ⟨ldN 0 v, ?_⟩
    simp only [aS, aW, VM.step, VM.go, rdW, e1, e2, e3, e4, e5, e6, e7, e8, e9, if_true, if_false]
    simp [e1, e11]
  · have e1 : ¬ 1 + lk = 0 := by omega
    have e2 : ¬ 1 + lk = 1 := by omega
    have e3 : 1 + lk < 2 + lk := by omega
    have e4 : ¬ 1 + lk = 2 + lk := by omega
    have e5 : ¬ 1 + lk + 1 < 2 + lk := by omega
    have e5' : 1 + lk + 1 = 2 + lk := by omega
    have e6 : ¬ 1 + lk ≤ 1 := by omega
    have e7 : 1 + lk ≤ 2 + lk := by omega
    have e9 : n - (((1 + lk : Nat) : Int) - 2) - 1 ≤ 0 ∨ d ≤ aNow (1 + lk) := by
      unfold aNow
      split <;> omega
    have e11 : n - (((1 + lk : Nat) : Int) - 2) - 1 = n - (((2 + lk : Nat) : Int) - 2) := by omega
    have e12 : ¬ 2 + lk = 0 := by omega
    have e13 : ¬ 2 + lk = 1 := by omega
    have e14 : ¬ 2 + lk < 2 + lk := by omega
    have e15 : ¬ 2 + lk ≤ 1 := by omega
    refine ⟨ldN 0 v, ?_⟩
    rw [e5']
    simp only [aS, aW, VM.step, VM.go, rdW, e1, e2, e3, e4, e6, e7, e9, e11, e12, e13, e14, e15, if_true, if_false, Nat.le_refl]
    simp
    exact fun h => e9.resolve_left (by omega)
  · have e1 : ¬ 2 + lk = 0 := by omega
    have e2 : ¬ 2 + lk = 1 := by omega
    have e3 : ¬ 2 + lk < 2 + lk := by omega
    have e6 : ¬ 2 + lk ≤ 1 := by omega
    have e12 : ¬ 2 + lk + 1 = 0 := by omega
    have e13 : ¬ 2 + lk + 1 = 1 := by omega
    have e14 : ¬ 2 + lk + 1 < 2 + lk := by omega
    have e15 : ¬ 2 + lk + 1 ≤ 1 := by omega
    have e16 : ¬ 2 + lk + 1 = 2 + lk := by omega
    have e17 : ¬ 2 + lk + 1 ≤ 2 + lk := by omega
    refine ⟨swN 0 v z, ?_⟩
    simp only [aS, aW, VM.step, VM.go, rdW, e1, e2, e3, e6, e12, e13, e14, e15, e16, e17, if_true, if_false, Nat.le_refl]
    simp [hz]
    omega
theorem aS_ok {push : Bool} {d n w0 v : Int} {lk k : Nat} (hs : sSt w0 = 0) (w00 : 0 ≤ w0) (w01 : w0 < 18446744073709551616) (v0 : 0 ≤ v) (v1 : v < 18446744073709551616) (d0 : 0 ≤ d) (d1 : d < 100) (n0 : 1 ≤ n) (n1 : n ≤ 64) (hl : (lk : Int) ≤ n) (hk : k ≤ 3 + lk) : (aS push d n w0 v lk k).ok 1 k := by
  unfold aS
  split
  · exact mkok (by decide) (by decide) d0 (by omega) (by decide) (by decide) (by omega) (by omega) (fun _ h => (h rfl).elim) (fun h => by cases h) trivial
  split
  · exact mkok (by decide) (by decide) d0 (by omega) w00 w01 (by omega) (by omega) (fun _ _ => ⟨by decide, by decide⟩) (fun h => by cases h) hs
  split
  · exact mkok (by decide) (by decide) d0 (by omega) v0 v1 (by omega) (by omega) (fun _ _ => ⟨by decide, by decide⟩) (fun h => by simp) trivial
  split
  · exact mkok (by decide) (by decide) d0 (by omega) v0 v1 (by omega) (by omega) (fun _ _ => ⟨by decide, by decide⟩) (fun h => by simp) trivial
  · exact mkok (by decide) (by decide) d0 (by omega) v0 v1 (by omega) (by omega) (fun _ _ => ⟨by decide, by decide⟩) (fun h => by simp) trivial
theorem aS_met {push : Bool} {d n w0 v z : Int} {lk k : Nat} (hk : k ≤ 3 + lk) : (aS push d n w0 v lk k).met (aW w0 v z lk k) = false := by
  unfold aS
  split
  · rfl
  split
  · rfl
  split
  · have e1 : ¬ k ≤ 1 := by omega
    have e2 : k ≤ 2 + lk := by omega
    simp [VM.met, aW, rdW, e1, e2]
  split
  · have e1 : ¬ k ≤ 1 := by omega
    have e2 : k ≤ 2 + lk := by omega
    simp [VM.met, aW, rdW, e1, e2]
  · rfl
theorem aS_told {push : Bool} {d n w0 v : Int} {lk k : Nat} : (aS push d n w0 v lk (k + 1)).told (if k = 2 + lk then 4 else 0) = 0 := by
  by_cases h : k = 2 + lk <;> simp [VM.told, h]
def AloneRel (w : World) (q p : Nat) (push : Bool) (d n w0 v z : Int) (lk k : Nat) (w' : World) : Prop := ∃ ns, St w [memA q (aW w0 v z lk k) ns, visA p (aS push d n w0 v lk k)] w' ∧ ns.length = k

set_option maxHeartbeats 16000000 in
set_option maxRecDepth 100000 in
theorem alone_body (push : Bool) (pl dl st st2 d n m1 w0 v z : Int) (lk : Nat) (w : World) (t0 : 0 ≤ st) (t1 : st < 4294967296) (hst : (st + 1) % 4294967296 = st2) (hP : pickI pl 64 = m1) (hn : 1 + m1 = n) (hd : dl % 100 = d) (p0 : -9223372036854775808 ≤ pl) (p1 : pl < 9223372036854775808) (dl0 : 0 ≤ dl) (hw : sW 0 0 st = w0) (hvv : sOffer w0 push 7 = v) (hz : sClear v = z) (h1 : 1 ≤ lk) (hl : (lk : Int) ≤ n ∧ (lk : Int) ≤ d + 1) (he : n = lk ∨ d + 1 = lk) (d0 : 0 ≤ d) (d1 : d < 100) (n0 : 1 ≤ n) (n1 : n ≤ 64) :
    Calls Try.prog 7 #[.bool push, .int .i64 pl, .int .u64 dl, .int .u32 st] w fun e w' => e = .returned (.bool true) ∧ Below w.heap.size w w' := by
  have hw0 : 0 ≤ w0 ∧ w0 < 18446744073709551616 := by subst hw; exact sW_rng (by decide) (by decide) t0 t1
  have hs : sSt w0 = 0 := by subst hw; exact sSt_W (by decide) (by decide)
  have hv : 0 ≤ v ∧ v < 18446744073709551616 := by subst hvv; exact sOffer_rng hw0.1 hw0.2
  have hzz : sW 0 0 st2 = z := by subst hz hvv hw hst; unfold sClear sOffer; rw [sTp_W (sWaits_rng push).1 (sWaits_rng push).2, sTp_W (by decide) (by decide)]
  have st20 : 0 ≤ st2 := by omega
  have st21 : st2 < 4294967296 := by omega
  have HW := Lib.hid hw
  have HST := Lib.hid (fun k hk => aS_step (push := push) (d := d) (n := n) (lk := lk) (k := k) hs hvv hz h1 hl he hk)
  have HOK := Lib.hid (fun k hk => aS_ok (push := push) (d := d) (n := n) (lk := lk) (k := k) hs hw0.1 hw0.2 hv.1 hv.2 d0 d1 n0 n1 hl.1 hk)
  have HRg := Lib.hid (rng1 hw0.1 hw0.2)
  have HZ := Lib.hid hzz
  have hst2 : IntKind.u32.wrap (st + 1) = st2 := by rw [IntKind.wrap_u32]; omega
  have hln : (lk : Int) ≤ 64 := by omega
  have HP := Lib.hid hP
  have H := Lib.hid (St.nil w)
  clear hP hw hvv hz hzz hst hs hw0 hv
  go_enter Try.func7, Try.ntmps7
  go_wp2_with (first | ((have _h := H4); go_at_call 13; refine (visit_new 0 push 7 d n H4.out).mono ?_; rintro e w5 ⟨p, rfl, h⟩; (have H5 := Lib.hid (h)); clear h; clear _h) | ((have _h := H3); go_at_call 14; refine (pick_is pl 64 m1 _ HP.out (by decide) (by decide) p0 p1).mono ?_; rintro e w4 ⟨rfl, rfl⟩; (have H4 := Lib.hid (H3.out)); clear _h) | ((have _h := H2); go_at_call 11; refine (new_st (H2.out.below (bl_alloc (bl_refl _) _)) (some ⟨_, 0, none⟩) _ 1 [w0] (lit1 (heap_new rfl)) (by decide) HRg.out rfl).mono ?_; rintro e w3 ⟨q, rfl, h⟩; (have H3 := Lib.hid (h)); clear h; clear _h) | ((have _h := H1); go_at_call 12; refine (slot_word 0 0 st w0 _ HW.out (by decide) (by decide) (by decide) (by decide) t0 t1).mono ?_; rintro e w2 ⟨rfl, hb⟩; (have H2 := Lib.hid (H1.out.below hb)); clear hb; clear _h) | ((have _h := H); go_at_call 10; refine (shown10 _).mono ?_; rintro e w1 ⟨rfl, hb⟩; (have H1 := Lib.hid (H.out.below hb)); clear hb; clear _h))
  · generalize hx : d + 1 = x
    obtain rfl : x = (lk : Int) := by omega
    clear hx
    have HRel := Lib.hid (show AloneRel w q p push d n w0 v z lk 0 w5 from ⟨[], by have := H5.out; rw [show newVM 0 push 7 d n = aS push d n w0 v lk 0 by simp [newVM, aS]; omega] at this; exact this, rfl⟩)
    clear he
    go_loopg [16] (4 + lk) (fun kq y w' => ∃ k : Nat, y = .int .i64 k ∧ k ≤ 3 + lk ∧ k + kq = 4 + lk ∧ AloneRel w q p push d n w0 v z lk k w')
    case atStart => exact ⟨0, rfl, Nat.zero_le _, by omega, HRel.out⟩
    case round =>
      obtain ⟨k, rfl, hk, hkq, ns, hS, hc⟩ := hrel
      have HE := Lib.hid hS
      have hnsl : ns.length ≤ 1000000000000 := by omega
      clear hS HRel
      cases gk with
      | zero => omega
      | succ kk =>
        by_cases c4 : k < 3 + lk
        · have c4b : decide ((k : Int) < 3 + lk) = true := decide_eq_true (by omega)
          obtain ⟨nt, hnt0⟩ := HST.out k c4
          have HNT := Lib.hid hnt0
          have HOKk : Hid ((aS push d n w0 v lk k).ok (aW w0 v z lk k).length ns.length) := Lib.hid (by rw [hc]; exact HOK.out k (by omega))
          have HOKk1 := Lib.hid (HOK.out (k + 1) (by omega))
          have HLEN : Hid (((ns ++ [nt]).length : Int) = (k : Int) + 1) := Lib.hid (by rw [List.length_append, hc]; rfl)
          have HC := Lib.hid hc
          clear hnt0 hc
          have q0 : 0 ≤ (k : Int) := by omega
          by_cases c5 : k ≤ 2
          · have c5b : decide ((2 : Int) < k) = false := decide_eq_false (by omega)
            have c6 : ¬ k = 2 + lk := by omega
            have c6b : decide ((k : Int) < 2 + lk) = true := decide_eq_true (by omega)
            have c6c : ((k : Int) == 2 + lk) = false := by simp; omega
            have HNX := Lib.hid (show (aS push d n w0 v lk k).step (aW w0 v z lk k) 0 = ⟨0, aS push d n w0 v lk (k + 1), aW w0 v z lk (k + 1), [nt]⟩ by have := HNT.out; rw [if_neg c6, show aNow k = 0 by simp [aNow, c5]] at this; exact this)
            clear c6
            go_wp2_with (first | ((have _h := H3); go_at_call 19; refine (count_st H3.out ((k : Int) + 1) HLEN.out).mono ?_; rintro e w4 ⟨rfl, rfl⟩; (have H4 := Lib.hid (H3.out)); (have HEND := H4); clear _h) | ((have _h := H2); go_at_call 16; refine (visit_met _ 1 _ 1 (k + 1) (aW w0 v z lk (k + 1)) false H2.out HOKk1.out HRx.out rfl (aS_met (by omega))).mono ?_; rintro e w3 ⟨rfl, hb⟩; (have H3 := Lib.hid (H2.out.below hb)); clear hb; clear _h) | ((have _h := H1); go_at_call 17; refine (words_pos 1 H1.out rfl (by decide)).mono ?_; rintro e w2 ⟨g, c, rfl, hc, hr, hcc, hb⟩; (have H2 := Lib.hid (H1.out.below hb)); (have HRx := Lib.hid hr); clear hc hr hcc hb; clear _h) | ((have _h := HE); go_at_call 15; refine (vstep 0 HNX.out rfl (by unfold VM.told; simp) HE.out HOKk.out hnsl).mono ?_; rintro e w1 ⟨rfl, h⟩; (have H1 := Lib.hid (h)); clear h; clear _h))
            go_roundg kk
            case measure => omega
            case rel => exact ⟨k + 1, rfl, by omega, by omega, ns ++ [nt], HEND.out, by rw [List.length_append, HC.out]; rfl⟩
          · have c5b : decide ((2 : Int) < k) = true := decide_eq_true (by omega)
            have q2 : 0 ≤ (k : Int) - 2 := by omega
            by_cases c6 : k = 2 + lk
            · have c6b : decide ((k : Int) < 2 + lk) = false := decide_eq_false (by omega)
              have c6c : ((k : Int) == 2 + lk) = true := by simp; omega
              have HNX := Lib.hid (show (aS push d n w0 v lk k).step (aW w0 v z lk k) ((k : Int) - 2) = ⟨4, aS push d n w0 v lk (k + 1), aW w0 v z lk (k + 1), [nt]⟩ by have := HNT.out; rw [if_pos c6, show aNow k = (k : Int) - 2 by simp [aNow, c5]] at this; exact this)
              clear c6
              go_wp2_with (first | ((have _h := H3); go_at_call 19; refine (count_st H3.out ((k : Int) + 1) HLEN.out).mono ?_; rintro e w4 ⟨rfl, rfl⟩; (have H4 := Lib.hid (H3.out)); (have HEND := H4); clear _h) | ((have _h := H2); go_at_call 16; refine (visit_met _ 1 _ 1 (k + 1) (aW w0 v z lk (k + 1)) false H2.out HOKk1.out HRx.out rfl (aS_met (by omega))).mono ?_; rintro e w3 ⟨rfl, hb⟩; (have H3 := Lib.hid (H2.out.below hb)); clear hb; clear _h) | ((have _h := H1); go_at_call 17; refine (words_pos 1 H1.out rfl (by decide)).mono ?_; rintro e w2 ⟨g, c, rfl, hc, hr, hcc, hb⟩; (have H2 := Lib.hid (H1.out.below hb)); (have HRx := Lib.hid hr); clear hc hr hcc hb; clear _h) | ((have _h := HE); go_at_call 15; refine (vstep 0 HNX.out rfl (by unfold VM.told; simp) HE.out HOKk.out hnsl).mono ?_; rintro e w1 ⟨rfl, h⟩; (have H1 := Lib.hid (h)); clear h; clear _h))
              go_roundg kk
              case measure => omega
              case rel => exact ⟨k + 1, rfl, by omega, by omega, ns ++ [nt], HEND.out, by rw [List.length_append, HC.out]; rfl⟩
            · have c6b : decide ((k : Int) < 2 + lk) = true := decide_eq_true (by omega)
              have c6c : ((k : Int) == 2 + lk) = false := by simp; omega
              have HNX := Lib.hid (show (aS push d n w0 v lk k).step (aW w0 v z lk k) ((k : Int) - 2) = ⟨0, aS push d n w0 v lk (k + 1), aW w0 v z lk (k + 1), [nt]⟩ by have := HNT.out; rw [if_neg c6, show aNow k = (k : Int) - 2 by simp [aNow, c5]] at this; exact this)
              clear c6
              go_wp2_with (first | ((have _h := H3); go_at_call 19; refine (count_st H3.out ((k : Int) + 1) HLEN.out).mono ?_; rintro e w4 ⟨rfl, rfl⟩; (have H4 := Lib.hid (H3.out)); (have HEND := H4); clear _h) | ((have _h := H2); go_at_call 16; refine (visit_met _ 1 _ 1 (k + 1) (aW w0 v z lk (k + 1)) false H2.out HOKk1.out HRx.out rfl (aS_met (by omega))).mono ?_; rintro e w3 ⟨rfl, hb⟩; (have H3 := Lib.hid (H2.out.below hb)); clear hb; clear _h) | ((have _h := H1); go_at_call 17; refine (words_pos 1 H1.out rfl (by decide)).mono ?_; rintro e w2 ⟨g, c, rfl, hc, hr, hcc, hb⟩; (have H2 := Lib.hid (H1.out.below hb)); (have HRx := Lib.hid hr); clear hc hr hcc hb; clear _h) | ((have _h := HE); go_at_call 15; refine (vstep 0 HNX.out rfl (by unfold VM.told; simp) HE.out HOKk.out hnsl).mono ?_; rintro e w1 ⟨rfl, h⟩; (have H1 := Lib.hid (h)); clear h; clear _h))
              go_roundg kk
              case measure => omega
              case rel => exact ⟨k + 1, rfl, by omega, by omega, ns ++ [nt], HEND.out, by rw [List.length_append, HC.out]; rfl⟩
        · obtain rfl : k = 3 + lk := by omega
          have c4b : decide (((3 + lk : Nat) : Int) < 3 + lk) = false := decide_eq_false (by omega)
          go_wp2
          have hE := HE.out
          rw [show aW w0 v z lk (3 + lk) = [z] by simp [aW]; omega] at hE
          have HD := Lib.hid hE.drew
          clear hE
          go_region_with (first | (go_at_call 17; refine (words_pos 1 HD.out rfl (by decide)).mono ?_; rintro e w20 ⟨g, c, rfl, hc, hr, hcc, hb⟩; (have k0 : w20.cell? ⟨g, 0, none⟩ = some (.int .u64 z) := hc 0 (by decide)); (have HF := Lib.hid (HD.out.below hb).bel); clear hc hr hcc hb) | (go_at_call 12; refine (slot_word_q 0 0 st2 z _ HZ.out (by decide) (by decide) (by decide) (by decide) st20 st21).mono ?_; rintro e w' ⟨rfl, rfl⟩))
          all_goals go_wp2
          all_goals go_ret
          all_goals exact ⟨rfl, HF.out⟩
  · obtain rfl : n = (lk : Int) := by omega
    have HRel := Lib.hid (show AloneRel w q p push d (lk : Int) w0 v z lk 0 w5 from ⟨[], by have := H5.out; rw [show newVM 0 push 7 d (lk : Int) = aS push d (lk : Int) w0 v lk 0 by simp [newVM, aS]; omega] at this; exact this, rfl⟩)
    clear he
    go_loopg [16] (4 + lk) (fun kq y w' => ∃ k : Nat, y = .int .i64 k ∧ k ≤ 3 + lk ∧ k + kq = 4 + lk ∧ AloneRel w q p push d (lk : Int) w0 v z lk k w')
    case atStart => exact ⟨0, rfl, Nat.zero_le _, by omega, HRel.out⟩
    case round =>
      obtain ⟨k, rfl, hk, hkq, ns, hS, hc⟩ := hrel
      have HE := Lib.hid hS
      have hnsl : ns.length ≤ 1000000000000 := by omega
      clear hS HRel
      cases gk with
      | zero => omega
      | succ kk =>
        by_cases c4 : k < 3 + lk
        · have c4b : decide ((k : Int) < 3 + lk) = true := decide_eq_true (by omega)
          obtain ⟨nt, hnt0⟩ := HST.out k c4
          have HNT := Lib.hid hnt0
          have HOKk : Hid ((aS push d (lk : Int) w0 v lk k).ok (aW w0 v z lk k).length ns.length) := Lib.hid (by rw [hc]; exact HOK.out k (by omega))
          have HOKk1 := Lib.hid (HOK.out (k + 1) (by omega))
          have HLEN : Hid (((ns ++ [nt]).length : Int) = (k : Int) + 1) := Lib.hid (by rw [List.length_append, hc]; rfl)
          have HC := Lib.hid hc
          clear hnt0 hc
          have q0 : 0 ≤ (k : Int) := by omega
          by_cases c5 : k ≤ 2
          · have c5b : decide ((2 : Int) < k) = false := decide_eq_false (by omega)
            have c6 : ¬ k = 2 + lk := by omega
            have c6b : decide ((k : Int) < 2 + lk) = true := decide_eq_true (by omega)
            have c6c : ((k : Int) == 2 + lk) = false := by simp; omega
            have HNX := Lib.hid (show (aS push d (lk : Int) w0 v lk k).step (aW w0 v z lk k) 0 = ⟨0, aS push d (lk : Int) w0 v lk (k + 1), aW w0 v z lk (k + 1), [nt]⟩ by have := HNT.out; rw [if_neg c6, show aNow k = 0 by simp [aNow, c5]] at this; exact this)
            clear c6
            go_wp2_with (first | ((have _h := H3); go_at_call 19; refine (count_st H3.out ((k : Int) + 1) HLEN.out).mono ?_; rintro e w4 ⟨rfl, rfl⟩; (have H4 := Lib.hid (H3.out)); (have HEND := H4); clear _h) | ((have _h := H2); go_at_call 16; refine (visit_met _ 1 _ 1 (k + 1) (aW w0 v z lk (k + 1)) false H2.out HOKk1.out HRx.out rfl (aS_met (by omega))).mono ?_; rintro e w3 ⟨rfl, hb⟩; (have H3 := Lib.hid (H2.out.below hb)); clear hb; clear _h) | ((have _h := H1); go_at_call 17; refine (words_pos 1 H1.out rfl (by decide)).mono ?_; rintro e w2 ⟨g, c, rfl, hc, hr, hcc, hb⟩; (have H2 := Lib.hid (H1.out.below hb)); (have HRx := Lib.hid hr); clear hc hr hcc hb; clear _h) | ((have _h := HE); go_at_call 15; refine (vstep 0 HNX.out rfl (by unfold VM.told; simp) HE.out HOKk.out hnsl).mono ?_; rintro e w1 ⟨rfl, h⟩; (have H1 := Lib.hid (h)); clear h; clear _h))
            go_roundg kk
            case measure => omega
            case rel => exact ⟨k + 1, rfl, by omega, by omega, ns ++ [nt], HEND.out, by rw [List.length_append, HC.out]; rfl⟩
          · have c5b : decide ((2 : Int) < k) = true := decide_eq_true (by omega)
            have q2 : 0 ≤ (k : Int) - 2 := by omega
            by_cases c6 : k = 2 + lk
            · have c6b : decide ((k : Int) < 2 + lk) = false := decide_eq_false (by omega)
              have c6c : ((k : Int) == 2 + lk) = true := by simp; omega
              have HNX := Lib.hid (show (aS push d (lk : Int) w0 v lk k).step (aW w0 v z lk k) ((k : Int) - 2) = ⟨4, aS push d (lk : Int) w0 v lk (k + 1), aW w0 v z lk (k + 1), [nt]⟩ by have := HNT.out; rw [if_pos c6, show aNow k = (k : Int) - 2 by simp [aNow, c5]] at this; exact this)
              clear c6
              go_wp2_with (first | ((have _h := H3); go_at_call 19; refine (count_st H3.out ((k : Int) + 1) HLEN.out).mono ?_; rintro e w4 ⟨rfl, rfl⟩; (have H4 := Lib.hid (H3.out)); (have HEND := H4); clear _h) | ((have _h := H2); go_at_call 16; refine (visit_met _ 1 _ 1 (k + 1) (aW w0 v z lk (k + 1)) false H2.out HOKk1.out HRx.out rfl (aS_met (by omega))).mono ?_; rintro e w3 ⟨rfl, hb⟩; (have H3 := Lib.hid (H2.out.below hb)); clear hb; clear _h) | ((have _h := H1); go_at_call 17; refine (words_pos 1 H1.out rfl (by decide)).mono ?_; rintro e w2 ⟨g, c, rfl, hc, hr, hcc, hb⟩; (have H2 := Lib.hid (H1.out.below hb)); (have HRx := Lib.hid hr); clear hc hr hcc hb; clear _h) | ((have _h := HE); go_at_call 15; refine (vstep 0 HNX.out rfl (by unfold VM.told; simp) HE.out HOKk.out hnsl).mono ?_; rintro e w1 ⟨rfl, h⟩; (have H1 := Lib.hid (h)); clear h; clear _h))
              go_roundg kk
              case measure => omega
              case rel => exact ⟨k + 1, rfl, by omega, by omega, ns ++ [nt], HEND.out, by rw [List.length_append, HC.out]; rfl⟩
            · have c6b : decide ((k : Int) < 2 + lk) = true := decide_eq_true (by omega)
              have c6c : ((k : Int) == 2 + lk) = false := by simp; omega
              have HNX := Lib.hid (show (aS push d (lk : Int) w0 v lk k).step (aW w0 v z lk k) ((k : Int) - 2) = ⟨0, aS push d (lk : Int) w0 v lk (k + 1), aW w0 v z lk (k + 1), [nt]⟩ by have := HNT.out; rw [if_neg c6, show aNow k = (k : Int) - 2 by simp [aNow, c5]] at this; exact this)
              clear c6
              go_wp2_with (first | ((have _h := H3); go_at_call 19; refine (count_st H3.out ((k : Int) + 1) HLEN.out).mono ?_; rintro e w4 ⟨rfl, rfl⟩; (have H4 := Lib.hid (H3.out)); (have HEND := H4); clear _h) | ((have _h := H2); go_at_call 16; refine (visit_met _ 1 _ 1 (k + 1) (aW w0 v z lk (k + 1)) false H2.out HOKk1.out HRx.out rfl (aS_met (by omega))).mono ?_; rintro e w3 ⟨rfl, hb⟩; (have H3 := Lib.hid (H2.out.below hb)); clear hb; clear _h) | ((have _h := H1); go_at_call 17; refine (words_pos 1 H1.out rfl (by decide)).mono ?_; rintro e w2 ⟨g, c, rfl, hc, hr, hcc, hb⟩; (have H2 := Lib.hid (H1.out.below hb)); (have HRx := Lib.hid hr); clear hc hr hcc hb; clear _h) | ((have _h := HE); go_at_call 15; refine (vstep 0 HNX.out rfl (by unfold VM.told; simp) HE.out HOKk.out hnsl).mono ?_; rintro e w1 ⟨rfl, h⟩; (have H1 := Lib.hid (h)); clear h; clear _h))
              go_roundg kk
              case measure => omega
              case rel => exact ⟨k + 1, rfl, by omega, by omega, ns ++ [nt], HEND.out, by rw [List.length_append, HC.out]; rfl⟩
        · obtain rfl : k = 3 + lk := by omega
          have c4b : decide (((3 + lk : Nat) : Int) < 3 + lk) = false := decide_eq_false (by omega)
          go_wp2
          have hE := HE.out
          rw [show aW w0 v z lk (3 + lk) = [z] by simp [aW]; omega] at hE
          have HD := Lib.hid hE.drew
          clear hE
          go_region_with (first | (go_at_call 17; refine (words_pos 1 HD.out rfl (by decide)).mono ?_; rintro e w20 ⟨g, c, rfl, hc, hr, hcc, hb⟩; (have k0 : w20.cell? ⟨g, 0, none⟩ = some (.int .u64 z) := hc 0 (by decide)); (have HF := Lib.hid (HD.out.below hb).bel); clear hc hr hcc hb) | (go_at_call 12; refine (slot_word_q 0 0 st2 z _ HZ.out (by decide) (by decide) (by decide) (by decide) st20 st21).mono ?_; rintro e w' ⟨rfl, rfl⟩))
          all_goals go_wp2
          all_goals go_ret
          all_goals exact ⟨rfl, HF.out⟩


theorem exchangeAlone_walk (push : Bool) (pl dl st : Int) (w : World) (h1 : (Lit.int .i64 pl).wf = true) (h2 : (Lit.int .u64 dl).wf = true) (h3 : (Lit.int .u32 st).wf = true) :
    Calls Try.prog 7 #[.bool push, .int .i64 pl, .int .u64 dl, .int .u32 st] w fun e w' => e = .returned (.bool true) ∧ Below w.heap.size w w' := by
  obtain ⟨p0, p1⟩ := rngI64 h1
  obtain ⟨d0, _⟩ := rngU64 h2
  obtain ⟨t0, t1⟩ := rngU32 h3
  obtain ⟨m0, m1⟩ := pickI_rng (c := pl) (n := 64) (by decide)
  obtain ⟨d, hd⟩ : ∃ d, dl % 100 = d := ⟨_, rfl⟩
  obtain ⟨n, hn⟩ : ∃ n, 1 + pickI pl 64 = n := ⟨_, rfl⟩
  obtain ⟨lk, hlk⟩ : ∃ lk : Nat, (lk : Int) = min n (d + 1) := ⟨(min n (d + 1)).toNat, by omega⟩
  exact alone_body push pl dl st _ d n _ _ _ _ lk w t0 t1 rfl rfl hn hd p0 p1 d0 rfl rfl rfl (by omega) (by omega) (by omega) (by omega) (by omega) (by omega) (by omega)
end Go.Proofs.Ytpkchlmoohmfeaa
