/-
  The law ElimTime: the walk.
-/
import Derived.Test.YthnjeiandfdpgaaAl
namespace Go.Proofs.Ythnjeiandfdpgaa
open Go.RowKit
set_option linter.unusedVariables false
set_option linter.unusedSimpArgs false
theorem Al.ds_nil (g : Int) (j : Nat) : Al.ds [] g j = [] := by
  cases j with
  | zero => rfl
  | succ j => show drawR [] g = []; unfold drawR; split <;> rfl
theorem time_c {W ee : Int} {c : Nat} (w0 : 0 ≤ W) (w1 : W < 30) (h0 : 1 ≤ ee) (h1 : ee ≤ 10) (hc : (c : Int) = (W + ee - 1) / ee) : c ≤ 29 ∧ W ≤ c * ee ∧ ∀ j : Nat, j < c → (j : Int) * ee < W := by
  have h : ee = 1 ∨ ee = 2 ∨ ee = 3 ∨ ee = 4 ∨ ee = 5 ∨ ee = 6 ∨ ee = 7 ∨ ee = 8 ∨ ee = 9 ∨ ee = 10 := by omega
  rcases h with rfl | rfl | rfl | rfl | rfl | rfl | rfl | rfl | rfl | rfl <;> refine ⟨by omega, by omega, fun j hj => by omega⟩

set_option maxRecDepth 20000 in
set_option maxHeartbeats 16000000 in
theorem time_body (ahead wait each W ee t0 dd : Int) (c K : Nat) (w : World) (hW : wait % 30 = W) (he : 1 + each % 10 = ee) (ht : ahead % 1000 = t0) (hc : (c : Int) = (W + ee - 1) / ee) (hK : K = c + 1) (hdd : dd = t0 + W)
    (a0 : 0 ≤ ahead) (a1 : ahead < 18446744073709551616) (b0 : 0 ≤ wait) (b1 : wait < 18446744073709551616) (c0 : 0 ≤ each) (c1 : each < 18446744073709551616) :
    Calls Try.prog 6 #[.int .u64 ahead, .int .u64 wait, .int .u64 each] w fun z w' => z = .returned (.bool true) ∧ Below w.heap.size w w' := by
  have W0 : 0 ≤ W := by omega
  have W1 : W < 30 := by omega
  have ee0 : 0 ≤ ee := by omega
  have ee2 : 1 ≤ ee := by omega
  have ee3 : ee ≤ 10 := by omega
  have ee1 : ee < 18446744073709551616 := by omega
  have t00 : 0 ≤ t0 := by omega
  have t02 : t0 < 1000 := by omega
  have t01 : t0 < 18446744073709551616 := by omega
  obtain ⟨hc1, hc2, hc3⟩ := time_c W0 W1 ee2 ee3 hc
  have hfit : (newEM 3 2 0 0 1 0 true 1 64 W).fit = true := EM.fit_iff.2 ⟨by show okC 3 2 0 = true; decide, by show ((2 : Int) == 0) = false; decide, by show pOk 1 0 2 = true; decide⟩
  have hat : atI (newEM 3 2 0 0 1 0 true 1 64 W).n (newEM 3 2 0 0 1 0 true 1 64 W).s (newEM 3 2 0 0 1 0 true 1 64 W).h 1 (drawI [] (newEM 3 2 0 0 1 0 true 1 64 W).rg) = ((8 : Nat) : Int) := by show atI 3 2 0 1 (drawI [] 1) = ((8 : Nat) : Int); decide
  have hdl : dlI t0 W = dd := by unfold dlI; omega
  have hfi : (newEM 3 2 0 0 1 0 true 1 64 W).first t0 [] = (⟨8, true, 1, dd, 64, K, 0⟩ : Al).V 0 := by
    unfold EM.first
    rw [hat, show dlI t0 (newEM 3 2 0 0 1 0 true 1 64 W).wait = dd from hdl]
    rfl
  have HST : Hid (∀ (s : Nat) (now : Int), s ≤ K + 2 → (s = 0 → now = t0) → (∀ j, s = j + 2 → now = t0 + j * ee) → ((⟨8, true, 1, dd, 64, K, 0⟩ : Al).E (newEM 3 2 0 0 1 0 true 1 64 W) s).step ((⟨8, true, 1, dd, 64, K, 0⟩ : Al).W (frL 0 3 3 2 10) s) now [] = ⟨if s = K + 2 then 4 else 0, 0, (⟨8, true, 1, dd, 64, K, 0⟩ : Al).E (newEM 3 2 0 0 1 0 true 1 64 W) (s + 1), (⟨8, true, 1, dd, 64, K, 0⟩ : Al).W (frL 0 3 3 2 10) (s + 1), [(⟨8, true, 1, dd, 64, K, 0⟩ : Al).nt s], []⟩) := Lib.hid (fun s now hs h0 hj => by
    have := Al.stepE (⟨8, true, 1, dd, 64, K, 0⟩ : Al) (S := (newEM 3 2 0 0 1 0 true 1 64 W)) (ws := (frL 0 3 3 2 10)) (ds := []) (now := now) (i := s) (show rdW (frL 0 3 3 2 10) 8 = 0 by decide) (show 8 < 10 by decide) (show sSt 0 = 0 by decide) (show 1 ≤ K by omega) rfl rfl hfit hat (by
      by_cases c : s = 0
      · rw [h0 c]
        exact .inl hfi
      · exact .inr (by omega)) hs ⟨fun j h1 h2 => ⟨show (j : Int) + 1 < max 64 1 by have h3 : j + 1 < K := h2; omega, show now < dd by
        have h3 : j + 1 < K := h2
        have h4 := hc3 j (by omega)
        rw [hj j h1]
        omega⟩, fun h1 => .inr (show dd ≤ now by
        have h1 : s = K + 1 := h1
        obtain ⟨j, rfl⟩ : ∃ j, s = j + 2 := ⟨K - 1, by omega⟩
        have h5 : j = c := by omega
        rw [hj j rfl, h5]
        omega)⟩
    rw [Al.ds_nil, Al.ds_nil] at this
    exact this)
  have hg0 : EGood 10 0 ((⟨8, true, 1, dd, 64, K, 0⟩ : Al).E (newEM 3 2 0 0 1 0 true 1 64 W) 0) ((⟨8, true, 1, dd, 64, K, 0⟩ : Al).W (frL 0 3 3 2 10) 0) ((⟨8, true, 1, dd, 64, K, 0⟩ : Al).ns 0) [] := ⟨newEM_ok 10 0 (by decide) (by decide) (by decide) (by decide) W0 (by omega), frL_len _ _ _ _ _, (fun d hd => by cases hd), Nat.le_refl _⟩
  have he0 := HST.out 0 t0 (by omega) (fun _ => rfl) (fun j h => by omega)
  rw [if_neg (by omega)] at he0
  have he1 := HST.out 1 t0 (by omega) (fun h => by omega) (fun j h => by omega)
  rw [if_neg (by omega)] at he1
  have hrg := rngOf (frL_rng (t := 0) (nn := 3) (i := 3) (k := 2) (N := 10) (by decide) (by decide) (by decide))
  have hg1 := hg0.step t00 t01 hrg he0
  rw [Al.ns_succ] at hg1
  have hg2 := hg1.step t00 t01 hrg he1
  rw [Al.ns_succ] at hg2
  have HE0 := Lib.hid he0
  have HE1 := Lib.hid he1
  have HN0 : Hid (([] : List Note) ++ [(⟨8, true, 1, dd, 64, K, 0⟩ : Al).nt 0] = (⟨8, true, 1, dd, 64, K, 0⟩ : Al).ns 1) := Lib.hid rfl
  have HN1 : Hid ((⟨8, true, 1, dd, 64, K, 0⟩ : Al).ns 1 ++ [(⟨8, true, 1, dd, 64, K, 0⟩ : Al).nt 1] = (⟨8, true, 1, dd, 64, K, 0⟩ : Al).ns 2) := Lib.hid rfl
  have HOK0 : Hid ((newEM 3 2 0 0 1 0 true 1 64 W).ok ((frL 0 3 3 2 10)).length ([] : List Note).length) := Lib.hid hg0.ok
  have HOK1 : Hid (((⟨8, true, 1, dd, 64, K, 0⟩ : Al).E (newEM 3 2 0 0 1 0 true 1 64 W) 1).ok ((⟨8, true, 1, dd, 64, K, 0⟩ : Al).W (frL 0 3 3 2 10) 1).length ((⟨8, true, 1, dd, 64, K, 0⟩ : Al).ns 1).length) := Lib.hid (by rw [hg1.len]; exact hg1.ok)
  have HG2 : Hid (EGood 10 2 ((⟨8, true, 1, dd, 64, K, 0⟩ : Al).E (newEM 3 2 0 0 1 0 true 1 64 W) 2) ((⟨8, true, 1, dd, 64, K, 0⟩ : Al).W (frL 0 3 3 2 10) 2) ((⟨8, true, 1, dd, 64, K, 0⟩ : Al).ns 2) []) := Lib.hid hg2
  have HT0 : Hid (dlI 0 t0 = t0) := Lib.hid (by unfold dlI; omega)
  have HAT : Hid (atI 3 2 0 1 0 = 8) := Lib.hid (by decide)
  obtain ⟨v, hv⟩ : ∃ v, (⟨8, true, 1, dd, 64, K, 0⟩ : Al).v = v := ⟨_, rfl⟩
  have HWVA : Hid (∀ j, j ≤ K → rdW ((⟨8, true, 1, dd, 64, K, 0⟩ : Al).W (frL 0 3 3 2 10) (j + 2)) 8 = v) := Lib.hid (fun j hj => by
    have e : (⟨8, true, 1, dd, 64, K, 0⟩ : Al).W (frL 0 3 3 2 10) (j + 2) = ((frL 0 3 3 2 10)).set 8 (⟨8, true, 1, dd, 64, K, 0⟩ : Al).v := if_pos (show j ≤ K from hj)
    rw [e, rdW_set _ _ _ (show 8 < 10 by decide), hv])
  have HWLA : Hid (∀ j, ((⟨8, true, 1, dd, 64, K, 0⟩ : Al).W (frL 0 3 3 2 10) j).length = 10) := Lib.hid (fun j => by rw [Al.W_len, frL_len])
  have HRE : Hid (((⟨8, true, 1, dd, 64, K, 0⟩ : Al).E (newEM 3 2 0 0 1 0 true 1 64 W) (K + 3)).rg = 1 ∧ ((⟨8, true, 1, dd, 64, K, 0⟩ : Al).E (newEM 3 2 0 0 1 0 true 1 64 W) (K + 3)).ex = 1) := Lib.hid (by
    have e : (⟨8, true, 1, dd, 64, K, 0⟩ : Al).E (newEM 3 2 0 0 1 0 true 1 64 W) (K + 3) = { (newEM 3 2 0 0 1 0 true 1 64 W) with pl := 8, V := some ((⟨8, true, 1, dd, 64, K, 0⟩ : Al).V (K + 3)), en := 4, rg := pAr 1 2 4, ex := pAe 0 4 } := if_pos rfl
    rw [e]
    exact ⟨by show pAr 1 2 4 = 1; decide, by show pAe 0 4 = 1; decide⟩)
  have hq : ∀ w, (binOp .eql 23 (polV 1 1) (polV 1 1)).run Try.prog w = .ok (.bool true) w := fun w => polEq 1 1 1 1 w
  have y1 : (1 + each % 10) % 18446744073709551616 = ee := by omega
  have y2 : (W + ee) % 18446744073709551616 = W + ee := by omega
  have y3 : (W + ee - 1) % 18446744073709551616 = W + ee - 1 := by omega
  have y4 : (W + ee - 1) / ee = (c : Int) := hc.symm
  have y5 : ¬ ee = 0 := by omega
  have K31 : K ≤ 30 := by omega
  clear hg0 he0 he1 hrg hg1 hg2 hfit hat hfi hdl hv hc1 hc2 hc3 hc hdd
  have H := Lib.hid (St.nil w)
  go_enter Try.func6, Try.ntmps6
  go_wp2_with (first | ((have _h := H6); go_at_call 15; refine (estep HE1.out HN1.out H6.out HOK1.out (fun d hd => by cases hd) t00 t01 (by simp [Al.ns])).mono ?_; rintro e w7 ⟨rfl, h⟩; (have H7 := Lib.hid (h)); clear h; clear q0 q1 q2 q3; (obtain ⟨q0, q1, q2, q3⟩ := cells4 (H7.out.cells 3 rfl)); clear _h) | ((have _h := H5); go_at_call 15; refine (estep HE0.out HN0.out H5.out HOK0.out (fun d hd => by cases hd) t00 t01 (by simp [Al.ns])).mono ?_; rintro e w6 ⟨rfl, h⟩; (have H6 := Lib.hid (h)); clear h; clear q0 q1 q2 q3; (obtain ⟨q0, q1, q2, q3⟩ := cells4 (H6.out.cells 3 rfl)); clear _h) | ((have _h := H4); go_at_call 25; refine (src_tick t0 t0 (H4.out.front 1 rfl) (by decide) (by decide) t00 t01 HT0.out).mono ?_; rintro e w5 ⟨rfl, h⟩; (have H5 := Lib.hid (h.front 1 rfl)); clear h; clear q0 q1 q2 q3; (obtain ⟨q0, q1, q2, q3⟩ := cells4 (H5.out.cells 3 rfl)); clear _h) | ((have _h := H3); go_at_call 13; refine (em_new 3 2 0 0 1 0 true 1 64 W H3.out).mono ?_; rintro e w4 ⟨p, rfl, h⟩; (have H4 := Lib.hid (h)); clear h; clear q0 q1 q2 q3; (obtain ⟨q0, q1, q2, q3⟩ := cells4 (H4.out.cells 3 rfl)); clear _h) | ((have _h := H2); go_at_call 12; refine (src_new H2.out).mono ?_; rintro e w3 ⟨r, rfl, h⟩; (have H3 := Lib.hid (h.swap)); clear h; clear q0 q1 q2 q3; (obtain ⟨q0, q1, q2, q3⟩ := cells4 (H3.out.cells 2 rfl)); clear _h) | ((have _h := H1); go_at_call 11; refine (begun_ok 3 2 0 0 0 10 (H1.out.alloc #[.int .i64 3, .int .i64 2, .int .i64 0, .int .u32 0] 28) (by decide) rfl (by decide) (by decide) (by decide)).mono ?_; rintro e w2 ⟨q, rfl, h⟩; (have H2 := Lib.hid (h)); clear h; (obtain ⟨q0, q1, q2, q3⟩ := cells4 (H2.out.cells 1 rfl)); clear _h) | ((have _h := H); go_at_call 9; refine (shown12 _).mono ?_; rintro e w1 ⟨rfl, hb⟩; (have H1 := Lib.hid (H.out.below hb)); clear hb; clear _h))
  have HS0 : Hid (St w (memA q ((⟨8, true, 1, dd, 64, K, 0⟩ : Al).W (frL 0 3 3 2 10) (0 + 2)) ((⟨8, true, 1, dd, 64, K, 0⟩ : Al).ns (0 + 2)) :: srcA r (t0 + ((0 : Nat) : Int) * ee) [] :: emA p ((⟨8, true, 1, dd, 64, K, 0⟩ : Al).E (newEM 3 2 0 0 1 0 true 1 64 W) (0 + 2)) :: [boxA w1.heap.size #[.int .i64 3, .int .i64 2, .int .i64 0, .int .u32 0] 28]) w7) := Lib.hid (by
    have := H7.out
    rw [show t0 + ((0 : Nat) : Int) * ee = t0 by simp]
    exact this)
  generalize w1.heap.size = bc at *
  clear H1 H2 H3 H4 H5 H6 H7 q0 q1 q2 q3
  go_loopg [14, 15] 71 (fun kq y z w' => ∃ j : Nat, y = .int .i64 j ∧ z = .int .i64 j ∧ j ≤ K ∧ j + kq = 71 ∧ EGood 10 (j + 2) ((⟨8, true, 1, dd, 64, K, 0⟩ : Al).E (newEM 3 2 0 0 1 0 true 1 64 W) (j + 2)) ((⟨8, true, 1, dd, 64, K, 0⟩ : Al).W (frL 0 3 3 2 10) (j + 2)) ((⟨8, true, 1, dd, 64, K, 0⟩ : Al).ns (j + 2)) [] ∧ St w (memA q ((⟨8, true, 1, dd, 64, K, 0⟩ : Al).W (frL 0 3 3 2 10) (j + 2)) ((⟨8, true, 1, dd, 64, K, 0⟩ : Al).ns (j + 2)) :: srcA r (t0 + (j : Int) * ee) [] :: emA p ((⟨8, true, 1, dd, 64, K, 0⟩ : Al).E (newEM 3 2 0 0 1 0 true 1 64 W) (j + 2)) :: [boxA bc #[.int .i64 3, .int .i64 2, .int .i64 0, .int .u32 0] 28]) w')
  case atStart => exact ⟨0, rfl, rfl, by omega, by decide, HG2.out, HS0.out⟩
  case round =>
    obtain ⟨j, rfl, rfl, hj, hkq, hg, hS⟩ := hrel
    clear HS0 HG2
    have c70 : decide ((j : Int) < 70) = true := decide_eq_true (by omega)
    have hje : 0 ≤ (j : Int) * ee ∧ (j : Int) * ee ≤ 30 * 10 := ⟨Int.mul_nonneg (by omega) (by omega), Int.mul_le_mul (by omega) (by omega) (by omega) (by omega)⟩
    obtain ⟨nw, hnw⟩ : ∃ nw, t0 + (j : Int) * ee = nw := ⟨_, rfl⟩
    have n0 : 0 ≤ nw := by omega
    have n1 : nw < 18446744073709551616 := by omega
    obtain ⟨nw2, hnw2⟩ : ∃ nw2, t0 + ((j + 1 : Nat) : Int) * ee = nw2 := ⟨_, rfl⟩
    have hs2 : nw2 = nw + ee := by rw [← hnw2, ← hnw, Int.natCast_add, Int.add_mul]; simp; omega
    have HN2 : Hid (dlI nw ee = nw2) := Lib.hid (by unfold dlI; omega)
    have HNW2 := Lib.hid hnw2
    obtain ⟨a0, ha0⟩ : ∃ a0 : Int, (if j = K then (4 : Int) else 0) = a0 := ⟨_, rfl⟩
    have hst := HST.out (j + 2) nw (by omega) (fun h => by omega) (fun j' h => by
      obtain rfl : j = j' := by omega
      exact hnw.symm)
    have HGN : Hid (EGood 10 (j + 2 + 1) ((⟨8, true, 1, dd, 64, K, 0⟩ : Al).E (newEM 3 2 0 0 1 0 true 1 64 W) (j + 2 + 1)) ((⟨8, true, 1, dd, 64, K, 0⟩ : Al).W (frL 0 3 3 2 10) (j + 2 + 1)) ((⟨8, true, 1, dd, 64, K, 0⟩ : Al).ns (j + 2 + 1)) []) := Lib.hid (by
      have := hg.step n0 n1 (fun j hj => hS.rng hj) hst
      rw [Al.ns_succ] at this
      exact this)
    rw [show (if j + 2 = K + 2 then (4 : Int) else 0) = a0 from by
      rw [← ha0]
      by_cases c : j = K
      · rw [if_pos c, if_pos (by omega)]
      · rw [if_neg c, if_neg (by omega)]] at hst
    have HE := Lib.hid hst
    have HA0 := Lib.hid ha0
    have HOKS : Hid (((⟨8, true, 1, dd, 64, K, 0⟩ : Al).E (newEM 3 2 0 0 1 0 true 1 64 W) (j + 2)).ok ((⟨8, true, 1, dd, 64, K, 0⟩ : Al).W (frL 0 3 3 2 10) (j + 2)).length ((⟨8, true, 1, dd, 64, K, 0⟩ : Al).ns (j + 2)).length) := Lib.hid (by rw [hg.len]; exact hg.ok)
    have hkl : ((⟨8, true, 1, dd, 64, K, 0⟩ : Al).ns (j + 2)).length ≤ 1000000000000 := by rw [Al.ns_len]; omega
    have HNS := Lib.hid (Al.ns_succ (⟨8, true, 1, dd, 64, K, 0⟩ : Al) (j + 2))
    have HWV := Lib.hid (HWVA.out j hj)
    have HWL := Lib.hid (HWLA.out (j + 2))
    have HWN : Hid (j < K → rdW ((⟨8, true, 1, dd, 64, K, 0⟩ : Al).W (frL 0 3 3 2 10) (j + 2 + 1)) 8 = v) := Lib.hid (fun h => HWVA.out (j + 1) (by omega))
    have HWLN := Lib.hid (HWLA.out (j + 2 + 1))
    rw [hnw] at hS
    have HS := Lib.hid hS
    have HBD := Lib.hid (Below.refl wr.heap.size wr).drew
    have HCS : Hid (∀ w', Below wr.heap.size wr w' → w'.cell? ⟨bc, 0, none⟩ = some (.int .i64 3) ∧ w'.cell? ⟨bc, 1, none⟩ = some (.int .i64 2) ∧ w'.cell? ⟨bc, 2, none⟩ = some (.int .i64 0) ∧ w'.cell? ⟨bc, 3, none⟩ = some (.int .u32 0)) := Lib.hid (fun w' hb => cells4 ((HS.out.below hb).cells 3 rfl))
    clear hst ha0 hg hS hnw hnw2 hs2 hje
    cases gk with
    | zero => omega
    | succ kk =>
      go_wp2
      refine wp_region_held_drew (S := (fun w' => w'.cell? ⟨bc, 0, none⟩ = some (.int .i64 3) ∧ w'.cell? ⟨bc, 1, none⟩ = some (.int .i64 2) ∧ w'.cell? ⟨bc, 2, none⟩ = some (.int .i64 0) ∧ w'.cell? ⟨bc, 3, none⟩ = some (.int .u32 0))) (by kernel_rfl) ?_ (fun hHeld0 => ?_)
      · first | exact HCS.out _ HBD.out | exact HCS.out _ (Below.refl _ _)
      refine wpAnyH_take (i := 0) (v := ?_) rfl (by kernel_rfl) (by kernel_rfl) (by kernel_rfl) (fun _ _ _ h => h) (Or.inl ⟨by rfl, ?_⟩) hHeld0 ?_
      rotate_left
      · intro w hSw
        (try dsimp only at hSw)
        go_simp
        try (first | (with_reducible rfl) | rfl)
      try simp only [List.getElem_toArray, List.getElem_cons_zero, List.getElem_cons_succ, Act.put, List.setIfInBounds_toArray, List.set_cons_zero, List.set_cons_succ]
      refine wpAnyH_take (i := 2) (v := ?_) rfl (by kernel_rfl) (by kernel_rfl) (by kernel_rfl) (fun _ _ _ h => h) (Or.inl ⟨by rfl, ?_⟩) hHeld0 ?_
      rotate_left
      · intro w hSw
        (try dsimp only at hSw)
        go_simp
        try (first | (with_reducible rfl) | rfl)
      try simp only [List.getElem_toArray, List.getElem_cons_zero, List.getElem_cons_succ, Act.put, List.setIfInBounds_toArray, List.set_cons_zero, List.set_cons_succ]
      refine wpAnyH_ready (rs := [1]) (by kernel_rfl) (by simp) ?_
      refine AllReadyH.cons rfl (fun K hK => ?_) ?_
      · go_simp
        (go_at_call 21; refine (words_pos 10 (HS.out.below HBD.out) HWL.out (by decide)).mono ?_; rintro e wq ⟨gw, cw, rfl, hcw, _, _, hb⟩; (have HRW := Lib.hid (show ∀ w', Below wq.heap.size wq w' → w'.cell? ⟨gw, 8, none⟩ = some (.int .u64 v) from fun w' hb => by have := hcw 8 (by decide); rw [HWV.out] at this; exact (hb.cell (World.block_lt_of_cell? _ _ this)).trans this)); (have HB4 := Lib.hid (Below.refl wq.heap.size wq)); (have kx := HRW.out _ HB4.out); clear hcw; (have HZ2 := Lib.hid (HBD.out.trans (hb.mono HBD.out.size))); clear hb HBD; (have HBD := HZ2); clear HZ2)
        go_wp2_with fail
        refine hK.out _ _ ?_ (fun hHeld2_1 => ?_)
        · first | exact HCS.out _ HBD.out | exact HCS.out _ (Below.refl _ _)
        clear hK K
        try simp only [List.getElem_toArray, List.getElem_cons_zero, List.getElem_cons_succ, Act.put, List.setIfInBounds_toArray, List.set_cons_zero, List.set_cons_succ]
        refine wpAnyH_ready (rs := [3]) (by kernel_rfl) (by simp) ?_
        refine AllReadyH.cons rfl (fun K hK => ?_) ?_
        · go_simp
          (go_at_call 23; refine (slot_any 3 2 0 0 0 _).mono ?_; rintro e w' ⟨rfl, hb⟩; rw [HAT.out]; (try (have HZ3 := Lib.hid (HB4.out.trans (hb.mono HB4.out.size)); clear HB4 kx; have HB4 := HZ3; clear HZ3; have kx := HRW.out _ HB4.out)); (have HZ2 := Lib.hid (HBD.out.trans (hb.mono HBD.out.size))); clear hb HBD; (have HBD := HZ2); clear HZ2)
          go_wp2_with fail
          refine hK.out _ _ ?_ (fun hHeld3_3 => ?_)
          · first | exact HCS.out _ HBD.out | exact HCS.out _ (Below.refl _ _)
          clear hK K
          try simp only [List.getElem_toArray, List.getElem_cons_zero, List.getElem_cons_succ, Act.put, List.setIfInBounds_toArray, List.set_cons_zero, List.set_cons_succ]
          refine wpAnyH_take (i := 4) (v := ?_) rfl (by kernel_rfl) (by kernel_rfl) (by kernel_rfl) (fun _ _ _ h => h) (Or.inl ⟨by rfl, ?_⟩) hHeld3_3 ?_
          rotate_left
          · intro w hSw
            (try dsimp only at hSw)
            go_simp
            try (first | (with_reducible rfl) | rfl)
          try simp only [List.getElem_toArray, List.getElem_cons_zero, List.getElem_cons_succ, Act.put, List.setIfInBounds_toArray, List.set_cons_zero, List.set_cons_succ]
          refine wpAnyH_ready (rs := [5]) (by kernel_rfl) (by simp) ?_
          refine AllReadyH.cons rfl (fun K hK => ?_) ?_
          · go_simp
            refine hK.out _ _ ?_ (fun hHeld5_5 => ?_)
            · first | exact HCS.out _ HBD.out | exact HCS.out _ (Below.refl _ _)
            clear hK K
            try simp only [List.getElem_toArray, List.getElem_cons_zero, List.getElem_cons_succ, Act.put, List.setIfInBounds_toArray, List.set_cons_zero, List.set_cons_succ]
            refine wpAnyH_take (i := 6) (v := ?_) rfl (by kernel_rfl) (by kernel_rfl) (by kernel_rfl) (fun _ _ _ h => h) (Or.inl ⟨by rfl, ?_⟩) hHeld5_5 ?_
            rotate_left
            · intro w hSw
              (try dsimp only at hSw)
              go_simp
              try (first | (with_reducible rfl) | rfl)
            try simp only [List.getElem_toArray, List.getElem_cons_zero, List.getElem_cons_succ, Act.put, List.setIfInBounds_toArray, List.set_cons_zero, List.set_cons_succ]
            refine wpAnyH_done (by kernel_rfl) ?_ _
            have H8 := Lib.hid (HS.out.below HBD.out)
            clear HBD HCS
            by_cases c4 : j < K
            · have ea : a0 = 0 := by rw [← HA0.out, if_neg (by omega)]
              subst ea
              go_wp2_with (go_at_call 15; refine (estep HE.out HNS.out H8.out HOKS.out (fun d hd => by cases hd) n0 n1 hkl).mono ?_; rintro e w8 ⟨rfl, h⟩; (have HT := Lib.hid h); clear h)
              have HBD := Lib.hid (Below.refl w8.heap.size w8).drew
              have HCS : Hid (∀ w', Below w8.heap.size w8 w' → w'.cell? ⟨bc, 0, none⟩ = some (.int .i64 3) ∧ w'.cell? ⟨bc, 1, none⟩ = some (.int .i64 2) ∧ w'.cell? ⟨bc, 2, none⟩ = some (.int .i64 0) ∧ w'.cell? ⟨bc, 3, none⟩ = some (.int .u32 0)) := Lib.hid (fun w' hb => cells4 ((HT.out.below hb).cells 3 rfl))
              refine wp_region_held_drew (S := (fun w' => w'.cell? ⟨bc, 0, none⟩ = some (.int .i64 3) ∧ w'.cell? ⟨bc, 1, none⟩ = some (.int .i64 2) ∧ w'.cell? ⟨bc, 2, none⟩ = some (.int .i64 0) ∧ w'.cell? ⟨bc, 3, none⟩ = some (.int .u32 0))) (by kernel_rfl) ?_ (fun hHeld0 => ?_)
              · first | exact HCS.out _ HBD.out | exact HCS.out _ (Below.refl _ _)
              refine wpAnyH_take (i := 0) (v := ?_) rfl (by kernel_rfl) (by kernel_rfl) (by kernel_rfl) (fun _ _ _ h => h) (Or.inl ⟨by rfl, ?_⟩) hHeld0 ?_
              rotate_left
              · intro w hSw
                (try dsimp only at hSw)
                go_simp
                try (first | (with_reducible rfl) | rfl)
              try simp only [List.getElem_toArray, List.getElem_cons_zero, List.getElem_cons_succ, Act.put, List.setIfInBounds_toArray, List.set_cons_zero, List.set_cons_succ]
              refine wpAnyH_take (i := 2) (v := ?_) rfl (by kernel_rfl) (by kernel_rfl) (by kernel_rfl) (fun _ _ _ h => h) (Or.inl ⟨by rfl, ?_⟩) hHeld0 ?_
              rotate_left
              · intro w hSw
                (try dsimp only at hSw)
                go_simp
                try (first | (with_reducible rfl) | rfl)
              try simp only [List.getElem_toArray, List.getElem_cons_zero, List.getElem_cons_succ, Act.put, List.setIfInBounds_toArray, List.set_cons_zero, List.set_cons_succ]
              refine wpAnyH_take (i := 6) (v := ?_) rfl (by kernel_rfl) (by kernel_rfl) (by kernel_rfl) (fun _ _ _ h => h) (Or.inl ⟨by rfl, ?_⟩) hHeld0 ?_
              rotate_left
              · intro w hSw
                (try dsimp only at hSw)
                go_simp
                try (first | (with_reducible rfl) | rfl)
              try simp only [List.getElem_toArray, List.getElem_cons_zero, List.getElem_cons_succ, Act.put, List.setIfInBounds_toArray, List.set_cons_zero, List.set_cons_succ]
              refine wpAnyH_ready (rs := [1]) (by kernel_rfl) (by simp) ?_
              refine AllReadyH.cons rfl (fun K hK => ?_) ?_
              · go_simp
                (go_at_call 21; refine (words_pos 10 (HT.out.below HBD.out) HWLN.out (by decide)).mono ?_; rintro e wq ⟨gw, cw, rfl, hcw, _, _, hb⟩; (have HRW := Lib.hid (show ∀ w', Below wq.heap.size wq w' → w'.cell? ⟨gw, 8, none⟩ = some (.int .u64 v) from fun w' hb => by have := hcw 8 (by decide); rw [(HWN.out c4)] at this; exact (hb.cell (World.block_lt_of_cell? _ _ this)).trans this)); (have HB4 := Lib.hid (Below.refl wq.heap.size wq)); (have kx := HRW.out _ HB4.out); clear hcw; (have HZ2 := Lib.hid (HBD.out.trans (hb.mono HBD.out.size))); clear hb HBD; (have HBD := HZ2); clear HZ2)
                go_wp2_with fail
                refine hK.out _ _ ?_ (fun hHeld3_1 => ?_)
                · first | exact HCS.out _ HBD.out | exact HCS.out _ (Below.refl _ _)
                clear hK K
                try simp only [List.getElem_toArray, List.getElem_cons_zero, List.getElem_cons_succ, Act.put, List.setIfInBounds_toArray, List.set_cons_zero, List.set_cons_succ]
                refine wpAnyH_ready (rs := [3]) (by kernel_rfl) (by simp) ?_
                refine AllReadyH.cons rfl (fun K hK => ?_) ?_
                · go_simp
                  (go_at_call 23; refine (slot_any 3 2 0 0 0 _).mono ?_; rintro e w' ⟨rfl, hb⟩; rw [HAT.out]; (try (have HZ3 := Lib.hid (HB4.out.trans (hb.mono HB4.out.size)); clear HB4 kx; have HB4 := HZ3; clear HZ3; have kx := HRW.out _ HB4.out)); (have HZ2 := Lib.hid (HBD.out.trans (hb.mono HBD.out.size))); clear hb HBD; (have HBD := HZ2); clear HZ2)
                  go_wp2_with fail
                  refine hK.out _ _ ?_ (fun hHeld4_3 => ?_)
                  · first | exact HCS.out _ HBD.out | exact HCS.out _ (Below.refl _ _)
                  clear hK K
                  try simp only [List.getElem_toArray, List.getElem_cons_zero, List.getElem_cons_succ, Act.put, List.setIfInBounds_toArray, List.set_cons_zero, List.set_cons_succ]
                  refine wpAnyH_take (i := 4) (v := ?_) rfl (by kernel_rfl) (by kernel_rfl) (by kernel_rfl) (fun _ _ _ h => h) (Or.inl ⟨by rfl, ?_⟩) hHeld4_3 ?_
                  rotate_left
                  · intro w hSw
                    (try dsimp only at hSw)
                    go_simp
                    try (first | (with_reducible rfl) | rfl)
                  try simp only [List.getElem_toArray, List.getElem_cons_zero, List.getElem_cons_succ, Act.put, List.setIfInBounds_toArray, List.set_cons_zero, List.set_cons_succ]
                  refine wpAnyH_ready (rs := [5]) (by kernel_rfl) (by simp) ?_
                  refine AllReadyH.cons rfl (fun K hK => ?_) ?_
                  · go_simp
                    refine hK.out _ _ ?_ (fun hHeld6_5 => ?_)
                    · first | exact HCS.out _ HBD.out | exact HCS.out _ (Below.refl _ _)
                    clear hK K
                    try simp only [List.getElem_toArray, List.getElem_cons_zero, List.getElem_cons_succ, Act.put, List.setIfInBounds_toArray, List.set_cons_zero, List.set_cons_succ]
                    refine wpAnyH_take (i := 7) (v := ?_) rfl (by kernel_rfl) (by kernel_rfl) (by kernel_rfl) (fun _ _ _ h => h) (Or.inl ⟨by rfl, ?_⟩) hHeld6_5 ?_
                    rotate_left
                    · intro w hSw
                      (try dsimp only at hSw)
                      go_simp
                      try (first | (with_reducible rfl) | rfl)
                    try simp only [List.getElem_toArray, List.getElem_cons_zero, List.getElem_cons_succ, Act.put, List.setIfInBounds_toArray, List.set_cons_zero, List.set_cons_succ]
                    refine wpAnyH_done (by kernel_rfl) ?_ _
                    have H9 := Lib.hid (HT.out.below HBD.out)
                    go_wp2_with (go_at_call 25; refine (src_tick ee nw2 (H9.out.front 1 rfl) n0 n1 ee0 ee1 HN2.out).mono ?_; rintro e w9 ⟨rfl, h⟩; (have HU := Lib.hid (h.front 1 rfl)); clear h)
                    go_roundg kk
                    case measure => omega
                    case rel => exact ⟨j + 1, rfl, rfl, by omega, by omega, HGN.out, by
                      have := HU.out
                      rw [← HNW2.out] at this
                      exact this⟩
                  exact AllReadyH.nil
                exact AllReadyH.nil
              exact AllReadyH.nil
            · obtain rfl : j = K := by omega
              have ea : a0 = 4 := by rw [← HA0.out]; exact if_pos rfl
              subst ea
              go_wp2_with (first | ((have _h := HT); go_at_call 18; refine (e_stateV HT.out 2 rfl 1 1 HRE.out.1 HRE.out.2).mono ?_; rintro e w9 ⟨rfl, hb⟩; (have H9 := Lib.hid (HT.out.below hb)); clear hb _h) | (go_at_call 15; refine (estep HE.out HNS.out H8.out HOKS.out (fun d hd => by cases hd) n0 n1 hkl).mono ?_; rintro e w8 ⟨rfl, h⟩; (have HT := Lib.hid h); clear h))
              go_ret
              exact ⟨rfl, H9.out.bel⟩
          exact AllReadyH.nil
        exact AllReadyH.nil
      exact AllReadyH.nil

theorem elimTime_walk (ahead wait each : Int) (w : World) (h1 : (Lit.int .u64 ahead).wf = true) (h2 : (Lit.int .u64 wait).wf = true) (h3 : (Lit.int .u64 each).wf = true) :
    Calls Try.prog 6 #[.int .u64 ahead, .int .u64 wait, .int .u64 each] w fun z w' => z = .returned (.bool true) ∧ Below w.heap.size w w' := by
  obtain ⟨a0, a1⟩ := rngU64 h1
  obtain ⟨b0, b1⟩ := rngU64 h2
  obtain ⟨c0, c1⟩ := rngU64 h3
  have hq : 0 ≤ (wait % 30 + (1 + each % 10) - 1) / (1 + each % 10) := Int.ediv_nonneg (by omega) (by omega)
  obtain ⟨c, hc⟩ := Int.eq_ofNat_of_zero_le hq
  exact time_body ahead wait each _ _ _ _ c (c + 1) w rfl rfl rfl hc.symm rfl rfl a0 a1 b0 b1 c0 c1
end Go.Proofs.Ythnjeiandfdpgaa
