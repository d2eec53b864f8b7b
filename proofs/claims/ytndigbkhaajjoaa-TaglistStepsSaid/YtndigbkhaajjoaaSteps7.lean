/-
  The law TaglistSteps: the walk.
-/
import Derived.Test.YtndigbkhaajjoaaDuo7
import Derived.Deep.DeepCutAuto
import Derived.Deep.RegionHeld3
namespace Go.Proofs.Ytndigbkhaajjoaa
open Go.RowKit
set_option linter.unusedVariables false
set_option linter.unusedSimpArgs false

set_option maxHeartbeats 16000000 in
set_option maxRecDepth 100000 in
theorem tsteps_near_none (gn gs gh gt : Int) (A : Option Addr) (N c : Nat) (B : Option Addr) (m cb : Nat) (D : Option Addr) (t cd : Nat) (w : World) (hN : N ≤ maxLen) (hm : m ≤ maxLen) (ht : t ≤ maxLen) (ws : List Int) (hr : RdU w A ws) (hws : ws.length = N) (hv : ∀ x ∈ ws, 0 ≤ x ∧ x < 18446744073709551616) (hN1 : N ≤ 1024) (h0 : m = 0) :
    Calls Try.prog 4 #[.agg #[.int .i64 gn, .int .i64 gs, .int .i64 gh, .int .u32 gt], .slice A N c, .slice B m cb, .slice D t cd] w fun e w' => e = .returned (.bool true) ∧ Below w.heap.size w w' := by
  unfold maxLen at hN hm ht
  subst h0
  have b0 : (((0 : Nat) : Int) == 0) = true := rfl
  have bN : decide ((1024 : Int) < N) = false := decide_eq_false (by omega)
  have HR := Lib.hid hr
  have HWS := Lib.hid hws
  have HV := Lib.hid hv
  clear hr hws hv
  have H := Lib.hid ((St.nil w).alloc #[.int .i64 gn, .int .i64 gs, .int .i64 gh, .int .u32 gt] 26)
  obtain ⟨q0, q1, q2, q3⟩ := cells4 (H.out.cells 0 rfl)
  go_enter Try.func4, Try.ntmps4
  go_wp2_with (first | ((have _h := H2); go_at_call 27; refine (rnew_st H2.out A c N ws (HR.out.kept H2.out.bel) hN1 HV.out HWS.out).mono ?_; rintro e w3 ⟨y, rfl, h⟩; (have H3 := Lib.hid (h)); clear h; clear q0 q1 q2 q3; (obtain ⟨q0, q1, q2, q3⟩ := cells4 (H3.out.cells 2 rfl)); clear _h) | ((have _h := H1); go_at_call 26; refine (new_st H1.out A c N ws (HR.out.kept H1.out.bel) hN1 HV.out HWS.out).mono ?_; rintro e w2 ⟨q, rfl, h⟩; (have H2 := Lib.hid (h)); clear h; clear q0 q1 q2 q3; (obtain ⟨q0, q1, q2, q3⟩ := cells4 (H2.out.cells 1 rfl)); clear _h) | ((have _h := H); go_at_call 25; refine (shown7 _).mono ?_; rintro e w1 ⟨rfl, hb⟩; (have H1 := Lib.hid (H.out.below hb)); clear hb; clear q0 q1 q2 q3; (obtain ⟨q0, q1, q2, q3⟩ := cells4 (H1.out.cells 0 rfl)); clear _h))
  go_ret
  exact ⟨rfl, H3.out.bel⟩
set_option maxHeartbeats 16000000 in
set_option maxRecDepth 100000 in
theorem tsteps_near_many (gn gs gh gt : Int) (A : Option Addr) (N c : Nat) (B : Option Addr) (m cb : Nat) (D : Option Addr) (t cd : Nat) (w : World) (hN : N ≤ maxLen) (hm : m ≤ maxLen) (ht : t ≤ maxLen) (ws : List Int) (hr : RdU w A ws) (hws : ws.length = N) (hv : ∀ x ∈ ws, 0 ≤ x ∧ x < 18446744073709551616) (hN1 : N ≤ 1024) (h0 : 20 < m) :
    Calls Try.prog 4 #[.agg #[.int .i64 gn, .int .i64 gs, .int .i64 gh, .int .u32 gt], .slice A N c, .slice B m cb, .slice D t cd] w fun e w' => e = .returned (.bool true) ∧ Below w.heap.size w w' := by
  unfold maxLen at hN hm ht
  have b0 : ((m : Int) == 0) = false := by simp; omega
  have b1 : decide ((20 : Int) < m) = true := decide_eq_true (by omega)
  have bN : decide ((1024 : Int) < N) = false := decide_eq_false (by omega)
  have HR := Lib.hid hr
  have HWS := Lib.hid hws
  have HV := Lib.hid hv
  clear hr hws hv
  have H := Lib.hid ((St.nil w).alloc #[.int .i64 gn, .int .i64 gs, .int .i64 gh, .int .u32 gt] 26)
  obtain ⟨q0, q1, q2, q3⟩ := cells4 (H.out.cells 0 rfl)
  go_enter Try.func4, Try.ntmps4
  go_wp2_with (first | ((have _h := H2); go_at_call 27; refine (rnew_st H2.out A c N ws (HR.out.kept H2.out.bel) hN1 HV.out HWS.out).mono ?_; rintro e w3 ⟨y, rfl, h⟩; (have H3 := Lib.hid (h)); clear h; clear q0 q1 q2 q3; (obtain ⟨q0, q1, q2, q3⟩ := cells4 (H3.out.cells 2 rfl)); clear _h) | ((have _h := H1); go_at_call 26; refine (new_st H1.out A c N ws (HR.out.kept H1.out.bel) hN1 HV.out HWS.out).mono ?_; rintro e w2 ⟨q, rfl, h⟩; (have H2 := Lib.hid (h)); clear h; clear q0 q1 q2 q3; (obtain ⟨q0, q1, q2, q3⟩ := cells4 (H2.out.cells 1 rfl)); clear _h) | ((have _h := H); go_at_call 25; refine (shown7 _).mono ?_; rintro e w1 ⟨rfl, hb⟩; (have H1 := Lib.hid (H.out.below hb)); clear hb; clear q0 q1 q2 q3; (obtain ⟨q0, q1, q2, q3⟩ := cells4 (H1.out.cells 0 rfl)); clear _h))
  go_ret
  exact ⟨rfl, H3.out.bel⟩
set_option maxHeartbeats 16000000 in
set_option maxRecDepth 100000 in
theorem tsteps_near_long (gn gs gh gt : Int) (A : Option Addr) (N c : Nat) (B : Option Addr) (m cb : Nat) (D : Option Addr) (t cd : Nat) (w : World) (hN : N ≤ maxLen) (hm : m ≤ maxLen) (ht : t ≤ maxLen) (ws : List Int) (hr : RdU w A ws) (hws : ws.length = N) (hv : ∀ x ∈ ws, 0 ≤ x ∧ x < 18446744073709551616) (hN1 : N ≤ 1024) (h0 : 0 < m) (h1 : m ≤ 20) (h2 : 200 < t) :
    Calls Try.prog 4 #[.agg #[.int .i64 gn, .int .i64 gs, .int .i64 gh, .int .u32 gt], .slice A N c, .slice B m cb, .slice D t cd] w fun e w' => e = .returned (.bool true) ∧ Below w.heap.size w w' := by
  unfold maxLen at hN hm ht
  have b0 : ((m : Int) == 0) = false := by simp; omega
  have b1 : decide ((20 : Int) < m) = false := decide_eq_false (by omega)
  have b2 : decide ((200 : Int) < t) = true := decide_eq_true (by omega)
  have bN : decide ((1024 : Int) < N) = false := decide_eq_false (by omega)
  have HR := Lib.hid hr
  have HWS := Lib.hid hws
  have HV := Lib.hid hv
  clear hr hws hv
  have H := Lib.hid ((St.nil w).alloc #[.int .i64 gn, .int .i64 gs, .int .i64 gh, .int .u32 gt] 26)
  obtain ⟨q0, q1, q2, q3⟩ := cells4 (H.out.cells 0 rfl)
  go_enter Try.func4, Try.ntmps4
  go_wp2_with (first | ((have _h := H2); go_at_call 27; refine (rnew_st H2.out A c N ws (HR.out.kept H2.out.bel) hN1 HV.out HWS.out).mono ?_; rintro e w3 ⟨y, rfl, h⟩; (have H3 := Lib.hid (h)); clear h; clear q0 q1 q2 q3; (obtain ⟨q0, q1, q2, q3⟩ := cells4 (H3.out.cells 2 rfl)); clear _h) | ((have _h := H1); go_at_call 26; refine (new_st H1.out A c N ws (HR.out.kept H1.out.bel) hN1 HV.out HWS.out).mono ?_; rintro e w2 ⟨q, rfl, h⟩; (have H2 := Lib.hid (h)); clear h; clear q0 q1 q2 q3; (obtain ⟨q0, q1, q2, q3⟩ := cells4 (H2.out.cells 1 rfl)); clear _h) | ((have _h := H); go_at_call 25; refine (shown7 _).mono ?_; rintro e w1 ⟨rfl, hb⟩; (have H1 := Lib.hid (H.out.below hb)); clear hb; clear q0 q1 q2 q3; (obtain ⟨q0, q1, q2, q3⟩ := cells4 (H1.out.cells 0 rfl)); clear _h))
  go_ret
  exact ⟨rfl, H3.out.bel⟩
set_option maxHeartbeats 16000000 in
set_option maxRecDepth 100000 in
theorem tsteps_far_none (gn gs gh gt : Int) (A : Option Addr) (N c : Nat) (B : Option Addr) (m cb : Nat) (D : Option Addr) (t cd : Nat) (w : World) (hN : N ≤ maxLen) (hm : m ≤ maxLen) (ht : t ≤ maxLen) (hN1 : 1024 < N) (h0 : m = 0) :
    Calls Try.prog 4 #[.agg #[.int .i64 gn, .int .i64 gs, .int .i64 gh, .int .u32 gt], .slice A N c, .slice B m cb, .slice D t cd] w fun e w' => e = .returned (.bool true) ∧ Below w.heap.size w w' := by
  unfold maxLen at hN hm ht
  subst h0
  have b0 : (((0 : Nat) : Int) == 0) = true := rfl
  have bN : decide ((1024 : Int) < N) = true := decide_eq_true (by omega)
  have H := Lib.hid ((St.nil w).alloc #[.int .i64 gn, .int .i64 gs, .int .i64 gh, .int .u32 gt] 26)
  obtain ⟨q0, q1, q2, q3⟩ := cells4 (H.out.cells 0 rfl)
  go_enter Try.func4, Try.ntmps4
  go_wp2_with (first | ((have _h := H2); go_at_call 27; refine (rnew_no A N c _ hN1).mono ?_; rintro e w3 ⟨rfl, rfl⟩; (have H3 := Lib.hid (H2.out)); clear _h) | ((have _h := H1); go_at_call 26; refine (new_no A N c _ hN1).mono ?_; rintro e w2 ⟨rfl, rfl⟩; (have H2 := Lib.hid (H1.out)); clear _h) | ((have _h := H); go_at_call 25; refine (shown7 _).mono ?_; rintro e w1 ⟨rfl, hb⟩; (have H1 := Lib.hid (H.out.below hb)); clear hb; clear q0 q1 q2 q3; (obtain ⟨q0, q1, q2, q3⟩ := cells4 (H1.out.cells 0 rfl)); clear _h))
  go_ret
  exact ⟨rfl, H3.out.bel⟩
set_option maxHeartbeats 16000000 in
set_option maxRecDepth 100000 in
theorem tsteps_far_many (gn gs gh gt : Int) (A : Option Addr) (N c : Nat) (B : Option Addr) (m cb : Nat) (D : Option Addr) (t cd : Nat) (w : World) (hN : N ≤ maxLen) (hm : m ≤ maxLen) (ht : t ≤ maxLen) (hN1 : 1024 < N) (h0 : 20 < m) :
    Calls Try.prog 4 #[.agg #[.int .i64 gn, .int .i64 gs, .int .i64 gh, .int .u32 gt], .slice A N c, .slice B m cb, .slice D t cd] w fun e w' => e = .returned (.bool true) ∧ Below w.heap.size w w' := by
  unfold maxLen at hN hm ht
  have b0 : ((m : Int) == 0) = false := by simp; omega
  have b1 : decide ((20 : Int) < m) = true := decide_eq_true (by omega)
  have bN : decide ((1024 : Int) < N) = true := decide_eq_true (by omega)
  have H := Lib.hid ((St.nil w).alloc #[.int .i64 gn, .int .i64 gs, .int .i64 gh, .int .u32 gt] 26)
  obtain ⟨q0, q1, q2, q3⟩ := cells4 (H.out.cells 0 rfl)
  go_enter Try.func4, Try.ntmps4
  go_wp2_with (first | ((have _h := H2); go_at_call 27; refine (rnew_no A N c _ hN1).mono ?_; rintro e w3 ⟨rfl, rfl⟩; (have H3 := Lib.hid (H2.out)); clear _h) | ((have _h := H1); go_at_call 26; refine (new_no A N c _ hN1).mono ?_; rintro e w2 ⟨rfl, rfl⟩; (have H2 := Lib.hid (H1.out)); clear _h) | ((have _h := H); go_at_call 25; refine (shown7 _).mono ?_; rintro e w1 ⟨rfl, hb⟩; (have H1 := Lib.hid (H.out.below hb)); clear hb; clear q0 q1 q2 q3; (obtain ⟨q0, q1, q2, q3⟩ := cells4 (H1.out.cells 0 rfl)); clear _h))
  go_ret
  exact ⟨rfl, H3.out.bel⟩
set_option maxHeartbeats 16000000 in
set_option maxRecDepth 100000 in
theorem tsteps_far_long (gn gs gh gt : Int) (A : Option Addr) (N c : Nat) (B : Option Addr) (m cb : Nat) (D : Option Addr) (t cd : Nat) (w : World) (hN : N ≤ maxLen) (hm : m ≤ maxLen) (ht : t ≤ maxLen) (hN1 : 1024 < N) (h0 : 0 < m) (h1 : m ≤ 20) (h2 : 200 < t) :
    Calls Try.prog 4 #[.agg #[.int .i64 gn, .int .i64 gs, .int .i64 gh, .int .u32 gt], .slice A N c, .slice B m cb, .slice D t cd] w fun e w' => e = .returned (.bool true) ∧ Below w.heap.size w w' := by
  unfold maxLen at hN hm ht
  have b0 : ((m : Int) == 0) = false := by simp; omega
  have b1 : decide ((20 : Int) < m) = false := decide_eq_false (by omega)
  have b2 : decide ((200 : Int) < t) = true := decide_eq_true (by omega)
  have bN : decide ((1024 : Int) < N) = true := decide_eq_true (by omega)
  have H := Lib.hid ((St.nil w).alloc #[.int .i64 gn, .int .i64 gs, .int .i64 gh, .int .u32 gt] 26)
  obtain ⟨q0, q1, q2, q3⟩ := cells4 (H.out.cells 0 rfl)
  go_enter Try.func4, Try.ntmps4
  go_wp2_with (first | ((have _h := H2); go_at_call 27; refine (rnew_no A N c _ hN1).mono ?_; rintro e w3 ⟨rfl, rfl⟩; (have H3 := Lib.hid (H2.out)); clear _h) | ((have _h := H1); go_at_call 26; refine (new_no A N c _ hN1).mono ?_; rintro e w2 ⟨rfl, rfl⟩; (have H2 := Lib.hid (H1.out)); clear _h) | ((have _h := H); go_at_call 25; refine (shown7 _).mono ?_; rintro e w1 ⟨rfl, hb⟩; (have H1 := Lib.hid (H.out.below hb)); clear hb; clear q0 q1 q2 q3; (obtain ⟨q0, q1, q2, q3⟩ := cells4 (H1.out.cells 0 rfl)); clear _h))
  go_ret
  exact ⟨rfl, H3.out.bel⟩
set_option maxHeartbeats 16000000 in
set_option maxRecDepth 100000 in
theorem tsteps_far_fine (gn gs gh gt : Int) (A : Option Addr) (N c : Nat) (B : Option Addr) (m cb : Nat) (D : Option Addr) (t cd : Nat) (w : World) (hN : N ≤ maxLen) (hm : m ≤ maxLen) (ht : t ≤ maxLen) (hN1 : 1024 < N) (h0 : 0 < m) (h1 : m ≤ 20) (h2 : t ≤ 200) :
    Calls Try.prog 4 #[.agg #[.int .i64 gn, .int .i64 gs, .int .i64 gh, .int .u32 gt], .slice A N c, .slice B m cb, .slice D t cd] w fun e w' => e = .returned (.bool true) ∧ Below w.heap.size w w' := by
  unfold maxLen at hN hm ht
  have b0 : ((m : Int) == 0) = false := by simp; omega
  have b1 : decide ((20 : Int) < m) = false := decide_eq_false (by omega)
  have b2 : decide ((200 : Int) < t) = false := decide_eq_false (by omega)
  have bN : decide ((1024 : Int) < N) = true := decide_eq_true (by omega)
  have H := Lib.hid ((St.nil w).alloc #[.int .i64 gn, .int .i64 gs, .int .i64 gh, .int .u32 gt] 26)
  obtain ⟨q0, q1, q2, q3⟩ := cells4 (H.out.cells 0 rfl)
  go_enter Try.func4, Try.ntmps4
  go_wp2_with (first | ((have _h := H2); go_at_call 27; refine (rnew_no A N c _ hN1).mono ?_; rintro e w3 ⟨rfl, rfl⟩; (have H3 := Lib.hid (H2.out)); clear _h) | ((have _h := H1); go_at_call 26; refine (new_no A N c _ hN1).mono ?_; rintro e w2 ⟨rfl, rfl⟩; (have H2 := Lib.hid (H1.out)); clear _h) | ((have _h := H); go_at_call 25; refine (shown7 _).mono ?_; rintro e w1 ⟨rfl, hb⟩; (have H1 := Lib.hid (H.out.below hb)); clear hb; clear q0 q1 q2 q3; (obtain ⟨q0, q1, q2, q3⟩ := cells4 (H1.out.cells 0 rfl)); clear _h))
  go_ret
  exact ⟨rfl, H3.out.bel⟩
set_option maxHeartbeats 16000000 in
set_option maxRecDepth 100000 in
theorem tsteps_body (gn gs gh gt : Int) (A : Option Addr) (N c : Nat) (B : Option Addr) (m cb : Nat) (D : Option Addr) (t cd : Nat) (w : World) (hN : N ≤ maxLen) (hm : m ≤ maxLen) (ht : t ≤ maxLen) (ws : List Int) (hr : RdU w A ws) (hws : ws.length = N) (hv : ∀ x ∈ ws, 0 ≤ x ∧ x < 18446744073709551616) (hN1 : N ≤ 1024) (h0 : 0 < m) (h1 : m ≤ 20) (h2 : t ≤ 200) (F : Nat → PJob) (zs : List Int) (hF : RdJob w B m F) (hT : RdI w D zs t) :
    Calls Try.prog 4 #[.agg #[.int .i64 gn, .int .i64 gs, .int .i64 gh, .int .u32 gt], .slice A N c, .slice B m cb, .slice D t cd] w fun e w' => e = .returned (.bool true) ∧ Below w.heap.size w w' := by
  unfold maxLen at hN hm ht
  have b0 : ((m : Int) == 0) = false := by simp; omega
  have b1 : decide ((20 : Int) < m) = false := decide_eq_false (by omega)
  have b2 : decide ((200 : Int) < t) = false := decide_eq_false (by omega)
  have bN : decide ((1024 : Int) < N) = false := decide_eq_false (by omega)
  have HR := Lib.hid hr
  have HWS := Lib.hid hws
  have HV := Lib.hid hv
  clear hr hws hv
  have HF := Lib.hid hF
  have HT := Lib.hid hT
  clear hF hT
  obtain ⟨iA, hiA, hzA0, hzA1, hzA2⟩ := info_parts infoP7
  have H := Lib.hid ((St.nil w).alloc #[.int .i64 gn, .int .i64 gs, .int .i64 gh, .int .u32 gt] 26)
  obtain ⟨q0, q1, q2, q3⟩ := cells4 (H.out.cells 0 rfl)
  go_enter Try.func4, Try.ntmps4
  go_wp2_with (first | ((have _h := H2); go_at_call 27; refine (rnew_st H2.out A c N ws (HR.out.kept H2.out.bel) hN1 HV.out HWS.out).mono ?_; rintro e w3 ⟨y, rfl, h⟩; (have H3 := Lib.hid (h)); clear h; clear q0 q1 q2 q3; (obtain ⟨q0, q1, q2, q3⟩ := cells4 (H3.out.cells 2 rfl)); clear _h) | ((have _h := H1); go_at_call 26; refine (new_st H1.out A c N ws (HR.out.kept H1.out.bel) hN1 HV.out HWS.out).mono ?_; rintro e w2 ⟨q, rfl, h⟩; (have H2 := Lib.hid (h)); clear h; clear q0 q1 q2 q3; (obtain ⟨q0, q1, q2, q3⟩ := cells4 (H2.out.cells 1 rfl)); clear _h) | ((have _h := H); go_at_call 25; refine (shown7 _).mono ?_; rintro e w1 ⟨rfl, hb⟩; (have H1 := Lib.hid (H.out.below hb)); clear hb; clear q0 q1 q2 q3; (obtain ⟨q0, q1, q2, q3⟩ := cells4 (H1.out.cells 0 rfl)); clear _h))
  have HRel := Lib.hid (show SMake7 w q y N w.heap.size gn gs gh gt ws (.slice none 0 0) 0 w3 from ⟨[], [], rfl, rfl, ⟨HWS.out, by simp, fun k x h => by simp at h⟩, ((H3.out.swap.star (m := [memA q ws [], refA y ws []])).rowNil _ _).swap⟩)
  obtain ⟨bc, hbc⟩ : ∃ bc, w.heap.size = bc := ⟨_, rfl⟩
  simp only [hbc] at HRel ⊢
  clear H H1 H2 H3 q0 q1 q2 q3
  go_loopg [14, 15] 21 (fun kq va z w' => ∃ i : Nat, z = .int .i64 i ∧ i ≤ m ∧ i + kq = 21 ∧ SMake7 w q y N bc gn gs gh gt ws va i w')
  case atStart => exact ⟨0, rfl, by omega, by omega, HRel.out⟩
  case round =>
    obtain ⟨i, rfl, hi, hkq, ps, xs, hps, hxs, hT0, hS⟩ := hrel
    obtain ⟨A1, c1, rfl, hml⟩ := row_is (hS.rowOf 1 rfl)
    have HE := Lib.hid hS
    unfold maxLen at hml
    clear HRel
    cases gk with
    | zero => omega
    | succ kk =>
      by_cases c4 : i < m
      · have c4b : decide ((i : Int) < m) = true := decide_eq_true (by omega)
        obtain ⟨bd, rfl, f0, f1, f2, f3, hok⟩ := (HF.out.kept hS.bel).at_ c4
        have r0 : (0 : Int) ≤ (i : Int) := by omega
        have r1 : (i : Int) < (m : Int) := by omega
        obtain ⟨⟨o0, o1⟩, ⟨o2, o3⟩⟩ := hok
        have HPS := Lib.hid (And.intro hps (And.intro hxs hT0))
        obtain ⟨q0, q1, q2, q3⟩ := cells4 (hS.cells 2 rfl)
        have HKP : Hid (∀ (L' : List Asn) (k : Nat) (w' : World), St w L' w' → L'[k]? = some (boxA bc #[.int .i64 gn, .int .i64 gs, .int .i64 gh, .int .u32 gt] 26) → w'.cell? ⟨bc, 0, none⟩ = some (.int .i64 gn) ∧ w'.cell? ⟨bc, 1, none⟩ = some (.int .i64 gs) ∧ w'.cell? ⟨bc, 2, none⟩ = some (.int .i64 gh) ∧ w'.cell? ⟨bc, 3, none⟩ = some (.int .u32 gt) ∧ w'.cell? (bd.add (i * 4)) = some (.bool (F i).give) ∧ w'.cell? ⟨(bd.add (i * 4)).block, (bd.add (i * 4)).off + 1, none⟩ = some (.bool (F i).head) ∧ w'.cell? ⟨(bd.add (i * 4)).block, (bd.add (i * 4)).off + 2, none⟩ = some (.int .i64 (F i).at_) ∧ w'.cell? ⟨(bd.add (i * 4)).block, (bd.add (i * 4)).off + 3, none⟩ = some (.int .i64 (F i).i)) := Lib.hid fun L' k w' h e => by
          obtain ⟨a0, a1, a2, a3⟩ := cells4 (h.cells k e)
          obtain ⟨ad, e2, g0, g1, g2, g3, _⟩ := (HF.out.kept h.bel).at_ c4
          cases e2
          exact ⟨a0, a1, a2, a3, g0, g1, g2, g3⟩
        generalize F i = Q at *
        obtain ⟨av, hav⟩ : ∃ av, (if Q.head = true then Q.at_ else 1) = av := ⟨_, rfl⟩
        have HAV := Lib.hid hav
        clear hS hps hxs hT0 hav
        cases hgv : Q.give
        · rw [hgv] at f0 HKP
          clear q0 q1 q2 q3
          obtain ⟨q0, q1, q2, q3⟩ := cells4 (HE.out.cells 2 rfl)
          have lq := lt_of_heap (HE.out.cells 2 rfl)
          have lj := World.block_lt_of_cell? _ _ f0
          go_wp2
          refine wp_region_held_drew (S := (fun w' => w'.cell? ⟨bc, 0, none⟩ = some (.int .i64 gn) ∧ w'.cell? ⟨bc, 1, none⟩ = some (.int .i64 gs) ∧ w'.cell? ⟨bc, 2, none⟩ = some (.int .i64 gh) ∧ w'.cell? ⟨bc, 3, none⟩ = some (.int .u32 gt) ∧ w'.cell? (bd.add (i * 4)) = some (.bool false) ∧ w'.cell? ⟨(bd.add (i * 4)).block, (bd.add (i * 4)).off + 1, none⟩ = some (.bool Q.head) ∧ w'.cell? ⟨(bd.add (i * 4)).block, (bd.add (i * 4)).off + 2, none⟩ = some (.int .i64 Q.at_) ∧ w'.cell? ⟨(bd.add (i * 4)).block, (bd.add (i * 4)).off + 3, none⟩ = some (.int .i64 Q.i))) (by as_aux_lemma => kernel_rfl) ?_ (fun hHeld0 => ?_)
          · first | exact HKP.out _ 5 _ (HA.out.alloc #[.pointer (some ⟨p, 0, none⟩), .pointer none, .pointer (some ⟨rb, 0, none⟩)] 56) rfl | exact HKP.out _ 5 _ (HA.out.alloc #[.pointer none, .pointer none, .pointer none] 56) rfl | exact HKP.out _ 4 _ HA.out rfl | exact HKP.out _ 5 _ (((HB.out.setAt 2 rfl 0 (.pointer (some ⟨p, 0, none⟩))).setAt 2 rfl 1 (.pointer none)).setAt 2 rfl 2 (.pointer (some ⟨rb, 0, none⟩))) rfl | exact HKP.out _ 5 _ HB.out rfl | exact HKP.out _ 3 _ (HE.out.drew.alloc #[.pointer none, .pointer none, .pointer none] 56) rfl | exact HKP.out _ 2 _ HE.out.drew rfl | exact HKP.out _ 2 _ HE.out rfl
          refine wpAnyH_take (i := 0) (v := ?_) rfl (by as_aux_lemma => kernel_rfl) (by as_aux_lemma => kernel_rfl) (by as_aux_lemma => kernel_rfl) (fun _ _ _ h => h) (Or.inl ⟨by rfl, ?_⟩) hHeld0 ?_
          rotate_left
          · intro w hSw
            (try dsimp only at hSw)
            go_simp
            try (first | (with_reducible rfl) | rfl)
          try simp only [List.getElem_toArray, List.getElem_cons_zero, List.getElem_cons_succ, Act.put, List.setIfInBounds_toArray, List.set_cons_zero, List.set_cons_succ]
          refine wpAnyH_take (i := 1) (v := ?_) rfl (by as_aux_lemma => kernel_rfl) (by as_aux_lemma => kernel_rfl) (by as_aux_lemma => kernel_rfl) (fun _ _ _ h => h) (Or.inl ⟨by rfl, ?_⟩) hHeld0 ?_
          rotate_left
          · intro w hSw
            (try dsimp only at hSw)
            go_simp
            try (first | (with_reducible rfl) | rfl)
          try simp only [List.getElem_toArray, List.getElem_cons_zero, List.getElem_cons_succ, Act.put, List.setIfInBounds_toArray, List.set_cons_zero, List.set_cons_succ]
          refine wpAnyH_take (i := 2) (v := ?_) rfl (by as_aux_lemma => kernel_rfl) (by as_aux_lemma => kernel_rfl) (by as_aux_lemma => kernel_rfl) (fun _ _ _ h => h) (Or.inl ⟨by rfl, ?_⟩) hHeld0 ?_
          rotate_left
          · intro w hSw
            (try dsimp only at hSw)
            go_simp
            try (first | (with_reducible rfl) | rfl)
          try simp only [List.getElem_toArray, List.getElem_cons_zero, List.getElem_cons_succ, Act.put, List.setIfInBounds_toArray, List.set_cons_zero, List.set_cons_succ]
          refine wpAnyH_take (i := 3) (v := ?_) rfl (by as_aux_lemma => kernel_rfl) (by as_aux_lemma => kernel_rfl) (by as_aux_lemma => kernel_rfl) (fun _ _ _ h => h) (Or.inl ⟨by rfl, ?_⟩) hHeld0 ?_
          rotate_left
          · intro w hSw
            (try dsimp only at hSw)
            go_simp
            try (first | (with_reducible rfl) | rfl)
          try simp only [List.getElem_toArray, List.getElem_cons_zero, List.getElem_cons_succ, Act.put, List.setIfInBounds_toArray, List.set_cons_zero, List.set_cons_succ]
          refine wpAnyH_take (i := 4) (v := ?_) rfl (by as_aux_lemma => kernel_rfl) (by as_aux_lemma => kernel_rfl) (by as_aux_lemma => kernel_rfl) (fun _ _ _ h => h) (Or.inl ⟨by rfl, ?_⟩) hHeld0 ?_
          rotate_left
          · intro w hSw
            (try dsimp only at hSw)
            go_simp
            try (first | (with_reducible rfl) | rfl)
          try simp only [List.getElem_toArray, List.getElem_cons_zero, List.getElem_cons_succ, Act.put, List.setIfInBounds_toArray, List.set_cons_zero, List.set_cons_succ]
          refine wpAnyH_ready (rs := [5, 6]) (by as_aux_lemma => kernel_rfl) (by simp) ?_
          refine AllReadyH.cons rfl (fun K hK => ?_) ?_
          · go_simp
            first | (go_at_call 28; refine (made7T gn gs gh gt Q.at_ Q.i av Q.head (HE.out.drew) HAV.out).mono ?_; rintro e w5 ⟨p, rb, rfl, h⟩; (have HA := Lib.hid h); clear h) | (go_at_call 28; refine (made7T gn gs gh gt Q.at_ Q.i av Q.head (HE.out.drew.alloc #[.pointer none, .pointer none, .pointer none] 56) HAV.out).mono ?_; rintro e w5 ⟨p, rb, rfl, h⟩; (have HB := Lib.hid h); clear h; (have hp2 : w5.heap[wr.heap.size]? = some (.cells #[.pointer none, .pointer none, .pointer none] 56 (0, 0)) := HB.out.cells 2 rfl); (obtain ⟨k0, k1, k2⟩ := cells3 hp2); (have fr0 := free_of hp2 0); (have fr1 := free_of hp2 1); (have fr2 := free_of hp2 2); (have lp := lt_of_heap hp2); clear hp2)
            go_wp2_with fail
            refine hK.out _ _ ?_ (fun hHeld5_5 => ?_)
            · first | exact HKP.out _ 5 _ (HA.out.alloc #[.pointer (some ⟨p, 0, none⟩), .pointer none, .pointer (some ⟨rb, 0, none⟩)] 56) rfl | exact HKP.out _ 5 _ (HA.out.alloc #[.pointer none, .pointer none, .pointer none] 56) rfl | exact HKP.out _ 4 _ HA.out rfl | exact HKP.out _ 5 _ (((HB.out.setAt 2 rfl 0 (.pointer (some ⟨p, 0, none⟩))).setAt 2 rfl 1 (.pointer none)).setAt 2 rfl 2 (.pointer (some ⟨rb, 0, none⟩))) rfl | exact HKP.out _ 5 _ HB.out rfl | exact HKP.out _ 3 _ (HE.out.drew.alloc #[.pointer none, .pointer none, .pointer none] 56) rfl | exact HKP.out _ 2 _ HE.out.drew rfl | exact HKP.out _ 2 _ HE.out rfl
            clear hK K
            try simp only [List.getElem_toArray, List.getElem_cons_zero, List.getElem_cons_succ, Act.put, List.setIfInBounds_toArray, List.set_cons_zero, List.set_cons_succ]
            refine wpAnyH_ready (rs := [6]) (by as_aux_lemma => kernel_rfl) (by simp) ?_
            refine AllReadyH.cons rfl (fun K hK => ?_) ?_
            · go_simp
              refine hK.out _ _ ?_ (fun hHeld6_6 => ?_)
              · first | exact HKP.out _ 5 _ (HA.out.alloc #[.pointer (some ⟨p, 0, none⟩), .pointer none, .pointer (some ⟨rb, 0, none⟩)] 56) rfl | exact HKP.out _ 5 _ (HA.out.alloc #[.pointer none, .pointer none, .pointer none] 56) rfl | exact HKP.out _ 4 _ HA.out rfl | exact HKP.out _ 5 _ (((HB.out.setAt 2 rfl 0 (.pointer (some ⟨p, 0, none⟩))).setAt 2 rfl 1 (.pointer none)).setAt 2 rfl 2 (.pointer (some ⟨rb, 0, none⟩))) rfl | exact HKP.out _ 5 _ HB.out rfl | exact HKP.out _ 3 _ (HE.out.drew.alloc #[.pointer none, .pointer none, .pointer none] 56) rfl | exact HKP.out _ 2 _ HE.out.drew rfl | exact HKP.out _ 2 _ HE.out rfl
              clear hK K
              try simp only [List.getElem_toArray, List.getElem_cons_zero, List.getElem_cons_succ, Act.put, List.setIfInBounds_toArray, List.set_cons_zero, List.set_cons_succ]
              refine wpAnyH_ready (rs := [7]) (by as_aux_lemma => kernel_rfl) (by simp) ?_
              refine AllReadyH.cons rfl (fun K hK => ?_) ?_
              · go_simp
                refine hK.out _ _ ?_ (fun hHeld7_7 => ?_)
                · first | exact HKP.out _ 5 _ (HA.out.alloc #[.pointer (some ⟨p, 0, none⟩), .pointer none, .pointer (some ⟨rb, 0, none⟩)] 56) rfl | exact HKP.out _ 5 _ (HA.out.alloc #[.pointer none, .pointer none, .pointer none] 56) rfl | exact HKP.out _ 4 _ HA.out rfl | exact HKP.out _ 5 _ (((HB.out.setAt 2 rfl 0 (.pointer (some ⟨p, 0, none⟩))).setAt 2 rfl 1 (.pointer none)).setAt 2 rfl 2 (.pointer (some ⟨rb, 0, none⟩))) rfl | exact HKP.out _ 5 _ HB.out rfl | exact HKP.out _ 3 _ (HE.out.drew.alloc #[.pointer none, .pointer none, .pointer none] 56) rfl | exact HKP.out _ 2 _ HE.out.drew rfl | exact HKP.out _ 2 _ HE.out rfl
                clear hK K
                try simp only [List.getElem_toArray, List.getElem_cons_zero, List.getElem_cons_succ, Act.put, List.setIfInBounds_toArray, List.set_cons_zero, List.set_cons_succ]
                refine wpAnyH_done (by as_aux_lemma => kernel_rfl) ?_ _
                first | (have h6 := HA.out.alloc #[.pointer (some ⟨p, 0, none⟩), .pointer none, .pointer (some ⟨rb, 0, none⟩)] 56; obtain ⟨pb, hpb⟩ : ∃ pb, w5.heap.size = pb := ⟨_, rfl⟩; try simp only [hpb] at h6 ⊢; generalize w5.alloc (.cells #[.pointer (some ⟨p, 0, none⟩), .pointer none, .pointer (some ⟨rb, 0, none⟩)] 56) = W6 at *; have HP := Lib.hid h6; clear h6 HA) | (have h6 : St w (boxA wr.heap.size #[.pointer (some ⟨p, 0, none⟩), .pointer none, .pointer (some ⟨rb, 0, none⟩)] 56 :: _) (((w5.setCell ⟨wr.heap.size, 0, none⟩ (.pointer (some ⟨p, 0, none⟩))).setCell ⟨wr.heap.size, 1, none⟩ (.pointer none)).setCell ⟨wr.heap.size, 2, none⟩ (.pointer (some ⟨rb, 0, none⟩))) := (((HB.out.setAt 2 rfl 0 (.pointer (some ⟨p, 0, none⟩))).setAt 2 rfl 1 (.pointer none)).setAt 2 rfl 2 (.pointer (some ⟨rb, 0, none⟩))).front 2 rfl; obtain ⟨pb, hpb⟩ : ∃ pb, wr.heap.size = pb := ⟨_, rfl⟩; try simp only [hpb] at h6 ⊢; generalize ((w5.setCell ⟨pb, 0, none⟩ (.pointer (some ⟨p, 0, none⟩))).setCell ⟨pb, 1, none⟩ (.pointer none)).setCell ⟨pb, 2, none⟩ (.pointer (some ⟨rb, 0, none⟩)) = W6 at *; have HP := Lib.hid h6; clear h6 HB k0 k1 k2 fr0 fr1 fr2 lp)
                clear hpb q0 q1 q2 q3 lq lj f0 f1 f2 f3
                obtain ⟨k0, k1, k2⟩ := cells3 (HP.out.cells 0 rfl)
                go_wp2_with ((have _h := HP); at_builtin; go_must (refine wpList_append_lies _ (by rfl) _ _ _ (by rfl) 0 56 iA _ 3 24 Try.underlying51 hiA hzA0 hzA1 hzA2 rfl (by decide) (.slice A1 i c1) i (prs xs) (by rfl) ((HP.out.below (bl_alloc (bl_refl _) _)).rowOf 4 rfl) ⟨W6.heap.size, 0, none⟩ 1 1 [.pointer (some ⟨p, 0, none⟩), .pointer none, .pointer (some ⟨rb, 0, none⟩)] (by rfl) rfl (by exact World.news_of_block (cs := #[.pointer (some ⟨p, 0, none⟩), .pointer none, .pointer (some ⟨rb, 0, none⟩)]) (t := 56) (fr := (0, 0)) (heap_new rfl)) (by simp [Value.oneCell']) (by decide) (by unfold maxLen; omega) (by omega) (Nat.zero_le _) _ rfl ?_); go_must (intro g cp wA hown hgrow hat hlt); (have L2 := Lib.hid ((((HP.out.below (bl_alloc (bl_refl _) _)).front 4 rfl).append hown hgrow hat))); clear hown hgrow hat hlt _h)
                go_roundg kk
                case measure => omega
                case rel => exact ⟨i + 1, rfl, by omega, by omega, ps ++ [0], xs ++ [(p, rb, newTk gn gs gh gt av)], by simp [HPS.out.1], by simp [HPS.out.2.1], HPS.out.2.2.snoc (newTk_ok _ _ _ _ _ _), by
                  have h6 := St.snoc (A := [_, _]) (f := thP) (p := 0) (S := (p, rb, newTk gn gs gh gt av)) ((L2.out.re 6 [4, 3, 2, 0, 5]).pairUp) (by rw [HPS.out.1, HPS.out.2.1])
                  unfold sRow7
                  rw [prs_snoc]
                  exact h6⟩
              exact AllReadyH.nil
            exact AllReadyH.nil
          refine AllReadyH.cons rfl (fun K hK => ?_) ?_
          · go_simp
            refine hK.out _ _ ?_ (fun hHeld5_6 => ?_)
            · first | exact HKP.out _ 5 _ (HA.out.alloc #[.pointer (some ⟨p, 0, none⟩), .pointer none, .pointer (some ⟨rb, 0, none⟩)] 56) rfl | exact HKP.out _ 5 _ (HA.out.alloc #[.pointer none, .pointer none, .pointer none] 56) rfl | exact HKP.out _ 4 _ HA.out rfl | exact HKP.out _ 5 _ (((HB.out.setAt 2 rfl 0 (.pointer (some ⟨p, 0, none⟩))).setAt 2 rfl 1 (.pointer none)).setAt 2 rfl 2 (.pointer (some ⟨rb, 0, none⟩))) rfl | exact HKP.out _ 5 _ HB.out rfl | exact HKP.out _ 3 _ (HE.out.drew.alloc #[.pointer none, .pointer none, .pointer none] 56) rfl | exact HKP.out _ 2 _ HE.out.drew rfl | exact HKP.out _ 2 _ HE.out rfl
            clear hK K
            try simp only [List.getElem_toArray, List.getElem_cons_zero, List.getElem_cons_succ, Act.put, List.setIfInBounds_toArray, List.set_cons_zero, List.set_cons_succ]
            refine wpAnyH_ready (rs := [5]) (by as_aux_lemma => kernel_rfl) (by simp) ?_
            refine AllReadyH.cons rfl (fun K hK => ?_) ?_
            · go_simp
              first | (go_at_call 28; refine (made7T gn gs gh gt Q.at_ Q.i av Q.head (HE.out.drew) HAV.out).mono ?_; rintro e w5 ⟨p, rb, rfl, h⟩; (have HA := Lib.hid h); clear h) | (go_at_call 28; refine (made7T gn gs gh gt Q.at_ Q.i av Q.head (HE.out.drew.alloc #[.pointer none, .pointer none, .pointer none] 56) HAV.out).mono ?_; rintro e w5 ⟨p, rb, rfl, h⟩; (have HB := Lib.hid h); clear h; (have hp2 : w5.heap[wr.heap.size]? = some (.cells #[.pointer none, .pointer none, .pointer none] 56 (0, 0)) := HB.out.cells 2 rfl); (obtain ⟨k0, k1, k2⟩ := cells3 hp2); (have fr0 := free_of hp2 0); (have fr1 := free_of hp2 1); (have fr2 := free_of hp2 2); (have lp := lt_of_heap hp2); clear hp2)
              go_wp2_with fail
              refine hK.out _ _ ?_ (fun hHeld6_5 => ?_)
              · first | exact HKP.out _ 5 _ (HA.out.alloc #[.pointer (some ⟨p, 0, none⟩), .pointer none, .pointer (some ⟨rb, 0, none⟩)] 56) rfl | exact HKP.out _ 5 _ (HA.out.alloc #[.pointer none, .pointer none, .pointer none] 56) rfl | exact HKP.out _ 4 _ HA.out rfl | exact HKP.out _ 5 _ (((HB.out.setAt 2 rfl 0 (.pointer (some ⟨p, 0, none⟩))).setAt 2 rfl 1 (.pointer none)).setAt 2 rfl 2 (.pointer (some ⟨rb, 0, none⟩))) rfl | exact HKP.out _ 5 _ HB.out rfl | exact HKP.out _ 3 _ (HE.out.drew.alloc #[.pointer none, .pointer none, .pointer none] 56) rfl | exact HKP.out _ 2 _ HE.out.drew rfl | exact HKP.out _ 2 _ HE.out rfl
              clear hK K
              try simp only [List.getElem_toArray, List.getElem_cons_zero, List.getElem_cons_succ, Act.put, List.setIfInBounds_toArray, List.set_cons_zero, List.set_cons_succ]
              refine wpAnyH_ready (rs := [7]) (by as_aux_lemma => kernel_rfl) (by simp) ?_
              refine AllReadyH.cons rfl (fun K hK => ?_) ?_
              · go_simp
                refine hK.out _ _ ?_ (fun hHeld7_7 => ?_)
                · first | exact HKP.out _ 5 _ (HA.out.alloc #[.pointer (some ⟨p, 0, none⟩), .pointer none, .pointer (some ⟨rb, 0, none⟩)] 56) rfl | exact HKP.out _ 5 _ (HA.out.alloc #[.pointer none, .pointer none, .pointer none] 56) rfl | exact HKP.out _ 4 _ HA.out rfl | exact HKP.out _ 5 _ (((HB.out.setAt 2 rfl 0 (.pointer (some ⟨p, 0, none⟩))).setAt 2 rfl 1 (.pointer none)).setAt 2 rfl 2 (.pointer (some ⟨rb, 0, none⟩))) rfl | exact HKP.out _ 5 _ HB.out rfl | exact HKP.out _ 3 _ (HE.out.drew.alloc #[.pointer none, .pointer none, .pointer none] 56) rfl | exact HKP.out _ 2 _ HE.out.drew rfl | exact HKP.out _ 2 _ HE.out rfl
                clear hK K
                try simp only [List.getElem_toArray, List.getElem_cons_zero, List.getElem_cons_succ, Act.put, List.setIfInBounds_toArray, List.set_cons_zero, List.set_cons_succ]
                refine wpAnyH_done (by as_aux_lemma => kernel_rfl) ?_ _
                first | (have h6 := HA.out.alloc #[.pointer (some ⟨p, 0, none⟩), .pointer none, .pointer (some ⟨rb, 0, none⟩)] 56; obtain ⟨pb, hpb⟩ : ∃ pb, w5.heap.size = pb := ⟨_, rfl⟩; try simp only [hpb] at h6 ⊢; generalize w5.alloc (.cells #[.pointer (some ⟨p, 0, none⟩), .pointer none, .pointer (some ⟨rb, 0, none⟩)] 56) = W6 at *; have HP := Lib.hid h6; clear h6 HA) | (have h6 : St w (boxA wr.heap.size #[.pointer (some ⟨p, 0, none⟩), .pointer none, .pointer (some ⟨rb, 0, none⟩)] 56 :: _) (((w5.setCell ⟨wr.heap.size, 0, none⟩ (.pointer (some ⟨p, 0, none⟩))).setCell ⟨wr.heap.size, 1, none⟩ (.pointer none)).setCell ⟨wr.heap.size, 2, none⟩ (.pointer (some ⟨rb, 0, none⟩))) := (((HB.out.setAt 2 rfl 0 (.pointer (some ⟨p, 0, none⟩))).setAt 2 rfl 1 (.pointer none)).setAt 2 rfl 2 (.pointer (some ⟨rb, 0, none⟩))).front 2 rfl; obtain ⟨pb, hpb⟩ : ∃ pb, wr.heap.size = pb := ⟨_, rfl⟩; try simp only [hpb] at h6 ⊢; generalize ((w5.setCell ⟨pb, 0, none⟩ (.pointer (some ⟨p, 0, none⟩))).setCell ⟨pb, 1, none⟩ (.pointer none)).setCell ⟨pb, 2, none⟩ (.pointer (some ⟨rb, 0, none⟩)) = W6 at *; have HP := Lib.hid h6; clear h6 HB k0 k1 k2 fr0 fr1 fr2 lp)
                clear hpb q0 q1 q2 q3 lq lj f0 f1 f2 f3
                obtain ⟨k0, k1, k2⟩ := cells3 (HP.out.cells 0 rfl)
                go_wp2_with ((have _h := HP); at_builtin; go_must (refine wpList_append_lies _ (by rfl) _ _ _ (by rfl) 0 56 iA _ 3 24 Try.underlying51 hiA hzA0 hzA1 hzA2 rfl (by decide) (.slice A1 i c1) i (prs xs) (by rfl) ((HP.out.below (bl_alloc (bl_refl _) _)).rowOf 4 rfl) ⟨W6.heap.size, 0, none⟩ 1 1 [.pointer (some ⟨p, 0, none⟩), .pointer none, .pointer (some ⟨rb, 0, none⟩)] (by rfl) rfl (by exact World.news_of_block (cs := #[.pointer (some ⟨p, 0, none⟩), .pointer none, .pointer (some ⟨rb, 0, none⟩)]) (t := 56) (fr := (0, 0)) (heap_new rfl)) (by simp [Value.oneCell']) (by decide) (by unfold maxLen; omega) (by omega) (Nat.zero_le _) _ rfl ?_); go_must (intro g cp wA hown hgrow hat hlt); (have L2 := Lib.hid ((((HP.out.below (bl_alloc (bl_refl _) _)).front 4 rfl).append hown hgrow hat))); clear hown hgrow hat hlt _h)
                go_roundg kk
                case measure => omega
                case rel => exact ⟨i + 1, rfl, by omega, by omega, ps ++ [0], xs ++ [(p, rb, newTk gn gs gh gt av)], by simp [HPS.out.1], by simp [HPS.out.2.1], HPS.out.2.2.snoc (newTk_ok _ _ _ _ _ _), by
                  have h6 := St.snoc (A := [_, _]) (f := thP) (p := 0) (S := (p, rb, newTk gn gs gh gt av)) ((L2.out.re 6 [4, 3, 2, 0, 5]).pairUp) (by rw [HPS.out.1, HPS.out.2.1])
                  unfold sRow7
                  rw [prs_snoc]
                  exact h6⟩
              exact AllReadyH.nil
            exact AllReadyH.nil
          exact AllReadyH.nil
        · rw [hgv] at f0 HKP
          clear q0 q1 q2 q3
          obtain ⟨q0, q1, q2, q3⟩ := cells4 (HE.out.cells 2 rfl)
          have lq := lt_of_heap (HE.out.cells 2 rfl)
          have lj := World.block_lt_of_cell? _ _ f0
          go_wp2
          refine wp_region_held_drew (S := (fun w' => w'.cell? ⟨bc, 0, none⟩ = some (.int .i64 gn) ∧ w'.cell? ⟨bc, 1, none⟩ = some (.int .i64 gs) ∧ w'.cell? ⟨bc, 2, none⟩ = some (.int .i64 gh) ∧ w'.cell? ⟨bc, 3, none⟩ = some (.int .u32 gt) ∧ w'.cell? (bd.add (i * 4)) = some (.bool true) ∧ w'.cell? ⟨(bd.add (i * 4)).block, (bd.add (i * 4)).off + 1, none⟩ = some (.bool Q.head) ∧ w'.cell? ⟨(bd.add (i * 4)).block, (bd.add (i * 4)).off + 2, none⟩ = some (.int .i64 Q.at_) ∧ w'.cell? ⟨(bd.add (i * 4)).block, (bd.add (i * 4)).off + 3, none⟩ = some (.int .i64 Q.i))) (by as_aux_lemma => kernel_rfl) ?_ (fun hHeld0 => ?_)
          · first | exact HKP.out _ 5 _ (HA.out.alloc #[.pointer none, .pointer (some ⟨p, 0, none⟩), .pointer (some ⟨rb, 0, none⟩)] 56) rfl | exact HKP.out _ 5 _ (HA.out.alloc #[.pointer none, .pointer none, .pointer none] 56) rfl | exact HKP.out _ 4 _ HA.out rfl | exact HKP.out _ 5 _ (((HB.out.setAt 2 rfl 0 (.pointer none)).setAt 2 rfl 1 (.pointer (some ⟨p, 0, none⟩))).setAt 2 rfl 2 (.pointer (some ⟨rb, 0, none⟩))) rfl | exact HKP.out _ 5 _ HB.out rfl | exact HKP.out _ 3 _ (HE.out.drew.alloc #[.pointer none, .pointer none, .pointer none] 56) rfl | exact HKP.out _ 2 _ HE.out.drew rfl | exact HKP.out _ 2 _ HE.out rfl
          refine wpAnyH_take (i := 0) (v := ?_) rfl (by as_aux_lemma => kernel_rfl) (by as_aux_lemma => kernel_rfl) (by as_aux_lemma => kernel_rfl) (fun _ _ _ h => h) (Or.inl ⟨by rfl, ?_⟩) hHeld0 ?_
          rotate_left
          · intro w hSw
            (try dsimp only at hSw)
            go_simp
            try (first | (with_reducible rfl) | rfl)
          try simp only [List.getElem_toArray, List.getElem_cons_zero, List.getElem_cons_succ, Act.put, List.setIfInBounds_toArray, List.set_cons_zero, List.set_cons_succ]
          refine wpAnyH_take (i := 1) (v := ?_) rfl (by as_aux_lemma => kernel_rfl) (by as_aux_lemma => kernel_rfl) (by as_aux_lemma => kernel_rfl) (fun _ _ _ h => h) (Or.inl ⟨by rfl, ?_⟩) hHeld0 ?_
          rotate_left
          · intro w hSw
            (try dsimp only at hSw)
            go_simp
            try (first | (with_reducible rfl) | rfl)
          try simp only [List.getElem_toArray, List.getElem_cons_zero, List.getElem_cons_succ, Act.put, List.setIfInBounds_toArray, List.set_cons_zero, List.set_cons_succ]
          refine wpAnyH_take (i := 2) (v := ?_) rfl (by as_aux_lemma => kernel_rfl) (by as_aux_lemma => kernel_rfl) (by as_aux_lemma => kernel_rfl) (fun _ _ _ h => h) (Or.inl ⟨by rfl, ?_⟩) hHeld0 ?_
          rotate_left
          · intro w hSw
            (try dsimp only at hSw)
            go_simp
            try (first | (with_reducible rfl) | rfl)
          try simp only [List.getElem_toArray, List.getElem_cons_zero, List.getElem_cons_succ, Act.put, List.setIfInBounds_toArray, List.set_cons_zero, List.set_cons_succ]
          refine wpAnyH_take (i := 3) (v := ?_) rfl (by as_aux_lemma => kernel_rfl) (by as_aux_lemma => kernel_rfl) (by as_aux_lemma => kernel_rfl) (fun _ _ _ h => h) (Or.inl ⟨by rfl, ?_⟩) hHeld0 ?_
          rotate_left
          · intro w hSw
            (try dsimp only at hSw)
            go_simp
            try (first | (with_reducible rfl) | rfl)
          try simp only [List.getElem_toArray, List.getElem_cons_zero, List.getElem_cons_succ, Act.put, List.setIfInBounds_toArray, List.set_cons_zero, List.set_cons_succ]
          refine wpAnyH_take (i := 4) (v := ?_) rfl (by as_aux_lemma => kernel_rfl) (by as_aux_lemma => kernel_rfl) (by as_aux_lemma => kernel_rfl) (fun _ _ _ h => h) (Or.inl ⟨by rfl, ?_⟩) hHeld0 ?_
          rotate_left
          · intro w hSw
            (try dsimp only at hSw)
            go_simp
            try (first | (with_reducible rfl) | rfl)
          try simp only [List.getElem_toArray, List.getElem_cons_zero, List.getElem_cons_succ, Act.put, List.setIfInBounds_toArray, List.set_cons_zero, List.set_cons_succ]
          refine wpAnyH_ready (rs := [5, 6]) (by as_aux_lemma => kernel_rfl) (by simp) ?_
          refine AllReadyH.cons rfl (fun K hK => ?_) ?_
          · go_simp
            first | (go_at_call 28; refine (made7G gn gs gh gt Q.at_ Q.i av _ Q.head (HE.out.drew) HAV.out rfl).mono ?_; rintro e w5 ⟨p, rb, rfl, h⟩; (have HA := Lib.hid h); clear h) | (go_at_call 28; refine (made7G gn gs gh gt Q.at_ Q.i av _ Q.head (HE.out.drew.alloc #[.pointer none, .pointer none, .pointer none] 56) HAV.out rfl).mono ?_; rintro e w5 ⟨p, rb, rfl, h⟩; (have HB := Lib.hid h); clear h; (have hp2 : w5.heap[wr.heap.size]? = some (.cells #[.pointer none, .pointer none, .pointer none] 56 (0, 0)) := HB.out.cells 2 rfl); (obtain ⟨k0, k1, k2⟩ := cells3 hp2); (have fr0 := free_of hp2 0); (have fr1 := free_of hp2 1); (have fr2 := free_of hp2 2); (have lp := lt_of_heap hp2); clear hp2)
            go_wp2_with fail
            refine hK.out _ _ ?_ (fun hHeld5_5 => ?_)
            · first | exact HKP.out _ 5 _ (HA.out.alloc #[.pointer none, .pointer (some ⟨p, 0, none⟩), .pointer (some ⟨rb, 0, none⟩)] 56) rfl | exact HKP.out _ 5 _ (HA.out.alloc #[.pointer none, .pointer none, .pointer none] 56) rfl | exact HKP.out _ 4 _ HA.out rfl | exact HKP.out _ 5 _ (((HB.out.setAt 2 rfl 0 (.pointer none)).setAt 2 rfl 1 (.pointer (some ⟨p, 0, none⟩))).setAt 2 rfl 2 (.pointer (some ⟨rb, 0, none⟩))) rfl | exact HKP.out _ 5 _ HB.out rfl | exact HKP.out _ 3 _ (HE.out.drew.alloc #[.pointer none, .pointer none, .pointer none] 56) rfl | exact HKP.out _ 2 _ HE.out.drew rfl | exact HKP.out _ 2 _ HE.out rfl
            clear hK K
            try simp only [List.getElem_toArray, List.getElem_cons_zero, List.getElem_cons_succ, Act.put, List.setIfInBounds_toArray, List.set_cons_zero, List.set_cons_succ]
            refine wpAnyH_ready (rs := [6]) (by as_aux_lemma => kernel_rfl) (by simp) ?_
            refine AllReadyH.cons rfl (fun K hK => ?_) ?_
            · go_simp
              refine hK.out _ _ ?_ (fun hHeld6_6 => ?_)
              · first | exact HKP.out _ 5 _ (HA.out.alloc #[.pointer none, .pointer (some ⟨p, 0, none⟩), .pointer (some ⟨rb, 0, none⟩)] 56) rfl | exact HKP.out _ 5 _ (HA.out.alloc #[.pointer none, .pointer none, .pointer none] 56) rfl | exact HKP.out _ 4 _ HA.out rfl | exact HKP.out _ 5 _ (((HB.out.setAt 2 rfl 0 (.pointer none)).setAt 2 rfl 1 (.pointer (some ⟨p, 0, none⟩))).setAt 2 rfl 2 (.pointer (some ⟨rb, 0, none⟩))) rfl | exact HKP.out _ 5 _ HB.out rfl | exact HKP.out _ 3 _ (HE.out.drew.alloc #[.pointer none, .pointer none, .pointer none] 56) rfl | exact HKP.out _ 2 _ HE.out.drew rfl | exact HKP.out _ 2 _ HE.out rfl
              clear hK K
              try simp only [List.getElem_toArray, List.getElem_cons_zero, List.getElem_cons_succ, Act.put, List.setIfInBounds_toArray, List.set_cons_zero, List.set_cons_succ]
              refine wpAnyH_ready (rs := [7]) (by as_aux_lemma => kernel_rfl) (by simp) ?_
              refine AllReadyH.cons rfl (fun K hK => ?_) ?_
              · go_simp
                refine hK.out _ _ ?_ (fun hHeld7_7 => ?_)
                · first | exact HKP.out _ 5 _ (HA.out.alloc #[.pointer none, .pointer (some ⟨p, 0, none⟩), .pointer (some ⟨rb, 0, none⟩)] 56) rfl | exact HKP.out _ 5 _ (HA.out.alloc #[.pointer none, .pointer none, .pointer none] 56) rfl | exact HKP.out _ 4 _ HA.out rfl | exact HKP.out _ 5 _ (((HB.out.setAt 2 rfl 0 (.pointer none)).setAt 2 rfl 1 (.pointer (some ⟨p, 0, none⟩))).setAt 2 rfl 2 (.pointer (some ⟨rb, 0, none⟩))) rfl | exact HKP.out _ 5 _ HB.out rfl | exact HKP.out _ 3 _ (HE.out.drew.alloc #[.pointer none, .pointer none, .pointer none] 56) rfl | exact HKP.out _ 2 _ HE.out.drew rfl | exact HKP.out _ 2 _ HE.out rfl
                clear hK K
                try simp only [List.getElem_toArray, List.getElem_cons_zero, List.getElem_cons_succ, Act.put, List.setIfInBounds_toArray, List.set_cons_zero, List.set_cons_succ]
                refine wpAnyH_done (by as_aux_lemma => kernel_rfl) ?_ _
                first | (have h6 := HA.out.alloc #[.pointer none, .pointer (some ⟨p, 0, none⟩), .pointer (some ⟨rb, 0, none⟩)] 56; obtain ⟨pb, hpb⟩ : ∃ pb, w5.heap.size = pb := ⟨_, rfl⟩; try simp only [hpb] at h6 ⊢; generalize w5.alloc (.cells #[.pointer none, .pointer (some ⟨p, 0, none⟩), .pointer (some ⟨rb, 0, none⟩)] 56) = W6 at *; have HP := Lib.hid h6; clear h6 HA) | (have h6 : St w (boxA wr.heap.size #[.pointer none, .pointer (some ⟨p, 0, none⟩), .pointer (some ⟨rb, 0, none⟩)] 56 :: _) (((w5.setCell ⟨wr.heap.size, 0, none⟩ (.pointer none)).setCell ⟨wr.heap.size, 1, none⟩ (.pointer (some ⟨p, 0, none⟩))).setCell ⟨wr.heap.size, 2, none⟩ (.pointer (some ⟨rb, 0, none⟩))) := (((HB.out.setAt 2 rfl 0 (.pointer none)).setAt 2 rfl 1 (.pointer (some ⟨p, 0, none⟩))).setAt 2 rfl 2 (.pointer (some ⟨rb, 0, none⟩))).front 2 rfl; obtain ⟨pb, hpb⟩ : ∃ pb, wr.heap.size = pb := ⟨_, rfl⟩; try simp only [hpb] at h6 ⊢; generalize ((w5.setCell ⟨pb, 0, none⟩ (.pointer none)).setCell ⟨pb, 1, none⟩ (.pointer (some ⟨p, 0, none⟩))).setCell ⟨pb, 2, none⟩ (.pointer (some ⟨rb, 0, none⟩)) = W6 at *; have HP := Lib.hid h6; clear h6 HB k0 k1 k2 fr0 fr1 fr2 lp)
                clear hpb q0 q1 q2 q3 lq lj f0 f1 f2 f3
                obtain ⟨k0, k1, k2⟩ := cells3 (HP.out.cells 0 rfl)
                go_wp2_with ((have _h := HP); at_builtin; go_must (refine wpList_append_lies _ (by rfl) _ _ _ (by rfl) 0 56 iA _ 3 24 Try.underlying51 hiA hzA0 hzA1 hzA2 rfl (by decide) (.slice A1 i c1) i (prs xs) (by rfl) ((HP.out.below (bl_alloc (bl_refl _) _)).rowOf 4 rfl) ⟨W6.heap.size, 0, none⟩ 1 1 [.pointer none, .pointer (some ⟨p, 0, none⟩), .pointer (some ⟨rb, 0, none⟩)] (by rfl) rfl (by exact World.news_of_block (cs := #[.pointer none, .pointer (some ⟨p, 0, none⟩), .pointer (some ⟨rb, 0, none⟩)]) (t := 56) (fr := (0, 0)) (heap_new rfl)) (by simp [Value.oneCell']) (by decide) (by unfold maxLen; omega) (by omega) (Nat.zero_le _) _ rfl ?_); go_must (intro g cp wA hown hgrow hat hlt); (have L2 := Lib.hid ((((HP.out.below (bl_alloc (bl_refl _) _)).front 4 rfl).append hown hgrow hat))); clear hown hgrow hat hlt _h)
                go_roundg kk
                case measure => omega
                case rel => exact ⟨i + 1, rfl, by omega, by omega, ps ++ [0], xs ++ [(p, rb, newGv gn gs gh gt av (Q.i % 4294967296))], by simp [HPS.out.1], by simp [HPS.out.2.1], HPS.out.2.2.snoc (newGv_ok _ _ _ _ _ (by omega) (by omega) _), by
                  have h6 := St.snoc (A := [_, _]) (f := thP) (p := 0) (S := (p, rb, newGv gn gs gh gt av (Q.i % 4294967296))) ((L2.out.re 6 [4, 3, 2, 0, 5]).pairUp) (by rw [HPS.out.1, HPS.out.2.1])
                  unfold sRow7
                  rw [prs_snoc]
                  exact h6⟩
              exact AllReadyH.nil
            exact AllReadyH.nil
          refine AllReadyH.cons rfl (fun K hK => ?_) ?_
          · go_simp
            refine hK.out _ _ ?_ (fun hHeld5_6 => ?_)
            · first | exact HKP.out _ 5 _ (HA.out.alloc #[.pointer none, .pointer (some ⟨p, 0, none⟩), .pointer (some ⟨rb, 0, none⟩)] 56) rfl | exact HKP.out _ 5 _ (HA.out.alloc #[.pointer none, .pointer none, .pointer none] 56) rfl | exact HKP.out _ 4 _ HA.out rfl | exact HKP.out _ 5 _ (((HB.out.setAt 2 rfl 0 (.pointer none)).setAt 2 rfl 1 (.pointer (some ⟨p, 0, none⟩))).setAt 2 rfl 2 (.pointer (some ⟨rb, 0, none⟩))) rfl | exact HKP.out _ 5 _ HB.out rfl | exact HKP.out _ 3 _ (HE.out.drew.alloc #[.pointer none, .pointer none, .pointer none] 56) rfl | exact HKP.out _ 2 _ HE.out.drew rfl | exact HKP.out _ 2 _ HE.out rfl
            clear hK K
            try simp only [List.getElem_toArray, List.getElem_cons_zero, List.getElem_cons_succ, Act.put, List.setIfInBounds_toArray, List.set_cons_zero, List.set_cons_succ]
            refine wpAnyH_ready (rs := [5]) (by as_aux_lemma => kernel_rfl) (by simp) ?_
            refine AllReadyH.cons rfl (fun K hK => ?_) ?_
            · go_simp
              first | (go_at_call 28; refine (made7G gn gs gh gt Q.at_ Q.i av _ Q.head (HE.out.drew) HAV.out rfl).mono ?_; rintro e w5 ⟨p, rb, rfl, h⟩; (have HA := Lib.hid h); clear h) | (go_at_call 28; refine (made7G gn gs gh gt Q.at_ Q.i av _ Q.head (HE.out.drew.alloc #[.pointer none, .pointer none, .pointer none] 56) HAV.out rfl).mono ?_; rintro e w5 ⟨p, rb, rfl, h⟩; (have HB := Lib.hid h); clear h; (have hp2 : w5.heap[wr.heap.size]? = some (.cells #[.pointer none, .pointer none, .pointer none] 56 (0, 0)) := HB.out.cells 2 rfl); (obtain ⟨k0, k1, k2⟩ := cells3 hp2); (have fr0 := free_of hp2 0); (have fr1 := free_of hp2 1); (have fr2 := free_of hp2 2); (have lp := lt_of_heap hp2); clear hp2)
              go_wp2_with fail
              refine hK.out _ _ ?_ (fun hHeld6_5 => ?_)
              · first | exact HKP.out _ 5 _ (HA.out.alloc #[.pointer none, .pointer (some ⟨p, 0, none⟩), .pointer (some ⟨rb, 0, none⟩)] 56) rfl | exact HKP.out _ 5 _ (HA.out.alloc #[.pointer none, .pointer none, .pointer none] 56) rfl | exact HKP.out _ 4 _ HA.out rfl | exact HKP.out _ 5 _ (((HB.out.setAt 2 rfl 0 (.pointer none)).setAt 2 rfl 1 (.pointer (some ⟨p, 0, none⟩))).setAt 2 rfl 2 (.pointer (some ⟨rb, 0, none⟩))) rfl | exact HKP.out _ 5 _ HB.out rfl | exact HKP.out _ 3 _ (HE.out.drew.alloc #[.pointer none, .pointer none, .pointer none] 56) rfl | exact HKP.out _ 2 _ HE.out.drew rfl | exact HKP.out _ 2 _ HE.out rfl
              clear hK K
              try simp only [List.getElem_toArray, List.getElem_cons_zero, List.getElem_cons_succ, Act.put, List.setIfInBounds_toArray, List.set_cons_zero, List.set_cons_succ]
              refine wpAnyH_ready (rs := [7]) (by as_aux_lemma => kernel_rfl) (by simp) ?_
              refine AllReadyH.cons rfl (fun K hK => ?_) ?_
              · go_simp
                refine hK.out _ _ ?_ (fun hHeld7_7 => ?_)
                · first | exact HKP.out _ 5 _ (HA.out.alloc #[.pointer none, .pointer (some ⟨p, 0, none⟩), .pointer (some ⟨rb, 0, none⟩)] 56) rfl | exact HKP.out _ 5 _ (HA.out.alloc #[.pointer none, .pointer none, .pointer none] 56) rfl | exact HKP.out _ 4 _ HA.out rfl | exact HKP.out _ 5 _ (((HB.out.setAt 2 rfl 0 (.pointer none)).setAt 2 rfl 1 (.pointer (some ⟨p, 0, none⟩))).setAt 2 rfl 2 (.pointer (some ⟨rb, 0, none⟩))) rfl | exact HKP.out _ 5 _ HB.out rfl | exact HKP.out _ 3 _ (HE.out.drew.alloc #[.pointer none, .pointer none, .pointer none] 56) rfl | exact HKP.out _ 2 _ HE.out.drew rfl | exact HKP.out _ 2 _ HE.out rfl
                clear hK K
                try simp only [List.getElem_toArray, List.getElem_cons_zero, List.getElem_cons_succ, Act.put, List.setIfInBounds_toArray, List.set_cons_zero, List.set_cons_succ]
                refine wpAnyH_done (by as_aux_lemma => kernel_rfl) ?_ _
                first | (have h6 := HA.out.alloc #[.pointer none, .pointer (some ⟨p, 0, none⟩), .pointer (some ⟨rb, 0, none⟩)] 56; obtain ⟨pb, hpb⟩ : ∃ pb, w5.heap.size = pb := ⟨_, rfl⟩; try simp only [hpb] at h6 ⊢; generalize w5.alloc (.cells #[.pointer none, .pointer (some ⟨p, 0, none⟩), .pointer (some ⟨rb, 0, none⟩)] 56) = W6 at *; have HP := Lib.hid h6; clear h6 HA) | (have h6 : St w (boxA wr.heap.size #[.pointer none, .pointer (some ⟨p, 0, none⟩), .pointer (some ⟨rb, 0, none⟩)] 56 :: _) (((w5.setCell ⟨wr.heap.size, 0, none⟩ (.pointer none)).setCell ⟨wr.heap.size, 1, none⟩ (.pointer (some ⟨p, 0, none⟩))).setCell ⟨wr.heap.size, 2, none⟩ (.pointer (some ⟨rb, 0, none⟩))) := (((HB.out.setAt 2 rfl 0 (.pointer none)).setAt 2 rfl 1 (.pointer (some ⟨p, 0, none⟩))).setAt 2 rfl 2 (.pointer (some ⟨rb, 0, none⟩))).front 2 rfl; obtain ⟨pb, hpb⟩ : ∃ pb, wr.heap.size = pb := ⟨_, rfl⟩; try simp only [hpb] at h6 ⊢; generalize ((w5.setCell ⟨pb, 0, none⟩ (.pointer none)).setCell ⟨pb, 1, none⟩ (.pointer (some ⟨p, 0, none⟩))).setCell ⟨pb, 2, none⟩ (.pointer (some ⟨rb, 0, none⟩)) = W6 at *; have HP := Lib.hid h6; clear h6 HB k0 k1 k2 fr0 fr1 fr2 lp)
                clear hpb q0 q1 q2 q3 lq lj f0 f1 f2 f3
                obtain ⟨k0, k1, k2⟩ := cells3 (HP.out.cells 0 rfl)
                go_wp2_with ((have _h := HP); at_builtin; go_must (refine wpList_append_lies _ (by rfl) _ _ _ (by rfl) 0 56 iA _ 3 24 Try.underlying51 hiA hzA0 hzA1 hzA2 rfl (by decide) (.slice A1 i c1) i (prs xs) (by rfl) ((HP.out.below (bl_alloc (bl_refl _) _)).rowOf 4 rfl) ⟨W6.heap.size, 0, none⟩ 1 1 [.pointer none, .pointer (some ⟨p, 0, none⟩), .pointer (some ⟨rb, 0, none⟩)] (by rfl) rfl (by exact World.news_of_block (cs := #[.pointer none, .pointer (some ⟨p, 0, none⟩), .pointer (some ⟨rb, 0, none⟩)]) (t := 56) (fr := (0, 0)) (heap_new rfl)) (by simp [Value.oneCell']) (by decide) (by unfold maxLen; omega) (by omega) (Nat.zero_le _) _ rfl ?_); go_must (intro g cp wA hown hgrow hat hlt); (have L2 := Lib.hid ((((HP.out.below (bl_alloc (bl_refl _) _)).front 4 rfl).append hown hgrow hat))); clear hown hgrow hat hlt _h)
                go_roundg kk
                case measure => omega
                case rel => exact ⟨i + 1, rfl, by omega, by omega, ps ++ [0], xs ++ [(p, rb, newGv gn gs gh gt av (Q.i % 4294967296))], by simp [HPS.out.1], by simp [HPS.out.2.1], HPS.out.2.2.snoc (newGv_ok _ _ _ _ _ (by omega) (by omega) _), by
                  have h6 := St.snoc (A := [_, _]) (f := thP) (p := 0) (S := (p, rb, newGv gn gs gh gt av (Q.i % 4294967296))) ((L2.out.re 6 [4, 3, 2, 0, 5]).pairUp) (by rw [HPS.out.1, HPS.out.2.1])
                  unfold sRow7
                  rw [prs_snoc]
                  exact h6⟩
              exact AllReadyH.nil
            exact AllReadyH.nil
          exact AllReadyH.nil
      · obtain rfl : m = i := by omega
        have c4b : decide (((m : Nat) : Int) < (m : Int)) = false := decide_eq_false (by omega)
        obtain ⟨ga, ca, he1⟩ := row_some (hS.rowOf 1 rfl) h0
        cases he1
        have HS2 := Lib.hid (show SRel7 w q y N bc gn gs gh gt ga c1 ps m 0 wr from ⟨ws, [], xs, hxs, hT0, hS⟩)
        have HPS := Lib.hid hps
        clear hS hxs hT0 c4 HE hps hiA hzA0 hzA1 hzA2
        have hm0 : (0 : Int) < (m : Int) := by omega
        have hm1 : (m : Int) < 9223372036854775808 := by omega
        go_wp2
        go_loopg [17] 201 (fun kq z w' => ∃ i : Nat, z = .int .i64 i ∧ i ≤ t ∧ i + kq = 201 ∧ SRel7 w q y N bc gn gs gh gt ga c1 ps m i w')
        case atStart => exact ⟨0, rfl, by omega, by omega, HS2.out⟩
        case round =>
          obtain ⟨i, rfl, hi, hkq, ws, ns, xs, hxs, hT1, hS⟩ := hrel
          clear HS2
          cases gk with
          | zero => omega
          | succ k3 =>
            by_cases c4 : i < t
            · have c4b : decide ((i : Int) < t) = true := decide_eq_true (by omega)
              obtain ⟨bd, rfl, hcell, hwf⟩ := HT.out i c4
              obtain ⟨z0, z1⟩ := rngI64 hwf
              have hcz := (hS.bel.cell (World.block_lt_of_cell? _ _ hcell)).trans hcell
              have r0 : (0 : Int) ≤ (i : Int) := by omega
              have r1 : (i : Int) < (t : Int) := by omega
              have hnl : ns.length ≤ 1000000000000 := by have := hT1.few; omega
              generalize zs.getD i 0 = z at *
              obtain ⟨kk0, kk1⟩ := pickI_rng (c := z) hm0
              obtain ⟨k, hk⟩ := Int.eq_ofNat_of_zero_le kk0
              have hkm : k < m := by omega
              have k0 : (0 : Int) ≤ (k : Int) := by omega
              have k1 : (k : Int) < (m : Int) := by omega
              obtain ⟨⟨p, b, S⟩, hxk⟩ := getE (l := xs) (k := k) (by omega)
              obtain ⟨pd, hpk⟩ := getE (l := ps) (k := k) (by have := HPS.out; omega)
              obtain ⟨R, hR1, hR2⟩ := hS.pick2 hpk hxk
              obtain ⟨p0, p1, p2⟩ := prs_get hxk
              obtain ⟨e0, f0⟩ := hS.at_ 1 rfl (k * 3) p0
              obtain ⟨e1, f1⟩ := hS.at_ 1 rfl (k * 3 + 1) p1
              obtain ⟨e2', f2⟩ := hS.at_ 1 rfl (k * 3 + 2) p2
              have e2 : wr.cell? ⟨ga, k * 3 + 2, none⟩ = some (.pointer (some ⟨b, 0, none⟩)) := e2'
              clear e2'
              have hP := pairOf_tw (p, b, S)
              dsimp only at hP
              obtain ⟨va, hva⟩ : ∃ va, prA (p, b, S) = va := ⟨_, rfl⟩
              obtain ⟨vb, hvb⟩ : ∃ vb, prB (p, b, S) = vb := ⟨_, rfl⟩
              rw [hva] at e0 hP
              rw [hvb] at e1 hP
              rcases hP with ⟨hg, rfl, rfl⟩ | ⟨hg, rfl, rfl⟩
              · have hok0 := hT1.ok k _ hxk
                have hns := hT1.step (fun j hj => hS.unstar.rng hj) hxk
                dsimp only at hok0
                have hgv := TM.step_give S ws
                obtain ⟨⟨r, S', ws', nt⟩, ho⟩ : ∃ o, S.step ws = o := ⟨_, rfl⟩
                rw [ho] at hns hgv
                dsimp only at hns hgv
                obtain ⟨z2, hz2⟩ : ∃ z2, S'.told r = z2 := ⟨_, rfl⟩
                obtain ⟨ns', hns'⟩ : ∃ ns', ns ++ nt = ns' := ⟨_, rfl⟩
                rw [hns'] at hns
                have HK := Lib.hid hk
                have HST := Lib.hid ho
                have HZ := Lib.hid hz2
                have HN2 := Lib.hid hns'
                have HGV := Lib.hid hgv
                have HPO := Lib.hid (show PairOf S p (.pointer (some ⟨p, 0, none⟩)) (.pointer none) from .inl ⟨hg, rfl, rfl⟩)
                have HOK : Hid (S.ok ws.length) := Lib.hid (by rw [hT1.len]; exact hok0)
                have HT2 := Lib.hid hns
                have HL2 : Hid (ws'.length = N) := Lib.hid hns.len
                have HPK : Hid (∀ w1 w' m' S', St w1 (m' :: thP pd S' :: ([_, _] ++ R)) w' → St w1 (m' :: (sRow7 (.slice (some ⟨ga, 0, none⟩) m c1) m bc gn gs gh gt xs ++ manyA thP ps (xs.set k S'))) w') := Lib.hid hR2
                have HB := Lib.hid (((show St w (starA [memA q ws ns, refA y ws ns] :: starA [tlA p S, rtA b S] :: _) wr from hR1).duo.alloc #[.pointer (some ⟨p, 0, none⟩), .pointer none, .pointer (some ⟨b, 0, none⟩)] 56).rot3)
                have HXK := Lib.hid hxk
                have HXS := Lib.hid hxs
                clear hk ho hz2 hns' hok0 hns hS hT1 hxs hR1 hR2 hxk hpk kk0 kk1 hva hvb hgv p0 p1 p2 hcell hwf
                go_wp2_with (first | ((have _h := V1); go_at_call 31; refine (rtstep z2 HST.out HN2.out HZ.out V1.out HOK.out hnl).mono ?_; rintro e w2 ⟨rfl, h⟩; (have V2 := Lib.hid h); clear h _h V1) | ((have _h := HB); go_at_call 30; refine (pstep (.pointer (some ⟨b, 0, none⟩)) HPO.out HST.out HN2.out HZ.out HB.out HOK.out hnl).mono ?_; rintro e w1 ⟨rfl, h⟩; (have V0 := Lib.hid h); (obtain ⟨_, _, q2⟩ := cells3 (V0.out.cells 2 rfl)); (have V1 := Lib.hid ((V0.out.front 2 rfl).tail.turn4)); clear h _h HB V0) | (go_at_call 29; refine (pick7_is z m (k : Int) _ HK.out hm0 hm1 z0 z1).mono ?_; rintro e w' ⟨rfl, rfl⟩))
                clear e0 e1 e2 f0 f1 f2 hcz
                obtain ⟨A3, c3, B3, d3, n0, n1, hr3, _⟩ := V2.out.refCells 0 rfl
                have HY : Hid (∀ w', Below w2.heap.size w2 w' → w'.cell? ⟨y, 1, none⟩ = some (.slice B3 ns'.length d3)) := Lib.hid (fun w' hb => (hb.cell (World.block_lt_of_cell? _ _ n1)).trans n1)
                have HBW := Lib.hid (Below.refl w2.heap.size w2)
                have HBD := Lib.hid ((Below.refl w2.heap.size w2).drew)
                clear n0 n1 hr3
                go_region_held3 (fun w' => w'.cell? ⟨y, 1, none⟩ = some (.slice B3 ns'.length d3)) (first | exact HY.out _ HBD.out | exact HY.out _ HBW.out) (first | (go_at_call 32; refine (count_st ((V2.out.below HBD.out).front 2 rfl) (ns'.length : Int) rfl).mono ?_; rintro e w' ⟨rfl, rfl⟩))
                all_goals go_wp2
                all_goals go_roundg k3
                all_goals first | omega | exact ⟨i + 1, rfl, by omega, by omega, ws', ns', xs.set k (p, b, S'), by rw [List.length_set]; exact HXS.out, HT2.out, by
                  have h5 := HPK.out _ _ _ (p, b, S') ((V2.out.below HBD.out).turn4.unduo)
                  unfold sRow7 at h5 ⊢
                  rw [prs_step HXK.out HGV.out]
                  exact h5⟩
              · have hok0 := hT1.ok k _ hxk
                have hns := hT1.step (fun j hj => hS.unstar.rng hj) hxk
                dsimp only at hok0
                have hgv := TM.step_give S ws
                obtain ⟨⟨r, S', ws', nt⟩, ho⟩ : ∃ o, S.step ws = o := ⟨_, rfl⟩
                rw [ho] at hns hgv
                dsimp only at hns hgv
                obtain ⟨z2, hz2⟩ : ∃ z2, S'.told r = z2 := ⟨_, rfl⟩
                obtain ⟨ns', hns'⟩ : ∃ ns', ns ++ nt = ns' := ⟨_, rfl⟩
                rw [hns'] at hns
                have HK := Lib.hid hk
                have HST := Lib.hid ho
                have HZ := Lib.hid hz2
                have HN2 := Lib.hid hns'
                have HGV := Lib.hid hgv
                have HPO := Lib.hid (show PairOf S p (.pointer none) (.pointer (some ⟨p, 0, none⟩)) from .inr ⟨hg, rfl, rfl⟩)
                have HOK : Hid (S.ok ws.length) := Lib.hid (by rw [hT1.len]; exact hok0)
                have HT2 := Lib.hid hns
                have HL2 : Hid (ws'.length = N) := Lib.hid hns.len
                have HPK : Hid (∀ w1 w' m' S', St w1 (m' :: thP pd S' :: ([_, _] ++ R)) w' → St w1 (m' :: (sRow7 (.slice (some ⟨ga, 0, none⟩) m c1) m bc gn gs gh gt xs ++ manyA thP ps (xs.set k S'))) w') := Lib.hid hR2
                have HB := Lib.hid (((show St w (starA [memA q ws ns, refA y ws ns] :: starA [tlA p S, rtA b S] :: _) wr from hR1).duo.alloc #[.pointer none, .pointer (some ⟨p, 0, none⟩), .pointer (some ⟨b, 0, none⟩)] 56).rot3)
                have HXK := Lib.hid hxk
                have HXS := Lib.hid hxs
                clear hk ho hz2 hns' hok0 hns hS hT1 hxs hR1 hR2 hxk hpk kk0 kk1 hva hvb hgv p0 p1 p2 hcell hwf
                go_wp2_with (first | ((have _h := V1); go_at_call 31; refine (rtstep z2 HST.out HN2.out HZ.out V1.out HOK.out hnl).mono ?_; rintro e w2 ⟨rfl, h⟩; (have V2 := Lib.hid h); clear h _h V1) | ((have _h := HB); go_at_call 30; refine (pstep (.pointer (some ⟨b, 0, none⟩)) HPO.out HST.out HN2.out HZ.out HB.out HOK.out hnl).mono ?_; rintro e w1 ⟨rfl, h⟩; (have V0 := Lib.hid h); (obtain ⟨_, _, q2⟩ := cells3 (V0.out.cells 2 rfl)); (have V1 := Lib.hid ((V0.out.front 2 rfl).tail.turn4)); clear h _h HB V0) | (go_at_call 29; refine (pick7_is z m (k : Int) _ HK.out hm0 hm1 z0 z1).mono ?_; rintro e w' ⟨rfl, rfl⟩))
                clear e0 e1 e2 f0 f1 f2 hcz
                obtain ⟨A3, c3, B3, d3, n0, n1, hr3, _⟩ := V2.out.refCells 0 rfl
                have HY : Hid (∀ w', Below w2.heap.size w2 w' → w'.cell? ⟨y, 1, none⟩ = some (.slice B3 ns'.length d3)) := Lib.hid (fun w' hb => (hb.cell (World.block_lt_of_cell? _ _ n1)).trans n1)
                have HBW := Lib.hid (Below.refl w2.heap.size w2)
                have HBD := Lib.hid ((Below.refl w2.heap.size w2).drew)
                clear n0 n1 hr3
                go_region_held3 (fun w' => w'.cell? ⟨y, 1, none⟩ = some (.slice B3 ns'.length d3)) (first | exact HY.out _ HBD.out | exact HY.out _ HBW.out) (first | (go_at_call 32; refine (count_st ((V2.out.below HBD.out).front 2 rfl) (ns'.length : Int) rfl).mono ?_; rintro e w' ⟨rfl, rfl⟩))
                all_goals go_wp2
                all_goals go_roundg k3
                all_goals first | omega | exact ⟨i + 1, rfl, by omega, by omega, ws', ns', xs.set k (p, b, S'), by rw [List.length_set]; exact HXS.out, HT2.out, by
                  have h5 := HPK.out _ _ _ (p, b, S') ((V2.out.below HBD.out).turn4.unduo)
                  unfold sRow7 at h5 ⊢
                  rw [prs_step HXK.out HGV.out]
                  exact h5⟩
            · have c4b : decide ((i : Int) < t) = false := decide_eq_false (by omega)
              have HE := Lib.hid hS.unstar
              obtain ⟨A3, c3, B3, d3, n0, n1, hr3, hl3⟩ := HE.out.refCells 1 rfl
              have hlN : ws.length = N := hT1.len
              have HLN := Lib.hid hlN
              rw [hlN] at n0
              have HY : Hid (∀ w', Below wr.heap.size wr w' → w'.cell? ⟨y, 0, none⟩ = some (.slice A3 N c3) ∧ RdU w' A3 ws) := Lib.hid (fun w' hb => ⟨(hb.cell (World.block_lt_of_cell? _ _ n0)).trans n0, hr3.kept hb⟩)
              have HBD := Lib.hid ((Below.refl wr.heap.size wr).drew)
              clear hS hT1 hxs n0 n1 hr3 hlN hl3
              go_wp2
              go_region_held3 (fun w' => w'.cell? ⟨y, 0, none⟩ = some (.slice A3 N c3)) (first | exact (HY.out _ HBD.out).1 | exact (HY.out _ (Below.refl _ _)).1) (first | (go_at_call 34; refine (words_st (HE.out.below HBD.out) N HLN.out).mono ?_; rintro e w4 ⟨al, c4', rfl, hrw, _, hb⟩; (have HZ2 := Lib.hid (HBD.out.trans (hb.mono HBD.out.size))); (have HWM := Lib.hid hrw); clear hrw hb HBD; (have HBD := HZ2); clear HZ2) | (go_at_call 33; refine (same7 _ _ N _ _ ws _ HWM.out (HY.out _ HBD.out).2 HLN.out hN1).mono ?_; rintro e w5 ⟨rfl, hb⟩; (have HZ2 := Lib.hid (HBD.out.trans (hb.mono HBD.out.size))); clear hb HBD HWM; (have HBD := HZ2); clear HZ2))
              all_goals go_wp2
              all_goals go_ret
              all_goals exact ⟨rfl, (HE.out.below HBD.out).bel⟩

theorem taglistSteps_walk (gn gs gh gt : Int) (A : Option Addr) (N c : Nat) (zs : List Int) (B : Option Addr) (m cb : Nat) (F : Nat → PJob) (D : Option Addr) (t cd : Nat) (zt : List Int) (w : World) {P0 P1 P2 P3 : Prop} (_ : P0) (_ : P1) (_ : P2) (_ : P3) (h : IsRow .u64 w A N c zs) (hF : RdJob w B m F) (hT : IsRow .i64 w D t cd zt) :
    Calls Try.prog 4 #[.agg #[.int .i64 gn, .int .i64 gs, .int .i64 gh, .int .u32 gt], .slice A N c, .slice B m cb, .slice D t cd] w fun e w' => e = .returned (.bool true) ∧ Below w.heap.size w w' := by
  obtain ⟨hr, hws, hv⟩ := h.rdU
  by_cases n1 : N ≤ 1024
  · by_cases h0 : m = 0
    · exact tsteps_near_none gn gs gh gt A N c B m cb D t cd w h.le hF.1 hT.le _ hr hws hv n1 h0
    by_cases h1 : 20 < m
    · exact tsteps_near_many gn gs gh gt A N c B m cb D t cd w h.le hF.1 hT.le _ hr hws hv n1 h1
    by_cases h2 : 200 < t
    · exact tsteps_near_long gn gs gh gt A N c B m cb D t cd w h.le hF.1 hT.le _ hr hws hv n1 (by omega) (by omega) h2
    · exact tsteps_body gn gs gh gt A N c B m cb D t cd w h.le hF.1 hT.le _ hr hws hv n1 (by omega) (by omega) (by omega) F zt hF hT.rdI
  · by_cases h0 : m = 0
    · exact tsteps_far_none gn gs gh gt A N c B m cb D t cd w h.le hF.1 hT.le (by omega) h0
    by_cases h1 : 20 < m
    · exact tsteps_far_many gn gs gh gt A N c B m cb D t cd w h.le hF.1 hT.le (by omega) h1
    by_cases h2 : 200 < t
    · exact tsteps_far_long gn gs gh gt A N c B m cb D t cd w h.le hF.1 hT.le (by omega) (by omega) (by omega) h2
    · exact tsteps_far_fine gn gs gh gt A N c B m cb D t cd w h.le hF.1 hT.le (by omega) (by omega) (by omega) (by omega)
end Go.Proofs.Ytndigbkhaajjoaa
