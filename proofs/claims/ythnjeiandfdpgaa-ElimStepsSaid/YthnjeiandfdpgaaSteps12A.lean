/-
  The law ElimSteps: the walk.
-/
import Derived.Test.YthnjeiandfdpgaaTurn12
namespace Go.Proofs.Ythnjeiandfdpgaa
open Go.RowKit
set_option linter.unusedVariables false
set_option linter.unusedSimpArgs false

set_option maxHeartbeats 16000000 in
set_option maxRecDepth 100000 in
theorem esteps_near_none (gn gs gh gt : Int) (A : Option Addr) (N c : Nat) (B : Option Addr) (m cb : Nat) (D : Option Addr) (tl cd : Nat) (w : World) (hN : N ≤ maxLen) (hm : m ≤ maxLen) (ht : tl ≤ maxLen) (ws : List Int) (hr : RdU w A ws) (hws : ws.length = N) (hv : ∀ x ∈ ws, 0 ≤ x ∧ x < 18446744073709551616) (hN1 : N ≤ 1024) (h0 : m = 0) :
    Calls Try.prog 8 #[.agg #[.int .i64 gn, .int .i64 gs, .int .i64 gh, .int .u32 gt], .slice A N c, .slice B m cb, .slice D tl cd] w fun e w' => e = .returned (.bool true) ∧ Below w.heap.size w w' := by
  unfold maxLen at hN hm ht
  subst h0
  have b0 : (((0 : Nat) : Int) == 0) = true := rfl
  have bN : decide ((1024 : Int) < N) = false := decide_eq_false (by omega)
  have HR := Lib.hid hr
  have HWS := Lib.hid hws
  have HV := Lib.hid hv
  clear hr hws hv
  have H := Lib.hid ((St.nil w).alloc #[.int .i64 gn, .int .i64 gs, .int .i64 gh, .int .u32 gt] 28)
  obtain ⟨q0, q1, q2, q3⟩ := cells4 (H.out.cells 0 rfl)
  go_enter Try.func8, Try.ntmps8
  go_wp2_with (first | ((have _h := H3); go_at_call 12; refine (src_new H3.out).mono ?_; rintro e w4 ⟨r, rfl, h⟩; (have H4 := Lib.hid (h)); clear h; clear q0 q1 q2 q3; (obtain ⟨q0, q1, q2, q3⟩ := cells4 (H4.out.cells 3 rfl)); clear _h) | ((have _h := H2); go_at_call 29; refine (rnew_st H2.out A c N ws (HR.out.kept H2.out.bel) hN1 HV.out HWS.out).mono ?_; rintro e w3 ⟨y, rfl, h⟩; (have H3 := Lib.hid (h)); clear h; clear q0 q1 q2 q3; (obtain ⟨q0, q1, q2, q3⟩ := cells4 (H3.out.cells 2 rfl)); clear _h) | ((have _h := H1); go_at_call 28; refine (new_st H1.out A c N ws (HR.out.kept H1.out.bel) hN1 HV.out HWS.out).mono ?_; rintro e w2 ⟨q, rfl, h⟩; (have H2 := Lib.hid (h)); clear h; clear q0 q1 q2 q3; (obtain ⟨q0, q1, q2, q3⟩ := cells4 (H2.out.cells 1 rfl)); clear _h) | ((have _h := H); go_at_call 9; refine (shown12 _).mono ?_; rintro e w1 ⟨rfl, hb⟩; (have H1 := Lib.hid (H.out.below hb)); clear hb; clear q0 q1 q2 q3; (obtain ⟨q0, q1, q2, q3⟩ := cells4 (H1.out.cells 0 rfl)); clear _h))
  go_ret
  exact ⟨rfl, bl_alloc H4.out.bel _⟩
set_option maxHeartbeats 16000000 in
set_option maxRecDepth 100000 in
theorem esteps_near_many (gn gs gh gt : Int) (A : Option Addr) (N c : Nat) (B : Option Addr) (m cb : Nat) (D : Option Addr) (tl cd : Nat) (w : World) (hN : N ≤ maxLen) (hm : m ≤ maxLen) (ht : tl ≤ maxLen) (ws : List Int) (hr : RdU w A ws) (hws : ws.length = N) (hv : ∀ x ∈ ws, 0 ≤ x ∧ x < 18446744073709551616) (hN1 : N ≤ 1024) (h0 : 20 < m) :
    Calls Try.prog 8 #[.agg #[.int .i64 gn, .int .i64 gs, .int .i64 gh, .int .u32 gt], .slice A N c, .slice B m cb, .slice D tl cd] w fun e w' => e = .returned (.bool true) ∧ Below w.heap.size w w' := by
  unfold maxLen at hN hm ht
  have b0 : ((m : Int) == 0) = false := by simp; omega
  have b1 : decide ((20 : Int) < m) = true := decide_eq_true (by omega)
  have bN : decide ((1024 : Int) < N) = false := decide_eq_false (by omega)
  have HR := Lib.hid hr
  have HWS := Lib.hid hws
  have HV := Lib.hid hv
  clear hr hws hv
  have H := Lib.hid ((St.nil w).alloc #[.int .i64 gn, .int .i64 gs, .int .i64 gh, .int .u32 gt] 28)
  obtain ⟨q0, q1, q2, q3⟩ := cells4 (H.out.cells 0 rfl)
  go_enter Try.func8, Try.ntmps8
  go_wp2_with (first | ((have _h := H3); go_at_call 12; refine (src_new H3.out).mono ?_; rintro e w4 ⟨r, rfl, h⟩; (have H4 := Lib.hid (h)); clear h; clear q0 q1 q2 q3; (obtain ⟨q0, q1, q2, q3⟩ := cells4 (H4.out.cells 3 rfl)); clear _h) | ((have _h := H2); go_at_call 29; refine (rnew_st H2.out A c N ws (HR.out.kept H2.out.bel) hN1 HV.out HWS.out).mono ?_; rintro e w3 ⟨y, rfl, h⟩; (have H3 := Lib.hid (h)); clear h; clear q0 q1 q2 q3; (obtain ⟨q0, q1, q2, q3⟩ := cells4 (H3.out.cells 2 rfl)); clear _h) | ((have _h := H1); go_at_call 28; refine (new_st H1.out A c N ws (HR.out.kept H1.out.bel) hN1 HV.out HWS.out).mono ?_; rintro e w2 ⟨q, rfl, h⟩; (have H2 := Lib.hid (h)); clear h; clear q0 q1 q2 q3; (obtain ⟨q0, q1, q2, q3⟩ := cells4 (H2.out.cells 1 rfl)); clear _h) | ((have _h := H); go_at_call 9; refine (shown12 _).mono ?_; rintro e w1 ⟨rfl, hb⟩; (have H1 := Lib.hid (H.out.below hb)); clear hb; clear q0 q1 q2 q3; (obtain ⟨q0, q1, q2, q3⟩ := cells4 (H1.out.cells 0 rfl)); clear _h))
  go_ret
  exact ⟨rfl, bl_alloc H4.out.bel _⟩
set_option maxHeartbeats 16000000 in
set_option maxRecDepth 100000 in
theorem esteps_near_long (gn gs gh gt : Int) (A : Option Addr) (N c : Nat) (B : Option Addr) (m cb : Nat) (D : Option Addr) (tl cd : Nat) (w : World) (hN : N ≤ maxLen) (hm : m ≤ maxLen) (ht : tl ≤ maxLen) (ws : List Int) (hr : RdU w A ws) (hws : ws.length = N) (hv : ∀ x ∈ ws, 0 ≤ x ∧ x < 18446744073709551616) (hN1 : N ≤ 1024) (h0 : 0 < m) (h1 : m ≤ 20) (h2 : 200 < tl) :
    Calls Try.prog 8 #[.agg #[.int .i64 gn, .int .i64 gs, .int .i64 gh, .int .u32 gt], .slice A N c, .slice B m cb, .slice D tl cd] w fun e w' => e = .returned (.bool true) ∧ Below w.heap.size w w' := by
  unfold maxLen at hN hm ht
  have b0 : ((m : Int) == 0) = false := by simp; omega
  have b1 : decide ((20 : Int) < m) = false := decide_eq_false (by omega)
  have b2 : decide ((200 : Int) < tl) = true := decide_eq_true (by omega)
  have bN : decide ((1024 : Int) < N) = false := decide_eq_false (by omega)
  have HR := Lib.hid hr
  have HWS := Lib.hid hws
  have HV := Lib.hid hv
  clear hr hws hv
  have H := Lib.hid ((St.nil w).alloc #[.int .i64 gn, .int .i64 gs, .int .i64 gh, .int .u32 gt] 28)
  obtain ⟨q0, q1, q2, q3⟩ := cells4 (H.out.cells 0 rfl)
  go_enter Try.func8, Try.ntmps8
  go_wp2_with (first | ((have _h := H3); go_at_call 12; refine (src_new H3.out).mono ?_; rintro e w4 ⟨r, rfl, h⟩; (have H4 := Lib.hid (h)); clear h; clear q0 q1 q2 q3; (obtain ⟨q0, q1, q2, q3⟩ := cells4 (H4.out.cells 3 rfl)); clear _h) | ((have _h := H2); go_at_call 29; refine (rnew_st H2.out A c N ws (HR.out.kept H2.out.bel) hN1 HV.out HWS.out).mono ?_; rintro e w3 ⟨y, rfl, h⟩; (have H3 := Lib.hid (h)); clear h; clear q0 q1 q2 q3; (obtain ⟨q0, q1, q2, q3⟩ := cells4 (H3.out.cells 2 rfl)); clear _h) | ((have _h := H1); go_at_call 28; refine (new_st H1.out A c N ws (HR.out.kept H1.out.bel) hN1 HV.out HWS.out).mono ?_; rintro e w2 ⟨q, rfl, h⟩; (have H2 := Lib.hid (h)); clear h; clear q0 q1 q2 q3; (obtain ⟨q0, q1, q2, q3⟩ := cells4 (H2.out.cells 1 rfl)); clear _h) | ((have _h := H); go_at_call 9; refine (shown12 _).mono ?_; rintro e w1 ⟨rfl, hb⟩; (have H1 := Lib.hid (H.out.below hb)); clear hb; clear q0 q1 q2 q3; (obtain ⟨q0, q1, q2, q3⟩ := cells4 (H1.out.cells 0 rfl)); clear _h))
  go_ret
  exact ⟨rfl, bl_alloc H4.out.bel _⟩
set_option maxHeartbeats 16000000 in
set_option maxRecDepth 100000 in
theorem esteps_far_none (gn gs gh gt : Int) (A : Option Addr) (N c : Nat) (B : Option Addr) (m cb : Nat) (D : Option Addr) (tl cd : Nat) (w : World) (hN : N ≤ maxLen) (hm : m ≤ maxLen) (ht : tl ≤ maxLen) (hN1 : 1024 < N) (h0 : m = 0) :
    Calls Try.prog 8 #[.agg #[.int .i64 gn, .int .i64 gs, .int .i64 gh, .int .u32 gt], .slice A N c, .slice B m cb, .slice D tl cd] w fun e w' => e = .returned (.bool true) ∧ Below w.heap.size w w' := by
  unfold maxLen at hN hm ht
  subst h0
  have b0 : (((0 : Nat) : Int) == 0) = true := rfl
  have bN : decide ((1024 : Int) < N) = true := decide_eq_true (by omega)
  have H := Lib.hid ((St.nil w).alloc #[.int .i64 gn, .int .i64 gs, .int .i64 gh, .int .u32 gt] 28)
  obtain ⟨q0, q1, q2, q3⟩ := cells4 (H.out.cells 0 rfl)
  go_enter Try.func8, Try.ntmps8
  go_wp2_with (first | ((have _h := H3); go_at_call 12; refine (src_new H3.out).mono ?_; rintro e w4 ⟨r, rfl, h⟩; (have H4 := Lib.hid (h)); clear h; clear q0 q1 q2 q3; (obtain ⟨q0, q1, q2, q3⟩ := cells4 (H4.out.cells 1 rfl)); clear _h) | ((have _h := H2); go_at_call 29; refine (rnew_no A N c _ hN1).mono ?_; rintro e w3 ⟨rfl, rfl⟩; (have H3 := Lib.hid (H2.out)); clear q0 q1 q2 q3; (obtain ⟨q0, q1, q2, q3⟩ := cells4 (H3.out.cells 0 rfl)); clear _h) | ((have _h := H1); go_at_call 28; refine (new_no A N c _ hN1).mono ?_; rintro e w2 ⟨rfl, rfl⟩; (have H2 := Lib.hid (H1.out)); clear q0 q1 q2 q3; (obtain ⟨q0, q1, q2, q3⟩ := cells4 (H2.out.cells 0 rfl)); clear _h) | ((have _h := H); go_at_call 9; refine (shown12 _).mono ?_; rintro e w1 ⟨rfl, hb⟩; (have H1 := Lib.hid (H.out.below hb)); clear hb; clear q0 q1 q2 q3; (obtain ⟨q0, q1, q2, q3⟩ := cells4 (H1.out.cells 0 rfl)); clear _h))
  go_ret
  exact ⟨rfl, bl_alloc H4.out.bel _⟩
set_option maxHeartbeats 16000000 in
set_option maxRecDepth 100000 in
theorem esteps_far_many (gn gs gh gt : Int) (A : Option Addr) (N c : Nat) (B : Option Addr) (m cb : Nat) (D : Option Addr) (tl cd : Nat) (w : World) (hN : N ≤ maxLen) (hm : m ≤ maxLen) (ht : tl ≤ maxLen) (hN1 : 1024 < N) (h0 : 20 < m) :
    Calls Try.prog 8 #[.agg #[.int .i64 gn, .int .i64 gs, .int .i64 gh, .int .u32 gt], .slice A N c, .slice B m cb, .slice D tl cd] w fun e w' => e = .returned (.bool true) ∧ Below w.heap.size w w' := by
  unfold maxLen at hN hm ht
  have b0 : ((m : Int) == 0) = false := by simp; omega
  have b1 : decide ((20 : Int) < m) = true := decide_eq_true (by omega)
  have bN : decide ((1024 : Int) < N) = true := decide_eq_true (by omega)
  have H := Lib.hid ((St.nil w).alloc #[.int .i64 gn, .int .i64 gs, .int .i64 gh, .int .u32 gt] 28)
  obtain ⟨q0, q1, q2, q3⟩ := cells4 (H.out.cells 0 rfl)
  go_enter Try.func8, Try.ntmps8
  go_wp2_with (first | ((have _h := H3); go_at_call 12; refine (src_new H3.out).mono ?_; rintro e w4 ⟨r, rfl, h⟩; (have H4 := Lib.hid (h)); clear h; clear q0 q1 q2 q3; (obtain ⟨q0, q1, q2, q3⟩ := cells4 (H4.out.cells 1 rfl)); clear _h) | ((have _h := H2); go_at_call 29; refine (rnew_no A N c _ hN1).mono ?_; rintro e w3 ⟨rfl, rfl⟩; (have H3 := Lib.hid (H2.out)); clear q0 q1 q2 q3; (obtain ⟨q0, q1, q2, q3⟩ := cells4 (H3.out.cells 0 rfl)); clear _h) | ((have _h := H1); go_at_call 28; refine (new_no A N c _ hN1).mono ?_; rintro e w2 ⟨rfl, rfl⟩; (have H2 := Lib.hid (H1.out)); clear q0 q1 q2 q3; (obtain ⟨q0, q1, q2, q3⟩ := cells4 (H2.out.cells 0 rfl)); clear _h) | ((have _h := H); go_at_call 9; refine (shown12 _).mono ?_; rintro e w1 ⟨rfl, hb⟩; (have H1 := Lib.hid (H.out.below hb)); clear hb; clear q0 q1 q2 q3; (obtain ⟨q0, q1, q2, q3⟩ := cells4 (H1.out.cells 0 rfl)); clear _h))
  go_ret
  exact ⟨rfl, bl_alloc H4.out.bel _⟩
set_option maxHeartbeats 16000000 in
set_option maxRecDepth 100000 in
theorem esteps_far_long (gn gs gh gt : Int) (A : Option Addr) (N c : Nat) (B : Option Addr) (m cb : Nat) (D : Option Addr) (tl cd : Nat) (w : World) (hN : N ≤ maxLen) (hm : m ≤ maxLen) (ht : tl ≤ maxLen) (hN1 : 1024 < N) (h0 : 0 < m) (h1 : m ≤ 20) (h2 : 200 < tl) :
    Calls Try.prog 8 #[.agg #[.int .i64 gn, .int .i64 gs, .int .i64 gh, .int .u32 gt], .slice A N c, .slice B m cb, .slice D tl cd] w fun e w' => e = .returned (.bool true) ∧ Below w.heap.size w w' := by
  unfold maxLen at hN hm ht
  have b0 : ((m : Int) == 0) = false := by simp; omega
  have b1 : decide ((20 : Int) < m) = false := decide_eq_false (by omega)
  have b2 : decide ((200 : Int) < tl) = true := decide_eq_true (by omega)
  have bN : decide ((1024 : Int) < N) = true := decide_eq_true (by omega)
  have H := Lib.hid ((St.nil w).alloc #[.int .i64 gn, .int .i64 gs, .int .i64 gh, .int .u32 gt] 28)
  obtain ⟨q0, q1, q2, q3⟩ := cells4 (H.out.cells 0 rfl)
  go_enter Try.func8, Try.ntmps8
  go_wp2_with (first | ((have _h := H3); go_at_call 12; refine (src_new H3.out).mono ?_; rintro e w4 ⟨r, rfl, h⟩; (have H4 := Lib.hid (h)); clear h; clear q0 q1 q2 q3; (obtain ⟨q0, q1, q2, q3⟩ := cells4 (H4.out.cells 1 rfl)); clear _h) | ((have _h := H2); go_at_call 29; refine (rnew_no A N c _ hN1).mono ?_; rintro e w3 ⟨rfl, rfl⟩; (have H3 := Lib.hid (H2.out)); clear q0 q1 q2 q3; (obtain ⟨q0, q1, q2, q3⟩ := cells4 (H3.out.cells 0 rfl)); clear _h) | ((have _h := H1); go_at_call 28; refine (new_no A N c _ hN1).mono ?_; rintro e w2 ⟨rfl, rfl⟩; (have H2 := Lib.hid (H1.out)); clear q0 q1 q2 q3; (obtain ⟨q0, q1, q2, q3⟩ := cells4 (H2.out.cells 0 rfl)); clear _h) | ((have _h := H); go_at_call 9; refine (shown12 _).mono ?_; rintro e w1 ⟨rfl, hb⟩; (have H1 := Lib.hid (H.out.below hb)); clear hb; clear q0 q1 q2 q3; (obtain ⟨q0, q1, q2, q3⟩ := cells4 (H1.out.cells 0 rfl)); clear _h))
  go_ret
  exact ⟨rfl, bl_alloc H4.out.bel _⟩
set_option maxHeartbeats 16000000 in
set_option maxRecDepth 100000 in
theorem esteps_far_fine (gn gs gh gt : Int) (A : Option Addr) (N c : Nat) (B : Option Addr) (m cb : Nat) (D : Option Addr) (tl cd : Nat) (w : World) (hN : N ≤ maxLen) (hm : m ≤ maxLen) (ht : tl ≤ maxLen) (hN1 : 1024 < N) (h0 : 0 < m) (h1 : m ≤ 20) (h2 : tl ≤ 200) :
    Calls Try.prog 8 #[.agg #[.int .i64 gn, .int .i64 gs, .int .i64 gh, .int .u32 gt], .slice A N c, .slice B m cb, .slice D tl cd] w fun e w' => e = .returned (.bool true) ∧ Below w.heap.size w w' := by
  unfold maxLen at hN hm ht
  have b0 : ((m : Int) == 0) = false := by simp; omega
  have b1 : decide ((20 : Int) < m) = false := decide_eq_false (by omega)
  have b2 : decide ((200 : Int) < tl) = false := decide_eq_false (by omega)
  have bN : decide ((1024 : Int) < N) = true := decide_eq_true (by omega)
  have H := Lib.hid ((St.nil w).alloc #[.int .i64 gn, .int .i64 gs, .int .i64 gh, .int .u32 gt] 28)
  obtain ⟨q0, q1, q2, q3⟩ := cells4 (H.out.cells 0 rfl)
  go_enter Try.func8, Try.ntmps8
  go_wp2_with (first | ((have _h := H3); go_at_call 12; refine (src_new H3.out).mono ?_; rintro e w4 ⟨r, rfl, h⟩; (have H4 := Lib.hid (h)); clear h; clear q0 q1 q2 q3; (obtain ⟨q0, q1, q2, q3⟩ := cells4 (H4.out.cells 1 rfl)); clear _h) | ((have _h := H2); go_at_call 29; refine (rnew_no A N c _ hN1).mono ?_; rintro e w3 ⟨rfl, rfl⟩; (have H3 := Lib.hid (H2.out)); clear q0 q1 q2 q3; (obtain ⟨q0, q1, q2, q3⟩ := cells4 (H3.out.cells 0 rfl)); clear _h) | ((have _h := H1); go_at_call 28; refine (new_no A N c _ hN1).mono ?_; rintro e w2 ⟨rfl, rfl⟩; (have H2 := Lib.hid (H1.out)); clear q0 q1 q2 q3; (obtain ⟨q0, q1, q2, q3⟩ := cells4 (H2.out.cells 0 rfl)); clear _h) | ((have _h := H); go_at_call 9; refine (shown12 _).mono ?_; rintro e w1 ⟨rfl, hb⟩; (have H1 := Lib.hid (H.out.below hb)); clear hb; clear q0 q1 q2 q3; (obtain ⟨q0, q1, q2, q3⟩ := cells4 (H1.out.cells 0 rfl)); clear _h))
  go_ret
  exact ⟨rfl, bl_alloc H4.out.bel _⟩
end Go.Proofs.Ythnjeiandfdpgaa
