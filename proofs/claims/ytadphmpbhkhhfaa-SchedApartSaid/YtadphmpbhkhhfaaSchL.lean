/-
  Chapter 16: the example, and two statements: what errs is told; what is lost between a read and a write.
-/
import Derived.Test.YtadphmpbhkhhfaaSchM
import Derived.Test.YtadphmpbhkhhfaaWf
namespace Go.Proofs.Ytadphmpbhkhhfaa
open Go.RowKit
set_option linter.unusedVariables false
set_option linter.unusedSimpArgs false

theorem RdU.none {w : World} : RdU w none [] := ⟨fun _ => rfl, fun h => by simp at h⟩
theorem rdU_1 {w : World} {b : Nat} {x : Int} (h : w.heap[b]? = some (.cells #[.int .u64 x] 22 (0, 0))) : RdU w (some ⟨b, 0, Option.none⟩) [x] := lit1 h
set_option maxHeartbeats 4000000 in
theorem shown16 (w : World) : Calls Try.prog 7 #[] w fun e w' => e = .returned (.bool true) ∧ Below w.heap.size w w' := by
  have H := Lib.hid (St.nil w)
  go_enter Try.func7, Try.ntmps7
  go_wp2_with (first | ((have _h := H4); go_at_call 18; refine (sch_src HS.out).mono ?_; rintro e w5 ⟨rfl, rfl⟩; (have H5 := Lib.hid (HS.out)); clear _h) | ((have _h := H3); go_at_call 11; refine (sch_mem HS.out).mono ?_; rintro e w4 ⟨rfl, rfl⟩; (have H4 := Lib.hid (HS.out)); clear _h) | ((have _h := H2); go_at_call 10; refine (pick_none HS.out 1 (by omega)).mono ?_; rintro e w3 ⟨rfl, rfl⟩; (have H3 := Lib.hid (HS.out)); clear _h) | ((have _h := H1); go_at_call 10; refine (pick_idle HS.out 0 (by decide) rfl).mono ?_; rintro e w2 ⟨rfl, rfl⟩; (have H2 := Lib.hid (HS.out)); clear _h) | ((have _h := H); go_at_call 8; refine (sched_new none 0 0 [] 1 H.out RdU.none (by decide) (fun x h => absurd h (by simp)) rfl (by decide) (by decide)).mono ?_; rintro e w1 ⟨p, q, r, g, rfl, h⟩; (have H1 := Lib.hid (h.re 4 [1, 2, 0, 3])); clear h; (have HS := Lib.hid (show St w (schB p q r g 1 0 :: thR g 1 [.nilIface] :: [memA q [] [], srcA r 0 []]) _ from H1.out)); clear _h))
  go_ret
  exact ⟨rfl, H5.out.bel⟩
theorem set_at {l : List Value} {k : Nat} {a : Value} (b : Value) (h : l[k]? = some a) : (l.set k b)[k]? = some b := List.getElem?_set_self (List.getElem?_eq_some_iff.1 h).1
theorem set_at2 {w0 w : World} {p q r g n k : Nat} {c : Int} {ts : List Value} {a v : Value} {L : List Asn} (h : St w0 (schB p q r g n c :: thR g n (ts.set k v) :: L) w) (hx : ts[k]? = some a) : (ts.set k v)[k]? = some v := List.getElem?_set_self (List.getElem?_eq_some_iff.1 hx).1
theorem pick16_is (c n k : Int) (w : World) (hk : pickI c n = k) (h0 : 0 < n) (h1 : n < 9223372036854775808) (c0 : -9223372036854775808 ≤ c) (c1 : c < 9223372036854775808) :
    Calls Try.prog 14 #[.int .i64 c, .int .i64 n] w fun e w' => e = .returned (.int .i64 k) ∧ w = w' := by
  subst hk
  by_cases hc : c < 0
  · have e : pickI c n = (-(c + 1)) % n := by simp [pickI, hc]
    rw [e]
    have d0 : decide (c < 0) = true := decide_eq_true hc
    have b1 : 0 ≤ -(c + 1) := by omega
    have b2 : -(c + 1) < 9223372036854775808 := by omega
    have b3 : -9223372036854775808 ≤ c + 1 := by omega
    have b4 : (-(c + 1)).tmod n = (-(c + 1)) % n := Int.tmod_eq_emod_of_nonneg b1
    go_enter Try.func14, Try.ntmps14
    go_wp2
    go_ret
    exact ⟨rfl, rfl⟩
  · have e : pickI c n = c % n := by simp [pickI, hc]
    rw [e]
    have d0 : decide (c < 0) = false := decide_eq_false hc
    have b1 : 0 ≤ c := by omega
    go_enter Try.func14, Try.ntmps14
    go_wp2
    go_ret
    exact ⟨rfl, rfl⟩
set_option maxRecDepth 20000 in
set_option maxHeartbeats 8000000 in
theorem schedErrs_low (n t d : Int) (w : World) (hn : n < 1) :
    Calls Try.prog 6 #[.int .i64 n, .int .i64 t, .int .u64 d] w fun e w' => e = .returned (.bool true) ∧ Below w.heap.size w w' := by
  have d0 : decide (n < 1) = true := decide_eq_true hn
  have H := Lib.hid (St.nil w)
  go_enter Try.func6, Try.ntmps6
  go_wp2_with (first | ((have _h := H1); go_at_call 8; refine (sched_no (some ⟨_, 0, none⟩) _ 1 [5] n (H1.out.below (bl_alloc (bl_refl _) _)) (rdU_1 (heap_new rfl)) (by decide) (rng1 (by decide) (by decide)) rfl (.inl hn)).mono ?_; rintro e w2 ⟨rfl, h⟩; (have H2 := Lib.hid (h)); clear h; clear _h) | ((have _h := H); go_at_call 7; refine (shown16 _).mono ?_; rintro e w1 ⟨rfl, hb⟩; (have H1 := Lib.hid (H.out.below hb)); clear hb; clear _h))
  go_ret
  exact ⟨rfl, H2.out.bel⟩
set_option maxRecDepth 20000 in
set_option maxHeartbeats 8000000 in
theorem schedErrs_high (n t d : Int) (w : World) (hn : 8 < n) :
    Calls Try.prog 6 #[.int .i64 n, .int .i64 t, .int .u64 d] w fun e w' => e = .returned (.bool true) ∧ Below w.heap.size w w' := by
  have d0 : decide (n < 1) = false := decide_eq_false (by omega)
  have d1 : decide (8 < n) = true := decide_eq_true hn
  have H := Lib.hid (St.nil w)
  go_enter Try.func6, Try.ntmps6
  go_wp2_with (first | ((have _h := H1); go_at_call 8; refine (sched_no (some ⟨_, 0, none⟩) _ 1 [5] n (H1.out.below (bl_alloc (bl_refl _) _)) (rdU_1 (heap_new rfl)) (by decide) (rng1 (by decide) (by decide)) rfl (.inr hn)).mono ?_; rintro e w2 ⟨rfl, h⟩; (have H2 := Lib.hid (h)); clear h; clear _h) | ((have _h := H); go_at_call 7; refine (shown16 _).mono ?_; rintro e w1 ⟨rfl, hb⟩; (have H1 := Lib.hid (H.out.below hb)); clear hb; clear _h))
  go_ret
  exact ⟨rfl, H2.out.bel⟩
set_option maxRecDepth 20000 in
set_option maxHeartbeats 8000000 in
theorem schedErrs_d0noa (n t d : Int) (w : World) (hd : d < 64) (hd0 : 0 ≤ d) (m : Nat) (hm : n = m) (n1 : 1 ≤ m) (n8 : m ≤ 8) (ht : t < 0) :
    Calls Try.prog 6 #[.int .i64 n, .int .i64 t, .int .u64 d] w fun e w' => e = .returned (.bool true) ∧ Below w.heap.size w w' := by
  have g2 : decide (d < 64) = true := decide_eq_true hd
  subst hm
  have d0 : decide ((m : Int) < 1) = false := decide_eq_false (by omega)
  have d1 : decide (8 < (m : Int)) = false := decide_eq_false (by omega)
  have t0 : decide ((0 : Int) ≤ t) = false := decide_eq_false (by omega)
  have H := Lib.hid (St.nil w)
  go_enter Try.func6, Try.ntmps6
  go_wp2_with (first | ((have _h := H8); go_at_call 13; refine (busy_none H8.out t (by omega)).mono ?_; rintro e w9 ⟨rfl, rfl⟩; (have H9 := Lib.hid (H8.out)); clear _h) | ((have _h := H7); go_at_call 15; refine (sch_picks H7.out).mono ?_; rintro e w8 ⟨rfl, rfl⟩; (have H8 := Lib.hid (H7.out)); clear _h) | ((have _h := H6); go_at_call 17; refine (draw_ok (show St w (schB p q r g m 0 :: srcA r 0 [] :: thR g m (List.replicate m .nilIface) :: [memA q [5] []]) _ from H6.out.re 3 [0, 2, 1]) d hd0 hd (by decide)).mono ?_; rintro e w7 ⟨rfl, h⟩; (have H7 := Lib.hid ((show St w (schB p q r g m 0 :: thR g m (List.replicate m .nilIface) :: _) _ from h.re 3 [0, 2, 1]))); clear h; clear _h) | ((have _h := H5); go_at_call 9; refine (begin_none (show St w (schB p q r g m 0 :: thR g m (List.replicate m .nilIface) :: srcA r 0 [] :: [memA q [5] []]) _ from (H5.out.alloc #[.int .i64 0, .int .i64 9, .int .u64 0] 46).re 5 [1, 2, 3, 4]) t _ (by omega)).mono ?_; rintro e w6 ⟨rfl, rfl⟩; (have H6 := Lib.hid ((show St w (schB p q r g m 0 :: thR g m (List.replicate m .nilIface) :: srcA r 0 [] :: [memA q [5] []]) _ from (H5.out.alloc #[.int .i64 0, .int .i64 9, .int .u64 0] 46).re 5 [1, 2, 3, 4]))); clear _h) | ((have _h := H4); go_at_call 9; refine (begin_none (show St w (schB p q r g m 0 :: thR g m (List.replicate m .nilIface) :: srcA r 0 [] :: [memA q [5] []]) _ from (H4.out.alloc #[.int .i64 0, .int .i64 2, .int .u64 0] 46).re 5 [1, 2, 3, 4]) t _ (by omega)).mono ?_; rintro e w5 ⟨rfl, rfl⟩; (have H5 := Lib.hid ((show St w (schB p q r g m 0 :: thR g m (List.replicate m .nilIface) :: srcA r 0 [] :: [memA q [5] []]) _ from (H4.out.alloc #[.int .i64 0, .int .i64 2, .int .u64 0] 46).re 5 [1, 2, 3, 4]))); clear _h) | ((have _h := H3); go_at_call 9; refine (begin_none H3.out t _ (by omega)).mono ?_; rintro e w4 ⟨rfl, rfl⟩; (have H4 := Lib.hid (H3.out)); clear _h) | ((have _h := H2); go_at_call 10; refine (pick_none H2.out t (by omega)).mono ?_; rintro e w3 ⟨rfl, rfl⟩; (have H3 := Lib.hid (H2.out)); clear _h) | ((have _h := H1); go_at_call 8; refine (sched_new (some ⟨_, 0, none⟩) _ 1 [5] m (H1.out.below (bl_alloc (bl_refl _) _)) (rdU_1 (heap_new rfl)) (by decide) (rng1 (by decide) (by decide)) rfl n1 n8).mono ?_; rintro e w2 ⟨p, q, r, g, rfl, h⟩; (have H2 := Lib.hid ((show St w (schB p q r g m 0 :: thR g m (List.replicate m .nilIface) :: srcA r 0 [] :: [memA q [5] []]) _ from h.re 4 [1, 2, 3, 0]))); clear h; clear _h) | ((have _h := H); go_at_call 7; refine (shown16 _).mono ?_; rintro e w1 ⟨rfl, hb⟩; (have H1 := Lib.hid (H.out.below hb)); clear hb; clear _h))
  go_ret
  exact ⟨rfl, H9.out.bel⟩
set_option maxRecDepth 20000 in
set_option maxHeartbeats 8000000 in
theorem schedErrs_d0nob (n t d : Int) (w : World) (hd : d < 64) (hd0 : 0 ≤ d) (m : Nat) (hm : n = m) (n1 : 1 ≤ m) (n8 : m ≤ 8) (ht : (m : Int) ≤ t) :
    Calls Try.prog 6 #[.int .i64 n, .int .i64 t, .int .u64 d] w fun e w' => e = .returned (.bool true) ∧ Below w.heap.size w w' := by
  have g2 : decide (d < 64) = true := decide_eq_true hd
  subst hm
  have d0 : decide ((m : Int) < 1) = false := decide_eq_false (by omega)
  have d1 : decide (8 < (m : Int)) = false := decide_eq_false (by omega)
  have t0 : decide ((0 : Int) ≤ t) = true := decide_eq_true (by omega)
  have t1 : decide (t < (m : Int)) = false := decide_eq_false (by omega)
  have H := Lib.hid (St.nil w)
  go_enter Try.func6, Try.ntmps6
  go_wp2_with (first | ((have _h := H8); go_at_call 13; refine (busy_none H8.out t (by omega)).mono ?_; rintro e w9 ⟨rfl, rfl⟩; (have H9 := Lib.hid (H8.out)); clear _h) | ((have _h := H7); go_at_call 15; refine (sch_picks H7.out).mono ?_; rintro e w8 ⟨rfl, rfl⟩; (have H8 := Lib.hid (H7.out)); clear _h) | ((have _h := H6); go_at_call 17; refine (draw_ok (show St w (schB p q r g m 0 :: srcA r 0 [] :: thR g m (List.replicate m .nilIface) :: [memA q [5] []]) _ from H6.out.re 3 [0, 2, 1]) d hd0 hd (by decide)).mono ?_; rintro e w7 ⟨rfl, h⟩; (have H7 := Lib.hid ((show St w (schB p q r g m 0 :: thR g m (List.replicate m .nilIface) :: _) _ from h.re 3 [0, 2, 1]))); clear h; clear _h) | ((have _h := H5); go_at_call 9; refine (begin_none (show St w (schB p q r g m 0 :: thR g m (List.replicate m .nilIface) :: srcA r 0 [] :: [memA q [5] []]) _ from (H5.out.alloc #[.int .i64 0, .int .i64 9, .int .u64 0] 46).re 5 [1, 2, 3, 4]) t _ (by omega)).mono ?_; rintro e w6 ⟨rfl, rfl⟩; (have H6 := Lib.hid ((show St w (schB p q r g m 0 :: thR g m (List.replicate m .nilIface) :: srcA r 0 [] :: [memA q [5] []]) _ from (H5.out.alloc #[.int .i64 0, .int .i64 9, .int .u64 0] 46).re 5 [1, 2, 3, 4]))); clear _h) | ((have _h := H4); go_at_call 9; refine (begin_none (show St w (schB p q r g m 0 :: thR g m (List.replicate m .nilIface) :: srcA r 0 [] :: [memA q [5] []]) _ from (H4.out.alloc #[.int .i64 0, .int .i64 2, .int .u64 0] 46).re 5 [1, 2, 3, 4]) t _ (by omega)).mono ?_; rintro e w5 ⟨rfl, rfl⟩; (have H5 := Lib.hid ((show St w (schB p q r g m 0 :: thR g m (List.replicate m .nilIface) :: srcA r 0 [] :: [memA q [5] []]) _ from (H4.out.alloc #[.int .i64 0, .int .i64 2, .int .u64 0] 46).re 5 [1, 2, 3, 4]))); clear _h) | ((have _h := H3); go_at_call 9; refine (begin_none H3.out t _ (by omega)).mono ?_; rintro e w4 ⟨rfl, rfl⟩; (have H4 := Lib.hid (H3.out)); clear _h) | ((have _h := H2); go_at_call 10; refine (pick_none H2.out t (by omega)).mono ?_; rintro e w3 ⟨rfl, rfl⟩; (have H3 := Lib.hid (H2.out)); clear _h) | ((have _h := H1); go_at_call 8; refine (sched_new (some ⟨_, 0, none⟩) _ 1 [5] m (H1.out.below (bl_alloc (bl_refl _) _)) (rdU_1 (heap_new rfl)) (by decide) (rng1 (by decide) (by decide)) rfl n1 n8).mono ?_; rintro e w2 ⟨p, q, r, g, rfl, h⟩; (have H2 := Lib.hid ((show St w (schB p q r g m 0 :: thR g m (List.replicate m .nilIface) :: srcA r 0 [] :: [memA q [5] []]) _ from h.re 4 [1, 2, 3, 0]))); clear h; clear _h) | ((have _h := H); go_at_call 7; refine (shown16 _).mono ?_; rintro e w1 ⟨rfl, hb⟩; (have H1 := Lib.hid (H.out.below hb)); clear hb; clear _h))
  go_ret
  exact ⟨rfl, H9.out.bel⟩
set_option maxRecDepth 20000 in
set_option maxHeartbeats 8000000 in
theorem schedErrs_d0yes (n t d : Int) (w : World) (hd : d < 64) (hd0 : 0 ≤ d) (m k : Nat) (hm : n = m) (n1 : 1 ≤ m) (n8 : m ≤ 8) (hk : t = k) (ht : k < m) :
    Calls Try.prog 6 #[.int .i64 n, .int .i64 t, .int .u64 d] w fun e w' => e = .returned (.bool true) ∧ Below w.heap.size w w' := by
  have g2 : decide (d < 64) = true := decide_eq_true hd
  subst hm
  subst hk
  have t0 : decide ((0 : Int) ≤ (k : Int)) = true := decide_eq_true (by omega)
  have t1 : decide ((k : Int) < (m : Int)) = true := decide_eq_true (by omega)
  have hr0 : (List.replicate m Value.nilIface)[k]? = some .nilIface := by simp [ht]
  have HR0 := Lib.hid hr0
  clear hr0
  have d0 : decide ((m : Int) < 1) = false := decide_eq_false (by omega)
  have d1 : decide (8 < (m : Int)) = false := decide_eq_false (by omega)
  have H := Lib.hid (St.nil w)
  go_enter Try.func6, Try.ntmps6
  go_wp2_with (first | ((have _h := H8); go_at_call 13; refine (busy_yes H8.out k ht _ _ HR1.out).mono ?_; rintro e w9 ⟨rfl, rfl⟩; (have H9 := Lib.hid (H8.out)); clear _h) | ((have _h := H7); go_at_call 15; refine (sch_picks H7.out).mono ?_; rintro e w8 ⟨rfl, rfl⟩; (have H8 := Lib.hid (H7.out)); clear _h) | ((have _h := H6); go_at_call 17; refine (draw_ok (show St w (schB p q r g m 0 :: srcA r 0 [] :: thR g m ((List.replicate m .nilIface).set k _) :: [memA q [5] []]) _ from H6.out.re 3 [0, 2, 1]) d hd0 hd (by decide)).mono ?_; rintro e w7 ⟨rfl, h⟩; (have H7 := Lib.hid ((show St w (schB p q r g m 0 :: thR g m ((List.replicate m .nilIface).set k _) :: _) _ from h.re 3 [0, 2, 1]))); clear h; clear _h) | ((have _h := H5); go_at_call 9; refine (begin_busy (show St w (schB p q r g m 0 :: thR g m ((List.replicate m .nilIface).set k _) :: srcA r 0 [] :: [memA q [5] []]) _ from (H5.out.alloc #[.int .i64 0, .int .i64 9, .int .u64 0] 46).re 5 [1, 2, 3, 4]) k _ ht _ _ HR1.out).mono ?_; rintro e w6 ⟨rfl, rfl⟩; (have H6 := Lib.hid ((show St w (schB p q r g m 0 :: thR g m ((List.replicate m .nilIface).set k _) :: srcA r 0 [] :: [memA q [5] []]) _ from (H5.out.alloc #[.int .i64 0, .int .i64 9, .int .u64 0] 46).re 5 [1, 2, 3, 4]))); clear _h) | ((have _h := H4); go_at_call 9; refine (begin_ok (show St w (schB p q r g m 0 :: thR g m (List.replicate m .nilIface) :: srcA r 0 [] :: [memA q [5] []]) _ from (H4.out.alloc #[.int .i64 0, .int .i64 2, .int .u64 0] 46).re 5 [1, 2, 3, 4]) k ht _ _ HR0.out).mono ?_; rintro e w5 ⟨rfl, h⟩; (have H5 := Lib.hid (h)); (have HR1 := Lib.hid (set_at2 h HR0.out)); clear h; clear _h) | ((have _h := H3); go_at_call 9; refine (begin_nil H3.out k ht HR0.out).mono ?_; rintro e w4 ⟨rfl, rfl⟩; (have H4 := Lib.hid (H3.out)); clear _h) | ((have _h := H2); go_at_call 10; refine (pick_idle H2.out k ht HR0.out).mono ?_; rintro e w3 ⟨rfl, rfl⟩; (have H3 := Lib.hid (H2.out)); clear _h) | ((have _h := H1); go_at_call 8; refine (sched_new (some ⟨_, 0, none⟩) _ 1 [5] m (H1.out.below (bl_alloc (bl_refl _) _)) (rdU_1 (heap_new rfl)) (by decide) (rng1 (by decide) (by decide)) rfl n1 n8).mono ?_; rintro e w2 ⟨p, q, r, g, rfl, h⟩; (have H2 := Lib.hid ((show St w (schB p q r g m 0 :: thR g m (List.replicate m .nilIface) :: srcA r 0 [] :: [memA q [5] []]) _ from h.re 4 [1, 2, 3, 0]))); clear h; clear _h) | ((have _h := H); go_at_call 7; refine (shown16 _).mono ?_; rintro e w1 ⟨rfl, hb⟩; (have H1 := Lib.hid (H.out.below hb)); clear hb; clear _h))
  go_ret
  exact ⟨rfl, H9.out.bel⟩
set_option maxRecDepth 20000 in
set_option maxHeartbeats 8000000 in
theorem schedErrs_d1noa (n t d : Int) (w : World) (hd : 64 ≤ d) (m : Nat) (hm : n = m) (n1 : 1 ≤ m) (n8 : m ≤ 8) (ht : t < 0) :
    Calls Try.prog 6 #[.int .i64 n, .int .i64 t, .int .u64 d] w fun e w' => e = .returned (.bool true) ∧ Below w.heap.size w w' := by
  have g2 : decide (d < 64) = false := decide_eq_false (by omega)
  subst hm
  have d0 : decide ((m : Int) < 1) = false := decide_eq_false (by omega)
  have d1 : decide (8 < (m : Int)) = false := decide_eq_false (by omega)
  have t0 : decide ((0 : Int) ≤ t) = false := decide_eq_false (by omega)
  have H := Lib.hid (St.nil w)
  go_enter Try.func6, Try.ntmps6
  go_wp2_with (first | ((have _h := H8); go_at_call 13; refine (busy_none H8.out t (by omega)).mono ?_; rintro e w9 ⟨rfl, rfl⟩; (have H9 := Lib.hid (H8.out)); clear _h) | ((have _h := H7); go_at_call 15; refine (sch_picks H7.out).mono ?_; rintro e w8 ⟨rfl, rfl⟩; (have H8 := Lib.hid (H7.out)); clear _h) | ((have _h := H6); go_at_call 17; refine (draw_no (show St w (schB p q r g m 0 :: srcA r 0 [] :: thR g m (List.replicate m .nilIface) :: [memA q [5] []]) _ from H6.out.re 3 [0, 2, 1]) d hd).mono ?_; rintro e w7 ⟨rfl, h⟩; (have H7 := Lib.hid ((show St w (schB p q r g m 0 :: thR g m (List.replicate m .nilIface) :: _) _ from h.re 3 [0, 2, 1]))); clear h; clear _h) | ((have _h := H5); go_at_call 9; refine (begin_none (show St w (schB p q r g m 0 :: thR g m (List.replicate m .nilIface) :: srcA r 0 [] :: [memA q [5] []]) _ from (H5.out.alloc #[.int .i64 0, .int .i64 9, .int .u64 0] 46).re 5 [1, 2, 3, 4]) t _ (by omega)).mono ?_; rintro e w6 ⟨rfl, rfl⟩; (have H6 := Lib.hid ((show St w (schB p q r g m 0 :: thR g m (List.replicate m .nilIface) :: srcA r 0 [] :: [memA q [5] []]) _ from (H5.out.alloc #[.int .i64 0, .int .i64 9, .int .u64 0] 46).re 5 [1, 2, 3, 4]))); clear _h) | ((have _h := H4); go_at_call 9; refine (begin_none (show St w (schB p q r g m 0 :: thR g m (List.replicate m .nilIface) :: srcA r 0 [] :: [memA q [5] []]) _ from (H4.out.alloc #[.int .i64 0, .int .i64 2, .int .u64 0] 46).re 5 [1, 2, 3, 4]) t _ (by omega)).mono ?_; rintro e w5 ⟨rfl, rfl⟩; (have H5 := Lib.hid ((show St w (schB p q r g m 0 :: thR g m (List.replicate m .nilIface) :: srcA r 0 [] :: [memA q [5] []]) _ from (H4.out.alloc #[.int .i64 0, .int .i64 2, .int .u64 0] 46).re 5 [1, 2, 3, 4]))); clear _h) | ((have _h := H3); go_at_call 9; refine (begin_none H3.out t _ (by omega)).mono ?_; rintro e w4 ⟨rfl, rfl⟩; (have H4 := Lib.hid (H3.out)); clear _h) | ((have _h := H2); go_at_call 10; refine (pick_none H2.out t (by omega)).mono ?_; rintro e w3 ⟨rfl, rfl⟩; (have H3 := Lib.hid (H2.out)); clear _h) | ((have _h := H1); go_at_call 8; refine (sched_new (some ⟨_, 0, none⟩) _ 1 [5] m (H1.out.below (bl_alloc (bl_refl _) _)) (rdU_1 (heap_new rfl)) (by decide) (rng1 (by decide) (by decide)) rfl n1 n8).mono ?_; rintro e w2 ⟨p, q, r, g, rfl, h⟩; (have H2 := Lib.hid ((show St w (schB p q r g m 0 :: thR g m (List.replicate m .nilIface) :: srcA r 0 [] :: [memA q [5] []]) _ from h.re 4 [1, 2, 3, 0]))); clear h; clear _h) | ((have _h := H); go_at_call 7; refine (shown16 _).mono ?_; rintro e w1 ⟨rfl, hb⟩; (have H1 := Lib.hid (H.out.below hb)); clear hb; clear _h))
  go_ret
  exact ⟨rfl, H9.out.bel⟩
set_option maxRecDepth 20000 in
set_option maxHeartbeats 8000000 in
theorem schedErrs_d1nob (n t d : Int) (w : World) (hd : 64 ≤ d) (m : Nat) (hm : n = m) (n1 : 1 ≤ m) (n8 : m ≤ 8) (ht : (m : Int) ≤ t) :
    Calls Try.prog 6 #[.int .i64 n, .int .i64 t, .int .u64 d] w fun e w' => e = .returned (.bool true) ∧ Below w.heap.size w w' := by
  have g2 : decide (d < 64) = false := decide_eq_false (by omega)
  subst hm
  have d0 : decide ((m : Int) < 1) = false := decide_eq_false (by omega)
  have d1 : decide (8 < (m : Int)) = false := decide_eq_false (by omega)
  have t0 : decide ((0 : Int) ≤ t) = true := decide_eq_true (by omega)
  have t1 : decide (t < (m : Int)) = false := decide_eq_false (by omega)
  have H := Lib.hid (St.nil w)
  go_enter Try.func6, Try.ntmps6
  go_wp2_with (first | ((have _h := H8); go_at_call 13; refine (busy_none H8.out t (by omega)).mono ?_; rintro e w9 ⟨rfl, rfl⟩; (have H9 := Lib.hid (H8.out)); clear _h) | ((have _h := H7); go_at_call 15; refine (sch_picks H7.out).mono ?_; rintro e w8 ⟨rfl, rfl⟩; (have H8 := Lib.hid (H7.out)); clear _h) | ((have _h := H6); go_at_call 17; refine (draw_no (show St w (schB p q r g m 0 :: srcA r 0 [] :: thR g m (List.replicate m .nilIface) :: [memA q [5] []]) _ from H6.out.re 3 [0, 2, 1]) d hd).mono ?_; rintro e w7 ⟨rfl, h⟩; (have H7 := Lib.hid ((show St w (schB p q r g m 0 :: thR g m (List.replicate m .nilIface) :: _) _ from h.re 3 [0, 2, 1]))); clear h; clear _h) | ((have _h := H5); go_at_call 9; refine (begin_none (show St w (schB p q r g m 0 :: thR g m (List.replicate m .nilIface) :: srcA r 0 [] :: [memA q [5] []]) _ from (H5.out.alloc #[.int .i64 0, .int .i64 9, .int .u64 0] 46).re 5 [1, 2, 3, 4]) t _ (by omega)).mono ?_; rintro e w6 ⟨rfl, rfl⟩; (have H6 := Lib.hid ((show St w (schB p q r g m 0 :: thR g m (List.replicate m .nilIface) :: srcA r 0 [] :: [memA q [5] []]) _ from (H5.out.alloc #[.int .i64 0, .int .i64 9, .int .u64 0] 46).re 5 [1, 2, 3, 4]))); clear _h) | ((have _h := H4); go_at_call 9; refine (begin_none (show St w (schB p q r g m 0 :: thR g m (List.replicate m .nilIface) :: srcA r 0 [] :: [memA q [5] []]) _ from (H4.out.alloc #[.int .i64 0, .int .i64 2, .int .u64 0] 46).re 5 [1, 2, 3, 4]) t _ (by omega)).mono ?_; rintro e w5 ⟨rfl, rfl⟩; (have H5 := Lib.hid ((show St w (schB p q r g m 0 :: thR g m (List.replicate m .nilIface) :: srcA r 0 [] :: [memA q [5] []]) _ from (H4.out.alloc #[.int .i64 0, .int .i64 2, .int .u64 0] 46).re 5 [1, 2, 3, 4]))); clear _h) | ((have _h := H3); go_at_call 9; refine (begin_none H3.out t _ (by omega)).mono ?_; rintro e w4 ⟨rfl, rfl⟩; (have H4 := Lib.hid (H3.out)); clear _h) | ((have _h := H2); go_at_call 10; refine (pick_none H2.out t (by omega)).mono ?_; rintro e w3 ⟨rfl, rfl⟩; (have H3 := Lib.hid (H2.out)); clear _h) | ((have _h := H1); go_at_call 8; refine (sched_new (some ⟨_, 0, none⟩) _ 1 [5] m (H1.out.below (bl_alloc (bl_refl _) _)) (rdU_1 (heap_new rfl)) (by decide) (rng1 (by decide) (by decide)) rfl n1 n8).mono ?_; rintro e w2 ⟨p, q, r, g, rfl, h⟩; (have H2 := Lib.hid ((show St w (schB p q r g m 0 :: thR g m (List.replicate m .nilIface) :: srcA r 0 [] :: [memA q [5] []]) _ from h.re 4 [1, 2, 3, 0]))); clear h; clear _h) | ((have _h := H); go_at_call 7; refine (shown16 _).mono ?_; rintro e w1 ⟨rfl, hb⟩; (have H1 := Lib.hid (H.out.below hb)); clear hb; clear _h))
  go_ret
  exact ⟨rfl, H9.out.bel⟩
set_option maxRecDepth 20000 in
set_option maxHeartbeats 8000000 in
theorem schedErrs_d1yes (n t d : Int) (w : World) (hd : 64 ≤ d) (m k : Nat) (hm : n = m) (n1 : 1 ≤ m) (n8 : m ≤ 8) (hk : t = k) (ht : k < m) :
    Calls Try.prog 6 #[.int .i64 n, .int .i64 t, .int .u64 d] w fun e w' => e = .returned (.bool true) ∧ Below w.heap.size w w' := by
  have g2 : decide (d < 64) = false := decide_eq_false (by omega)
  subst hm
  subst hk
  have t0 : decide ((0 : Int) ≤ (k : Int)) = true := decide_eq_true (by omega)
  have t1 : decide ((k : Int) < (m : Int)) = true := decide_eq_true (by omega)
  have hr0 : (List.replicate m Value.nilIface)[k]? = some .nilIface := by simp [ht]
  have HR0 := Lib.hid hr0
  clear hr0
  have d0 : decide ((m : Int) < 1) = false := decide_eq_false (by omega)
  have d1 : decide (8 < (m : Int)) = false := decide_eq_false (by omega)
  have H := Lib.hid (St.nil w)
  go_enter Try.func6, Try.ntmps6
  go_wp2_with (first | ((have _h := H8); go_at_call 13; refine (busy_yes H8.out k ht _ _ HR1.out).mono ?_; rintro e w9 ⟨rfl, rfl⟩; (have H9 := Lib.hid (H8.out)); clear _h) | ((have _h := H7); go_at_call 15; refine (sch_picks H7.out).mono ?_; rintro e w8 ⟨rfl, rfl⟩; (have H8 := Lib.hid (H7.out)); clear _h) | ((have _h := H6); go_at_call 17; refine (draw_no (show St w (schB p q r g m 0 :: srcA r 0 [] :: thR g m ((List.replicate m .nilIface).set k _) :: [memA q [5] []]) _ from H6.out.re 3 [0, 2, 1]) d hd).mono ?_; rintro e w7 ⟨rfl, h⟩; (have H7 := Lib.hid ((show St w (schB p q r g m 0 :: thR g m ((List.replicate m .nilIface).set k _) :: _) _ from h.re 3 [0, 2, 1]))); clear h; clear _h) | ((have _h := H5); go_at_call 9; refine (begin_busy (show St w (schB p q r g m 0 :: thR g m ((List.replicate m .nilIface).set k _) :: srcA r 0 [] :: [memA q [5] []]) _ from (H5.out.alloc #[.int .i64 0, .int .i64 9, .int .u64 0] 46).re 5 [1, 2, 3, 4]) k _ ht _ _ HR1.out).mono ?_; rintro e w6 ⟨rfl, rfl⟩; (have H6 := Lib.hid ((show St w (schB p q r g m 0 :: thR g m ((List.replicate m .nilIface).set k _) :: srcA r 0 [] :: [memA q [5] []]) _ from (H5.out.alloc #[.int .i64 0, .int .i64 9, .int .u64 0] 46).re 5 [1, 2, 3, 4]))); clear _h) | ((have _h := H4); go_at_call 9; refine (begin_ok (show St w (schB p q r g m 0 :: thR g m (List.replicate m .nilIface) :: srcA r 0 [] :: [memA q [5] []]) _ from (H4.out.alloc #[.int .i64 0, .int .i64 2, .int .u64 0] 46).re 5 [1, 2, 3, 4]) k ht _ _ HR0.out).mono ?_; rintro e w5 ⟨rfl, h⟩; (have H5 := Lib.hid (h)); (have HR1 := Lib.hid (set_at2 h HR0.out)); clear h; clear _h) | ((have _h := H3); go_at_call 9; refine (begin_nil H3.out k ht HR0.out).mono ?_; rintro e w4 ⟨rfl, rfl⟩; (have H4 := Lib.hid (H3.out)); clear _h) | ((have _h := H2); go_at_call 10; refine (pick_idle H2.out k ht HR0.out).mono ?_; rintro e w3 ⟨rfl, rfl⟩; (have H3 := Lib.hid (H2.out)); clear _h) | ((have _h := H1); go_at_call 8; refine (sched_new (some ⟨_, 0, none⟩) _ 1 [5] m (H1.out.below (bl_alloc (bl_refl _) _)) (rdU_1 (heap_new rfl)) (by decide) (rng1 (by decide) (by decide)) rfl n1 n8).mono ?_; rintro e w2 ⟨p, q, r, g, rfl, h⟩; (have H2 := Lib.hid ((show St w (schB p q r g m 0 :: thR g m (List.replicate m .nilIface) :: srcA r 0 [] :: [memA q [5] []]) _ from h.re 4 [1, 2, 3, 0]))); clear h; clear _h) | ((have _h := H); go_at_call 7; refine (shown16 _).mono ?_; rintro e w1 ⟨rfl, hb⟩; (have H1 := Lib.hid (H.out.below hb)); clear hb; clear _h))
  go_ret
  exact ⟨rfl, H9.out.bel⟩
theorem schedErrs_walk (n t d : Int) (w : World) (hn : (Lit.int .i64 n).wf = true) (ht : (Lit.int .i64 t).wf = true) (hd : (Lit.int .u64 d).wf = true) :
    Calls Try.prog 6 #[.int .i64 n, .int .i64 t, .int .u64 d] w fun e w' => e = .returned (.bool true) ∧ Below w.heap.size w w' := by
  obtain ⟨d0, d1⟩ := rngU64 hd
  by_cases h1 : n < 1
  · exact schedErrs_low n t d w h1
  by_cases h2 : 8 < n
  · exact schedErrs_high n t d w h2
  obtain ⟨m, rfl⟩ := Int.eq_ofNat_of_zero_le (show 0 ≤ n by omega)
  by_cases h3 : t < 0
  · by_cases c : d < 64
    · exact schedErrs_d0noa m t d w c d0 m rfl (by omega) (by omega) h3
    · exact schedErrs_d1noa m t d w (by omega) m rfl (by omega) (by omega) h3
  by_cases h4 : (m : Int) ≤ t
  · by_cases c : d < 64
    · exact schedErrs_d0nob m t d w c d0 m rfl (by omega) (by omega) h4
    · exact schedErrs_d1nob m t d w (by omega) m rfl (by omega) (by omega) h4
  obtain ⟨k, rfl⟩ := Int.eq_ofNat_of_zero_le (show 0 ≤ t by omega)
  by_cases c : d < 64
  · exact schedErrs_d0yes m k d w c d0 m k rfl (by omega) (by omega) rfl (by omega)
  · exact schedErrs_d1yes m k d w (by omega) m k rfl (by omega) (by omega) rfl (by omega)
end Go.Proofs.Ytadphmpbhkhhfaa
