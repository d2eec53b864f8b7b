/-
  SchedLost: two machines add to one word.
-/
import Derived.Test.YtadphmpbhkhhfaaSchL
namespace Go.Proofs.Ytadphmpbhkhhfaa
open Go.RowKit
set_option linter.unusedVariables false
set_option linter.unusedSimpArgs false

/-- What there is behind j picks. -/
inductive LoOk (x0 x1 : Nat) (a b z y : Int) : Bool → Nat → Int → List Int → Ad → Ad → List Value → Prop
  | f0 : LoOk x0 x1 a b z y false 0 0 [5] ⟨0, 1, a, false, 0, 0⟩ ⟨0, 1, b, false, 0, 0⟩ [adV x0, adV x1]
  | f1 : LoOk x0 x1 a b z y false 1 0 [5] ⟨0, 1, a, true, 5, 0⟩ ⟨0, 1, b, false, 0, 0⟩ [adV x0, adV x1]
  | f2 : LoOk x0 x1 a b z y false 2 z [z] ⟨0, 1, a, false, 5, 1⟩ ⟨0, 1, b, false, 0, 0⟩ [.nilIface, adV x1]
  | f3 : LoOk x0 x1 a b z y false 3 0 [z] ⟨0, 1, a, false, 5, 1⟩ ⟨0, 1, b, true, z, 0⟩ [.nilIface, adV x1]
  | f4 : LoOk x0 x1 a b z y false 4 y [y] ⟨0, 1, a, false, 5, 1⟩ ⟨0, 1, b, false, z, 1⟩ [.nilIface, .nilIface]
  | t0 : LoOk x0 x1 a b z y true 0 0 [5] ⟨0, 1, a, false, 0, 0⟩ ⟨0, 1, b, false, 0, 0⟩ [adV x0, adV x1]
  | t1 : LoOk x0 x1 a b z y true 1 0 [5] ⟨0, 1, a, true, 5, 0⟩ ⟨0, 1, b, false, 0, 0⟩ [adV x0, adV x1]
  | t2 : LoOk x0 x1 a b z y true 2 0 [5] ⟨0, 1, a, true, 5, 0⟩ ⟨0, 1, b, true, 5, 0⟩ [adV x0, adV x1]
  | t3 : LoOk x0 x1 a b z y true 3 z [z] ⟨0, 1, a, false, 5, 1⟩ ⟨0, 1, b, true, 5, 0⟩ [.nilIface, adV x1]
  | t4 : LoOk x0 x1 a b z y true 4 y [y] ⟨0, 1, a, false, 5, 1⟩ ⟨0, 1, b, false, 5, 1⟩ [.nilIface, .nilIface]
def LoSt (w0 : World) (p q r g x0 x1 : Nat) (a b z y : Int) (L : List Asn) (tn : Bool) (j : Nat) (v : Int) (w : World) : Prop :=
  ∃ ws ns S0 S1 ts, ns.length ≤ j ∧ LoOk x0 x1 a b z y tn j v ws S0 S1 ts ∧ St w0 (schB p q r g 2 j :: thR g 2 ts :: adA x0 S0 :: adA x1 S1 :: memA q ws ns :: L) w
/-- Whose turn it is. -/
def loT : Bool → Nat → Nat
  | false, j => j / 2
  | true, j => j % 2
theorem lo_cellf (j : Nat) (h : j < 4) : (#[Value.int .i64 0, .int .i64 0, .int .i64 1, .int .i64 1] : Array Value)[j]? = some (.int .i64 (loT false j : Nat)) := by
  match j, h with
  | 0, _ => rfl
  | 1, _ => rfl
  | 2, _ => rfl
  | 3, _ => rfl
theorem lo_cellt (j : Nat) (h : j < 4) : (#[Value.int .i64 0, .int .i64 1, .int .i64 0, .int .i64 1] : Array Value)[j]? = some (.int .i64 (loT true j : Nat)) := by
  match j, h with
  | 0, _ => rfl
  | 1, _ => rfl
  | 2, _ => rfl
  | 3, _ => rfl
theorem lo_step {w0 w : World} {p q r g x0 x1 : Nat} {a b z y v : Int} {L : List Asn} {tn : Bool} {j : Nat} (h : LoSt w0 p q r g x0 x1 a b z y L tn j v w) (hj : j < 4) (hz : (5 + a) % 18446744073709551616 = z) (hy : ((if tn = true then 5 else z) + b) % 18446744073709551616 = y) :
    Calls Try.prog 10 #[.pointer (some ⟨p, 0, none⟩), .int .i64 (loT tn j : Nat)] w fun e w' => ∃ s v', e = .returned (.tuple #[.int .i64 s, .int .u64 v', .int .i64 0]) ∧ LoSt w0 p q r g x0 x1 a b z y L tn (j + 1) v' w' := by
  obtain ⟨ws, ns, S0, S1, ts, hn, hok, hS⟩ := h
  have hnl : ns.length ≤ 1000000000000 := by omega
  cases hok with
  | f0 =>
    refine (pick_ad_load 0 0 1 a 5 0 0 (show St w0 (schB p q r g 2 ((0 : Nat) : Int) :: thR g 2 [adV x0, adV x1] :: adA x0 _ :: memA q [5] ns :: adA x1 _ :: L) w from hS.re 5 [0, 1, 2, 4, 3]) (by decide) rfl (by decide) (by decide) (by simp) (Lib.hid rfl) hnl).mono ?_
    rintro e w' ⟨rfl, h⟩
    exact ⟨_, _, rfl, _, _, _, _, _, by rw [List.length_append]; show _ + 1 ≤ _; omega, .f1, h.re 5 [0, 1, 2, 4, 3]⟩
  | f1 =>
    refine (pick_ad_end 0 0 1 a 5 5 z 0 (show St w0 (schB p q r g 2 ((1 : Nat) : Int) :: thR g 2 [adV x0, adV x1] :: adA x0 _ :: memA q [5] ns :: adA x1 _ :: L) w from hS.re 5 [0, 1, 2, 4, 3]) (by decide) rfl (by decide) (by decide) (by simp) (Lib.hid rfl) (Lib.hid hz) (by decide) (by decide) (by decide) hnl).mono ?_
    rintro e w' ⟨rfl, h⟩
    exact ⟨_, _, rfl, _, _, _, _, _, by rw [List.length_append]; show _ + 1 ≤ _; omega, .f2, h.re 5 [0, 1, 2, 4, 3]⟩
  | f2 =>
    refine (pick_ad_load 1 0 1 b z 0 0 (show St w0 (schB p q r g 2 ((2 : Nat) : Int) :: thR g 2 [.nilIface, adV x1] :: adA x1 _ :: memA q [z] ns :: adA x0 _ :: L) w from hS.re 5 [0, 1, 3, 4, 2]) (by decide) rfl (by decide) (by decide) (by simp) (Lib.hid rfl) hnl).mono ?_
    rintro e w' ⟨rfl, h⟩
    exact ⟨_, _, rfl, _, _, _, _, _, by rw [List.length_append]; show _ + 1 ≤ _; omega, .f3, h.re 5 [0, 1, 4, 2, 3]⟩
  | f3 =>
    refine (pick_ad_end 1 0 1 b z z y 0 (show St w0 (schB p q r g 2 ((3 : Nat) : Int) :: thR g 2 [.nilIface, adV x1] :: adA x1 _ :: memA q [z] ns :: adA x0 _ :: L) w from hS.re 5 [0, 1, 3, 4, 2]) (by decide) rfl (by decide) (by decide) (by simp) (Lib.hid rfl) (Lib.hid (by simpa using hy)) (by decide) (by decide) (by decide) hnl).mono ?_
    rintro e w' ⟨rfl, h⟩
    exact ⟨_, _, rfl, _, _, _, _, _, by rw [List.length_append]; show _ + 1 ≤ _; omega, .f4, h.re 5 [0, 1, 4, 2, 3]⟩
  | f4 => omega
  | t0 =>
    refine (pick_ad_load 0 0 1 a 5 0 0 (show St w0 (schB p q r g 2 ((0 : Nat) : Int) :: thR g 2 [adV x0, adV x1] :: adA x0 _ :: memA q [5] ns :: adA x1 _ :: L) w from hS.re 5 [0, 1, 2, 4, 3]) (by decide) rfl (by decide) (by decide) (by simp) (Lib.hid rfl) hnl).mono ?_
    rintro e w' ⟨rfl, h⟩
    exact ⟨_, _, rfl, _, _, _, _, _, by rw [List.length_append]; show _ + 1 ≤ _; omega, .t1, h.re 5 [0, 1, 2, 4, 3]⟩
  | t1 =>
    refine (pick_ad_load 1 0 1 b 5 0 0 (show St w0 (schB p q r g 2 ((1 : Nat) : Int) :: thR g 2 [adV x0, adV x1] :: adA x1 _ :: memA q [5] ns :: adA x0 _ :: L) w from hS.re 5 [0, 1, 3, 4, 2]) (by decide) rfl (by decide) (by decide) (by simp) (Lib.hid rfl) hnl).mono ?_
    rintro e w' ⟨rfl, h⟩
    exact ⟨_, _, rfl, _, _, _, _, _, by rw [List.length_append]; show _ + 1 ≤ _; omega, .t2, h.re 5 [0, 1, 4, 2, 3]⟩
  | t2 =>
    refine (pick_ad_end 0 0 1 a 5 5 z 0 (show St w0 (schB p q r g 2 ((2 : Nat) : Int) :: thR g 2 [adV x0, adV x1] :: adA x0 _ :: memA q [5] ns :: adA x1 _ :: L) w from hS.re 5 [0, 1, 2, 4, 3]) (by decide) rfl (by decide) (by decide) (by simp) (Lib.hid rfl) (Lib.hid hz) (by decide) (by decide) (by decide) hnl).mono ?_
    rintro e w' ⟨rfl, h⟩
    exact ⟨_, _, rfl, _, _, _, _, _, by rw [List.length_append]; show _ + 1 ≤ _; omega, .t3, h.re 5 [0, 1, 2, 4, 3]⟩
  | t3 =>
    refine (pick_ad_end 1 0 1 b z 5 y 0 (show St w0 (schB p q r g 2 ((3 : Nat) : Int) :: thR g 2 [.nilIface, adV x1] :: adA x1 _ :: memA q [z] ns :: adA x0 _ :: L) w from hS.re 5 [0, 1, 3, 4, 2]) (by decide) rfl (by decide) (by decide) (by simp) (Lib.hid rfl) (Lib.hid (by simpa using hy)) (by decide) (by decide) (by decide) hnl).mono ?_
    rintro e w' ⟨rfl, h⟩
    exact ⟨_, _, rfl, _, _, _, _, _, by rw [List.length_append]; show _ + 1 ≤ _; omega, .t4, h.re 5 [0, 1, 4, 2, 3]⟩
  | t4 => omega
set_option maxRecDepth 20000 in
set_option maxHeartbeats 8000000 in
theorem schedLost_f (a b : Int) (w : World) (a0 : 0 ≤ a) (a1 : a < 18446744073709551616) (b0 : 0 ≤ b) (b1 : b < 18446744073709551616) :
    Calls Try.prog 3 #[.int .u64 a, .int .u64 b, .bool false] w fun e w' => e = .returned (.bool true) ∧ Below w.heap.size w w' := by
  obtain ⟨z, hz⟩ : ∃ z, (5 + a) % 18446744073709551616 = z := ⟨_, rfl⟩
  obtain ⟨y, hy⟩ : ∃ y, (z + b) % 18446744073709551616 = y := ⟨_, rfl⟩
  have HZ := Lib.hid hz
  have HY : Hid (((if false = true then 5 else z) + b) % 18446744073709551616 = y) := Lib.hid (by simpa using hy)
  have uz : IntKind.u64.wrap (5 + a) = z := by rw [IntKind.wrap_u64]; exact hz
  have uy : IntKind.u64.wrap (z + b) = y := by rw [IntKind.wrap_u64]; exact hy
  have H := Lib.hid (St.nil w)
  go_enter Try.func3, Try.ntmps3
  go_wp2_with (first | ((have _h := H3); go_at_call 9; refine (begin_ok (show St w (schB p q r g 2 0 :: thR g 2 [adV w2.heap.size, .nilIface] :: [memA q [5] [], srcA r 0 [], boxA w2.heap.size #[.int .i64 0, .int .i64 1, .int .u64 a, .bool false, .int .u64 0, .int .i64 0] 32, boxA w3.heap.size #[.int .i64 0, .int .i64 1, .int .u64 b, .bool false, .int .u64 0, .int .i64 0] 32]) _ from (H3.out.alloc #[.int .i64 0, .int .i64 1, .int .u64 b, .bool false, .int .u64 0, .int .i64 0] 32).re 6 [1, 2, 3, 4, 5, 0]) 1 (by decide) _ _ rfl).mono ?_; rintro e w4 ⟨rfl, h⟩; (have H4 := Lib.hid ((show St w (schB p q r g 2 0 :: thR g 2 [adV w2.heap.size, adV w3.heap.size] :: adA w2.heap.size ⟨0, 1, a, false, 0, 0⟩ :: adA w3.heap.size ⟨0, 1, b, false, 0, 0⟩ :: memA q [5] [] :: [srcA r 0 []]) _ from h.re 6 [0, 1, 4, 5, 2, 3]))); clear h; clear _h) | ((have _h := H2); go_at_call 9; refine (begin_ok (show St w (schB p q r g 2 0 :: thR g 2 [.nilIface, .nilIface] :: [memA q [5] [], srcA r 0 [], boxA w2.heap.size #[.int .i64 0, .int .i64 1, .int .u64 a, .bool false, .int .u64 0, .int .i64 0] 32]) _ from (H2.out.alloc #[.int .i64 0, .int .i64 1, .int .u64 a, .bool false, .int .u64 0, .int .i64 0] 32).re 5 [1, 2, 3, 4, 0]) 0 (by decide) _ _ rfl).mono ?_; rintro e w3 ⟨rfl, h⟩; (have H3 := Lib.hid ((show St w (schB p q r g 2 0 :: thR g 2 [adV w2.heap.size, .nilIface] :: [memA q [5] [], srcA r 0 [], boxA w2.heap.size #[.int .i64 0, .int .i64 1, .int .u64 a, .bool false, .int .u64 0, .int .i64 0] 32]) _ from h))); clear h; clear _h) | ((have _h := H1); go_at_call 8; refine (sched_new (some ⟨_, 0, none⟩) _ 1 [5] 2 (H1.out.below (bl_alloc (bl_refl _) _)) (rdU_1 (heap_new rfl)) (by decide) (rng1 (by decide) (by decide)) rfl (by decide) (by decide)).mono ?_; rintro e w2 ⟨p, q, r, g, rfl, h⟩; (have H2 := Lib.hid ((show St w (schB p q r g 2 0 :: thR g 2 [.nilIface, .nilIface] :: [memA q [5] [], srcA r 0 []]) _ from h.re 4 [1, 2, 0, 3]))); clear h; clear _h) | ((have _h := H); go_at_call 7; refine (shown16 _).mono ?_; rintro e w1 ⟨rfl, hb⟩; (have H1 := Lib.hid (H.out.below hb)); clear hb; clear _h))
  have h5 := (H4.out.alloc #[.int .i64 0, .int .i64 0, .int .i64 1, .int .i64 1] 3).re 7 [1, 2, 3, 4, 5, 0, 6]
  try simp only [World.size_alloc] at h5
  have HREL := Lib.hid (show LoSt w p q r g w2.heap.size w3.heap.size a b z y [boxA (w4.heap.size) #[.int .i64 0, .int .i64 0, .int .i64 1, .int .i64 1] 3, srcA r 0 []] false 0 0 _ from ⟨_, [], _, _, _, Nat.le_refl _, .f0, h5⟩)
  clear h5
  clear hz H1 H2 H3 H4
  try simp only [World.size_alloc] at *
  obtain ⟨x0, hx0⟩ : ∃ x, w2.heap.size = x := ⟨_, rfl⟩
  obtain ⟨x1, hx1⟩ : ∃ x, w3.heap.size = x := ⟨_, rfl⟩
  obtain ⟨bo, hbo⟩ : ∃ x, w4.heap.size = x := ⟨_, rfl⟩
  simp only [hx0, hx1, hbo] at HREL ⊢
  clear hx0 hx1 hbo
  go_loopg [12, 13] 5 (fun kq v i w' => ∃ (j : Nat) (u : Int), i = .int .i64 j ∧ v = .int .u64 u ∧ j ≤ 4 ∧ j + kq = 5 ∧ LoSt w p q r g x0 x1 a b z y [boxA bo #[.int .i64 0, .int .i64 0, .int .i64 1, .int .i64 1] 3, srcA r 0 []] false j u w')
  case atStart => exact ⟨0, 0, rfl, rfl, by decide, rfl, HREL.out⟩
  case round =>
    obtain ⟨j, u, rfl, rfl, hj, hkq, hL⟩ := hrel
    clear HREL
    have HL := Lib.hid hL
    cases gk with
    | zero => omega
    | succ kk =>
      by_cases c4 : j < 4
      · have c4b : decide ((j : Int) < 4) = true := decide_eq_true (by omega)
        have hcb : wr.heap[bo]? = some (.cells #[.int .i64 0, .int .i64 0, .int .i64 1, .int .i64 1] 3 (0, 0)) := by
          obtain ⟨_, _, _, _, _, _, _, hS⟩ := hL
          exact hS.cells 5 rfl
        have hcell : wr.cell? ⟨bo, j, none⟩ = some (.int .i64 (loT false j : Nat)) := by
          rw [cell_of hcb j]
          exact lo_cellf j c4
        have j0 : (0 : Int) ≤ (j : Int) := by omega
        have j1 : (j : Int) < 4 := by omega
        have HC := Lib.hid (lo_step hL c4 HZ.out HY.out)
        obtain ⟨t, ht⟩ : ∃ t : Nat, loT false j = t := ⟨_, rfl⟩
        rw [ht] at hcell HC
        clear hL hcb ht HL
        go_wp2_with (go_at_call 10; refine HC.out.mono ?_; rintro e wn ⟨s, v', rfl, h⟩; (have HN1 := Lib.hid h); clear h)
        go_roundg kk
        case measure => omega
        case rel => exact ⟨j + 1, v', by simp, rfl, by omega, by omega, HN1.out⟩
      · obtain rfl : j = 4 := by omega
        have c4b : decide (((4 : Nat) : Int) < 4) = false := rfl
        obtain ⟨ws, ns, S0, S1, ts, hn, hok, hS⟩ := hL
        cases hok
        have HS := Lib.hid hS
        clear hS HL
        go_wp2_with (first | ((have _h := V3); go_at_call 13; refine (busy_idle V3.out 1 (by decide) rfl).mono ?_; rintro e v4 ⟨rfl, rfl⟩; (have V4 := Lib.hid (V3.out)); clear _h) | ((have _h := V2); go_at_call 13; refine (busy_idle V2.out 0 (by decide) rfl).mono ?_; rintro e v3 ⟨rfl, rfl⟩; (have V3 := Lib.hid (V2.out)); clear _h) | ((have _h := V1); go_at_call 12; refine (words_pos 1 (V1.out.front 4 rfl) rfl (by decide)).mono ?_; rintro e v2 ⟨g5, c5, rfl, hw5, _, _, hb5⟩; (have V2 := Lib.hid (V1.out.below hb5)); (have hx5 := (hw5 0 (by decide))); clear hw5 hb5; clear _h) | ((have _h := HS); go_at_call 11; refine (sch_mem HS.out).mono ?_; rintro e v1 ⟨rfl, rfl⟩; (have V1 := Lib.hid (HS.out)); clear _h))
        go_ret
        exact ⟨rfl, V4.out.bel⟩
set_option maxRecDepth 20000 in
set_option maxHeartbeats 8000000 in
theorem schedLost_t (a b : Int) (w : World) (a0 : 0 ≤ a) (a1 : a < 18446744073709551616) (b0 : 0 ≤ b) (b1 : b < 18446744073709551616) :
    Calls Try.prog 3 #[.int .u64 a, .int .u64 b, .bool true] w fun e w' => e = .returned (.bool true) ∧ Below w.heap.size w w' := by
  obtain ⟨z, hz⟩ : ∃ z, (5 + a) % 18446744073709551616 = z := ⟨_, rfl⟩
  obtain ⟨y, hy⟩ : ∃ y, (5 + b) % 18446744073709551616 = y := ⟨_, rfl⟩
  have HZ := Lib.hid hz
  have HY : Hid (((if true = true then 5 else z) + b) % 18446744073709551616 = y) := Lib.hid (by simpa using hy)
  have uz : IntKind.u64.wrap (5 + a) = z := by rw [IntKind.wrap_u64]; exact hz
  have uy : IntKind.u64.wrap (5 + b) = y := by rw [IntKind.wrap_u64]; exact hy
  have H := Lib.hid (St.nil w)
  go_enter Try.func3, Try.ntmps3
  go_wp2_with (first | ((have _h := H3); go_at_call 9; refine (begin_ok (show St w (schB p q r g 2 0 :: thR g 2 [adV w2.heap.size, .nilIface] :: [memA q [5] [], srcA r 0 [], boxA w2.heap.size #[.int .i64 0, .int .i64 1, .int .u64 a, .bool false, .int .u64 0, .int .i64 0] 32, boxA w3.heap.size #[.int .i64 0, .int .i64 1, .int .u64 b, .bool false, .int .u64 0, .int .i64 0] 32]) _ from (H3.out.alloc #[.int .i64 0, .int .i64 1, .int .u64 b, .bool false, .int .u64 0, .int .i64 0] 32).re 6 [1, 2, 3, 4, 5, 0]) 1 (by decide) _ _ rfl).mono ?_; rintro e w4 ⟨rfl, h⟩; (have H4 := Lib.hid ((show St w (schB p q r g 2 0 :: thR g 2 [adV w2.heap.size, adV w3.heap.size] :: adA w2.heap.size ⟨0, 1, a, false, 0, 0⟩ :: adA w3.heap.size ⟨0, 1, b, false, 0, 0⟩ :: memA q [5] [] :: [srcA r 0 []]) _ from h.re 6 [0, 1, 4, 5, 2, 3]))); clear h; clear _h) | ((have _h := H2); go_at_call 9; refine (begin_ok (show St w (schB p q r g 2 0 :: thR g 2 [.nilIface, .nilIface] :: [memA q [5] [], srcA r 0 [], boxA w2.heap.size #[.int .i64 0, .int .i64 1, .int .u64 a, .bool false, .int .u64 0, .int .i64 0] 32]) _ from (H2.out.alloc #[.int .i64 0, .int .i64 1, .int .u64 a, .bool false, .int .u64 0, .int .i64 0] 32).re 5 [1, 2, 3, 4, 0]) 0 (by decide) _ _ rfl).mono ?_; rintro e w3 ⟨rfl, h⟩; (have H3 := Lib.hid ((show St w (schB p q r g 2 0 :: thR g 2 [adV w2.heap.size, .nilIface] :: [memA q [5] [], srcA r 0 [], boxA w2.heap.size #[.int .i64 0, .int .i64 1, .int .u64 a, .bool false, .int .u64 0, .int .i64 0] 32]) _ from h))); clear h; clear _h) | ((have _h := H1); go_at_call 8; refine (sched_new (some ⟨_, 0, none⟩) _ 1 [5] 2 (H1.out.below (bl_alloc (bl_refl _) _)) (rdU_1 (heap_new rfl)) (by decide) (rng1 (by decide) (by decide)) rfl (by decide) (by decide)).mono ?_; rintro e w2 ⟨p, q, r, g, rfl, h⟩; (have H2 := Lib.hid ((show St w (schB p q r g 2 0 :: thR g 2 [.nilIface, .nilIface] :: [memA q [5] [], srcA r 0 []]) _ from h.re 4 [1, 2, 0, 3]))); clear h; clear _h) | ((have _h := H); go_at_call 7; refine (shown16 _).mono ?_; rintro e w1 ⟨rfl, hb⟩; (have H1 := Lib.hid (H.out.below hb)); clear hb; clear _h))
  have h5 := ((H4.out.alloc #[.int .i64 0, .int .i64 0, .int .i64 1, .int .i64 1] 3).alloc #[.int .i64 0, .int .i64 1, .int .i64 0, .int .i64 1] 3).re 8 [2, 3, 4, 5, 6, 0, 7]
  try simp only [World.size_alloc] at h5
  have HREL := Lib.hid (show LoSt w p q r g w2.heap.size w3.heap.size a b z y [boxA (w4.heap.size + 1) #[.int .i64 0, .int .i64 1, .int .i64 0, .int .i64 1] 3, srcA r 0 []] true 0 0 _ from ⟨_, [], _, _, _, Nat.le_refl _, .t0, h5⟩)
  clear h5
  clear hz H1 H2 H3 H4
  try simp only [World.size_alloc] at *
  obtain ⟨x0, hx0⟩ : ∃ x, w2.heap.size = x := ⟨_, rfl⟩
  obtain ⟨x1, hx1⟩ : ∃ x, w3.heap.size = x := ⟨_, rfl⟩
  obtain ⟨bo, hbo⟩ : ∃ x, w4.heap.size + 1 = x := ⟨_, rfl⟩
  simp only [hx0, hx1, hbo] at HREL ⊢
  clear hx0 hx1 hbo
  go_loopg [12, 13] 5 (fun kq v i w' => ∃ (j : Nat) (u : Int), i = .int .i64 j ∧ v = .int .u64 u ∧ j ≤ 4 ∧ j + kq = 5 ∧ LoSt w p q r g x0 x1 a b z y [boxA bo #[.int .i64 0, .int .i64 1, .int .i64 0, .int .i64 1] 3, srcA r 0 []] true j u w')
  case atStart => exact ⟨0, 0, rfl, rfl, by decide, rfl, HREL.out⟩
  case round =>
    obtain ⟨j, u, rfl, rfl, hj, hkq, hL⟩ := hrel
    clear HREL
    have HL := Lib.hid hL
    cases gk with
    | zero => omega
    | succ kk =>
      by_cases c4 : j < 4
      · have c4b : decide ((j : Int) < 4) = true := decide_eq_true (by omega)
        have hcb : wr.heap[bo]? = some (.cells #[.int .i64 0, .int .i64 1, .int .i64 0, .int .i64 1] 3 (0, 0)) := by
          obtain ⟨_, _, _, _, _, _, _, hS⟩ := hL
          exact hS.cells 5 rfl
        have hcell : wr.cell? ⟨bo, j, none⟩ = some (.int .i64 (loT true j : Nat)) := by
          rw [cell_of hcb j]
          exact lo_cellt j c4
        have j0 : (0 : Int) ≤ (j : Int) := by omega
        have j1 : (j : Int) < 4 := by omega
        have HC := Lib.hid (lo_step hL c4 HZ.out HY.out)
        obtain ⟨t, ht⟩ : ∃ t : Nat, loT true j = t := ⟨_, rfl⟩
        rw [ht] at hcell HC
        clear hL hcb ht HL
        go_wp2_with (go_at_call 10; refine HC.out.mono ?_; rintro e wn ⟨s, v', rfl, h⟩; (have HN1 := Lib.hid h); clear h)
        go_roundg kk
        case measure => omega
        case rel => exact ⟨j + 1, v', by simp, rfl, by omega, by omega, HN1.out⟩
      · obtain rfl : j = 4 := by omega
        have c4b : decide (((4 : Nat) : Int) < 4) = false := rfl
        obtain ⟨ws, ns, S0, S1, ts, hn, hok, hS⟩ := hL
        cases hok
        have HS := Lib.hid hS
        clear hS HL
        go_wp2_with (first | ((have _h := V3); go_at_call 13; refine (busy_idle V3.out 1 (by decide) rfl).mono ?_; rintro e v4 ⟨rfl, rfl⟩; (have V4 := Lib.hid (V3.out)); clear _h) | ((have _h := V2); go_at_call 13; refine (busy_idle V2.out 0 (by decide) rfl).mono ?_; rintro e v3 ⟨rfl, rfl⟩; (have V3 := Lib.hid (V2.out)); clear _h) | ((have _h := V1); go_at_call 12; refine (words_pos 1 (V1.out.front 4 rfl) rfl (by decide)).mono ?_; rintro e v2 ⟨g5, c5, rfl, hw5, _, _, hb5⟩; (have V2 := Lib.hid (V1.out.below hb5)); (have hx5 := (hw5 0 (by decide))); clear hw5 hb5; clear _h) | ((have _h := HS); go_at_call 11; refine (sch_mem HS.out).mono ?_; rintro e v1 ⟨rfl, rfl⟩; (have V1 := Lib.hid (HS.out)); clear _h))
        go_ret
        exact ⟨rfl, V4.out.bel⟩
theorem schedLost_walk (a b : Int) (tn : Bool) (w : World) (ha : (Lit.int .u64 a).wf = true) (hb : (Lit.int .u64 b).wf = true) :
    Calls Try.prog 3 #[.int .u64 a, .int .u64 b, .bool tn] w fun e w' => e = .returned (.bool true) ∧ Below w.heap.size w w' := by
  obtain ⟨a0, a1⟩ := rngU64 ha
  obtain ⟨b0, b1⟩ := rngU64 hb
  cases tn with
  | false => exact schedLost_f a b w a0 a1 b0 b1
  | true => exact schedLost_t a b w a0 a1 b0 b1
end Go.Proofs.Ytadphmpbhkhhfaa
