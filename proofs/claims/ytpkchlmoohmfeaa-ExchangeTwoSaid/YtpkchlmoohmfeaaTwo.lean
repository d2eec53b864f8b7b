/-
  The law ExchangeTwo: the walk.
-/
import Derived.Test.YtpkchlmoohmfeaaLaw10
import Derived.Deep.DrawnRows
namespace Go.Proofs.Ytpkchlmoohmfeaa
open Go.RowKit
attribute [local go_sem ↓] Go.wp_at_zero Go.wp_at_succ
set_option linter.unusedVariables false
set_option linter.unusedSimpArgs false

/-- The words of an offer, and of a claim of it. -/
structure TwoW (push : Bool) (i v c : Int) : Prop where
  v0 : 0 ≤ v
  v1 : v < 18446744073709551616
  c0 : 0 ≤ c
  c1 : c < 18446744073709551616
  ov : sOffer 38654705664 push i = v
  cl : sClaim v (!push) i = c
  m1 : sMeets v (!push) = true
  m0 : sMeets v push = false
  sv : sSt v ≠ 0
  sc : sSt c = 3
  tc : sTp c = sTp v
  ic : sIx c = i
  ne : ¬ c = v
  z : sClear c = 42949672960
theorem two_w (push : Bool) (i : Int) (i0 : 0 ≤ i) (i1 : i < 1073741824) : ∃ v c, TwoW push i v c := by
  have e : i % 1073741824 = i := Int.emod_eq_of_lt i0 i1
  cases push
  · refine ⟨38654705666, 38654705667 + 4 * i, ?_⟩
    have h : sTp 38654705666 = 9 := rfl
    refine ⟨by omega, by omega, by omega, by omega, rfl, ?_, rfl, rfl, by decide, ?_, ?_, ?_, by omega, ?_⟩
    · simp [sClaim, sW, h, e]; omega
    · unfold sSt; omega
    · rw [h]; unfold sTp; omega
    · unfold sIx; omega
    · unfold sClear sW sTp; omega
  · refine ⟨38654705665 + 4 * i, 38654705667 + 4 * i, ?_⟩
    have h : sTp (38654705665 + 4 * i) = 9 := by unfold sTp; omega
    have h2 : sIx (38654705665 + 4 * i) = i := by unfold sIx; omega
    have h3 : sSt (38654705665 + 4 * i) = 1 := by unfold sSt; omega
    refine ⟨by omega, by omega, by omega, by omega, ?_, ?_, ?_, ?_, by omega, ?_, ?_, ?_, by omega, ?_⟩
    · simp [sOffer, sW, sTp, sWaits, e]; omega
    · simp [sClaim, sW, h, h2, e]; omega
    · simp [sMeets, h3]; rfl
    · simp [sMeets, h3]; decide
    · unfold sSt; omega
    · rw [h]; unfold sTp; omega
    · unfold sIx; omega
    · unfold sClear sW sTp; omega
def tS (push : Bool) (i v : Int) (k : Nat) : VM := if k = 0 then ⟨0, push, i, 1152921504606846976, 64, 0, .first, 0, false⟩ else if k = 1 then ⟨0, push, i, 1152921504606846976, 64, 38654705664, .offer, 0, false⟩ else ⟨0, push, i, 1152921504606846976, 64 - (k - 2), v, .look, 0, true⟩
def tW (v : Int) (k : Nat) : List Int := [if k ≤ 1 then 38654705664 else v]
theorem tS_step {push : Bool} {i v c : Int} {k : Nat} (h : TwoW push i v c) (hk : k < 62) : ∃ nt, (tS push i v k).step (tW v k) 0 = ⟨0, tS push i v (k + 1), tW v (k + 1), [nt]⟩ := by
  have hm : sMeets 38654705664 push = false := by cases push <;> rfl
  have hs : sSt 38654705664 = 0 := rfl
  rcases (show k = 0 ∨ k = 1 ∨ 2 ≤ k by omega) with rfl | rfl | c1
  · refine ⟨ldN 0 38654705664, ?_⟩
    simp [tS, tW, VM.step, VM.go, rdW, hm, hs]
  · refine ⟨swN 0 38654705664 v, ?_⟩
    simp [tS, tW, VM.step, VM.go, rdW, h.ov]
  · have e1 : ¬ k = 0 := by omega
    have e2 : ¬ k = 1 := by omega
    have e6 : ¬ k ≤ 1 := by omega
    have e7 : ¬ k + 1 ≤ 1 := by omega
    have e8 : ¬ k + 1 = 1 := by omega
    have e10 : ¬ k + 1 = 0 := by omega
    have e9 : ¬ ((64 : Int) - ((k : Int) - 2) - 1 ≤ 0 ∨ (1152921504606846976 : Int) ≤ 0) := by omega
    have e11 : (64 : Int) - ((k : Int) - 2) - 1 = 64 - (((k + 1 : Nat) : Int) - 2) := by omega
    refine ⟨ldN 0 v, ?_⟩
    simp only [tS, tW, VM.step, VM.go, rdW, e1, e2, e6, e7, e8, e10, if_false]
    simp [e9, e11]
    omega
theorem tS_ok {push : Bool} {i v c : Int} {k n : Nat} (h : TwoW push i v c) (i0 : 0 ≤ i) (i1 : i < 1073741824) (hk : k ≤ 62) : (tS push i v k).ok 1 n := by
  unfold tS
  split
  · exact mkok i0 (by omega) (by decide) (by decide) (by decide) (by decide) (by omega) (by decide) (fun _ h => (h rfl).elim) (fun h => by cases h) trivial
  split
  · exact mkok i0 (by omega) (by decide) (by decide) (by decide) (by decide) (by omega) (by decide) (fun _ _ => ⟨by decide, by decide⟩) (fun h => by cases h) (rfl : sSt 38654705664 = 0)
  · exact mkok i0 (by omega) (by decide) (by decide) h.v0 h.v1 (by omega) (by omega) (fun _ _ => ⟨by decide, by decide⟩) (fun h => by simp) trivial
theorem two_c {push : Bool} {i v c : Int} (h : TwoW push i v c) : (newVM 0 push 3 1152921504606846976 64).step [v] 0 = ⟨3, ⟨0, push, 3, 1152921504606846976, 64, v, .first, 3, false⟩, [v], [ldN 0 v]⟩ := by
  simp [VM.step, VM.go, newVM, rdW, h.m0, h.sv]; decide
theorem two_b1 {push : Bool} {i v c : Int} (h : TwoW push i v c) : (newVM 0 (!push) i 1152921504606846976 64).step [v] 0 = ⟨0, ⟨0, !push, i, 1152921504606846976, 64, v, .claim, 0, false⟩, [v], [ldN 0 v]⟩ := by
  simp [VM.step, VM.go, newVM, rdW, h.m1]; decide
theorem two_b2 {push : Bool} {i v c : Int} (h : TwoW push i v c) : VM.step ⟨0, !push, i, 1152921504606846976, 64, v, .claim, 0, false⟩ [v] 0 = ⟨1, ⟨0, !push, i, 1152921504606846976, 64, v, .claim, 1, false⟩, [c], [swN 0 v c]⟩ := by
  simp [VM.step, VM.go, rdW, h.cl, h.ic]
theorem two_a1 {push : Bool} {i v c l : Int} (h : TwoW push i v c) : VM.step ⟨0, push, i, 1152921504606846976, l, v, .look, 0, true⟩ [c] 0 = ⟨0, ⟨0, push, i, 1152921504606846976, l, v, .found c, 0, true⟩, [c], [ldN 0 c]⟩ := by
  simp [VM.step, VM.go, rdW, h.ic, h.ne, h.sc, h.tc]
theorem two_a2 {push : Bool} {i v c l : Int} (h : TwoW push i v c) : VM.step ⟨0, push, i, 1152921504606846976, l, v, .found c, 0, true⟩ [c] 0 = ⟨1, ⟨0, push, i, 1152921504606846976, l, v, .found c, 1, true⟩, [42949672960], [stN 0 c 42949672960]⟩ := by
  simp [VM.step, VM.go, rdW, h.z]
def TwoRel (w : World) (q pa pb : Nat) (push : Bool) (i v : Int) (k : Nat) (w' : World) : Prop := ∃ ns, St w [memA q (tW v k) ns, visA pa (tS push i v k), visA pb (newVM 0 (!push) i 1152921504606846976 64)] w' ∧ ns.length = k
def TwoRel2 (w : World) (q pa pb : Nat) (push : Bool) (i v l : Int) (n : Nat) (w' : World) : Prop := ∃ ns, St w [memA q [v] ns, visA pa ⟨0, push, i, 1152921504606846976, l, v, .look, 0, true⟩, visA pb (newVM 0 (!push) i 1152921504606846976 64)] w' ∧ ns.length ≤ n

set_option maxHeartbeats 16000000 in
set_option maxRecDepth 100000 in
theorem two_false (nd lo ot i v c L O : Int) (w : World) (i0 : 0 ≤ i) (i1 : i < 1073741824) (hi : nd % 1073741824 = i) (nd0 : 0 ≤ nd) (nd1 : nd < 4294967296) (hL : pickI lo 60 = L) (hO : pickI ot 5 = O) (L0 : 0 ≤ L) (L1 : L < 60) (O0 : 0 ≤ O) (O1 : O < 5) (l0 : -9223372036854775808 ≤ lo) (l1 : lo < 9223372036854775808) (o0 : -9223372036854775808 ≤ ot) (o1 : ot < 9223372036854775808) (hT : TwoW false i v c) :
    Calls Try.prog 5 #[.bool false, .int .u32 nd, .int .i64 lo, .int .i64 ot] w fun e w' => e = .returned (.bool true) ∧ Below w.heap.size w w' := by
  have HT := Lib.hid hT
  have HLO := Lib.hid hL
  have HO := Lib.hid hO
  have i2 : i < 4294967296 := by omega
  have hi3 : i % 4294967296 = i := by omega
  have hi4 : IntKind.u32.wrap i = i := by rw [IntKind.wrap_u32]; exact hi3
  have H := Lib.hid (St.nil w)
  clear hT hL hO
  go_enter Try.func5, Try.ntmps5
  go_wp2_with (first | ((have _h := H4); go_at_call 13; refine (visit_new 0 true i 1152921504606846976 64 H4.out).mono ?_; rintro e w5 ⟨pb, rfl, h⟩; (have H5 := Lib.hid (h.sw12)); clear h; clear _h) | ((have _h := H3); go_at_call 13; refine (visit_new 0 false i 1152921504606846976 64 H3.out).mono ?_; rintro e w4 ⟨pa, rfl, h⟩; (have H4 := Lib.hid (h)); clear h; clear _h) | ((have _h := H2); go_at_call 11; refine (new_st (H2.out.below (bl_alloc (bl_refl _) _)) (some ⟨_, 0, none⟩) _ 1 [38654705664] (lit1 (heap_new rfl)) (by decide) (rng1 (by decide) (by decide)) rfl).mono ?_; rintro e w3 ⟨q, rfl, h⟩; (have H3 := Lib.hid (h)); clear h; clear _h) | ((have _h := H1); go_at_call 12; refine (slot_word 0 0 9 38654705664 _ (by decide) (by decide) (by decide) (by decide) (by decide) (by decide) (by decide)).mono ?_; rintro e w2 ⟨rfl, hb⟩; (have H2 := Lib.hid (H1.out.below hb)); clear hb; clear _h) | ((have _h := H); go_at_call 10; refine (shown10 _).mono ?_; rintro e w1 ⟨rfl, hb⟩; (have H1 := Lib.hid (H.out.below hb)); clear hb; clear _h))
  have HRel := Lib.hid (show TwoRel w q pa pb false i v 0 w5 from ⟨[], H5.out, rfl⟩)
  go_loopg [15] 65 (fun kq y w' => ∃ k : Nat, y = .int .i64 k ∧ (k : Int) ≤ 2 + L ∧ k + kq = 65 ∧ TwoRel w q pa pb false i v k w')
  case atStart => exact ⟨0, rfl, by omega, by omega, HRel.out⟩
  case round =>
    obtain ⟨k, rfl, hk, hkq, ns, hS, hc⟩ := hrel
    have HE := Lib.hid hS
    have hnsl : ns.length ≤ 1000000000000 := by omega
    clear hS HRel
    cases gk with
    | zero => omega
    | succ kk =>
      by_cases c4 : (k : Int) < 2 + L
      · have c4b : decide ((k : Int) < 2 + L) = true := decide_eq_true c4
        obtain ⟨nt, hnt0⟩ := tS_step HT.out (show k < 62 by omega)
        have HNX := Lib.hid hnt0
        have HOKk : Hid ((tS false i v k).ok (tW v k).length ns.length) := Lib.hid (tS_ok HT.out i0 i1 (by omega))
        have HC := Lib.hid hc
        clear hnt0 hc
        go_wp2_with (first | ((have _h := L1); go_at_call 15; refine (vstep 0 HNX.out rfl (by unfold VM.told; simp) L1.out HOKk.out hnsl).mono ?_; rintro e wl2 ⟨rfl, h⟩; (have L2 := Lib.hid (h)); clear h; clear _h) | ((have _h := HE); go_at_call 14; refine (pick_is lo 60 L _ HLO.out (by decide) (by decide) l0 l1).mono ?_; rintro e wl1 ⟨rfl, rfl⟩; (have L1 := Lib.hid (HE.out)); clear _h))
        go_roundg kk
        case measure => omega
        case rel => exact ⟨k + 1, rfl, by omega, by omega, ns ++ [nt], L2.out, by rw [List.length_append, HC.out]; rfl⟩
      · have c4b : decide ((k : Int) < 2 + L) = false := decide_eq_false c4
        go_wp2_with (first | ((have _h := HE); go_at_call 14; refine (pick_is lo 60 L _ HLO.out (by decide) (by decide) l0 l1).mono ?_; rintro e we1 ⟨rfl, rfl⟩; (have E1 := Lib.hid (HE.out)); clear _h))
        have hk2 : 2 ≤ k := by omega
        have HS2 := Lib.hid (show TwoRel2 w q pa pb false i v (64 - ((k : Int) - 2)) 62 wr from ⟨ns, by have := E1.out; rw [show tW v k = [v] by simp [tW]; omega, show tS false i v k = ⟨0, false, i, 1152921504606846976, 64 - ((k : Int) - 2), v, .look, 0, true⟩ by unfold tS; rw [if_neg (by omega), if_neg (by omega)]] at this; exact this, by omega⟩)
        obtain ⟨ll, hll⟩ : ∃ ll : Int, 64 - ((k : Int) - 2) = ll := ⟨_, rfl⟩
        have ll0 : 0 ≤ ll := by omega
        have ll1 : ll ≤ 64 := by omega
        rw [hll] at HS2
        clear HE hnsl
        go_loopg [18] 6 (fun kq y w' => ∃ j : Nat, y = .int .i64 j ∧ (j : Int) ≤ O ∧ j + kq = 6 ∧ TwoRel2 w q pa pb false i v ll (62 + j) w')
        case atStart => exact ⟨0, rfl, by omega, by omega, HS2.out⟩
        case round =>
          obtain ⟨j, rfl, hj, hjq, ns, hS, hc⟩ := hrel
          have HG := Lib.hid hS
          have hnl : ns.length ≤ 1000000000000 := by omega
          clear hS HS2
          cases gk with
          | zero => omega
          | succ k3 =>
            by_cases c5 : (j : Int) < O
            · have c5b : decide ((j : Int) < O) = true := decide_eq_true c5
              go_wp2_with (first | ((have _h := M2); go_at_call 15; refine (vstep 0 (two_c HT.out) rfl rfl M2.out (newVM_ok 1 _ (by decide) (by decide) (by decide) (by decide) (by decide)) hnl).mono ?_; rintro e wm3 ⟨rfl, h⟩; (have M3 := Lib.hid (h.drop1)); clear h; clear _h) | ((have _h := M1); go_at_call 13; refine (visit_new 0 false 3 1152921504606846976 64 M1.out).mono ?_; rintro e wm2 ⟨pc, rfl, h⟩; (have M2 := Lib.hid (h)); clear h; clear _h) | ((have _h := HG); go_at_call 14; refine (pick_is ot 5 O _ HO.out (by decide) (by decide) o0 o1).mono ?_; rintro e wm1 ⟨rfl, rfl⟩; (have M1 := Lib.hid (HG.out)); clear _h))
              go_roundg k3
              case measure => omega
              case rel => exact ⟨j + 1, rfl, by omega, by omega, _, M3.out, by simp; omega⟩
            · have c5b : decide ((j : Int) < O) = false := decide_eq_false c5
              go_wp2_with (first | ((have _h := T4); go_at_call 15; refine (vstep i (two_a2 HT.out) rfl rfl T4.out (mkok i0 i2 (by decide) (by decide) HT.out.v0 HT.out.v1 (by omega) (by omega) (fun _ _ => ⟨by simp, by simp⟩) (fun h => by simp) ⟨HT.out.c0, HT.out.c1⟩) (by first | omega | (simp; omega))).mono ?_; rintro e wt5 ⟨rfl, h⟩; (have T5 := Lib.hid (h)); clear h; clear _h) | ((have _h := T3); go_at_call 15; refine (vstep 0 (two_a1 HT.out) rfl rfl T3.out (mkok i0 i2 (by decide) (by decide) HT.out.v0 HT.out.v1 (by omega) (by omega) (fun _ _ => ⟨by simp, by simp⟩) (fun h => by simp) trivial) (by first | omega | (simp; omega))).mono ?_; rintro e wt4 ⟨rfl, h⟩; (have T4 := Lib.hid (h)); clear h; clear _h) | ((have _h := T2); go_at_call 15; refine (vstep 0 (two_b2 HT.out) rfl rfl T2.out.sw12 (mkok i0 i2 (by decide) (by decide) HT.out.v0 HT.out.v1 (by omega) (by decide) (fun _ _ => ⟨by simp, by simp⟩) (fun h => by cases h) HT.out.m1) (by first | omega | (simp; omega))).mono ?_; rintro e wt3 ⟨rfl, h⟩; (have T3 := Lib.hid (h.sw12)); clear h; clear _h) | ((have _h := T1); go_at_call 15; refine (vstep 0 (two_b1 HT.out) rfl rfl T1.out.sw12 (newVM_ok 1 _ i0 i2 (by decide) (by decide) (by decide)) (by first | omega | (simp; omega))).mono ?_; rintro e wt2 ⟨rfl, h⟩; (have T2 := Lib.hid (h.sw12)); clear h; clear _h) | ((have _h := HG); go_at_call 14; refine (pick_is ot 5 O _ HO.out (by decide) (by decide) o0 o1).mono ?_; rintro e wt1 ⟨rfl, rfl⟩; (have T1 := Lib.hid (HG.out)); clear _h))
              have HD := Lib.hid T5.out.drew
              refine wp_region_held_drew (S := fun _ => True) (by kernel_rfl) trivial (fun hHeld => ?_)
              refine wpAnyH_take (i := 0) (v := ?_) rfl (by kernel_rfl) (by kernel_rfl) (by kernel_rfl) (fun _ _ _ h => h) (Or.inl ⟨by rfl, ?_⟩) trivial ?_
              rotate_left
              · intro w hSw
                go_simp
                try (first | (with_reducible rfl) | rfl)
              try simp only [List.getElem_toArray, List.getElem_cons_zero, List.getElem_cons_succ, Act.put, List.setIfInBounds_toArray, List.set_cons_zero, List.set_cons_succ]
              refine wpAnyH_take (i := 1) (v := ?_) rfl (by kernel_rfl) (by kernel_rfl) (by kernel_rfl) (fun _ _ _ h => h) (Or.inl ⟨by rfl, ?_⟩) trivial ?_
              rotate_left
              · intro w hSw
                go_simp
                try (first | (with_reducible rfl) | rfl)
              try simp only [List.getElem_toArray, List.getElem_cons_zero, List.getElem_cons_succ, Act.put, List.setIfInBounds_toArray, List.set_cons_zero, List.set_cons_succ]
              refine wpAnyH_take (i := 2) (v := ?_) rfl (by kernel_rfl) (by kernel_rfl) (by kernel_rfl) (fun _ _ _ h => h) (Or.inl ⟨by rfl, ?_⟩) trivial ?_
              rotate_left
              · intro w hSw
                go_simp
                try (first | (with_reducible rfl) | rfl)
              try simp only [List.getElem_toArray, List.getElem_cons_zero, List.getElem_cons_succ, Act.put, List.setIfInBounds_toArray, List.set_cons_zero, List.set_cons_succ]
              refine wpAnyH_take (i := 3) (v := ?_) rfl (by kernel_rfl) (by kernel_rfl) (by kernel_rfl) (fun _ _ _ h => h) (Or.inl ⟨by rfl, ?_⟩) trivial ?_
              rotate_left
              · intro w hSw
                go_simp
                try (first | (with_reducible rfl) | rfl)
              try simp only [List.getElem_toArray, List.getElem_cons_zero, List.getElem_cons_succ, Act.put, List.setIfInBounds_toArray, List.set_cons_zero, List.set_cons_succ]
              refine wpAnyH_take (i := 4) (v := ?_) rfl (by kernel_rfl) (by kernel_rfl) (by kernel_rfl) (fun _ _ _ h => h) (Or.inl ⟨by rfl, ?_⟩) trivial ?_
              rotate_left
              · intro w hSw
                go_simp
                try (first | (with_reducible rfl) | rfl)
              try simp only [List.getElem_toArray, List.getElem_cons_zero, List.getElem_cons_succ, Act.put, List.setIfInBounds_toArray, List.set_cons_zero, List.set_cons_succ]
              refine wpAnyH_take (i := 5) (v := ?_) rfl (by kernel_rfl) (by kernel_rfl) (by kernel_rfl) (fun _ _ _ h => h) (Or.inl ⟨by rfl, ?_⟩) trivial ?_
              rotate_left
              · intro w hSw
                go_simp
                try (first | (with_reducible rfl) | rfl)
              try simp only [List.getElem_toArray, List.getElem_cons_zero, List.getElem_cons_succ, Act.put, List.setIfInBounds_toArray, List.set_cons_zero, List.set_cons_succ]
              refine wpAnyH_take (i := 6) (v := ?_) rfl (by kernel_rfl) (by kernel_rfl) (by kernel_rfl) (fun _ _ _ h => h) (Or.inl ⟨by rfl, ?_⟩) trivial ?_
              rotate_left
              · intro w hSw
                go_simp
                try (first | (with_reducible rfl) | rfl)
              try simp only [List.getElem_toArray, List.getElem_cons_zero, List.getElem_cons_succ, Act.put, List.setIfInBounds_toArray, List.set_cons_zero, List.set_cons_succ]
              refine wpAnyH_take (i := 7) (v := ?_) rfl (by kernel_rfl) (by kernel_rfl) (by kernel_rfl) (fun _ _ _ h => h) (Or.inl ⟨by rfl, ?_⟩) trivial ?_
              rotate_left
              · intro w hSw
                go_simp
                try (first | (with_reducible rfl) | rfl)
              try simp only [List.getElem_toArray, List.getElem_cons_zero, List.getElem_cons_succ, Act.put, List.setIfInBounds_toArray, List.set_cons_zero, List.set_cons_succ]
              refine wpAnyH_take (i := 8) (v := ?_) rfl (by kernel_rfl) (by kernel_rfl) (by kernel_rfl) (fun _ _ _ h => h) (Or.inl ⟨by rfl, ?_⟩) trivial ?_
              rotate_left
              · intro w hSw
                go_simp
                try (first | (with_reducible rfl) | rfl)
              try simp only [List.getElem_toArray, List.getElem_cons_zero, List.getElem_cons_succ, Act.put, List.setIfInBounds_toArray, List.set_cons_zero, List.set_cons_succ]
              refine wpAnyH_take (i := 9) (v := ?_) rfl (by kernel_rfl) (by kernel_rfl) (by kernel_rfl) (fun _ _ _ h => h) (Or.inl ⟨by rfl, ?_⟩) trivial ?_
              rotate_left
              · intro w hSw
                go_simp
                try (first | (with_reducible rfl) | rfl)
              try simp only [List.getElem_toArray, List.getElem_cons_zero, List.getElem_cons_succ, Act.put, List.setIfInBounds_toArray, List.set_cons_zero, List.set_cons_succ]
              refine wpAnyH_take (i := 10) (v := ?_) rfl (by kernel_rfl) (by kernel_rfl) (by kernel_rfl) (fun _ _ _ h => h) (Or.inl ⟨by rfl, ?_⟩) trivial ?_
              rotate_left
              · intro w hSw
                go_simp
                try (first | (with_reducible rfl) | rfl)
              try simp only [List.getElem_toArray, List.getElem_cons_zero, List.getElem_cons_succ, Act.put, List.setIfInBounds_toArray, List.set_cons_zero, List.set_cons_succ]
              refine wpAnyH_take (i := 11) (v := ?_) rfl (by kernel_rfl) (by kernel_rfl) (by kernel_rfl) (fun _ _ _ h => h) (Or.inl ⟨by rfl, ?_⟩) trivial ?_
              rotate_left
              · intro w hSw
                go_simp
                try (first | (with_reducible rfl) | rfl)
              try simp only [List.getElem_toArray, List.getElem_cons_zero, List.getElem_cons_succ, Act.put, List.setIfInBounds_toArray, List.set_cons_zero, List.set_cons_succ]
              refine wpAnyH_take (i := 12) (v := ?_) rfl (by kernel_rfl) (by kernel_rfl) (by kernel_rfl) (fun _ _ _ h => h) (Or.inl ⟨by rfl, ?_⟩) trivial ?_
              rotate_left
              · intro w hSw
                go_simp
                try (first | (with_reducible rfl) | rfl)
              try simp only [List.getElem_toArray, List.getElem_cons_zero, List.getElem_cons_succ, Act.put, List.setIfInBounds_toArray, List.set_cons_zero, List.set_cons_succ]
              refine wpAnyH_take (i := 13) (v := ?_) rfl (by kernel_rfl) (by kernel_rfl) (by kernel_rfl) (fun _ _ _ h => h) (Or.inl ⟨by rfl, ?_⟩) trivial ?_
              rotate_left
              · intro w hSw
                go_simp
                try (first | (with_reducible rfl) | rfl)
              try simp only [List.getElem_toArray, List.getElem_cons_zero, List.getElem_cons_succ, Act.put, List.setIfInBounds_toArray, List.set_cons_zero, List.set_cons_succ]
              refine wpAnyH_take (i := 14) (v := ?_) rfl (by kernel_rfl) (by kernel_rfl) (by kernel_rfl) (fun _ _ _ h => h) (Or.inl ⟨by rfl, ?_⟩) trivial ?_
              rotate_left
              · intro w hSw
                go_simp
                try (first | (with_reducible rfl) | rfl)
              try simp only [List.getElem_toArray, List.getElem_cons_zero, List.getElem_cons_succ, Act.put, List.setIfInBounds_toArray, List.set_cons_zero, List.set_cons_succ]
              refine wpAnyH_take (i := 15) (v := ?_) rfl (by kernel_rfl) (by kernel_rfl) (by kernel_rfl) (fun _ _ _ h => h) (Or.inl ⟨by rfl, ?_⟩) trivial ?_
              rotate_left
              · intro w hSw
                go_simp
                try (first | (with_reducible rfl) | rfl)
              try simp only [List.getElem_toArray, List.getElem_cons_zero, List.getElem_cons_succ, Act.put, List.setIfInBounds_toArray, List.set_cons_zero, List.set_cons_succ]
              refine wpAnyH_take (i := 16) (v := ?_) rfl (by kernel_rfl) (by kernel_rfl) (by kernel_rfl) (fun _ _ _ h => h) (Or.inl ⟨by rfl, ?_⟩) trivial ?_
              rotate_left
              · intro w hSw
                go_simp
                try (first | (with_reducible rfl) | rfl)
              try simp only [List.getElem_toArray, List.getElem_cons_zero, List.getElem_cons_succ, Act.put, List.setIfInBounds_toArray, List.set_cons_zero, List.set_cons_succ]
              refine wpAnyH_take (i := 17) (v := ?_) rfl (by kernel_rfl) (by kernel_rfl) (by kernel_rfl) (fun _ _ _ h => h) (Or.inl ⟨by rfl, ?_⟩) trivial ?_
              rotate_left
              · intro w hSw
                go_simp
                try (first | (with_reducible rfl) | rfl)
              try simp only [List.getElem_toArray, List.getElem_cons_zero, List.getElem_cons_succ, Act.put, List.setIfInBounds_toArray, List.set_cons_zero, List.set_cons_succ]
              refine wpAnyH_take (i := 18) (v := ?_) rfl (by kernel_rfl) (by kernel_rfl) (by kernel_rfl) (fun _ _ _ h => h) (Or.inl ⟨by rfl, ?_⟩) trivial ?_
              rotate_left
              · intro w hSw
                go_simp
                try (first | (with_reducible rfl) | rfl)
              try simp only [List.getElem_toArray, List.getElem_cons_zero, List.getElem_cons_succ, Act.put, List.setIfInBounds_toArray, List.set_cons_zero, List.set_cons_succ]
              refine wpAnyH_take (i := 19) (v := ?_) rfl (by kernel_rfl) (by kernel_rfl) (by kernel_rfl) (fun _ _ _ h => h) (Or.inl ⟨by rfl, ?_⟩) trivial ?_
              rotate_left
              · intro w hSw
                go_simp
                try (first | (with_reducible rfl) | rfl)
              try simp only [List.getElem_toArray, List.getElem_cons_zero, List.getElem_cons_succ, Act.put, List.setIfInBounds_toArray, List.set_cons_zero, List.set_cons_succ]
              refine wpAnyH_ready (rs := [20]) (by kernel_rfl) (by simp) ?_
              refine AllReadyH.cons rfl (fun K hK => ?_) ?_
              · go_simp
                (go_at_call 17; refine (words_pos 1 HD.out rfl (by decide)).mono ?_; rintro e w20 ⟨g, c, rfl, hc, hr, hcc, hb⟩; (have k0 : w20.cell? ⟨g, 0, none⟩ = some (.int .u64 42949672960) := hc 0 (by decide)); (have HF := Lib.hid (HD.out.below hb).bel); clear hc hr hcc hb)
                go_wp2_with fail
                refine hK.out _ _ trivial (fun _ => ?_)
                clear hK K
                try simp only [List.getElem_toArray, List.getElem_cons_zero, List.getElem_cons_succ, Act.put, List.setIfInBounds_toArray, List.set_cons_zero, List.set_cons_succ]
                refine wpAnyH_take (i := 21) (v := ?_) rfl (by kernel_rfl) (by kernel_rfl) (by kernel_rfl) (fun _ _ _ h => h) (Or.inl ⟨by rfl, ?_⟩) trivial ?_
                rotate_left
                · intro w hSw
                  go_simp
                  try (first | (with_reducible rfl) | rfl)
                try simp only [List.getElem_toArray, List.getElem_cons_zero, List.getElem_cons_succ, Act.put, List.setIfInBounds_toArray, List.set_cons_zero, List.set_cons_succ]
                refine wpAnyH_ready (rs := [22, 23]) (by kernel_rfl) (by simp) ?_
                refine AllReadyH.cons rfl (fun K hK => ?_) ?_
                · go_simp
                  refine hK.out _ _ trivial (fun _ => ?_)
                  clear hK K
                  try simp only [List.getElem_toArray, List.getElem_cons_zero, List.getElem_cons_succ, Act.put, List.setIfInBounds_toArray, List.set_cons_zero, List.set_cons_succ]
                  refine wpAnyH_ready (rs := [23]) (by kernel_rfl) (by simp) ?_
                  refine AllReadyH.cons rfl (fun K hK => ?_) ?_
                  · go_simp
                    (go_at_call 12; refine (slot_word_q 0 0 10 42949672960 _ (by decide) (by decide) (by decide) (by decide) (by decide) (by decide) (by decide)).mono ?_; rintro e w' ⟨rfl, rfl⟩)
                    go_wp2_with fail
                    refine hK.out _ _ trivial (fun _ => ?_)
                    clear hK K
                    try simp only [List.getElem_toArray, List.getElem_cons_zero, List.getElem_cons_succ, Act.put, List.setIfInBounds_toArray, List.set_cons_zero, List.set_cons_succ]
                    refine wpAnyH_take (i := 24) (v := ?_) rfl (by kernel_rfl) (by kernel_rfl) (by kernel_rfl) (fun _ _ _ h => h) (Or.inl ⟨by rfl, ?_⟩) trivial ?_
                    rotate_left
                    · intro w hSw
                      go_simp
                      try (first | (with_reducible rfl) | rfl)
                    try simp only [List.getElem_toArray, List.getElem_cons_zero, List.getElem_cons_succ, Act.put, List.setIfInBounds_toArray, List.set_cons_zero, List.set_cons_succ]
                    refine wpAnyH_take (i := 25) (v := ?_) rfl (by kernel_rfl) (by kernel_rfl) (by kernel_rfl) (fun _ _ _ h => h) (Or.inl ⟨by rfl, ?_⟩) trivial ?_
                    rotate_left
                    · intro w hSw
                      go_simp
                      try (first | (with_reducible rfl) | rfl)
                    try simp only [List.getElem_toArray, List.getElem_cons_zero, List.getElem_cons_succ, Act.put, List.setIfInBounds_toArray, List.set_cons_zero, List.set_cons_succ]
                    refine wpAnyH_take (i := 26) (v := ?_) rfl (by kernel_rfl) (by kernel_rfl) (by kernel_rfl) (fun _ _ _ h => h) (Or.inl ⟨by rfl, ?_⟩) trivial ?_
                    rotate_left
                    · intro w hSw
                      go_simp
                      try (first | (with_reducible rfl) | rfl)
                    try simp only [List.getElem_toArray, List.getElem_cons_zero, List.getElem_cons_succ, Act.put, List.setIfInBounds_toArray, List.set_cons_zero, List.set_cons_succ]
                    refine wpAnyH_done (by kernel_rfl) ?_ _
                    go_wp2
                    go_ret
                    exact ⟨rfl, HF.out⟩
                  exact AllReadyH.nil
                refine AllReadyH.cons rfl (fun K hK => ?_) ?_
                · go_simp
                  (go_at_call 12; refine (slot_word_q 0 0 10 42949672960 _ (by decide) (by decide) (by decide) (by decide) (by decide) (by decide) (by decide)).mono ?_; rintro e w' ⟨rfl, rfl⟩)
                  go_wp2_with fail
                  refine hK.out _ _ trivial (fun _ => ?_)
                  clear hK K
                  try simp only [List.getElem_toArray, List.getElem_cons_zero, List.getElem_cons_succ, Act.put, List.setIfInBounds_toArray, List.set_cons_zero, List.set_cons_succ]
                  refine wpAnyH_ready (rs := [22]) (by kernel_rfl) (by simp) ?_
                  refine AllReadyH.cons rfl (fun K hK => ?_) ?_
                  · go_simp
                    refine hK.out _ _ trivial (fun _ => ?_)
                    clear hK K
                    try simp only [List.getElem_toArray, List.getElem_cons_zero, List.getElem_cons_succ, Act.put, List.setIfInBounds_toArray, List.set_cons_zero, List.set_cons_succ]
                    refine wpAnyH_take (i := 24) (v := ?_) rfl (by kernel_rfl) (by kernel_rfl) (by kernel_rfl) (fun _ _ _ h => h) (Or.inl ⟨by rfl, ?_⟩) trivial ?_
                    rotate_left
                    · intro w hSw
                      go_simp
                      try (first | (with_reducible rfl) | rfl)
                    try simp only [List.getElem_toArray, List.getElem_cons_zero, List.getElem_cons_succ, Act.put, List.setIfInBounds_toArray, List.set_cons_zero, List.set_cons_succ]
                    refine wpAnyH_take (i := 25) (v := ?_) rfl (by kernel_rfl) (by kernel_rfl) (by kernel_rfl) (fun _ _ _ h => h) (Or.inl ⟨by rfl, ?_⟩) trivial ?_
                    rotate_left
                    · intro w hSw
                      go_simp
                      try (first | (with_reducible rfl) | rfl)
                    try simp only [List.getElem_toArray, List.getElem_cons_zero, List.getElem_cons_succ, Act.put, List.setIfInBounds_toArray, List.set_cons_zero, List.set_cons_succ]
                    refine wpAnyH_take (i := 26) (v := ?_) rfl (by kernel_rfl) (by kernel_rfl) (by kernel_rfl) (fun _ _ _ h => h) (Or.inl ⟨by rfl, ?_⟩) trivial ?_
                    rotate_left
                    · intro w hSw
                      go_simp
                      try (first | (with_reducible rfl) | rfl)
                    try simp only [List.getElem_toArray, List.getElem_cons_zero, List.getElem_cons_succ, Act.put, List.setIfInBounds_toArray, List.set_cons_zero, List.set_cons_succ]
                    refine wpAnyH_done (by kernel_rfl) ?_ _
                    go_wp2
                    go_ret
                    exact ⟨rfl, HF.out⟩
                  exact AllReadyH.nil
                exact AllReadyH.nil
              exact AllReadyH.nil

set_option maxHeartbeats 16000000 in
set_option maxRecDepth 100000 in
theorem two_true (nd lo ot i v c L O : Int) (w : World) (i0 : 0 ≤ i) (i1 : i < 1073741824) (hi : nd % 1073741824 = i) (nd0 : 0 ≤ nd) (nd1 : nd < 4294967296) (hL : pickI lo 60 = L) (hO : pickI ot 5 = O) (L0 : 0 ≤ L) (L1 : L < 60) (O0 : 0 ≤ O) (O1 : O < 5) (l0 : -9223372036854775808 ≤ lo) (l1 : lo < 9223372036854775808) (o0 : -9223372036854775808 ≤ ot) (o1 : ot < 9223372036854775808) (hT : TwoW true i v c) :
    Calls Try.prog 5 #[.bool true, .int .u32 nd, .int .i64 lo, .int .i64 ot] w fun e w' => e = .returned (.bool true) ∧ Below w.heap.size w w' := by
  have HT := Lib.hid hT
  have HLO := Lib.hid hL
  have HO := Lib.hid hO
  have i2 : i < 4294967296 := by omega
  have hi3 : i % 4294967296 = i := by omega
  have hi4 : IntKind.u32.wrap i = i := by rw [IntKind.wrap_u32]; exact hi3
  have H := Lib.hid (St.nil w)
  clear hT hL hO
  go_enter Try.func5, Try.ntmps5
  go_wp2_with (first | ((have _h := H4); go_at_call 13; refine (visit_new 0 false i 1152921504606846976 64 H4.out).mono ?_; rintro e w5 ⟨pb, rfl, h⟩; (have H5 := Lib.hid (h.sw12)); clear h; clear _h) | ((have _h := H3); go_at_call 13; refine (visit_new 0 true i 1152921504606846976 64 H3.out).mono ?_; rintro e w4 ⟨pa, rfl, h⟩; (have H4 := Lib.hid (h)); clear h; clear _h) | ((have _h := H2); go_at_call 11; refine (new_st (H2.out.below (bl_alloc (bl_refl _) _)) (some ⟨_, 0, none⟩) _ 1 [38654705664] (lit1 (heap_new rfl)) (by decide) (rng1 (by decide) (by decide)) rfl).mono ?_; rintro e w3 ⟨q, rfl, h⟩; (have H3 := Lib.hid (h)); clear h; clear _h) | ((have _h := H1); go_at_call 12; refine (slot_word 0 0 9 38654705664 _ (by decide) (by decide) (by decide) (by decide) (by decide) (by decide) (by decide)).mono ?_; rintro e w2 ⟨rfl, hb⟩; (have H2 := Lib.hid (H1.out.below hb)); clear hb; clear _h) | ((have _h := H); go_at_call 10; refine (shown10 _).mono ?_; rintro e w1 ⟨rfl, hb⟩; (have H1 := Lib.hid (H.out.below hb)); clear hb; clear _h))
  have HRel := Lib.hid (show TwoRel w q pa pb true i v 0 w5 from ⟨[], H5.out, rfl⟩)
  go_loopg [15] 65 (fun kq y w' => ∃ k : Nat, y = .int .i64 k ∧ (k : Int) ≤ 2 + L ∧ k + kq = 65 ∧ TwoRel w q pa pb true i v k w')
  case atStart => exact ⟨0, rfl, by omega, by omega, HRel.out⟩
  case round =>
    obtain ⟨k, rfl, hk, hkq, ns, hS, hc⟩ := hrel
    have HE := Lib.hid hS
    have hnsl : ns.length ≤ 1000000000000 := by omega
    clear hS HRel
    cases gk with
    | zero => omega
    | succ kk =>
      by_cases c4 : (k : Int) < 2 + L
      · have c4b : decide ((k : Int) < 2 + L) = true := decide_eq_true c4
        obtain ⟨nt, hnt0⟩ := tS_step HT.out (show k < 62 by omega)
        have HNX := Lib.hid hnt0
        have HOKk : Hid ((tS true i v k).ok (tW v k).length ns.length) := Lib.hid (tS_ok HT.out i0 i1 (by omega))
        have HC := Lib.hid hc
        clear hnt0 hc
        go_wp2_with (first | ((have _h := L1); go_at_call 15; refine (vstep 0 HNX.out rfl (by unfold VM.told; simp) L1.out HOKk.out hnsl).mono ?_; rintro e wl2 ⟨rfl, h⟩; (have L2 := Lib.hid (h)); clear h; clear _h) | ((have _h := HE); go_at_call 14; refine (pick_is lo 60 L _ HLO.out (by decide) (by decide) l0 l1).mono ?_; rintro e wl1 ⟨rfl, rfl⟩; (have L1 := Lib.hid (HE.out)); clear _h))
        go_roundg kk
        case measure => omega
        case rel => exact ⟨k + 1, rfl, by omega, by omega, ns ++ [nt], L2.out, by rw [List.length_append, HC.out]; rfl⟩
      · have c4b : decide ((k : Int) < 2 + L) = false := decide_eq_false c4
        go_wp2_with (first | ((have _h := HE); go_at_call 14; refine (pick_is lo 60 L _ HLO.out (by decide) (by decide) l0 l1).mono ?_; rintro e we1 ⟨rfl, rfl⟩; (have E1 := Lib.hid (HE.out)); clear _h))
        have hk2 : 2 ≤ k := by omega
        have HS2 := Lib.hid (show TwoRel2 w q pa pb true i v (64 - ((k : Int) - 2)) 62 wr from ⟨ns, by have := E1.out; rw [show tW v k = [v] by simp [tW]; omega, show tS true i v k = ⟨0, true, i, 1152921504606846976, 64 - ((k : Int) - 2), v, .look, 0, true⟩ by unfold tS; rw [if_neg (by omega), if_neg (by omega)]] at this; exact this, by omega⟩)
        obtain ⟨ll, hll⟩ : ∃ ll : Int, 64 - ((k : Int) - 2) = ll := ⟨_, rfl⟩
        have ll0 : 0 ≤ ll := by omega
        have ll1 : ll ≤ 64 := by omega
        rw [hll] at HS2
        clear HE hnsl
        go_loopg [18] 6 (fun kq y w' => ∃ j : Nat, y = .int .i64 j ∧ (j : Int) ≤ O ∧ j + kq = 6 ∧ TwoRel2 w q pa pb true i v ll (62 + j) w')
        case atStart => exact ⟨0, rfl, by omega, by omega, HS2.out⟩
        case round =>
          obtain ⟨j, rfl, hj, hjq, ns, hS, hc⟩ := hrel
          have HG := Lib.hid hS
          have hnl : ns.length ≤ 1000000000000 := by omega
          clear hS HS2
          cases gk with
          | zero => omega
          | succ k3 =>
            by_cases c5 : (j : Int) < O
            · have c5b : decide ((j : Int) < O) = true := decide_eq_true c5
              go_wp2_with (first | ((have _h := M2); go_at_call 15; refine (vstep 0 (two_c HT.out) rfl rfl M2.out (newVM_ok 1 _ (by decide) (by decide) (by decide) (by decide) (by decide)) hnl).mono ?_; rintro e wm3 ⟨rfl, h⟩; (have M3 := Lib.hid (h.drop1)); clear h; clear _h) | ((have _h := M1); go_at_call 13; refine (visit_new 0 true 3 1152921504606846976 64 M1.out).mono ?_; rintro e wm2 ⟨pc, rfl, h⟩; (have M2 := Lib.hid (h)); clear h; clear _h) | ((have _h := HG); go_at_call 14; refine (pick_is ot 5 O _ HO.out (by decide) (by decide) o0 o1).mono ?_; rintro e wm1 ⟨rfl, rfl⟩; (have M1 := Lib.hid (HG.out)); clear _h))
              go_roundg k3
              case measure => omega
              case rel => exact ⟨j + 1, rfl, by omega, by omega, _, M3.out, by simp; omega⟩
            · have c5b : decide ((j : Int) < O) = false := decide_eq_false c5
              go_wp2_with (first | ((have _h := T4); go_at_call 15; refine (vstep 0 (two_a2 HT.out) rfl rfl T4.out (mkok i0 i2 (by decide) (by decide) HT.out.v0 HT.out.v1 (by omega) (by omega) (fun _ _ => ⟨by simp, by simp⟩) (fun h => by simp) ⟨HT.out.c0, HT.out.c1⟩) (by first | omega | (simp; omega))).mono ?_; rintro e wt5 ⟨rfl, h⟩; (have T5 := Lib.hid (h)); clear h; clear _h) | ((have _h := T3); go_at_call 15; refine (vstep 0 (two_a1 HT.out) rfl rfl T3.out (mkok i0 i2 (by decide) (by decide) HT.out.v0 HT.out.v1 (by omega) (by omega) (fun _ _ => ⟨by simp, by simp⟩) (fun h => by simp) trivial) (by first | omega | (simp; omega))).mono ?_; rintro e wt4 ⟨rfl, h⟩; (have T4 := Lib.hid (h)); clear h; clear _h) | ((have _h := T2); go_at_call 15; refine (vstep i (two_b2 HT.out) rfl rfl T2.out.sw12 (mkok i0 i2 (by decide) (by decide) HT.out.v0 HT.out.v1 (by omega) (by decide) (fun _ _ => ⟨by simp, by simp⟩) (fun h => by cases h) HT.out.m1) (by first | omega | (simp; omega))).mono ?_; rintro e wt3 ⟨rfl, h⟩; (have T3 := Lib.hid (h.sw12)); clear h; clear _h) | ((have _h := T1); go_at_call 15; refine (vstep 0 (two_b1 HT.out) rfl rfl T1.out.sw12 (newVM_ok 1 _ i0 i2 (by decide) (by decide) (by decide)) (by first | omega | (simp; omega))).mono ?_; rintro e wt2 ⟨rfl, h⟩; (have T2 := Lib.hid (h.sw12)); clear h; clear _h) | ((have _h := HG); go_at_call 14; refine (pick_is ot 5 O _ HO.out (by decide) (by decide) o0 o1).mono ?_; rintro e wt1 ⟨rfl, rfl⟩; (have T1 := Lib.hid (HG.out)); clear _h))
              have HD := Lib.hid T5.out.drew
              refine wp_region_held_drew (S := fun _ => True) (by kernel_rfl) trivial (fun hHeld => ?_)
              refine wpAnyH_take (i := 0) (v := ?_) rfl (by kernel_rfl) (by kernel_rfl) (by kernel_rfl) (fun _ _ _ h => h) (Or.inl ⟨by rfl, ?_⟩) trivial ?_
              rotate_left
              · intro w hSw
                go_simp
                try (first | (with_reducible rfl) | rfl)
              try simp only [List.getElem_toArray, List.getElem_cons_zero, List.getElem_cons_succ, Act.put, List.setIfInBounds_toArray, List.set_cons_zero, List.set_cons_succ]
              refine wpAnyH_take (i := 1) (v := ?_) rfl (by kernel_rfl) (by kernel_rfl) (by kernel_rfl) (fun _ _ _ h => h) (Or.inl ⟨by rfl, ?_⟩) trivial ?_
              rotate_left
              · intro w hSw
                go_simp
                try (first | (with_reducible rfl) | rfl)
              try simp only [List.getElem_toArray, List.getElem_cons_zero, List.getElem_cons_succ, Act.put, List.setIfInBounds_toArray, List.set_cons_zero, List.set_cons_succ]
              refine wpAnyH_take (i := 2) (v := ?_) rfl (by kernel_rfl) (by kernel_rfl) (by kernel_rfl) (fun _ _ _ h => h) (Or.inl ⟨by rfl, ?_⟩) trivial ?_
              rotate_left
              · intro w hSw
                go_simp
                try (first | (with_reducible rfl) | rfl)
              try simp only [List.getElem_toArray, List.getElem_cons_zero, List.getElem_cons_succ, Act.put, List.setIfInBounds_toArray, List.set_cons_zero, List.set_cons_succ]
              refine wpAnyH_take (i := 3) (v := ?_) rfl (by kernel_rfl) (by kernel_rfl) (by kernel_rfl) (fun _ _ _ h => h) (Or.inl ⟨by rfl, ?_⟩) trivial ?_
              rotate_left
              · intro w hSw
                go_simp
                try (first | (with_reducible rfl) | rfl)
              try simp only [List.getElem_toArray, List.getElem_cons_zero, List.getElem_cons_succ, Act.put, List.setIfInBounds_toArray, List.set_cons_zero, List.set_cons_succ]
              refine wpAnyH_take (i := 4) (v := ?_) rfl (by kernel_rfl) (by kernel_rfl) (by kernel_rfl) (fun _ _ _ h => h) (Or.inl ⟨by rfl, ?_⟩) trivial ?_
              rotate_left
              · intro w hSw
                go_simp
                try (first | (with_reducible rfl) | rfl)
              try simp only [List.getElem_toArray, List.getElem_cons_zero, List.getElem_cons_succ, Act.put, List.setIfInBounds_toArray, List.set_cons_zero, List.set_cons_succ]
              refine wpAnyH_take (i := 5) (v := ?_) rfl (by kernel_rfl) (by kernel_rfl) (by kernel_rfl) (fun _ _ _ h => h) (Or.inl ⟨by rfl, ?_⟩) trivial ?_
              rotate_left
              · intro w hSw
                go_simp
                try (first | (with_reducible rfl) | rfl)
              try simp only [List.getElem_toArray, List.getElem_cons_zero, List.getElem_cons_succ, Act.put, List.setIfInBounds_toArray, List.set_cons_zero, List.set_cons_succ]
              refine wpAnyH_take (i := 6) (v := ?_) rfl (by kernel_rfl) (by kernel_rfl) (by kernel_rfl) (fun _ _ _ h => h) (Or.inl ⟨by rfl, ?_⟩) trivial ?_
              rotate_left
              · intro w hSw
                go_simp
                try (first | (with_reducible rfl) | rfl)
              try simp only [List.getElem_toArray, List.getElem_cons_zero, List.getElem_cons_succ, Act.put, List.setIfInBounds_toArray, List.set_cons_zero, List.set_cons_succ]
              refine wpAnyH_take (i := 7) (v := ?_) rfl (by kernel_rfl) (by kernel_rfl) (by kernel_rfl) (fun _ _ _ h => h) (Or.inl ⟨by rfl, ?_⟩) trivial ?_
              rotate_left
              · intro w hSw
                go_simp
                try (first | (with_reducible rfl) | rfl)
              try simp only [List.getElem_toArray, List.getElem_cons_zero, List.getElem_cons_succ, Act.put, List.setIfInBounds_toArray, List.set_cons_zero, List.set_cons_succ]
              refine wpAnyH_take (i := 8) (v := ?_) rfl (by kernel_rfl) (by kernel_rfl) (by kernel_rfl) (fun _ _ _ h => h) (Or.inl ⟨by rfl, ?_⟩) trivial ?_
              rotate_left
              · intro w hSw
                go_simp
                try (first | (with_reducible rfl) | rfl)
              try simp only [List.getElem_toArray, List.getElem_cons_zero, List.getElem_cons_succ, Act.put, List.setIfInBounds_toArray, List.set_cons_zero, List.set_cons_succ]
              refine wpAnyH_take (i := 9) (v := ?_) rfl (by kernel_rfl) (by kernel_rfl) (by kernel_rfl) (fun _ _ _ h => h) (Or.inl ⟨by rfl, ?_⟩) trivial ?_
              rotate_left
              · intro w hSw
                go_simp
                try (first | (with_reducible rfl) | rfl)
              try simp only [List.getElem_toArray, List.getElem_cons_zero, List.getElem_cons_succ, Act.put, List.setIfInBounds_toArray, List.set_cons_zero, List.set_cons_succ]
              refine wpAnyH_take (i := 10) (v := ?_) rfl (by kernel_rfl) (by kernel_rfl) (by kernel_rfl) (fun _ _ _ h => h) (Or.inl ⟨by rfl, ?_⟩) trivial ?_
              rotate_left
              · intro w hSw
                go_simp
                try (first | (with_reducible rfl) | rfl)
              try simp only [List.getElem_toArray, List.getElem_cons_zero, List.getElem_cons_succ, Act.put, List.setIfInBounds_toArray, List.set_cons_zero, List.set_cons_succ]
              refine wpAnyH_take (i := 11) (v := ?_) rfl (by kernel_rfl) (by kernel_rfl) (by kernel_rfl) (fun _ _ _ h => h) (Or.inl ⟨by rfl, ?_⟩) trivial ?_
              rotate_left
              · intro w hSw
                go_simp
                try (first | (with_reducible rfl) | rfl)
              try simp only [List.getElem_toArray, List.getElem_cons_zero, List.getElem_cons_succ, Act.put, List.setIfInBounds_toArray, List.set_cons_zero, List.set_cons_succ]
              refine wpAnyH_take (i := 12) (v := ?_) rfl (by kernel_rfl) (by kernel_rfl) (by kernel_rfl) (fun _ _ _ h => h) (Or.inl ⟨by rfl, ?_⟩) trivial ?_
              rotate_left
              · intro w hSw
                go_simp
                try (first | (with_reducible rfl) | rfl)
              try simp only [List.getElem_toArray, List.getElem_cons_zero, List.getElem_cons_succ, Act.put, List.setIfInBounds_toArray, List.set_cons_zero, List.set_cons_succ]
              refine wpAnyH_take (i := 13) (v := ?_) rfl (by kernel_rfl) (by kernel_rfl) (by kernel_rfl) (fun _ _ _ h => h) (Or.inl ⟨by rfl, ?_⟩) trivial ?_
              rotate_left
              · intro w hSw
                go_simp
                try (first | (with_reducible rfl) | rfl)
              try simp only [List.getElem_toArray, List.getElem_cons_zero, List.getElem_cons_succ, Act.put, List.setIfInBounds_toArray, List.set_cons_zero, List.set_cons_succ]
              refine wpAnyH_take (i := 14) (v := ?_) rfl (by kernel_rfl) (by kernel_rfl) (by kernel_rfl) (fun _ _ _ h => h) (Or.inl ⟨by rfl, ?_⟩) trivial ?_
              rotate_left
              · intro w hSw
                go_simp
                try (first | (with_reducible rfl) | rfl)
              try simp only [List.getElem_toArray, List.getElem_cons_zero, List.getElem_cons_succ, Act.put, List.setIfInBounds_toArray, List.set_cons_zero, List.set_cons_succ]
              refine wpAnyH_take (i := 15) (v := ?_) rfl (by kernel_rfl) (by kernel_rfl) (by kernel_rfl) (fun _ _ _ h => h) (Or.inl ⟨by rfl, ?_⟩) trivial ?_
              rotate_left
              · intro w hSw
                go_simp
                try (first | (with_reducible rfl) | rfl)
              try simp only [List.getElem_toArray, List.getElem_cons_zero, List.getElem_cons_succ, Act.put, List.setIfInBounds_toArray, List.set_cons_zero, List.set_cons_succ]
              refine wpAnyH_take (i := 16) (v := ?_) rfl (by kernel_rfl) (by kernel_rfl) (by kernel_rfl) (fun _ _ _ h => h) (Or.inl ⟨by rfl, ?_⟩) trivial ?_
              rotate_left
              · intro w hSw
                go_simp
                try (first | (with_reducible rfl) | rfl)
              try simp only [List.getElem_toArray, List.getElem_cons_zero, List.getElem_cons_succ, Act.put, List.setIfInBounds_toArray, List.set_cons_zero, List.set_cons_succ]
              refine wpAnyH_take (i := 17) (v := ?_) rfl (by kernel_rfl) (by kernel_rfl) (by kernel_rfl) (fun _ _ _ h => h) (Or.inl ⟨by rfl, ?_⟩) trivial ?_
              rotate_left
              · intro w hSw
                go_simp
                try (first | (with_reducible rfl) | rfl)
              try simp only [List.getElem_toArray, List.getElem_cons_zero, List.getElem_cons_succ, Act.put, List.setIfInBounds_toArray, List.set_cons_zero, List.set_cons_succ]
              refine wpAnyH_take (i := 18) (v := ?_) rfl (by kernel_rfl) (by kernel_rfl) (by kernel_rfl) (fun _ _ _ h => h) (Or.inl ⟨by rfl, ?_⟩) trivial ?_
              rotate_left
              · intro w hSw
                go_simp
                try (first | (with_reducible rfl) | rfl)
              try simp only [List.getElem_toArray, List.getElem_cons_zero, List.getElem_cons_succ, Act.put, List.setIfInBounds_toArray, List.set_cons_zero, List.set_cons_succ]
              refine wpAnyH_take (i := 19) (v := ?_) rfl (by kernel_rfl) (by kernel_rfl) (by kernel_rfl) (fun _ _ _ h => h) (Or.inl ⟨by rfl, ?_⟩) trivial ?_
              rotate_left
              · intro w hSw
                go_simp
                try (first | (with_reducible rfl) | rfl)
              try simp only [List.getElem_toArray, List.getElem_cons_zero, List.getElem_cons_succ, Act.put, List.setIfInBounds_toArray, List.set_cons_zero, List.set_cons_succ]
              refine wpAnyH_ready (rs := [20]) (by kernel_rfl) (by simp) ?_
              refine AllReadyH.cons rfl (fun K hK => ?_) ?_
              · go_simp
                (go_at_call 17; refine (words_pos 1 HD.out rfl (by decide)).mono ?_; rintro e w20 ⟨g, c, rfl, hc, hr, hcc, hb⟩; (have k0 : w20.cell? ⟨g, 0, none⟩ = some (.int .u64 42949672960) := hc 0 (by decide)); (have HF := Lib.hid (HD.out.below hb).bel); clear hc hr hcc hb)
                go_wp2_with fail
                refine hK.out _ _ trivial (fun _ => ?_)
                clear hK K
                try simp only [List.getElem_toArray, List.getElem_cons_zero, List.getElem_cons_succ, Act.put, List.setIfInBounds_toArray, List.set_cons_zero, List.set_cons_succ]
                refine wpAnyH_take (i := 21) (v := ?_) rfl (by kernel_rfl) (by kernel_rfl) (by kernel_rfl) (fun _ _ _ h => h) (Or.inl ⟨by rfl, ?_⟩) trivial ?_
                rotate_left
                · intro w hSw
                  go_simp
                  try (first | (with_reducible rfl) | rfl)
                try simp only [List.getElem_toArray, List.getElem_cons_zero, List.getElem_cons_succ, Act.put, List.setIfInBounds_toArray, List.set_cons_zero, List.set_cons_succ]
                refine wpAnyH_ready (rs := [22, 23]) (by kernel_rfl) (by simp) ?_
                refine AllReadyH.cons rfl (fun K hK => ?_) ?_
                · go_simp
                  refine hK.out _ _ trivial (fun _ => ?_)
                  clear hK K
                  try simp only [List.getElem_toArray, List.getElem_cons_zero, List.getElem_cons_succ, Act.put, List.setIfInBounds_toArray, List.set_cons_zero, List.set_cons_succ]
                  refine wpAnyH_ready (rs := [23]) (by kernel_rfl) (by simp) ?_
                  refine AllReadyH.cons rfl (fun K hK => ?_) ?_
                  · go_simp
                    (go_at_call 12; refine (slot_word_q 0 0 10 42949672960 _ (by decide) (by decide) (by decide) (by decide) (by decide) (by decide) (by decide)).mono ?_; rintro e w' ⟨rfl, rfl⟩)
                    go_wp2_with fail
                    refine hK.out _ _ trivial (fun _ => ?_)
                    clear hK K
                    try simp only [List.getElem_toArray, List.getElem_cons_zero, List.getElem_cons_succ, Act.put, List.setIfInBounds_toArray, List.set_cons_zero, List.set_cons_succ]
                    refine wpAnyH_take (i := 24) (v := ?_) rfl (by kernel_rfl) (by kernel_rfl) (by kernel_rfl) (fun _ _ _ h => h) (Or.inl ⟨by rfl, ?_⟩) trivial ?_
                    rotate_left
                    · intro w hSw
                      go_simp
                      try (first | (with_reducible rfl) | rfl)
                    try simp only [List.getElem_toArray, List.getElem_cons_zero, List.getElem_cons_succ, Act.put, List.setIfInBounds_toArray, List.set_cons_zero, List.set_cons_succ]
                    refine wpAnyH_take (i := 25) (v := ?_) rfl (by kernel_rfl) (by kernel_rfl) (by kernel_rfl) (fun _ _ _ h => h) (Or.inl ⟨by rfl, ?_⟩) trivial ?_
                    rotate_left
                    · intro w hSw
                      go_simp
                      try (first | (with_reducible rfl) | rfl)
                    try simp only [List.getElem_toArray, List.getElem_cons_zero, List.getElem_cons_succ, Act.put, List.setIfInBounds_toArray, List.set_cons_zero, List.set_cons_succ]
                    refine wpAnyH_take (i := 26) (v := ?_) rfl (by kernel_rfl) (by kernel_rfl) (by kernel_rfl) (fun _ _ _ h => h) (Or.inl ⟨by rfl, ?_⟩) trivial ?_
                    rotate_left
                    · intro w hSw
                      go_simp
                      try (first | (with_reducible rfl) | rfl)
                    try simp only [List.getElem_toArray, List.getElem_cons_zero, List.getElem_cons_succ, Act.put, List.setIfInBounds_toArray, List.set_cons_zero, List.set_cons_succ]
                    refine wpAnyH_done (by kernel_rfl) ?_ _
                    go_wp2
                    go_ret
                    exact ⟨rfl, HF.out⟩
                  exact AllReadyH.nil
                refine AllReadyH.cons rfl (fun K hK => ?_) ?_
                · go_simp
                  (go_at_call 12; refine (slot_word_q 0 0 10 42949672960 _ (by decide) (by decide) (by decide) (by decide) (by decide) (by decide) (by decide)).mono ?_; rintro e w' ⟨rfl, rfl⟩)
                  go_wp2_with fail
                  refine hK.out _ _ trivial (fun _ => ?_)
                  clear hK K
                  try simp only [List.getElem_toArray, List.getElem_cons_zero, List.getElem_cons_succ, Act.put, List.setIfInBounds_toArray, List.set_cons_zero, List.set_cons_succ]
                  refine wpAnyH_ready (rs := [22]) (by kernel_rfl) (by simp) ?_
                  refine AllReadyH.cons rfl (fun K hK => ?_) ?_
                  · go_simp
                    refine hK.out _ _ trivial (fun _ => ?_)
                    clear hK K
                    try simp only [List.getElem_toArray, List.getElem_cons_zero, List.getElem_cons_succ, Act.put, List.setIfInBounds_toArray, List.set_cons_zero, List.set_cons_succ]
                    refine wpAnyH_take (i := 24) (v := ?_) rfl (by kernel_rfl) (by kernel_rfl) (by kernel_rfl) (fun _ _ _ h => h) (Or.inl ⟨by rfl, ?_⟩) trivial ?_
                    rotate_left
                    · intro w hSw
                      go_simp
                      try (first | (with_reducible rfl) | rfl)
                    try simp only [List.getElem_toArray, List.getElem_cons_zero, List.getElem_cons_succ, Act.put, List.setIfInBounds_toArray, List.set_cons_zero, List.set_cons_succ]
                    refine wpAnyH_take (i := 25) (v := ?_) rfl (by kernel_rfl) (by kernel_rfl) (by kernel_rfl) (fun _ _ _ h => h) (Or.inl ⟨by rfl, ?_⟩) trivial ?_
                    rotate_left
                    · intro w hSw
                      go_simp
                      try (first | (with_reducible rfl) | rfl)
                    try simp only [List.getElem_toArray, List.getElem_cons_zero, List.getElem_cons_succ, Act.put, List.setIfInBounds_toArray, List.set_cons_zero, List.set_cons_succ]
                    refine wpAnyH_take (i := 26) (v := ?_) rfl (by kernel_rfl) (by kernel_rfl) (by kernel_rfl) (fun _ _ _ h => h) (Or.inl ⟨by rfl, ?_⟩) trivial ?_
                    rotate_left
                    · intro w hSw
                      go_simp
                      try (first | (with_reducible rfl) | rfl)
                    try simp only [List.getElem_toArray, List.getElem_cons_zero, List.getElem_cons_succ, Act.put, List.setIfInBounds_toArray, List.set_cons_zero, List.set_cons_succ]
                    refine wpAnyH_done (by kernel_rfl) ?_ _
                    go_wp2
                    go_ret
                    exact ⟨rfl, HF.out⟩
                  exact AllReadyH.nil
                exact AllReadyH.nil
              exact AllReadyH.nil

theorem exchangeTwo_walk (push : Bool) (nd lo ot : Int) (w : World) (h1 : (Lit.int .u32 nd).wf = true) (h2 : (Lit.int .i64 lo).wf = true) (h3 : (Lit.int .i64 ot).wf = true) :
    Calls Try.prog 5 #[.bool push, .int .u32 nd, .int .i64 lo, .int .i64 ot] w fun e w' => e = .returned (.bool true) ∧ Below w.heap.size w w' := by
  obtain ⟨n0, n1⟩ := rngU32 h1
  obtain ⟨l0, l1⟩ := rngI64 h2
  obtain ⟨o0, o1⟩ := rngI64 h3
  obtain ⟨L0, L1⟩ := pickI_rng (c := lo) (n := 60) (by decide)
  obtain ⟨O0, O1⟩ := pickI_rng (c := ot) (n := 5) (by decide)
  obtain ⟨v, c, h⟩ := two_w push (nd % 1073741824) (by omega) (by omega)
  cases push
  · exact two_false nd lo ot _ v c _ _ w (by omega) (by omega) rfl n0 n1 rfl rfl L0 L1 O0 O1 l0 l1 o0 o1 h
  · exact two_true nd lo ot _ v c _ _ w (by omega) (by omega) rfl n0 n1 rfl rfl L0 L1 O0 O1 l0 l1 o0 o1 h
end Go.Proofs.Ytpkchlmoohmfeaa
