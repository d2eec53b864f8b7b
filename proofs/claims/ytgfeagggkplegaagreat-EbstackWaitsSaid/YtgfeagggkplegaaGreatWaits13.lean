/-
  EbstackWaits: a push that stands still lets all others go on.
-/
import Derived.Test.YtgfeagggkplegaaGreatL13
import Derived.Test.YtgfeagggkplegaaGreatOpU
import Derived.Test.YtgfeagggkplegaaGreatOpen2
import Derived.Test.YtgfeagggkplegaaGreatWf
import Derived.Test.YtgfeagggkplegaaGreatPre
import Derived.Test.YtgfeagggkplegaaGreatLifo2
import Derived.Deep.DeepCutAuto
namespace Go.Proofs.YtgfeagggkplegaaGreat
open Go.RowKit
set_option linter.unusedVariables false
set_option linter.unusedSimpArgs false

theorem held_len {S : OM} {ws : List Int} (hp : ∀ E, S.part ≠ .visit E) : (S.held ws).length = (if S.i = 0 then 0 else 1) := by
  have e : S.heldI ws = S.i := by
    unfold OM.heldI
    cases h : S.part with
    | visit E => exact absurd h (hp E)
    | _ => rfl
  unfold OM.held
  rw [e]
  split <;> rfl
set_option maxRecDepth 20000 in
set_option maxHeartbeats 16000000 in
theorem waits_many (a0 a1 a2 ti : Int) (A : Option Addr) (m cap : Nat) (F : Nat → Bool) (w : World) (hx0 : (Lit.int .i64 a0).wf = true) (hx1 : (Lit.int .i64 a1).wf = true) (hx2 : (Lit.int .i64 a2).wf = true) (hx5 : (Lit.int .i64 ti).wf = true) (hF : RdB w A m F) (h60 : 60 < m) :
    Calls Tryz.prog 10 #[.int .i64 a0, .int .i64 a1, .int .i64 a2, .int .i64 ti, .slice A m cap] w fun e w' => e = .returned (.bool true) ∧ Below w.heap.size w w' := by
  obtain ⟨a00, a01⟩ := rngI64 hx0
  obtain ⟨a10, a11⟩ := rngI64 hx1
  obtain ⟨a20, a21⟩ := rngI64 hx2
  have p6 := pickI_rng (c := a0) (n := 6) (by decide)
  have p4 := pickI_rng (c := a1) (n := 4) (by decide)
  have p7 := pickI_rng (c := a1) (n := 7) (by decide)
  have q4 := pickI_rng (c := a2) (n := 4) (by decide)
  have q3 := pickI_rng (c := a2) (n := 3) (by decide)
  obtain ⟨nn, hnn⟩ : ∃ nn : Nat, 1 + pickI a0 6 = (nn : Int) := Int.eq_ofNat_of_zero_le (by omega)
  obtain ⟨ss, hss⟩ : ∃ ss : Nat, pickI a1 4 = (ss : Int) := Int.eq_ofNat_of_zero_le (by omega)
  obtain ⟨bud, hbud⟩ : ∃ bud, pickI a2 4 = bud := ⟨_, rfl⟩
  obtain ⟨base, hbase⟩ : ∃ base, 1 + pickI a2 3 = base := ⟨_, rfl⟩
  obtain ⟨wt, hwt⟩ : ∃ wt, pickI a1 7 = wt := ⟨_, rfl⟩
  obtain ⟨N, hN⟩ : ∃ N, N = 2 + 2 * nn + ss + 0 := ⟨_, rfl⟩
  obtain ⟨T, hT⟩ : ∃ T : Int, 7 * 4294967296 = T := ⟨_, rfl⟩
  obtain ⟨rg, hrg⟩ : ∃ rg, pR 1 (ss : Int) = rg := ⟨_, rfl⟩
  have n1 : 1 ≤ nn := by omega
  have n2 : nn ≤ 64 := by omega
  have n6 : nn ≤ 6 := by omega
  have s4 : ss < 4 := by omega
  have hN2 : 2 + 2 * nn ≤ N := by omega
  have hNle : N ≤ 1024 := by omega
  have t0 : (0 : Int) ≤ 7 := by omega
  have t1 : (7 : Int) < 4294967296 := by omega
  have b0 : 0 ≤ bud := by omega
  have b1 : bud ≤ 16 := by omega
  have x0 : 1 ≤ base := by omega
  have x1 : base ≤ 64 := by omega
  have y0 : 0 ≤ wt := by omega
  have y1 : wt < 18446744073709551616 := by omega
  have HOKC : Hid (okC (nn : Int) (ss : Int) ((0 : Nat) : Int) = true) := Lib.hid (by simp [okC]; omega)
  have HOK0 : Hid (okC (nn : Int) (ss : Int) 0 = true) := Lib.hid HOKC.out
  have HSTE : Hid (stE (nn : Int) (ss : Int) 0 bud base rg 0 = 0) := Lib.hid (by
    unfold stE
    refine if_pos ⟨okE_iff.2 ⟨HOK0.out, by omega, by omega, by omega, by omega⟩, pOk_iff.2 ⟨by omega, by omega, ?_, ?_, by decide, by decide⟩⟩
    · rw [← hrg]; unfold pR; omega
    · rw [← hrg]; unfold pR; omega)
  have HTW : Hid (Two nn N T (frL T nn nn ss N) [] (upL 1 nn) [] 7 7) := Lib.hid (fresh_two hT t0 t1 (by omega) n1 n2)
  have HUP : Hid (([] : List Int).length + (upL 1 nn).length = nn) := Lib.hid (by rw [upL_len]; simp)
  have HNN := Lib.hid hnn
  have HSS := Lib.hid hss
  have HBU := Lib.hid hbud
  have HBA := Lib.hid hbase
  have HWT := Lib.hid hwt
  have HN := Lib.hid hN
  have HT := Lib.hid hT
  have HRG := Lib.hid hrg
  have H := Lib.hid (St.nil w)
  have HDS : Hid (DsOk []) := Lib.hid (fun d hd => by cases hd)
  clear hx0 hx1 hx2 p6 p4 p7 q4 q3 hnn hss hbud hbase hwt hN hT hrg
  obtain ⟨t50, t51⟩ := rngI64 hx5
  obtain ⟨tm0, htm⟩ : ∃ tm, pickI ti 7 = tm := ⟨_, rfl⟩
  have htr := pickI_rng (c := ti) (n := 7) (by decide)
  rw [htm] at htr
  obtain ⟨tm, rfl⟩ : ∃ t : Nat, tm0 = (t : Int) := Int.eq_ofNat_of_zero_le htr.1
  have tm6 : tm ≤ 6 := by omega
  have HTM := Lib.hid htm
  have c60 : decide ((60 : Int) < (m : Int)) = true := decide_eq_true (by omega)
  have HF := Lib.hid hF
  clear hF htm htr hx5
  go_enter Tryz.func10, Tryz.ntmps10
  go_upto_region 5 with (first | ((have _h := H3); go_at_call 14; refine (src_new H3.out).mono ?_; rintro e w4 ⟨r, rfl, h⟩; (have H4 := Lib.hid (show St w [memA q _ _, srcA r 0 [], boxA _ _ _] _ from h.front 1 rfl)); clear h; clear d0 d1 d2 d3 d4 d5 d6 ld; (obtain ⟨⟨d0, d1, d2, d3, d4, d5, d6⟩, ld⟩ := cells7 (H4.out.cells 2 rfl)); clear _h) | ((have _h := H2); go_at_call 23; refine (begun13_is nn ss 7 T N H2.out HOKC.out HN.out HT.out t0 t1).mono ?_; rintro e w3 ⟨q, rfl, h⟩; (have H3 := Lib.hid (h)); clear h; clear d0 d1 d2 d3 d4 d5 d6 ld; (obtain ⟨⟨d0, d1, d2, d3, d4, d5, d6⟩, ld⟩ := cells7 (H3.out.cells 1 rfl)); clear _h) | ((have _h := H1); go_at_call 22; refine (cfg13_is a0 a1 a2 7 nn ss bud base wt _ HNN.out HSS.out HBU.out HBA.out HWT.out a00 a01 a10 a11 a20 a21).mono ?_; rintro e w2 ⟨rfl, hb⟩; (have H2 := Lib.hid ((H1.out.below hb).alloc #[.int .i64 (nn : Int), .int .i64 (ss : Int), .int .i64 0, .int .u32 7, .int .i64 bud, .int .i64 base, .int .u64 wt] 27)); clear hb; (obtain ⟨⟨d0, d1, d2, d3, d4, d5, d6⟩, ld⟩ := cells7 (H2.out.cells 0 rfl)); clear _h) | ((have _h := H); go_at_call 12; refine (shown13 _).mono ?_; rintro e w1 ⟨rfl, hb⟩; (have H1 := Lib.hid (H.out.below hb)); clear hb; clear _h))
  obtain ⟨bc, hbc⟩ : ∃ bc, w2.heap.size = bc := ⟨_, rfl⟩
  simp only [hbc] at *
  have Z := Lib.hid H4.out
  clear H1 H2 H3 H4 hbc
  have HCS : Hid (∀ (L' : List Asn) (i : Nat) (w' : World), St w L' w' → L'[i]? = some (boxA bc #[.int .i64 (nn : Int), .int .i64 (ss : Int), .int .i64 0, .int .u32 7, .int .i64 bud, .int .i64 base, .int .u64 wt] 27) → w'.cell? ⟨bc, 0, none⟩ = some (.int .i64 (nn : Int)) ∧ w'.cell? ⟨bc, 1, none⟩ = some (.int .i64 (ss : Int)) ∧ w'.cell? ⟨bc, 2, none⟩ = some (.int .i64 0) ∧ w'.cell? ⟨bc, 3, none⟩ = some (.int .u32 7) ∧ w'.cell? ⟨bc, 4, none⟩ = some (.int .i64 bud) ∧ w'.cell? ⟨bc, 5, none⟩ = some (.int .i64 base) ∧ w'.cell? ⟨bc, 6, none⟩ = some (.int .u64 wt)) := Lib.hid fun L' i w' hh e1 => (cells7 (hh.cells i e1)).1
  go_region_held3 (fun w' => w'.cell? ⟨bc, 0, none⟩ = some (.int .i64 (nn : Int)) ∧ w'.cell? ⟨bc, 1, none⟩ = some (.int .i64 (ss : Int)) ∧ w'.cell? ⟨bc, 2, none⟩ = some (.int .i64 0) ∧ w'.cell? ⟨bc, 3, none⟩ = some (.int .u32 7) ∧ w'.cell? ⟨bc, 4, none⟩ = some (.int .i64 bud) ∧ w'.cell? ⟨bc, 5, none⟩ = some (.int .i64 base) ∧ w'.cell? ⟨bc, 6, none⟩ = some (.int .u64 wt)) (first | exact HCS.out _ 2 _ Z10.out.tail rfl | first | exact HCS.out _ 2 _ (Z.out.drew.below HB1.out) rfl | exact HCS.out _ 2 _ Z.out.drew rfl | exact HCS.out _ 2 _ Z.out rfl) (first | ((have _h := HB1); go_at_call 16; refine (make_push nn ss 0 7 bud base wt rg 0 999 HSTE.out (Z.out.drew.below HB1.out)).mono ?_; rintro e u2 ⟨po, rfl, h⟩; (have Z10 := Lib.hid h); clear h _h) | (go_at_call 24; refine (fresh_is nn ss 0 7 bud base wt rg 0 _ HRG.out (by decide)).mono ?_; rintro e u1 ⟨rfl, hb⟩; (have HB1 := Lib.hid hb); clear hb))
  have Z1 := Lib.hid (show St w [memA q _ _, srcA r 0 [], opA po _, boxA bc _ _] _ from (show St w (opA po _ :: memA q _ _ :: srcA r 0 [] :: boxA bc _ _ :: []) _ from Z10.out).re 3 [1, 2, 0])
  clear Z10 HB1
  go_wp2
  go_ret
  exact ⟨rfl, Z1.out.bel⟩
set_option maxRecDepth 20000 in
set_option maxHeartbeats 16000000 in
theorem waits_few (a0 a1 a2 ti : Int) (A : Option Addr) (m cap : Nat) (F : Nat → Bool) (w : World) (hx0 : (Lit.int .i64 a0).wf = true) (hx1 : (Lit.int .i64 a1).wf = true) (hx2 : (Lit.int .i64 a2).wf = true) (hx5 : (Lit.int .i64 ti).wf = true) (hF : RdB w A m F) (h60 : m ≤ 60) :
    Calls Tryz.prog 10 #[.int .i64 a0, .int .i64 a1, .int .i64 a2, .int .i64 ti, .slice A m cap] w fun e w' => e = .returned (.bool true) ∧ Below w.heap.size w w' := by
  obtain ⟨a00, a01⟩ := rngI64 hx0
  obtain ⟨a10, a11⟩ := rngI64 hx1
  obtain ⟨a20, a21⟩ := rngI64 hx2
  have p6 := pickI_rng (c := a0) (n := 6) (by decide)
  have p4 := pickI_rng (c := a1) (n := 4) (by decide)
  have p7 := pickI_rng (c := a1) (n := 7) (by decide)
  have q4 := pickI_rng (c := a2) (n := 4) (by decide)
  have q3 := pickI_rng (c := a2) (n := 3) (by decide)
  obtain ⟨nn, hnn⟩ : ∃ nn : Nat, 1 + pickI a0 6 = (nn : Int) := Int.eq_ofNat_of_zero_le (by omega)
  obtain ⟨ss, hss⟩ : ∃ ss : Nat, pickI a1 4 = (ss : Int) := Int.eq_ofNat_of_zero_le (by omega)
  obtain ⟨bud, hbud⟩ : ∃ bud, pickI a2 4 = bud := ⟨_, rfl⟩
  obtain ⟨base, hbase⟩ : ∃ base, 1 + pickI a2 3 = base := ⟨_, rfl⟩
  obtain ⟨wt, hwt⟩ : ∃ wt, pickI a1 7 = wt := ⟨_, rfl⟩
  obtain ⟨N, hN⟩ : ∃ N, N = 2 + 2 * nn + ss + 0 := ⟨_, rfl⟩
  obtain ⟨T, hT⟩ : ∃ T : Int, 7 * 4294967296 = T := ⟨_, rfl⟩
  obtain ⟨rg, hrg⟩ : ∃ rg, pR 1 (ss : Int) = rg := ⟨_, rfl⟩
  have n1 : 1 ≤ nn := by omega
  have n2 : nn ≤ 64 := by omega
  have n6 : nn ≤ 6 := by omega
  have s4 : ss < 4 := by omega
  have hN2 : 2 + 2 * nn ≤ N := by omega
  have hNle : N ≤ 1024 := by omega
  have t0 : (0 : Int) ≤ 7 := by omega
  have t1 : (7 : Int) < 4294967296 := by omega
  have b0 : 0 ≤ bud := by omega
  have b1 : bud ≤ 16 := by omega
  have x0 : 1 ≤ base := by omega
  have x1 : base ≤ 64 := by omega
  have y0 : 0 ≤ wt := by omega
  have y1 : wt < 18446744073709551616 := by omega
  have HOKC : Hid (okC (nn : Int) (ss : Int) ((0 : Nat) : Int) = true) := Lib.hid (by simp [okC]; omega)
  have HOK0 : Hid (okC (nn : Int) (ss : Int) 0 = true) := Lib.hid HOKC.out
  have HSTE : Hid (stE (nn : Int) (ss : Int) 0 bud base rg 0 = 0) := Lib.hid (by
    unfold stE
    refine if_pos ⟨okE_iff.2 ⟨HOK0.out, by omega, by omega, by omega, by omega⟩, pOk_iff.2 ⟨by omega, by omega, ?_, ?_, by decide, by decide⟩⟩
    · rw [← hrg]; unfold pR; omega
    · rw [← hrg]; unfold pR; omega)
  have HTW : Hid (Two nn N T (frL T nn nn ss N) [] (upL 1 nn) [] 7 7) := Lib.hid (fresh_two hT t0 t1 (by omega) n1 n2)
  have HUP : Hid (([] : List Int).length + (upL 1 nn).length = nn) := Lib.hid (by rw [upL_len]; simp)
  have HNN := Lib.hid hnn
  have HSS := Lib.hid hss
  have HBU := Lib.hid hbud
  have HBA := Lib.hid hbase
  have HWT := Lib.hid hwt
  have HN := Lib.hid hN
  have HT := Lib.hid hT
  have HRG := Lib.hid hrg
  have H := Lib.hid (St.nil w)
  have HDS : Hid (DsOk []) := Lib.hid (fun d hd => by cases hd)
  clear hx0 hx1 hx2 p6 p4 p7 q4 q3 hnn hss hbud hbase hwt hN hT hrg
  obtain ⟨t50, t51⟩ := rngI64 hx5
  obtain ⟨tm0, htm⟩ : ∃ tm, pickI ti 7 = tm := ⟨_, rfl⟩
  have htr := pickI_rng (c := ti) (n := 7) (by decide)
  rw [htm] at htr
  obtain ⟨tm, rfl⟩ : ∃ t : Nat, tm0 = (t : Int) := Int.eq_ofNat_of_zero_le htr.1
  have tm6 : tm ≤ 6 := by omega
  have HTM := Lib.hid htm
  have c60 : decide ((60 : Int) < (m : Int)) = false := decide_eq_false (by omega)
  have HF := Lib.hid hF
  clear hF htm htr hx5
  go_enter Tryz.func10, Tryz.ntmps10
  go_upto_region 5 with (first | ((have _h := H3); go_at_call 14; refine (src_new H3.out).mono ?_; rintro e w4 ⟨r, rfl, h⟩; (have H4 := Lib.hid (show St w [memA q _ _, srcA r 0 [], boxA _ _ _] _ from h.front 1 rfl)); clear h; clear d0 d1 d2 d3 d4 d5 d6 ld; (obtain ⟨⟨d0, d1, d2, d3, d4, d5, d6⟩, ld⟩ := cells7 (H4.out.cells 2 rfl)); clear _h) | ((have _h := H2); go_at_call 23; refine (begun13_is nn ss 7 T N H2.out HOKC.out HN.out HT.out t0 t1).mono ?_; rintro e w3 ⟨q, rfl, h⟩; (have H3 := Lib.hid (h)); clear h; clear d0 d1 d2 d3 d4 d5 d6 ld; (obtain ⟨⟨d0, d1, d2, d3, d4, d5, d6⟩, ld⟩ := cells7 (H3.out.cells 1 rfl)); clear _h) | ((have _h := H1); go_at_call 22; refine (cfg13_is a0 a1 a2 7 nn ss bud base wt _ HNN.out HSS.out HBU.out HBA.out HWT.out a00 a01 a10 a11 a20 a21).mono ?_; rintro e w2 ⟨rfl, hb⟩; (have H2 := Lib.hid ((H1.out.below hb).alloc #[.int .i64 (nn : Int), .int .i64 (ss : Int), .int .i64 0, .int .u32 7, .int .i64 bud, .int .i64 base, .int .u64 wt] 27)); clear hb; (obtain ⟨⟨d0, d1, d2, d3, d4, d5, d6⟩, ld⟩ := cells7 (H2.out.cells 0 rfl)); clear _h) | ((have _h := H); go_at_call 12; refine (shown13 _).mono ?_; rintro e w1 ⟨rfl, hb⟩; (have H1 := Lib.hid (H.out.below hb)); clear hb; clear _h))
  obtain ⟨bc, hbc⟩ : ∃ bc, w2.heap.size = bc := ⟨_, rfl⟩
  simp only [hbc] at *
  have Z := Lib.hid H4.out
  clear H1 H2 H3 H4 hbc
  have HCS : Hid (∀ (L' : List Asn) (i : Nat) (w' : World), St w L' w' → L'[i]? = some (boxA bc #[.int .i64 (nn : Int), .int .i64 (ss : Int), .int .i64 0, .int .u32 7, .int .i64 bud, .int .i64 base, .int .u64 wt] 27) → w'.cell? ⟨bc, 0, none⟩ = some (.int .i64 (nn : Int)) ∧ w'.cell? ⟨bc, 1, none⟩ = some (.int .i64 (ss : Int)) ∧ w'.cell? ⟨bc, 2, none⟩ = some (.int .i64 0) ∧ w'.cell? ⟨bc, 3, none⟩ = some (.int .u32 7) ∧ w'.cell? ⟨bc, 4, none⟩ = some (.int .i64 bud) ∧ w'.cell? ⟨bc, 5, none⟩ = some (.int .i64 base) ∧ w'.cell? ⟨bc, 6, none⟩ = some (.int .u64 wt)) := Lib.hid fun L' i w' hh e1 => (cells7 (hh.cells i e1)).1
  go_region_held3 (fun w' => w'.cell? ⟨bc, 0, none⟩ = some (.int .i64 (nn : Int)) ∧ w'.cell? ⟨bc, 1, none⟩ = some (.int .i64 (ss : Int)) ∧ w'.cell? ⟨bc, 2, none⟩ = some (.int .i64 0) ∧ w'.cell? ⟨bc, 3, none⟩ = some (.int .u32 7) ∧ w'.cell? ⟨bc, 4, none⟩ = some (.int .i64 bud) ∧ w'.cell? ⟨bc, 5, none⟩ = some (.int .i64 base) ∧ w'.cell? ⟨bc, 6, none⟩ = some (.int .u64 wt)) (first | exact HCS.out _ 2 _ Z10.out.tail rfl | first | exact HCS.out _ 2 _ (Z.out.drew.below HB1.out) rfl | exact HCS.out _ 2 _ Z.out.drew rfl | exact HCS.out _ 2 _ Z.out rfl) (first | ((have _h := HB1); go_at_call 16; refine (make_push nn ss 0 7 bud base wt rg 0 999 HSTE.out (Z.out.drew.below HB1.out)).mono ?_; rintro e u2 ⟨po, rfl, h⟩; (have Z10 := Lib.hid h); clear h _h) | (go_at_call 24; refine (fresh_is nn ss 0 7 bud base wt rg 0 _ HRG.out (by decide)).mono ?_; rintro e u1 ⟨rfl, hb⟩; (have HB1 := Lib.hid hb); clear hb))
  have Z1 := Lib.hid (show St w [memA q _ _, srcA r 0 [], opA po _, boxA bc _ _] _ from (show St w (opA po _ :: memA q _ _ :: srcA r 0 [] :: boxA bc _ _ :: []) _ from Z10.out).re 3 [1, 2, 0])
  clear Z10 HB1
  have hfr : ∃ i f, upL 1 nn = i :: f := by
    cases nn with
    | zero => omega
    | succ k => exact ⟨_, _, rfl⟩
  obtain ⟨i0, f0, hif⟩ := hfr
  have htw0 := HTW.out
  rw [hif] at htw0
  obtain ⟨Se, we, fe, T1e, hrun, htwe, hfe, hse, hpe, hie⟩ := push_pre (c := newPushM nn ss 0 7 bud base wt [] rg 0 999 0) HOK0.out rfl hN2 rfl rfl (by show (0 : Int) ≤ 999; decide) (by show (999 : Int) < 18446744073709551616; decide) htw0 tm tm6
  have hup := HUP.out
  rw [hif] at hup
  obtain ⟨hl, hhl⟩ : ∃ hl : Nat, (Se.held we).length = hl := ⟨_, rfl⟩
  obtain ⟨many, hmany⟩ : ∃ k : Nat, fe.length = k := ⟨_, rfl⟩
  have hroom : many + hl = nn := by
    have := held_len (ws := we) hpe
    simp only [List.length_cons, List.length_nil] at hup
    rw [hhl] at this
    rw [← hmany, this]
    omega
  have HRUN : Hid (RunN tm (opN true nn ss 0 7 bud base wt rg 0 999) (frL T nn nn ss N) Se we) := Lib.hid hrun
  have HTWE := Lib.hid htwe
  have HHL := Lib.hid hhl
  have HPE := Lib.hid hpe
  have HMANY := Lib.hid hmany
  have HOKO := Lib.hid (opN_ok true N 0 b0 b1 x0 x1 y0 y1 (by decide) (by decide) : (opN true nn ss 0 7 bud base wt rg 0 999).ok N 0)
  have eroom : IntKind.i64.wrap ((nn : Int) - (hl : Int)) = (many : Int) := by rw [IntKind.wrap_i64]; omega
  have m64 : many ≤ 64 := by omega
  clear hfe hse hie hup hif htw0 hrun htwe hhl hpe hmany hroom f0 i0
  go_wp2_with (fail)
  go_loopg [16, 17] (tm + 1) (fun kq y z w' => ∃ (j : Nat) (Sj : OM) (wj : List Int) (nt : List Note), y = .bool false ∧ z = .int .i64 (j : Int) ∧ j + kq = tm + 1 ∧ j ≤ tm ∧ nt.length ≤ j ∧ wj.length = N ∧ Sj.ok N nt.length ∧ RunN (tm - j) Sj wj Se we ∧ St w [memA q wj nt, srcA r 0 [], opA po Sj, boxA bc #[.int .i64 (nn : Int), .int .i64 (ss : Int), .int .i64 0, .int .u32 7, .int .i64 bud, .int .i64 base, .int .u64 wt] 27] w')
  case atStart => exact ⟨0, _, _, [], rfl, rfl, by omega, by omega, Nat.le_refl _, frL_len _ _ _ _ _, HOKO.out, HRUN.out, Z1.out⟩
  case round =>
    obtain ⟨j, Sj, wj, nt, rfl, rfl, hj, hjt, hnt, hlen, hok, hrun, hS⟩ := hrel
    have HS := Lib.hid hS
    have hrg := fun i (hi : i < wj.length) => hS.rng hi
    have hC7 : nt.length ≤ 1000000000000 := by omega
    have HOj : Hid (Sj.ok wj.length nt.length) := Lib.hid (by rw [hlen]; exact hok)
    obtain ⟨⟨d0, d1, d2, d3, d4, d5, d6⟩, ld⟩ := cells7 (hS.cells 3 rfl)
    clear hS
    cases gk with
    | zero => omega
    | succ kk =>
      rcases hrun.inv with ⟨hz, rfl, rfl⟩ | ⟨k, S1, ws1, n1', hz, hst, hn1, hrest⟩
      · obtain rfl : j = tm := by omega
        have cJ : decide ((j : Int) < (j : Int)) = false := decide_eq_false (by omega)
        have HRG8 : Hid (∀ x ∈ we, 0 ≤ x ∧ x < 18446744073709551616) := Lib.hid HTWE.out.rng
        have HLEN := Lib.hid hlen
        have hnt6 : nt.length ≤ 6 := by omega
        clear hrun hok hlen hrg hC7 hz hj hjt hnt
        go_upto_region 16 with (first | ((have _h := HS); go_at_call 25; refine (pick13_is ti 7 (j : Int) _ HTM.out (by decide) (by decide) t50 t51).mono ?_; rintro e w1 ⟨rfl, rfl⟩; clear _h))
        go_region_held3 (fun w' => w'.cell? ⟨bc, 0, none⟩ = some (.int .i64 (nn : Int))) (first | exact (cells7 (K2.out.cells 3 rfl)).1.1 | exact (cells7 (K1.out.cells 3 rfl)).1.1 | exact (cells7 (HS.out.drew.cells 3 rfl)).1.1 | exact (cells7 (HS.out.cells 3 rfl)).1.1) (first | ((have _h := K1); go_at_call 20; refine (op_held al N cw (K1.out.front 2 rfl) HOj.out HRD.out HLEN.out hcw (fun E e => absurd e (HPE.out E)) HRG8.out).mono ?_; rintro e k2 ⟨ah, ch, rfl, hrh, hch, hb⟩; (rw [HHL.out]); (have K2 := Lib.hid (K1.out.below hb)); clear hrh hch hb _h) | ((have _h := HS); go_at_call 21; refine (words_st HS.out.drew N HLEN.out).mono ?_; rintro e k1 ⟨al, cw, rfl, hrd, hcw, hb⟩; (have HRD := Lib.hid hrd); (have K1 := Lib.hid (HS.out.drew.below hb)); clear hrd hb _h))
        have HREL := Lib.hid ((show St w [memA q we nt, srcA r 0 [], opA po Se, boxA bc #[.int .i64 (nn : Int), .int .i64 (ss : Int), .int .i64 0, .int .u32 7, .int .i64 bud, .int .i64 base, .int .u64 wt] 27] _ from K2.out).re 4 [0, 1, 3])
        clear K1 K2 HS HOj HRUN HOKO d0 d1 d2 d3 d4 d5 d6 ld
        go_wp2
        go_loopg [21, 22] (m + 1) (fun kq y z w' => ∃ (i : Nat) (l f V : List Int) (T0 T1 : Int) (ws : List Int) (ns : List Note) (A1 : Option Addr) (ln c1 : Nat), y = .slice A1 ln c1 ∧ z = .int .i64 (i : Int) ∧ i + kq = m + 1 ∧ i ≤ m ∧ Two nn N T ws l f V T0 T1 ∧ l.length + f.length = many ∧ V.length = ln ∧ ns.length ≤ 6 + 7 * i ∧ St w [memA q ws ns, srcA r 0 [], row64 (.slice A1 ln c1) ln V.reverse, boxA bc #[.int .i64 (nn : Int), .int .i64 (ss : Int), .int .i64 0, .int .u32 7, .int .i64 bud, .int .i64 base, .int .u64 wt] 27] w')
        case atStart => exact ⟨0, [], fe, [], 7, T1e, we, nt, none, 0, 0, rfl, rfl, by omega, by omega, HTWE.out, by simpa using HMANY.out, rfl, by omega, (show St w (row64 (.slice none 0 0) 0 [] :: memA q we nt :: srcA r 0 [] :: boxA bc #[.int .i64 (nn : Int), .int .i64 (ss : Int), .int .i64 0, .int .u32 7, .int .i64 bud, .int .i64 base, .int .u64 wt] 27 :: []) _ from HREL.out.rowNil _ _).re 3 [1, 2, 0]⟩
        case round =>
          obtain ⟨i, l, f, V, T0, T1, ws, ns, A1, ln, c1, rfl, rfl, hkq, hile, htw, hlf, hvl, hns, hS⟩ := hrel
          have Z := Lib.hid hS
          have HT2 := Lib.hid htw
          have HLF := Lib.hid hlf
          have HVL := Lib.hid hvl
          have hlv := htw.vlen
          have ln64 : ln ≤ 64 := by omega
          have ln5 : ln ≤ 100000 := by omega
          have hn6 : ns.length ≤ 1000000 := by omega
          have HFR : Hid ((f != []) = true ↔ (ln : Int) < (many : Int)) := Lib.hid (by
            cases f with
            | nil => simp at hlf ⊢; omega
            | cons i f => simp at hlf ⊢; omega)
          have HVR : Hid (V.reverse.length = ln) := Lib.hid (by simpa using hvl)
          obtain ⟨⟨d0, d1, d2, d3, d4, d5, d6⟩, ld⟩ := cells7 (hS.cells 3 rfl)
          clear hS htw hlf hvl hlv HREL
          cases gk with
          | zero => omega
          | succ kk =>
            by_cases him : i < m
            · have cI : decide ((i : Int) < (m : Int)) = true := decide_eq_true (by omega)
              have i0 : (0 : Int) ≤ (i : Int) := by omega
              have i1 : (i : Int) < (m : Int) := by omega
              have i2 : (i : Int) < 18446744073709551616 := by omega
              have ew : IntKind.u64.wrap (i : Int) = (i : Int) := by rw [IntKind.wrap_u64]; omega
              have e17 : IntKind.i64.wrap ((i : Int) + 1) = ((i + 1 : Nat) : Int) := by rw [IntKind.wrap_i64]; omega
              obtain ⟨ad, hA, hcI⟩ := HF.out.2 i him
              have HCI := Lib.hid hcI
              clear hcI
              subst hA
              cases hFi : F i with
              | false =>
                rw [hFi] at HCI
                obtain ⟨a, x, V', hlif⟩ : ∃ a x V', lifoA false 0 V (f != []) = (a, x, V') := ⟨_, _, _, rfl⟩
                have HLIF := Lib.hid hlif
                clear hlif hFi
                go_wp2_with (first | ((have _h := Y3); go_at_call 29; refine (alone_any false ss 7 bud base wt rg 0 0 a x many HLIF.out HT2.out HLF.out Y3.out HOK0.out hN2 (by decide) (by decide) b0 b1 x0 x1 y0 y1 HDS.out (by decide) (by decide) hn6).mono ?_; rintro e yw4 ⟨rfl, l', f', T0', T1', ws', ns', S', g1, g2, g3, g4, g5, g6, g7, g8, g9, ga, gx, g10, h⟩; (have HG := Lib.hid (And.intro g1 (And.intro g2 g10))); (have HZ := Lib.hid (show St w [memA q ws' ns', srcA r 0 [], row64 (.slice A3 n3 c3) n3 V'.reverse, boxA bc #[.int .i64 (nn : Int), .int .i64 (ss : Int), .int .i64 0, .int .u32 7, .int .i64 bud, .int .i64 base, .int .u64 wt] 27] _ from (show St w (memA q ws' ns' :: srcA r 0 [] :: opA pp S' :: row64 (.slice A3 n3 c3) n3 V'.reverse :: row64 (.slice A1 ln c1) ln V.reverse :: boxA bc #[.int .i64 (nn : Int), .int .i64 (ss : Int), .int .i64 0, .int .u32 7, .int .i64 bud, .int .i64 base, .int .u64 wt] 27 :: boxA _ #[.slice none 0 0, .int .i64 rg, .int .i64 0] 43 :: []) _ from h).re 7 [0, 1, 3, 5])); clear h g1 g2 g3 g4 g5 g6 g7 g8 g9 ga gx g10; clear d0 d1 d2 d3 d4 d5 d6 ld; clear f0 f1 f2 lf; clear _h) | ((have _h := Y2); go_at_call 48; refine (pop_any A1 ln c1 0 a x V V' (f != []) HLIF.out Y2.out (row64_rd (Y2.out.rowOf 3 rfl) HVR.out).1 (row64_rd (Y2.out.rowOf 3 rfl) HVR.out).2 HVL.out ln5).mono ?_; rintro e yw3 ⟨A3, n3, c3, rfl, hp3, h⟩; (have Y3 := Lib.hid (show St w [memA q ws ns, srcA r 0 [], opA pp (opN false nn ss 0 7 bud base wt rg 0 0), row64 (.slice A3 n3 c3) n3 V'.reverse, row64 (.slice A1 ln c1) ln V.reverse, boxA bc #[.int .i64 (nn : Int), .int .i64 (ss : Int), .int .i64 0, .int .u32 7, .int .i64 bud, .int .i64 base, .int .u64 wt] 27, boxA _ #[.slice none 0 0, .int .i64 rg, .int .i64 0] 43] _ from (show St w (row64 (.slice A3 n3 c3) n3 V'.reverse :: memA q ws ns :: srcA r 0 [] :: opA pp (opN false nn ss 0 7 bud base wt rg 0 0) :: row64 (.slice A1 ln c1) ln V.reverse :: boxA bc #[.int .i64 (nn : Int), .int .i64 (ss : Int), .int .i64 0, .int .u32 7, .int .i64 bud, .int .i64 base, .int .u64 wt] 27 :: boxA _ #[.slice none 0 0, .int .i64 rg, .int .i64 0] 43 :: []) _ from h).re 7 [1, 2, 3, 0, 4, 5, 6])); (have HP3 := Lib.hid hp3); clear h hp3; clear d0 d1 d2 d3 d4 d5 d6 ld; clear f0 f1 f2 lf; (obtain ⟨⟨d0, d1, d2, d3, d4, d5, d6⟩, ld⟩ := cells7 (Y3.out.cells 5 rfl)); (obtain ⟨⟨f0, f1, f2⟩, lf⟩ := cells3 (Y3.out.cells 6 rfl)); (have hcI := (Y3.out.bel.cell (World.block_lt_of_cell? _ _ HCI.out)).trans HCI.out); clear _h) | ((have _h := Y1); go_at_call 17; refine (make_pop nn ss 0 7 bud base wt rg 0 0 HSTE.out Y1.out).mono ?_; rintro e yw2 ⟨pp, rfl, h⟩; (have Y2 := Lib.hid (show St w [memA q ws ns, srcA r 0 [], opA pp (opN false nn ss 0 7 bud base wt rg 0 0), row64 (.slice A1 ln c1) ln V.reverse, boxA bc #[.int .i64 (nn : Int), .int .i64 (ss : Int), .int .i64 0, .int .u32 7, .int .i64 bud, .int .i64 base, .int .u64 wt] 27, boxA _ #[.slice none 0 0, .int .i64 rg, .int .i64 0] 43] _ from (show St w (opA pp (opN false nn ss 0 7 bud base wt rg 0 0) :: memA q ws ns :: srcA r 0 [] :: row64 (.slice A1 ln c1) ln V.reverse :: boxA bc #[.int .i64 (nn : Int), .int .i64 (ss : Int), .int .i64 0, .int .u32 7, .int .i64 bud, .int .i64 base, .int .u64 wt] 27 :: boxA _ #[.slice none 0 0, .int .i64 rg, .int .i64 0] 43 :: []) _ from h).re 6 [1, 2, 0, 3, 4, 5])); clear h; clear d0 d1 d2 d3 d4 d5 d6 ld; clear f0 f1 f2 lf; (obtain ⟨⟨d0, d1, d2, d3, d4, d5, d6⟩, ld⟩ := cells7 (Y2.out.cells 4 rfl)); (obtain ⟨⟨f0, f1, f2⟩, lf⟩ := cells3 (Y2.out.cells 5 rfl)); clear _h) | ((have _h := Z); go_at_call 24; refine (fresh_is nn ss 0 7 bud base wt rg 0 _ HRG.out (by decide)).mono ?_; rintro e yw1 ⟨rfl, hb⟩; (have Y1 := Lib.hid (show St w [memA q ws ns, srcA r 0 [], row64 (.slice A1 ln c1) ln V.reverse, boxA bc #[.int .i64 (nn : Int), .int .i64 (ss : Int), .int .i64 0, .int .u32 7, .int .i64 bud, .int .i64 base, .int .u64 wt] 27, boxA _ #[.slice none 0 0, .int .i64 rg, .int .i64 0] 43] _ from (show St w (boxA _ #[.slice none 0 0, .int .i64 rg, .int .i64 0] 43 :: memA q ws ns :: srcA r 0 [] :: row64 (.slice A1 ln c1) ln V.reverse :: boxA bc #[.int .i64 (nn : Int), .int .i64 (ss : Int), .int .i64 0, .int .u32 7, .int .i64 bud, .int .i64 base, .int .u64 wt] 27 :: []) _ from (Z.out.below hb).alloc #[.slice none 0 0, .int .i64 rg, .int .i64 0] 43).re 5 [1, 2, 3, 4, 0])); clear hb; clear d0 d1 d2 d3 d4 d5 d6 ld; (obtain ⟨⟨d0, d1, d2, d3, d4, d5, d6⟩, ld⟩ := cells7 (Y1.out.cells 3 rfl)); (obtain ⟨⟨f0, f1, f2⟩, lf⟩ := cells3 (Y1.out.cells 4 rfl)); clear _h))
                go_roundg kk
                case measure => omega
                case rel => exact ⟨i + 1, l', f', V', T0', T1', ws', ns', A3, n3, c3, by rfl, by rfl, by omega, by omega, HG.out.1, HG.out.2.1, HP3.out, by have := HG.out.2.2; omega, HZ.out⟩
              | true =>
                rw [hFi] at HCI
                obtain ⟨a, x, V', hlif⟩ : ∃ a x V', lifoA true (i : Int) V (f != []) = (a, x, V') := ⟨_, _, _, rfl⟩
                obtain rfl := lifoA_push0 hlif
                obtain ⟨a4, x4, V4, hlif4⟩ : ∃ a x V', lifoA false 0 V (f != []) = (a, x, V') := ⟨_, _, _, rfl⟩
                have HLIF := Lib.hid hlif
                have HLIF4 := Lib.hid hlif4
                clear hlif hlif4 hFi
                go_wp2_with (first | ((have _h := Y5); go_at_call 29; refine (alone_any true ss 7 bud base wt rg 0 (i : Int) a 0 many HLIF.out HT2.out HLF.out Y5.out HOK0.out hN2 i0 i2 b0 b1 x0 x1 y0 y1 HDS.out (by decide) (by decide) hn6).mono ?_; rintro e yw6 ⟨rfl, l', f', T0', T1', ws', ns', S', g1, g2, g3, g4, g5, g6, g7, g8, g9, ga, gx, g10, h⟩; (have HG := Lib.hid (And.intro g1 (And.intro g2 g10))); (have HZ := Lib.hid (show St w [memA q ws' ns', srcA r 0 [], row64 (.slice A5 n5 c5) n5 V'.reverse, boxA bc #[.int .i64 (nn : Int), .int .i64 (ss : Int), .int .i64 0, .int .u32 7, .int .i64 bud, .int .i64 base, .int .u64 wt] 27] _ from (show St w (memA q ws' ns' :: srcA r 0 [] :: opA pu S' :: row64 (.slice A5 n5 c5) n5 V'.reverse :: row64 (.slice A1 ln c1) ln V.reverse :: boxA bc #[.int .i64 (nn : Int), .int .i64 (ss : Int), .int .i64 0, .int .u32 7, .int .i64 bud, .int .i64 base, .int .u64 wt] 27 :: boxA _ #[.slice none 0 0, .int .i64 rg, .int .i64 0] 43 :: []) _ from h).re 7 [0, 1, 3, 5])); clear h g1 g2 g3 g4 g5 g6 g7 g8 g9 ga gx g10; clear d0 d1 d2 d3 d4 d5 d6 ld; clear f0 f1 f2 lf; clear _h) | ((have _h := Y4); go_at_call 49; refine (push_any A1 ln c1 (many : Int) (i : Int) a 0 V V' (f != []) HLIF.out HFR.out Y4.out (row64_rd (Y4.out.rowOf 3 rfl) HVR.out).1 (row64_rd (Y4.out.rowOf 3 rfl) HVR.out).2 HVL.out ln5).mono ?_; rintro e yw5 ⟨A5, n5, c5, rfl, hp5, h⟩; (have Y5 := Lib.hid (show St w [memA q ws ns, srcA r 0 [], opA pu (opN true nn ss 0 7 bud base wt rg 0 (i : Int)), row64 (.slice A5 n5 c5) n5 V'.reverse, row64 (.slice A1 ln c1) ln V.reverse, boxA bc #[.int .i64 (nn : Int), .int .i64 (ss : Int), .int .i64 0, .int .u32 7, .int .i64 bud, .int .i64 base, .int .u64 wt] 27, boxA _ #[.slice none 0 0, .int .i64 rg, .int .i64 0] 43] _ from (show St w (row64 (.slice A5 n5 c5) n5 V'.reverse :: memA q ws ns :: srcA r 0 [] :: opA pu (opN true nn ss 0 7 bud base wt rg 0 (i : Int)) :: row64 (.slice A1 ln c1) ln V.reverse :: boxA bc #[.int .i64 (nn : Int), .int .i64 (ss : Int), .int .i64 0, .int .u32 7, .int .i64 bud, .int .i64 base, .int .u64 wt] 27 :: boxA _ #[.slice none 0 0, .int .i64 rg, .int .i64 0] 43 :: []) _ from h).re 7 [1, 2, 3, 0, 4, 5, 6])); (have HP5 := Lib.hid hp5); clear h hp5; clear d0 d1 d2 d3 d4 d5 d6 ld; clear f0 f1 f2 lf; (obtain ⟨⟨d0, d1, d2, d3, d4, d5, d6⟩, ld⟩ := cells7 (Y5.out.cells 5 rfl)); (obtain ⟨⟨f0, f1, f2⟩, lf⟩ := cells3 (Y5.out.cells 6 rfl)); clear _h) | ((have _h := Y3); go_at_call 16; refine (make_push nn ss 0 7 bud base wt rg 0 (i : Int) HSTE.out Y3.out).mono ?_; rintro e yw4 ⟨pu, rfl, h⟩; (have Y4 := Lib.hid (show St w [memA q ws ns, srcA r 0 [], opA pu (opN true nn ss 0 7 bud base wt rg 0 (i : Int)), row64 (.slice A1 ln c1) ln V.reverse, boxA bc #[.int .i64 (nn : Int), .int .i64 (ss : Int), .int .i64 0, .int .u32 7, .int .i64 bud, .int .i64 base, .int .u64 wt] 27, boxA _ #[.slice none 0 0, .int .i64 rg, .int .i64 0] 43] _ from (show St w (opA pu (opN true nn ss 0 7 bud base wt rg 0 (i : Int)) :: memA q ws ns :: srcA r 0 [] :: opA pp (opN false nn ss 0 7 bud base wt rg 0 0) :: row64 (.slice A3 n3 c3) n3 V4.reverse :: row64 (.slice A1 ln c1) ln V.reverse :: boxA bc #[.int .i64 (nn : Int), .int .i64 (ss : Int), .int .i64 0, .int .u32 7, .int .i64 bud, .int .i64 base, .int .u64 wt] 27 :: boxA _ #[.slice none 0 0, .int .i64 rg, .int .i64 0] 43 :: []) _ from h).re 8 [1, 2, 0, 5, 6, 7])); clear h hcI; clear d0 d1 d2 d3 d4 d5 d6 ld; clear f0 f1 f2 lf; (obtain ⟨⟨d0, d1, d2, d3, d4, d5, d6⟩, ld⟩ := cells7 (Y4.out.cells 4 rfl)); (obtain ⟨⟨f0, f1, f2⟩, lf⟩ := cells3 (Y4.out.cells 5 rfl)); clear _h) | ((have _h := Y2); go_at_call 48; refine (pop_any A1 ln c1 0 a4 x4 V V4 (f != []) HLIF4.out Y2.out (row64_rd (Y2.out.rowOf 3 rfl) HVR.out).1 (row64_rd (Y2.out.rowOf 3 rfl) HVR.out).2 HVL.out ln5).mono ?_; rintro e yw3 ⟨A3, n3, c3, rfl, hp3, h⟩; (have Y3 := Lib.hid (show St w [memA q ws ns, srcA r 0 [], opA pp (opN false nn ss 0 7 bud base wt rg 0 0), row64 (.slice A3 n3 c3) n3 V4.reverse, row64 (.slice A1 ln c1) ln V.reverse, boxA bc #[.int .i64 (nn : Int), .int .i64 (ss : Int), .int .i64 0, .int .u32 7, .int .i64 bud, .int .i64 base, .int .u64 wt] 27, boxA _ #[.slice none 0 0, .int .i64 rg, .int .i64 0] 43] _ from (show St w (row64 (.slice A3 n3 c3) n3 V4.reverse :: memA q ws ns :: srcA r 0 [] :: opA pp (opN false nn ss 0 7 bud base wt rg 0 0) :: row64 (.slice A1 ln c1) ln V.reverse :: boxA bc #[.int .i64 (nn : Int), .int .i64 (ss : Int), .int .i64 0, .int .u32 7, .int .i64 bud, .int .i64 base, .int .u64 wt] 27 :: boxA _ #[.slice none 0 0, .int .i64 rg, .int .i64 0] 43 :: []) _ from h).re 7 [1, 2, 3, 0, 4, 5, 6])); (have HP3 := Lib.hid hp3); clear h hp3; clear d0 d1 d2 d3 d4 d5 d6 ld; clear f0 f1 f2 lf; (obtain ⟨⟨d0, d1, d2, d3, d4, d5, d6⟩, ld⟩ := cells7 (Y3.out.cells 5 rfl)); (obtain ⟨⟨f0, f1, f2⟩, lf⟩ := cells3 (Y3.out.cells 6 rfl)); (have hcI := (Y3.out.bel.cell (World.block_lt_of_cell? _ _ HCI.out)).trans HCI.out); clear _h) | ((have _h := Y1); go_at_call 17; refine (make_pop nn ss 0 7 bud base wt rg 0 0 HSTE.out Y1.out).mono ?_; rintro e yw2 ⟨pp, rfl, h⟩; (have Y2 := Lib.hid (show St w [memA q ws ns, srcA r 0 [], opA pp (opN false nn ss 0 7 bud base wt rg 0 0), row64 (.slice A1 ln c1) ln V.reverse, boxA bc #[.int .i64 (nn : Int), .int .i64 (ss : Int), .int .i64 0, .int .u32 7, .int .i64 bud, .int .i64 base, .int .u64 wt] 27, boxA _ #[.slice none 0 0, .int .i64 rg, .int .i64 0] 43] _ from (show St w (opA pp (opN false nn ss 0 7 bud base wt rg 0 0) :: memA q ws ns :: srcA r 0 [] :: row64 (.slice A1 ln c1) ln V.reverse :: boxA bc #[.int .i64 (nn : Int), .int .i64 (ss : Int), .int .i64 0, .int .u32 7, .int .i64 bud, .int .i64 base, .int .u64 wt] 27 :: boxA _ #[.slice none 0 0, .int .i64 rg, .int .i64 0] 43 :: []) _ from h).re 6 [1, 2, 0, 3, 4, 5])); clear h; clear d0 d1 d2 d3 d4 d5 d6 ld; clear f0 f1 f2 lf; (obtain ⟨⟨d0, d1, d2, d3, d4, d5, d6⟩, ld⟩ := cells7 (Y2.out.cells 4 rfl)); (obtain ⟨⟨f0, f1, f2⟩, lf⟩ := cells3 (Y2.out.cells 5 rfl)); clear _h) | ((have _h := Z); go_at_call 24; refine (fresh_is nn ss 0 7 bud base wt rg 0 _ HRG.out (by decide)).mono ?_; rintro e yw1 ⟨rfl, hb⟩; (have Y1 := Lib.hid (show St w [memA q ws ns, srcA r 0 [], row64 (.slice A1 ln c1) ln V.reverse, boxA bc #[.int .i64 (nn : Int), .int .i64 (ss : Int), .int .i64 0, .int .u32 7, .int .i64 bud, .int .i64 base, .int .u64 wt] 27, boxA _ #[.slice none 0 0, .int .i64 rg, .int .i64 0] 43] _ from (show St w (boxA _ #[.slice none 0 0, .int .i64 rg, .int .i64 0] 43 :: memA q ws ns :: srcA r 0 [] :: row64 (.slice A1 ln c1) ln V.reverse :: boxA bc #[.int .i64 (nn : Int), .int .i64 (ss : Int), .int .i64 0, .int .u32 7, .int .i64 bud, .int .i64 base, .int .u64 wt] 27 :: []) _ from (Z.out.below hb).alloc #[.slice none 0 0, .int .i64 rg, .int .i64 0] 43).re 5 [1, 2, 3, 4, 0])); clear hb; clear d0 d1 d2 d3 d4 d5 d6 ld; (obtain ⟨⟨d0, d1, d2, d3, d4, d5, d6⟩, ld⟩ := cells7 (Y1.out.cells 3 rfl)); (obtain ⟨⟨f0, f1, f2⟩, lf⟩ := cells3 (Y1.out.cells 4 rfl)); clear _h))
                go_roundg kk
                case measure => omega
                case rel => exact ⟨i + 1, l', f', V', T0', T1', ws', ns', A5, n5, c5, by rfl, by rfl, by omega, by omega, HG.out.1, HG.out.2.1, HP5.out, by have := HG.out.2.2; omega, HZ.out⟩
            · have cI : decide ((i : Int) < (m : Int)) = false := decide_eq_false (by omega)
              go_wp2
              go_ret
              exact ⟨rfl, Z.out.bel⟩
      · obtain ⟨hok1, hlen1⟩ := OM.step_ok [] HOj.out (Int.le_refl 0) (by decide) hrg
        rw [hst 0 []] at hok1 hlen1
        have HE := Lib.hid (hst 0 [])
        obtain ⟨M2, hM2⟩ : ∃ M2, nt ++ n1' = M2 := ⟨_, rfl⟩
        have HN3 := Lib.hid hM2
        have HT0 : Hid (S1.told 0 = 0) := Lib.hid (by unfold OM.told; rw [if_pos (.inr (by decide))])
        have HF2 := Lib.hid (show j + 1 + kk = tm + 1 ∧ j + 1 ≤ tm ∧ M2.length ≤ j + 1 ∧ ws1.length = N ∧ S1.ok N M2.length ∧ RunN (tm - (j + 1)) S1 ws1 Se we from ⟨by omega, by omega, by rw [← hM2, List.length_append]; omega, hlen1.trans hlen, by rw [← hM2, List.length_append, ← hlen]; exact hok1, by rw [show tm - (j + 1) = k by omega]; exact hrest⟩)
        have hjt2 : j < tm := by omega
        have cJ : decide ((j : Int) < (tm : Int)) = true := decide_eq_true (by omega)
        have ej : IntKind.i64.wrap ((j : Int) + 1) = ((j + 1 : Nat) : Int) := by rw [IntKind.wrap_i64]; omega
        clear hok1 hlen1 hst hn1 hok hrun hrg hnt hlen hrest hz hj hjt hM2 d0 d1 d2 d3 d4 d5 d6 ld
        go_wp2_with (first | (go_at_call 18; refine (op_step HE.out HN3.out HT0.out HS.out HOj.out HDS.out (Int.le_refl 0) (by decide) hC7).mono ?_; rintro e w3 ⟨rfl, h⟩; (have H3 := Lib.hid h); clear h) | ((have _h := HS); go_at_call 25; refine (pick13_is ti 7 (tm : Int) _ HTM.out (by decide) (by decide) t50 t51).mono ?_; rintro e w1 ⟨rfl, rfl⟩; clear _h))
        go_roundg kk
        case measure => omega
        case rel =>
          obtain ⟨f1, f2, f3, f4, f5, f6⟩ := HF2.out
          exact ⟨j + 1, S1, ws1, M2, by rfl, by rfl, f1, f2, f3, f4, f5, f6, H3.out⟩
theorem ebstackWaits_walk (a0 a1 a2 ti : Int) (A : Option Addr) (m cap : Nat) (F : Nat → Bool) (w : World) (hx0 : (Lit.int .i64 a0).wf = true) (hx1 : (Lit.int .i64 a1).wf = true) (hx2 : (Lit.int .i64 a2).wf = true) (hx5 : (Lit.int .i64 ti).wf = true) (hF : RdB w A m F) :
    Calls Tryz.prog 10 #[.int .i64 a0, .int .i64 a1, .int .i64 a2, .int .i64 ti, .slice A m cap] w fun e w' => e = .returned (.bool true) ∧ Below w.heap.size w w' := by
  by_cases h60 : 60 < m
  · exact waits_many a0 a1 a2 ti A m cap F w hx0 hx1 hx2 hx5 hF h60
  · exact waits_few a0 a1 a2 ti A m cap F w hx0 hx1 hx2 hx5 hF (by omega)
end Go.Proofs.YtgfeagggkplegaaGreat
