/-
  EbstackStale: a machine that ended tells the same for ever, without an access, a draw, or a change of what its thread keeps.
-/
import Derived.Test.YtgfeagggkplegaaGreatL13
import Derived.Test.YtgfeagggkplegaaGreatOpU
import Derived.Test.YtgfeagggkplegaaGreatOpen2
import Derived.Test.YtgfeagggkplegaaGreatWf
import Derived.Deep.DeepCutAuto
namespace Go.Proofs.YtgfeagggkplegaaGreat
open Go.RowKit
set_option linter.unusedVariables false
set_option linter.unusedSimpArgs false

set_option maxRecDepth 20000 in
set_option maxHeartbeats 16000000 in
theorem stale_many (a0 a1 a2 : Int) (A : Option Addr) (m cap : Nat) (F : Nat → Bool) (push : Bool) (ti : Int) (w : World) (hx0 : (Lit.int .i64 a0).wf = true) (hx1 : (Lit.int .i64 a1).wf = true) (hx2 : (Lit.int .i64 a2).wf = true) (hF : RdB w A m F) (hx5 : (Lit.int .i64 ti).wf = true) (h20 : 20 < m) :
    Calls Tryz.prog 5 #[.int .i64 a0, .int .i64 a1, .int .i64 a2, .slice A m cap, .bool push, .int .i64 ti] w fun e w' => e = .returned (.bool true) ∧ Below w.heap.size w w' := by
  obtain ⟨a00, a01⟩ := rngI64 hx0
  obtain ⟨a10, a11⟩ := rngI64 hx1
  obtain ⟨a20, a21⟩ := rngI64 hx2
  have p6 := pickI_rng (c := a0) (n := 6) (by decide)
  have p4 := pickI_rng (c := a1) (n := 4) (by decide)
  have p7 := pickI_rng (c := a1) (n := 7) (by decide)
  have q4 := pickI_rng (c := a2) (n := 4) (by decide)
  have q3 := pickI_rng (c := a2) (n := 3) (by decide)
  obtain ⟨nn, hnn⟩ : ∃ nn : Nat, 1 + pickI a0 6 = (nn : Int) := Int.eq_ofNat_of_zero_le (by omega)
  obtain ⟨ss, hss⟩ : ∃ ss : Nat, pickI a1 4 = (ss : Int) := Int.eq_ofNat_of_zero_le (by omega)
  obtain ⟨bud, hbud⟩ : ∃ bud, pickI a2 4 = bud := ⟨_, rfl⟩
  obtain ⟨base, hbase⟩ : ∃ base, 1 + pickI a2 3 = base := ⟨_, rfl⟩
  obtain ⟨wt, hwt⟩ : ∃ wt, pickI a1 7 = wt := ⟨_, rfl⟩
  obtain ⟨N, hN⟩ : ∃ N, N = 2 + 2 * nn + ss + 0 := ⟨_, rfl⟩
  obtain ⟨T, hT⟩ : ∃ T : Int, 7 * 4294967296 = T := ⟨_, rfl⟩
  obtain ⟨rg, hrg⟩ : ∃ rg, pR 1 (ss : Int) = rg := ⟨_, rfl⟩
  have n1 : 1 ≤ nn := by omega
  have n2 : nn ≤ 64 := by omega
  have n6 : nn ≤ 6 := by omega
  have s4 : ss < 4 := by omega
  have hN2 : 2 + 2 * nn ≤ N := by omega
  have hNle : N ≤ 1024 := by omega
  have t0 : (0 : Int) ≤ 7 := by omega
  have t1 : (7 : Int) < 4294967296 := by omega
  have b0 : 0 ≤ bud := by omega
  have b1 : bud ≤ 16 := by omega
  have x0 : 1 ≤ base := by omega
  have x1 : base ≤ 64 := by omega
  have y0 : 0 ≤ wt := by omega
  have y1 : wt < 18446744073709551616 := by omega
  have HOKC : Hid (okC (nn : Int) (ss : Int) ((0 : Nat) : Int) = true) := Lib.hid (by simp [okC]; omega)
  have HOK0 : Hid (okC (nn : Int) (ss : Int) 0 = true) := Lib.hid HOKC.out
  have HSTE : Hid (stE (nn : Int) (ss : Int) 0 bud base rg 0 = 0) := Lib.hid (by
    unfold stE
    refine if_pos ⟨okE_iff.2 ⟨HOK0.out, by omega, by omega, by omega, by omega⟩, pOk_iff.2 ⟨by omega, by omega, ?_, ?_, by decide, by decide⟩⟩
    · rw [← hrg]; unfold pR; omega
    · rw [← hrg]; unfold pR; omega)
  have HTW : Hid (Two nn N T (frL T nn nn ss N) [] (upL 1 nn) [] 7 7) := Lib.hid (fresh_two hT t0 t1 (by omega) n1 n2)
  have HUP : Hid (([] : List Int).length + (upL 1 nn).length = nn) := Lib.hid (by rw [upL_len]; simp)
  have HNN := Lib.hid hnn
  have HSS := Lib.hid hss
  have HBU := Lib.hid hbud
  have HBA := Lib.hid hbase
  have HWT := Lib.hid hwt
  have HN := Lib.hid hN
  have HT := Lib.hid hT
  have HRG := Lib.hid hrg
  have H := Lib.hid (St.nil w)
  have HDS : Hid (DsOk []) := Lib.hid (fun d hd => by cases hd)
  clear hx0 hx1 hx2 p6 p4 p7 q4 q3 hnn hss hbud hbase hwt hN hT hrg
  have c20 : decide ((20 : Int) < (m : Int)) = true := decide_eq_true (by omega)
  clear hF
  go_enter Tryz.func5, Tryz.ntmps5
  go_wp2_with (first | ((have _h := H3); go_at_call 14; refine (src_new H3.out).mono ?_; rintro e w4 ⟨r, rfl, h⟩; (have H4 := Lib.hid (show St w [memA q _ _, srcA r 0 [], boxA _ _ _] _ from h.front 1 rfl)); clear h; clear d0 d1 d2 d3 d4 d5 d6 ld; (obtain ⟨⟨d0, d1, d2, d3, d4, d5, d6⟩, ld⟩ := cells7 (H4.out.cells 2 rfl)); clear _h) | ((have _h := H2); go_at_call 23; refine (begun13_is nn ss 7 T N H2.out HOKC.out HN.out HT.out t0 t1).mono ?_; rintro e w3 ⟨q, rfl, h⟩; (have H3 := Lib.hid (h)); clear h; clear d0 d1 d2 d3 d4 d5 d6 ld; (obtain ⟨⟨d0, d1, d2, d3, d4, d5, d6⟩, ld⟩ := cells7 (H3.out.cells 1 rfl)); clear _h) | ((have _h := H1); go_at_call 22; refine (cfg13_is a0 a1 a2 7 nn ss bud base wt _ HNN.out HSS.out HBU.out HBA.out HWT.out a00 a01 a10 a11 a20 a21).mono ?_; rintro e w2 ⟨rfl, hb⟩; (have H2 := Lib.hid ((H1.out.below hb).alloc #[.int .i64 (nn : Int), .int .i64 (ss : Int), .int .i64 0, .int .u32 7, .int .i64 bud, .int .i64 base, .int .u64 wt] 27)); clear hb; (obtain ⟨⟨d0, d1, d2, d3, d4, d5, d6⟩, ld⟩ := cells7 (H2.out.cells 0 rfl)); clear _h) | ((have _h := H); go_at_call 12; refine (shown13 _).mono ?_; rintro e w1 ⟨rfl, hb⟩; (have H1 := Lib.hid (H.out.below hb)); clear hb; clear _h))
  go_ret
  exact ⟨rfl, H4.out.bel⟩
set_option maxRecDepth 20000 in
set_option maxHeartbeats 16000000 in
theorem stale_few (a0 a1 a2 : Int) (A : Option Addr) (m cap : Nat) (F : Nat → Bool) (push : Bool) (ti : Int) (w : World) (hx0 : (Lit.int .i64 a0).wf = true) (hx1 : (Lit.int .i64 a1).wf = true) (hx2 : (Lit.int .i64 a2).wf = true) (hF : RdB w A m F) (hx5 : (Lit.int .i64 ti).wf = true) (h20 : m ≤ 20) :
    Calls Tryz.prog 5 #[.int .i64 a0, .int .i64 a1, .int .i64 a2, .slice A m cap, .bool push, .int .i64 ti] w fun e w' => e = .returned (.bool true) ∧ Below w.heap.size w w' := by
  obtain ⟨a00, a01⟩ := rngI64 hx0
  obtain ⟨a10, a11⟩ := rngI64 hx1
  obtain ⟨a20, a21⟩ := rngI64 hx2
  have p6 := pickI_rng (c := a0) (n := 6) (by decide)
  have p4 := pickI_rng (c := a1) (n := 4) (by decide)
  have p7 := pickI_rng (c := a1) (n := 7) (by decide)
  have q4 := pickI_rng (c := a2) (n := 4) (by decide)
  have q3 := pickI_rng (c := a2) (n := 3) (by decide)
  obtain ⟨nn, hnn⟩ : ∃ nn : Nat, 1 + pickI a0 6 = (nn : Int) := Int.eq_ofNat_of_zero_le (by omega)
  obtain ⟨ss, hss⟩ : ∃ ss : Nat, pickI a1 4 = (ss : Int) := Int.eq_ofNat_of_zero_le (by omega)
  obtain ⟨bud, hbud⟩ : ∃ bud, pickI a2 4 = bud := ⟨_, rfl⟩
  obtain ⟨base, hbase⟩ : ∃ base, 1 + pickI a2 3 = base := ⟨_, rfl⟩
  obtain ⟨wt, hwt⟩ : ∃ wt, pickI a1 7 = wt := ⟨_, rfl⟩
  obtain ⟨N, hN⟩ : ∃ N, N = 2 + 2 * nn + ss + 0 := ⟨_, rfl⟩
  obtain ⟨T, hT⟩ : ∃ T : Int, 7 * 4294967296 = T := ⟨_, rfl⟩
  obtain ⟨rg, hrg⟩ : ∃ rg, pR 1 (ss : Int) = rg := ⟨_, rfl⟩
  have n1 : 1 ≤ nn := by omega
  have n2 : nn ≤ 64 := by omega
  have n6 : nn ≤ 6 := by omega
  have s4 : ss < 4 := by omega
  have hN2 : 2 + 2 * nn ≤ N := by omega
  have hNle : N ≤ 1024 := by omega
  have t0 : (0 : Int) ≤ 7 := by omega
  have t1 : (7 : Int) < 4294967296 := by omega
  have b0 : 0 ≤ bud := by omega
  have b1 : bud ≤ 16 := by omega
  have x0 : 1 ≤ base := by omega
  have x1 : base ≤ 64 := by omega
  have y0 : 0 ≤ wt := by omega
  have y1 : wt < 18446744073709551616 := by omega
  have HOKC : Hid (okC (nn : Int) (ss : Int) ((0 : Nat) : Int) = true) := Lib.hid (by simp [okC]; omega)
  have HOK0 : Hid (okC (nn : Int) (ss : Int) 0 = true) := Lib.hid HOKC.out
  have HSTE : Hid (stE (nn : Int) (ss : Int) 0 bud base rg 0 = 0) := Lib.hid (by
    unfold stE
    refine if_pos ⟨okE_iff.2 ⟨HOK0.out, by omega, by omega, by omega, by omega⟩, pOk_iff.2 ⟨by omega, by omega, ?_, ?_, by decide, by decide⟩⟩
    · rw [← hrg]; unfold pR; omega
    · rw [← hrg]; unfold pR; omega)
  have HTW : Hid (Two nn N T (frL T nn nn ss N) [] (upL 1 nn) [] 7 7) := Lib.hid (fresh_two hT t0 t1 (by omega) n1 n2)
  have HUP : Hid (([] : List Int).length + (upL 1 nn).length = nn) := Lib.hid (by rw [upL_len]; simp)
  have HNN := Lib.hid hnn
  have HSS := Lib.hid hss
  have HBU := Lib.hid hbud
  have HBA := Lib.hid hbase
  have HWT := Lib.hid hwt
  have HN := Lib.hid hN
  have HT := Lib.hid hT
  have HRG := Lib.hid hrg
  have H := Lib.hid (St.nil w)
  have HDS : Hid (DsOk []) := Lib.hid (fun d hd => by cases hd)
  clear hx0 hx1 hx2 p6 p4 p7 q4 q3 hnn hss hbud hbase hwt hN hT hrg
  obtain ⟨t50, t51⟩ := rngI64 hx5
  obtain ⟨tm, htm⟩ : ∃ tm, pickI ti 20 = tm := ⟨_, rfl⟩
  have htr := pickI_rng (c := ti) (n := 20) (by decide)
  rw [htm] at htr
  obtain ⟨tm0, tm1⟩ := htr
  have HTM := Lib.hid htm
  have c20 : decide ((20 : Int) < (m : Int)) = false := decide_eq_false (by omega)
  have HF := Lib.hid hF
  have HD5 : Hid (DsOk [5]) := Lib.hid (fun d hd => by obtain rfl := List.mem_singleton.1 hd; decide)
  clear hF htm hx5
  go_enter Tryz.func5, Tryz.ntmps5
  go_wp2_with (first | ((have _h := H4); go_at_call 28; refine (src_add 5 0 [5] (H4.out.front 1 rfl) (by decide) (by decide) rfl rfl).mono ?_; rintro e w5 ⟨rfl, h⟩; (have H5 := Lib.hid (show St w [memA q _ _, srcA r 0 [5], boxA _ _ _] _ from h.front 1 rfl)); clear h; clear d0 d1 d2 d3 d4 d5 d6 ld; clear _h) | ((have _h := H3); go_at_call 14; refine (src_new H3.out).mono ?_; rintro e w4 ⟨r, rfl, h⟩; (have H4 := Lib.hid (show St w [memA q _ _, srcA r 0 [], boxA _ _ _] _ from h.front 1 rfl)); clear h; clear d0 d1 d2 d3 d4 d5 d6 ld; (obtain ⟨⟨d0, d1, d2, d3, d4, d5, d6⟩, ld⟩ := cells7 (H4.out.cells 2 rfl)); clear _h) | ((have _h := H2); go_at_call 23; refine (begun13_is nn ss 7 T N H2.out HOKC.out HN.out HT.out t0 t1).mono ?_; rintro e w3 ⟨q, rfl, h⟩; (have H3 := Lib.hid (h)); clear h; clear d0 d1 d2 d3 d4 d5 d6 ld; (obtain ⟨⟨d0, d1, d2, d3, d4, d5, d6⟩, ld⟩ := cells7 (H3.out.cells 1 rfl)); clear _h) | ((have _h := H1); go_at_call 22; refine (cfg13_is a0 a1 a2 7 nn ss bud base wt _ HNN.out HSS.out HBU.out HBA.out HWT.out a00 a01 a10 a11 a20 a21).mono ?_; rintro e w2 ⟨rfl, hb⟩; (have H2 := Lib.hid ((H1.out.below hb).alloc #[.int .i64 (nn : Int), .int .i64 (ss : Int), .int .i64 0, .int .u32 7, .int .i64 bud, .int .i64 base, .int .u64 wt] 27)); clear hb; (obtain ⟨⟨d0, d1, d2, d3, d4, d5, d6⟩, ld⟩ := cells7 (H2.out.cells 0 rfl)); clear _h) | ((have _h := H); go_at_call 12; refine (shown13 _).mono ?_; rintro e w1 ⟨rfl, hb⟩; (have H1 := Lib.hid (H.out.below hb)); clear hb; clear _h))
  obtain ⟨bc, hbc⟩ : ∃ bc, w2.heap.size = bc := ⟨_, rfl⟩
  simp only [hbc] at *
  have HREL := Lib.hid H5.out
  clear H1 H2 H3 H4 H5
  have HCS : Hid (∀ (L' : List Asn) (i : Nat) (w' : World), St w L' w' → L'[i]? = some (boxA bc #[.int .i64 (nn : Int), .int .i64 (ss : Int), .int .i64 0, .int .u32 7, .int .i64 bud, .int .i64 base, .int .u64 wt] 27) → w'.cell? ⟨bc, 0, none⟩ = some (.int .i64 (nn : Int)) ∧ w'.cell? ⟨bc, 1, none⟩ = some (.int .i64 (ss : Int)) ∧ w'.cell? ⟨bc, 2, none⟩ = some (.int .i64 0) ∧ w'.cell? ⟨bc, 3, none⟩ = some (.int .u32 7) ∧ w'.cell? ⟨bc, 4, none⟩ = some (.int .i64 bud) ∧ w'.cell? ⟨bc, 5, none⟩ = some (.int .i64 base) ∧ w'.cell? ⟨bc, 6, none⟩ = some (.int .u64 wt)) := Lib.hid fun L' i w' hh e1 => (cells7 (hh.cells i e1)).1
  go_loopg [17] (m + 1) (fun kq z w' => ∃ (i : Nat) (l f V : List Int) (T0 T1 : Int) (ws : List Int) (ns : List Note), z = .int .i64 i ∧ i + kq = m + 1 ∧ i ≤ m ∧ Two nn N T ws l f V T0 T1 ∧ l.length + f.length = nn ∧ ns.length ≤ 7 * i ∧ St w [memA q ws ns, srcA r 0 [5], boxA bc #[.int .i64 (nn : Int), .int .i64 (ss : Int), .int .i64 0, .int .u32 7, .int .i64 bud, .int .i64 base, .int .u64 wt] 27] w')
  case atStart => exact ⟨0, [], upL 1 nn, [], 7, 7, _, [], rfl, by omega, by omega, HTW.out, HUP.out, Nat.le_refl _, HREL.out⟩
  case round =>
    obtain ⟨i, l, f, V, T0, T1, ws, ns, rfl, hkq, hile, htw, hlf, hns, hS⟩ := hrel
    have Z := Lib.hid hS
    have HT2 := Lib.hid htw
    have HLF := Lib.hid hlf
    have hn6 : ns.length ≤ 1000000 := by omega
    obtain ⟨⟨d0, d1, d2, d3, d4, d5, d6⟩, ld⟩ := cells7 (hS.cells 2 rfl)
    clear hS htw hlf
    cases gk with
    | zero => omega
    | succ kk =>
      by_cases him : i < m
      · have cI : decide ((i : Int) < (m : Int)) = true := decide_eq_true (by omega)
        have i0 : (0 : Int) ≤ (i : Int) := by omega
        have i1 : (i : Int) < (m : Int) := by omega
        have i2 : (i : Int) < 18446744073709551616 := by omega
        have ew : IntKind.u64.wrap (i : Int) = (i : Int) := by rw [IntKind.wrap_u64]; omega
        obtain ⟨ad, hA, hcI⟩ := HF.out.2 i him
        have HCI := Lib.hid hcI
        have HAD := Lib.hid hA
        clear hcI
        subst hA
        go_upto_region 10 with (fail)
        go_region_held3 (fun w' => w'.cell? ⟨bc, 0, none⟩ = some (.int .i64 (nn : Int)) ∧ w'.cell? ⟨bc, 1, none⟩ = some (.int .i64 (ss : Int)) ∧ w'.cell? ⟨bc, 2, none⟩ = some (.int .i64 0) ∧ w'.cell? ⟨bc, 3, none⟩ = some (.int .u32 7) ∧ w'.cell? ⟨bc, 4, none⟩ = some (.int .i64 bud) ∧ w'.cell? ⟨bc, 5, none⟩ = some (.int .i64 base) ∧ w'.cell? ⟨bc, 6, none⟩ = some (.int .u64 wt)) (first | exact HCS.out _ 2 _ Z10.out.tail rfl | first | exact HCS.out _ 2 _ (Z.out.drew.below HB1.out) rfl | exact HCS.out _ 2 _ Z.out.drew rfl | exact HCS.out _ 2 _ Z.out rfl) (first | ((have _h := HB1); go_at_call 17; refine (make_pop nn ss 0 7 bud base wt rg 0 0 HSTE.out (Z.out.drew.below HB1.out)).mono ?_; rintro e u2 ⟨po, rfl, h⟩; (have Z10 := Lib.hid h); clear h _h) | (go_at_call 24; refine (fresh_is nn ss 0 7 bud base wt rg 0 _ HRG.out (by decide)).mono ?_; rintro e u1 ⟨rfl, hb⟩; (have HB1 := Lib.hid hb); clear hb))
        have Z1 := Lib.hid (show St w [memA q ws ns, srcA r 0 [5], opA po _, boxA bc _ _] _ from (show St w (opA po _ :: memA q ws ns :: srcA r 0 [5] :: boxA bc _ _ :: []) _ from Z10.out).re 3 [1, 2, 0])
        clear Z10 HB1
        have hcI := (Z1.out.bel.cell (World.block_lt_of_cell? _ _ HCI.out)).trans HCI.out
        cases hFi : F i with
        | true =>
          rw [hFi] at hcI
          go_upto_region 12 with (fail)
          go_region_held3 (fun w' => w'.cell? ⟨bc, 0, none⟩ = some (.int .i64 (nn : Int)) ∧ w'.cell? ⟨bc, 1, none⟩ = some (.int .i64 (ss : Int)) ∧ w'.cell? ⟨bc, 2, none⟩ = some (.int .i64 0) ∧ w'.cell? ⟨bc, 3, none⟩ = some (.int .u32 7) ∧ w'.cell? ⟨bc, 4, none⟩ = some (.int .i64 bud) ∧ w'.cell? ⟨bc, 5, none⟩ = some (.int .i64 base) ∧ w'.cell? ⟨bc, 6, none⟩ = some (.int .u64 wt)) (first | exact HCS.out _ 3 _ Z20.out.tail rfl | first | exact HCS.out _ 3 _ (Z1.out.drew.below HB3.out) rfl | exact HCS.out _ 3 _ Z1.out.drew rfl | exact HCS.out _ 3 _ Z1.out rfl) (first | ((have _h := HB3); go_at_call 16; refine (make_push nn ss 0 7 bud base wt rg 0 (i : Int) HSTE.out (Z1.out.drew.below HB3.out)).mono ?_; rintro e u4 ⟨pu, rfl, h⟩; (have Z20 := Lib.hid h); clear h _h) | (go_at_call 24; refine (fresh_is nn ss 0 7 bud base wt rg 0 _ HRG.out (by decide)).mono ?_; rintro e u3 ⟨rfl, hb⟩; (have HB3 := Lib.hid hb); clear hb))
          have Z2 := Lib.hid (show St w [memA q ws ns, srcA r 0 [5], opA pu _, opA po _, boxA bc _ _] _ from (show St w (opA pu _ :: memA q ws ns :: srcA r 0 [5] :: opA po _ :: boxA bc _ _ :: []) _ from Z20.out).re 3 [1, 2, 0])
          clear Z20 HB3
          obtain ⟨a, x, V', hlif⟩ : ∃ a x V', lifoA true (i : Int) V (f != []) = (a, x, V') := ⟨_, _, _, rfl⟩
          go_wp2_with (go_at_call 29; refine (alone_any true ss 7 bud base wt rg 0 (i : Int) a x nn hlif HT2.out HLF.out Z2.out HOK0.out hN2 i0 i2 b0 b1 x0 x1 y0 y1 HD5.out (by decide) (by decide) hn6).mono ?_; rintro e u9 ⟨rfl, l', f', T0', T1', ws', ns', S', g1, g2, g3, g4, g5, g6, g7, g8, g9, ga, gx, g10, h⟩; (have Z9 := Lib.hid (show St w [memA q ws' ns', srcA r 0 [5], boxA bc _ _] _ from (show St w (memA q ws' ns' :: srcA r 0 [5] :: opA _ S' :: opA _ _ :: boxA bc _ _ :: []) _ from h).re 5 [0, 1, 4])); clear h)
          go_roundg kk
          case measure => omega
          case rel => exact ⟨i + 1, l', f', V', T0', T1', ws', ns', by rfl, by omega, by omega, g1, g2, by omega, Z9.out⟩
        | false =>
          rw [hFi] at hcI
          obtain ⟨a, x, V', hlif⟩ : ∃ a x V', lifoA false 0 V (f != []) = (a, x, V') := ⟨_, _, _, rfl⟩
          go_wp2_with (go_at_call 29; refine (alone_any false ss 7 bud base wt rg 0 0 a x nn hlif HT2.out HLF.out Z1.out HOK0.out hN2 (by decide) (by decide) b0 b1 x0 x1 y0 y1 HD5.out (by decide) (by decide) hn6).mono ?_; rintro e u9 ⟨rfl, l', f', T0', T1', ws', ns', S', g1, g2, g3, g4, g5, g6, g7, g8, g9, ga, gx, g10, h⟩; (have Z9 := Lib.hid (show St w [memA q ws' ns', srcA r 0 [5], boxA bc _ _] _ from (show St w (memA q ws' ns' :: srcA r 0 [5] :: opA _ S' :: boxA bc _ _ :: []) _ from h).re 4 [0, 1, 3])); clear h)
          go_roundg kk
          case measure => omega
          case rel => exact ⟨i + 1, l', f', V', T0', T1', ws', ns', by rfl, by omega, by omega, g1, g2, by omega, Z9.out⟩
      · have cI : decide ((i : Int) < (m : Int)) = false := decide_eq_false (by omega)
        go_upto_region 16 with (fail)
        go_region_held3 (fun w' => w'.cell? ⟨bc, 0, none⟩ = some (.int .i64 (nn : Int)) ∧ w'.cell? ⟨bc, 1, none⟩ = some (.int .i64 (ss : Int)) ∧ w'.cell? ⟨bc, 2, none⟩ = some (.int .i64 0) ∧ w'.cell? ⟨bc, 3, none⟩ = some (.int .u32 7) ∧ w'.cell? ⟨bc, 4, none⟩ = some (.int .i64 bud) ∧ w'.cell? ⟨bc, 5, none⟩ = some (.int .i64 base) ∧ w'.cell? ⟨bc, 6, none⟩ = some (.int .u64 wt)) (first | exact HCS.out _ 2 _ Z10.out.tail rfl | first | exact HCS.out _ 2 _ (Z.out.drew.below HB1.out) rfl | exact HCS.out _ 2 _ Z.out.drew rfl | exact HCS.out _ 2 _ Z.out rfl) (first | ((have _h := HB1); go_at_call 17; refine (make_pop nn ss 0 7 bud base wt rg 0 0 HSTE.out (Z.out.drew.below HB1.out)).mono ?_; rintro e u2 ⟨po, rfl, h⟩; (have Z10 := Lib.hid h); clear h _h) | (go_at_call 24; refine (fresh_is nn ss 0 7 bud base wt rg 0 _ HRG.out (by decide)).mono ?_; rintro e u1 ⟨rfl, hb⟩; (have HB1 := Lib.hid hb); clear hb))
        have Z1 := Lib.hid (show St w [memA q ws ns, srcA r 0 [5], opA po _, boxA bc _ _] _ from (show St w (opA po _ :: memA q ws ns :: srcA r 0 [5] :: boxA bc _ _ :: []) _ from Z10.out).re 3 [1, 2, 0])
        clear Z10 HB1
        cases push with
        | true =>
          go_upto_region 18 with (fail)
          go_region_held3 (fun w' => w'.cell? ⟨bc, 0, none⟩ = some (.int .i64 (nn : Int)) ∧ w'.cell? ⟨bc, 1, none⟩ = some (.int .i64 (ss : Int)) ∧ w'.cell? ⟨bc, 2, none⟩ = some (.int .i64 0) ∧ w'.cell? ⟨bc, 3, none⟩ = some (.int .u32 7) ∧ w'.cell? ⟨bc, 4, none⟩ = some (.int .i64 bud) ∧ w'.cell? ⟨bc, 5, none⟩ = some (.int .i64 base) ∧ w'.cell? ⟨bc, 6, none⟩ = some (.int .u64 wt)) (first | exact HCS.out _ 3 _ Z20.out.tail rfl | first | exact HCS.out _ 3 _ (Z1.out.drew.below HB3.out) rfl | exact HCS.out _ 3 _ Z1.out.drew rfl | exact HCS.out _ 3 _ Z1.out rfl) (first | ((have _h := HB3); go_at_call 16; refine (make_push nn ss 0 7 bud base wt rg 0 77 HSTE.out (Z1.out.drew.below HB3.out)).mono ?_; rintro e u4 ⟨pu, rfl, h⟩; (have Z20 := Lib.hid h); clear h _h) | (go_at_call 24; refine (fresh_is nn ss 0 7 bud base wt rg 0 _ HRG.out (by decide)).mono ?_; rintro e u3 ⟨rfl, hb⟩; (have HB3 := Lib.hid hb); clear hb))
          have Z2 := Lib.hid (show St w [memA q ws ns, srcA r 0 [5], opA pu _, opA po _, boxA bc _ _] _ from (show St w (opA pu _ :: memA q ws ns :: srcA r 0 [5] :: opA po _ :: boxA bc _ _ :: []) _ from Z20.out).re 3 [1, 2, 0])
          clear Z20 HB3
          obtain ⟨a, x, V', hlif⟩ : ∃ a x V', lifoA true 77 V (f != []) = (a, x, V') := ⟨_, _, _, rfl⟩
          go_wp2_with (first | ((have _h := Z9); go_at_call 19; refine (count_st Z9.out (ns'.length : Int) rfl).mono ?_; rintro e u10 ⟨rfl, rfl⟩; clear _h) | (go_at_call 29; refine (alone_any true ss 7 bud base wt rg 0 77 a x nn hlif HT2.out HLF.out Z2.out HOK0.out hN2 (by decide) (by decide) b0 b1 x0 x1 y0 y1 HD5.out (by decide) (by decide) hn6).mono ?_; rintro e u9 ⟨rfl, l', f', T0', T1', ws', ns', S', g1, g2, g3, g4, g5, g6, g7, g8, g9, ga, gx, g10, h⟩; (have Z9 := Lib.hid (show St w [memA q ws' ns', srcA r 0 [5], opA pu S', boxA bc _ _] _ from (show St w (memA q ws' ns' :: srcA r 0 [5] :: opA pu S' :: opA _ _ :: boxA bc _ _ :: []) _ from h).re 5 [0, 1, 2, 4])); clear h))
          have hfl := fld_shelf
          have HLEN := Lib.hid g1.len
          have HRNG := Lib.hid g1.rng
          have HOKS : Hid (S'.ok ws'.length ns'.length) := Lib.hid (by rw [g1.len]; exact g8)
          have HE : Hid (S'.step ws' 0 [5] = ⟨a, S', ws', [], [5]⟩) := Lib.hid (by rw [OM.step_over g9, ga])
          have HNN2 : Hid (ns' ++ [] = ns') := Lib.hid (List.append_nil _)
          have HV := Lib.hid gx
          have HI := Lib.hid g6
          have HNV := Lib.hid g7
          have HSH := Lib.hid g3
          have HRG2 := Lib.hid g4
          have HEX := Lib.hid g5
          have hn7 : ns'.length ≤ 1000000000000 := by omega
          have Y9 := Lib.hid Z9.out
          obtain ⟨C, hC⟩ : ∃ C, ns'.length = C := ⟨_, rfl⟩
          have HC : Hid ((ns'.length : Int) = (C : Int)) := Lib.hid (by rw [hC])
          obtain ⟨tn, htn⟩ := Int.eq_ofNat_of_zero_le tm0
          have htn20 : tn < 20 := by omega
          have HTN := Lib.hid htn
          generalize hp : (pu : Nat) = p at *
          clear g1 g2 g3 g4 g5 g6 g7 g8 g9 ga gx g10 Z9 htn hlif
          rw [hC]
          go_loopg [27] (tn + 1) (fun kq z w' => ∃ (j : Nat), z = .int .i64 j ∧ j + kq = tn + 1 ∧ j ≤ tn ∧ St w [memA q ws' ns', srcA r 0 [5], opA p S', boxA bc #[.int .i64 (nn : Int), .int .i64 (ss : Int), .int .i64 0, .int .u32 7, .int .i64 bud, .int .i64 base, .int .u64 wt] 27] w')
          case atStart => exact ⟨0, rfl, by omega, by omega, Y9.out⟩
          case round =>
            obtain ⟨j, rfl, hjk, hjt, hS2⟩ := hrel
            have Y0 := Lib.hid hS2
            clear hS2
            rw [HTN.out] at HTM
            cases gk with
            | zero => omega
            | succ kk =>
              by_cases hjt2 : j < tn
              · have cJ : decide ((j : Int) < (tn : Int)) = true := decide_eq_true (by omega)
                go_wp2_with (first | ((have _h := Y6); go_at_call 26; refine (op_thread0 rg 0 (Y6.out.front 2 rfl) HSH.out HRG2.out HEX.out).mono ?_; rintro e y7 ⟨at2, ct2, rfl, hrt, h⟩; (have Y7 := Lib.hid (show St w [memA q ws' ns', srcA r 0 [5], opA p S', boxA bc _ _] _ from (show St w (opA p S' :: memA q ws' ns' :: srcA r 0 [5] :: boxA bc _ _ :: []) _ from h).re 3 [1, 2, 0])); clear hrt h; clear _h) | ((have _h := Y5); go_at_call 20; refine (op_held0 al N cw (Y5.out.front 2 rfl) HOKS.out HRD.out HLEN.out hcw HRNG.out HI.out HNV.out).mono ?_; rintro e y6 ⟨ah, ch, rfl, hrh, hb⟩; (have Y6 := Lib.hid (Y5.out.below hb)); clear hrh hb; clear _h) | ((have _h := Y2); go_at_call 21; refine (words_st Y2.out N HLEN.out).mono ?_; rintro e y5 ⟨al, cw, rfl, hrd, hcw, hb⟩; (have Y5 := Lib.hid (Y2.out.below hb)); (have HRD := Lib.hid hrd); clear hrd hb; clear _h) | ((have _h := Y2); go_at_call 30; refine (src_left 1 (Y2.out.front 1 rfl) rfl).mono ?_; rintro e y4 ⟨rfl, rfl⟩; clear _h) | ((have _h := Y2); go_at_call 19; refine (count_st Y2.out (C : Int) HC.out).mono ?_; rintro e y3 ⟨rfl, rfl⟩; clear _h) | ((have _h := Y0); go_at_call 18; refine (op_step HE.out HNN2.out HV.out Y0.out HOKS.out HD5.out (by decide) (by decide) hn7).mono ?_; rintro e y2 ⟨rfl, h⟩; (have Y2 := Lib.hid (h)); clear h; clear _h) | ((have _h := Y0); go_at_call 25; refine (pick13_is ti 20 (tn : Int) _ HTM.out (by decide) (by decide) t50 t51).mono ?_; rintro e y1 ⟨rfl, rfl⟩; clear _h))
                go_roundg kk
                case measure => omega
                case rel => exact ⟨j + 1, by rfl, by omega, by omega, Y7.out⟩
              · have cJ : decide ((j : Int) < (tn : Int)) = false := decide_eq_false (by omega)
                go_wp2_with (go_at_call 25; refine (pick13_is ti 20 (tn : Int) _ HTM.out (by decide) (by decide) t50 t51).mono ?_; rintro e w1 ⟨rfl, rfl⟩)
                go_ret
                exact ⟨rfl, Y0.out.bel⟩
        | false =>
          obtain ⟨a, x, V', hlif⟩ : ∃ a x V', lifoA false 0 V (f != []) = (a, x, V') := ⟨_, _, _, rfl⟩
          go_wp2_with (first | ((have _h := Z9); go_at_call 19; refine (count_st Z9.out (ns'.length : Int) rfl).mono ?_; rintro e u10 ⟨rfl, rfl⟩; clear _h) | (go_at_call 29; refine (alone_any false ss 7 bud base wt rg 0 0 a x nn hlif HT2.out HLF.out Z1.out HOK0.out hN2 (by decide) (by decide) b0 b1 x0 x1 y0 y1 HD5.out (by decide) (by decide) hn6).mono ?_; rintro e u9 ⟨rfl, l', f', T0', T1', ws', ns', S', g1, g2, g3, g4, g5, g6, g7, g8, g9, ga, gx, g10, h⟩; (have Z9 := Lib.hid (show St w [memA q ws' ns', srcA r 0 [5], opA po S', boxA bc _ _] _ from (show St w (memA q ws' ns' :: srcA r 0 [5] :: opA po S' :: boxA bc _ _ :: []) _ from h).re 4 [0, 1, 2, 3])); clear h))
          have hfl := fld_shelf
          have HLEN := Lib.hid g1.len
          have HRNG := Lib.hid g1.rng
          have HOKS : Hid (S'.ok ws'.length ns'.length) := Lib.hid (by rw [g1.len]; exact g8)
          have HE : Hid (S'.step ws' 0 [5] = ⟨a, S', ws', [], [5]⟩) := Lib.hid (by rw [OM.step_over g9, ga])
          have HNN2 : Hid (ns' ++ [] = ns') := Lib.hid (List.append_nil _)
          have HV := Lib.hid gx
          have HI := Lib.hid g6
          have HNV := Lib.hid g7
          have HSH := Lib.hid g3
          have HRG2 := Lib.hid g4
          have HEX := Lib.hid g5
          have hn7 : ns'.length ≤ 1000000000000 := by omega
          have Y9 := Lib.hid Z9.out
          obtain ⟨C, hC⟩ : ∃ C, ns'.length = C := ⟨_, rfl⟩
          have HC : Hid ((ns'.length : Int) = (C : Int)) := Lib.hid (by rw [hC])
          obtain ⟨tn, htn⟩ := Int.eq_ofNat_of_zero_le tm0
          have htn20 : tn < 20 := by omega
          have HTN := Lib.hid htn
          generalize hp : (po : Nat) = p at *
          clear g1 g2 g3 g4 g5 g6 g7 g8 g9 ga gx g10 Z9 htn hlif
          rw [hC]
          go_loopg [27] (tn + 1) (fun kq z w' => ∃ (j : Nat), z = .int .i64 j ∧ j + kq = tn + 1 ∧ j ≤ tn ∧ St w [memA q ws' ns', srcA r 0 [5], opA p S', boxA bc #[.int .i64 (nn : Int), .int .i64 (ss : Int), .int .i64 0, .int .u32 7, .int .i64 bud, .int .i64 base, .int .u64 wt] 27] w')
          case atStart => exact ⟨0, rfl, by omega, by omega, Y9.out⟩
          case round =>
            obtain ⟨j, rfl, hjk, hjt, hS2⟩ := hrel
            have Y0 := Lib.hid hS2
            clear hS2
            rw [HTN.out] at HTM
            cases gk with
            | zero => omega
            | succ kk =>
              by_cases hjt2 : j < tn
              · have cJ : decide ((j : Int) < (tn : Int)) = true := decide_eq_true (by omega)
                go_wp2_with (first | ((have _h := Y6); go_at_call 26; refine (op_thread0 rg 0 (Y6.out.front 2 rfl) HSH.out HRG2.out HEX.out).mono ?_; rintro e y7 ⟨at2, ct2, rfl, hrt, h⟩; (have Y7 := Lib.hid (show St w [memA q ws' ns', srcA r 0 [5], opA p S', boxA bc _ _] _ from (show St w (opA p S' :: memA q ws' ns' :: srcA r 0 [5] :: boxA bc _ _ :: []) _ from h).re 3 [1, 2, 0])); clear hrt h; clear _h) | ((have _h := Y5); go_at_call 20; refine (op_held0 al N cw (Y5.out.front 2 rfl) HOKS.out HRD.out HLEN.out hcw HRNG.out HI.out HNV.out).mono ?_; rintro e y6 ⟨ah, ch, rfl, hrh, hb⟩; (have Y6 := Lib.hid (Y5.out.below hb)); clear hrh hb; clear _h) | ((have _h := Y2); go_at_call 21; refine (words_st Y2.out N HLEN.out).mono ?_; rintro e y5 ⟨al, cw, rfl, hrd, hcw, hb⟩; (have Y5 := Lib.hid (Y2.out.below hb)); (have HRD := Lib.hid hrd); clear hrd hb; clear _h) | ((have _h := Y2); go_at_call 30; refine (src_left 1 (Y2.out.front 1 rfl) rfl).mono ?_; rintro e y4 ⟨rfl, rfl⟩; clear _h) | ((have _h := Y2); go_at_call 19; refine (count_st Y2.out (C : Int) HC.out).mono ?_; rintro e y3 ⟨rfl, rfl⟩; clear _h) | ((have _h := Y0); go_at_call 18; refine (op_step HE.out HNN2.out HV.out Y0.out HOKS.out HD5.out (by decide) (by decide) hn7).mono ?_; rintro e y2 ⟨rfl, h⟩; (have Y2 := Lib.hid (h)); clear h; clear _h) | ((have _h := Y0); go_at_call 25; refine (pick13_is ti 20 (tn : Int) _ HTM.out (by decide) (by decide) t50 t51).mono ?_; rintro e y1 ⟨rfl, rfl⟩; clear _h))
                go_roundg kk
                case measure => omega
                case rel => exact ⟨j + 1, by rfl, by omega, by omega, Y7.out⟩
              · have cJ : decide ((j : Int) < (tn : Int)) = false := decide_eq_false (by omega)
                go_wp2_with (go_at_call 25; refine (pick13_is ti 20 (tn : Int) _ HTM.out (by decide) (by decide) t50 t51).mono ?_; rintro e w1 ⟨rfl, rfl⟩)
                go_ret
                exact ⟨rfl, Y0.out.bel⟩
theorem ebstackStale_walk (a0 a1 a2 : Int) (A : Option Addr) (m cap : Nat) (F : Nat → Bool) (push : Bool) (ti : Int) (w : World) (hx0 : (Lit.int .i64 a0).wf = true) (hx1 : (Lit.int .i64 a1).wf = true) (hx2 : (Lit.int .i64 a2).wf = true) (hF : RdB w A m F) (hx5 : (Lit.int .i64 ti).wf = true) :
    Calls Tryz.prog 5 #[.int .i64 a0, .int .i64 a1, .int .i64 a2, .slice A m cap, .bool push, .int .i64 ti] w fun e w' => e = .returned (.bool true) ∧ Below w.heap.size w w' := by
  by_cases h20 : 20 < m
  · exact stale_many a0 a1 a2 A m cap F push ti w hx0 hx1 hx2 hF hx5 h20
  · exact stale_few a0 a1 a2 A m cap F push ti w hx0 hx1 hx2 hF hx5 (by omega)
end Go.Proofs.YtgfeagggkplegaaGreat
