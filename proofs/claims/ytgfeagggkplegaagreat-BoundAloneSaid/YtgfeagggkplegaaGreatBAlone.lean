/-
  BoundAlone: alone a push is seven steps, or one, and a pop seven, or one; no more than its bound.
-/
import Derived.Test.YtgfeagggkplegaaGreatL13
import Derived.Test.YtgfeagggkplegaaGreatOpU
import Derived.Test.YtgfeagggkplegaaGreatOpen2
import Derived.Test.YtgfeagggkplegaaGreatBnd
import Derived.Test.YtgfeagggkplegaaGreatWf
import Derived.Deep.DeepCutAuto
namespace Go.Proofs.YtgfeagggkplegaaGreat
open Go.RowKit
set_option linter.unusedVariables false
set_option linter.unusedSimpArgs false

/-- What a stack with bounds holds behind an operation. -/
theorem lifoA_len {v : Int} {V V' : List Int} {a x : Int} {fr push : Bool} (h : lifoA push v V fr = (a, x, V')) : a = (if (if push = true then fr = true else V ≠ []) then 1 else 2) ∧ V'.length = (if a = 1 then (if push = true then V.length + 1 else V.length - 1) else V.length) := by
  unfold lifoA at h
  cases push <;> cases fr <;> cases V <;> simp at h <;> obtain ⟨rfl, rfl, rfl⟩ := h <;> simp
/-- An operation alone, of so many steps. -/
theorem run_len {nn N : Nat} {W : Int} {ws l f V : List Int} {T0 T1 : Int} (push : Bool) (s t bud base wait rg ex v : Int) (hok : okC nn s 0 = true) (hN : 2 + 2 * nn ≤ N) (v0 : 0 ≤ v) (v1 : v < 18446744073709551616) (h : Two nn N W ws l f V T0 T1) (many : Nat) (hm : l.length + f.length = many) (k ln' : Nat)
    (hk : k = if (if push = true then l.length ≠ many else l.length ≠ 0) then 7 else 1) (hl : ln' = if k = 7 then (if push = true then l.length + 1 else l.length - 1) else l.length) :
    ∃ S' ws' l' f' V' T0' T1', RunO k (opN push nn s 0 t bud base wait rg ex v) ws S' ws' ∧ Two nn N W ws' l' f' V' T0' T1' ∧ l'.length + f'.length = many ∧ l'.length = ln' := by
  obtain ⟨a, x, V', hlif⟩ : ∃ a x V', lifoA push v V (f != []) = (a, x, V') := ⟨_, _, _, rfl⟩
  obtain ⟨k', S', ws', l', f', T0', T1', h1, h2, h3, h4, _⟩ := run_any push s t bud base wait rg ex v hok hN v0 v1 h
  obtain ⟨g1, g2⟩ := lifoA_len hlif
  rw [hlif] at h2 h3
  dsimp only at h2 h3
  have hv := h.vlen
  have hv' := h3.vlen
  have hf : (f != []) = true ↔ l.length ≠ many := by
    cases f with
    | nil => simp at hm ⊢; omega
    | cons i f => simp at hm ⊢; omega
  have hV : V ≠ [] ↔ l.length ≠ 0 := by
    rw [← hv]
    cases V <;> simp
  simp only [hf, hV] at g1
  have hkk : k' = k := by
    rw [h2, hk, g1]
    cases push <;> simp <;> split <;> rfl
  subst hkk
  refine ⟨S', ws', l', f', V', T0', T1', h1, h3, by omega, ?_⟩
  rw [← hv', g2, hl, hv]
  have h7 : (a = 1) ↔ (k' = 7) := by rw [h2]; split <;> simp_all
  by_cases h8 : a = 1
  · rw [if_pos h8, if_pos (h7.1 h8)]
  · rw [if_neg h8, if_neg fun q => h8 (h7.2 q)]

set_option maxRecDepth 20000 in
set_option maxHeartbeats 16000000 in
theorem balone_many (a0 a1 a2 : Int) (A : Option Addr) (m cap : Nat) (F : Nat → Bool) (w : World) (hx0 : (Lit.int .i64 a0).wf = true) (hx1 : (Lit.int .i64 a1).wf = true) (hx2 : (Lit.int .i64 a2).wf = true) (hF : RdB w A m F) (h20 : 60 < m) :
    Calls Tryz.prog 8 #[.int .i64 a0, .int .i64 a1, .int .i64 a2, .slice A m cap] w fun e w' => e = .returned (.bool true) ∧ Below w.heap.size w w' := by
  obtain ⟨a00, a01⟩ := rngI64 hx0
  obtain ⟨a10, a11⟩ := rngI64 hx1
  obtain ⟨a20, a21⟩ := rngI64 hx2
  have p6 := pickI_rng (c := a0) (n := 6) (by decide)
  have p4 := pickI_rng (c := a1) (n := 4) (by decide)
  have q17 := pickI_rng (c := a2) (n := 17) (by decide)
  obtain ⟨nn, hnn⟩ : ∃ nn : Nat, 1 + pickI a0 6 = (nn : Int) := Int.eq_ofNat_of_zero_le (by omega)
  obtain ⟨ss, hss⟩ : ∃ ss : Nat, pickI a1 4 = (ss : Int) := Int.eq_ofNat_of_zero_le (by omega)
  obtain ⟨bud, hbud⟩ : ∃ bud, pickI a2 17 = bud := ⟨_, rfl⟩
  obtain ⟨base, hbase⟩ : ∃ base, 1 + pickI 1 64 = base := ⟨_, rfl⟩
  obtain ⟨wt, hwt⟩ : ∃ wt : Int, 1152921504606846976 = wt := ⟨_, rfl⟩
  obtain ⟨N, hN⟩ : ∃ N, N = 2 + 2 * nn + ss + 0 := ⟨_, rfl⟩
  obtain ⟨T, hT⟩ : ∃ T : Int, 5 * 4294967296 = T := ⟨_, rfl⟩
  obtain ⟨rg, hrg⟩ : ∃ rg, pR 1 (ss : Int) = rg := ⟨_, rfl⟩
  have n1 : 1 ≤ nn := by omega
  have n2 : nn ≤ 64 := by omega
  have n6 : nn ≤ 6 := by omega
  have s4 : ss < 4 := by omega
  have hN2 : 2 + 2 * nn ≤ N := by omega
  have hNle : N ≤ 1024 := by omega
  have t0 : (0 : Int) ≤ 5 := by omega
  have t1 : (5 : Int) < 4294967296 := by omega
  have b0 : 0 ≤ bud := by omega
  have b1 : bud ≤ 16 := by omega
  have eb : pickI 1 64 = 1 := by decide
  have x0 : 1 ≤ base := by omega
  have x1 : base ≤ 64 := by omega
  have y0 : 0 ≤ wt := by omega
  have y1 : wt < 18446744073709551616 := by omega
  have HOKC : Hid (okC (nn : Int) (ss : Int) ((0 : Nat) : Int) = true) := Lib.hid (by simp [okC]; omega)
  have HOK0 : Hid (okC (nn : Int) (ss : Int) 0 = true) := Lib.hid HOKC.out
  have HFR : Hid (∀ x ∈ frL T nn nn ss N, 0 ≤ x ∧ x < 18446744073709551616) := Lib.hid (frL_rng (by omega) (by omega) (by omega))
  have HOE : Hid (okE (nn : Int) (ss : Int) 0 bud base = true) := Lib.hid (okE_iff.2 ⟨HOK0.out, by omega, by omega, by omega, by omega⟩)
  obtain ⟨bp, hbp⟩ : ∃ bp, bPush (ss : Int) bud = bp := ⟨_, rfl⟩
  obtain ⟨bq, hbq⟩ : ∃ bq, bPop (ss : Int) bud = bq := ⟨_, rfl⟩
  have hm69 : 0 ≤ bud * bVis (ss : Int) := Int.mul_nonneg b0 (by unfold bVis; split <;> decide)
  have bp7 : 7 ≤ bp := by rw [← hbp]; unfold bPush; omega
  have bq7 : 7 ≤ bq := by rw [← hbq]; unfold bPop; omega
  have HBP := Lib.hid hbp
  have HBQ := Lib.hid hbq
  clear hbp hbq hm69
  have HSTE : Hid (stE (nn : Int) (ss : Int) 0 bud base rg 0 = 0) := Lib.hid (by
    unfold stE
    refine if_pos ⟨okE_iff.2 ⟨HOK0.out, by omega, by omega, by omega, by omega⟩, pOk_iff.2 ⟨by omega, by omega, ?_, ?_, by decide, by decide⟩⟩
    · rw [← hrg]; unfold pR; omega
    · rw [← hrg]; unfold pR; omega)
  have HTW : Hid (Two nn N T (frL T nn nn ss N) [] (upL 1 nn) [] 5 5) := Lib.hid (fresh_two hT t0 t1 (by omega) n1 n2)
  have HUP : Hid (([] : List Int).length + (upL 1 nn).length = nn) := Lib.hid (by rw [upL_len]; simp)
  have HNN := Lib.hid hnn
  have HSS := Lib.hid hss
  have HBU := Lib.hid hbud
  have HBA := Lib.hid hbase
  have HWT := Lib.hid hwt
  have HN := Lib.hid hN
  have HT := Lib.hid hT
  have HRG := Lib.hid hrg
  have H := Lib.hid (St.nil w)
  have HDS : Hid (DsOk []) := Lib.hid (fun d hd => by cases hd)
  clear hx0 hx1 hx2 p6 p4 q17 hnn hss hbud hbase hwt hN hT hrg
  have c20 : decide ((60 : Int) < (m : Int)) = true := decide_eq_true (by omega)
  clear hF
  go_enter Tryz.func8, Tryz.ntmps8
  go_wp2_with (first | ((have _h := H4); go_at_call 14; refine (src_new H4.out).mono ?_; rintro e w5 ⟨r, rfl, h⟩; (have H5 := Lib.hid (show St w [memA q _ _, srcA r 0 [], boxA _ _ _] _ from h.front 1 rfl)); clear h; clear d0 d1 d2 d3 d4 d5 d6 ld; (obtain ⟨⟨d0, d1, d2, d3, d4, d5, d6⟩, ld⟩ := cells7 (H5.out.cells 2 rfl)); clear _h) | ((have _h := H3); go_at_call 13; refine (new_st H3.out.tail (some ⟨_, 0, none⟩) _ N (frL T nn nn ss N) (rowRd (H3.out.row 0 rfl) (frL_len _ _ _ _ _)) hNle HFR.out (frL_len _ _ _ _ _)).mono ?_; rintro e w4 ⟨q, rfl, h⟩; (have H4 := Lib.hid (h)); clear h; clear d0 d1 d2 d3 d4 d5 d6 ld; (obtain ⟨⟨d0, d1, d2, d3, d4, d5, d6⟩, ld⟩ := cells7 (H4.out.cells 1 rfl)); clear _h) | ((have _h := H2); go_at_call 44; refine (fresh_ok nn ss 0 5 T N H2.out HOKC.out HN.out HT.out t0 t1).mono ?_; rintro e w3 ⟨g, rfl, h⟩; (have H3 := Lib.hid (h)); clear h; clear d0 d1 d2 d3 d4 d5 d6 ld; (obtain ⟨⟨d0, d1, d2, d3, d4, d5, d6⟩, ld⟩ := cells7 (H3.out.cells 1 rfl)); clear _h) | ((have _h := H1); go_at_call 43; refine (cfg21_is a0 a1 a2 1 nn ss bud base _ HNN.out HSS.out HBU.out HBA.out a00 a01 a10 a11 a20 a21 (by decide) (by decide)).mono ?_; rintro e w2 ⟨rfl, hb⟩; (have H2 := Lib.hid (by have h0 := (H1.out.below hb).alloc #[.int .i64 (nn : Int), .int .i64 (ss : Int), .int .i64 0, .int .u32 5, .int .i64 bud, .int .i64 base, .int .u64 1152921504606846976] 27; rw [HWT.out] at h0; exact h0)); clear hb; rw [HWT.out]; (obtain ⟨⟨d0, d1, d2, d3, d4, d5, d6⟩, ld⟩ := cells7 (H2.out.cells 0 rfl)); clear _h) | ((have _h := H); go_at_call 42; refine (shown21 _).mono ?_; rintro e w1 ⟨rfl, hb⟩; (have H1 := Lib.hid (H.out.below hb)); clear hb; clear _h))
  go_ret
  exact ⟨rfl, H5.out.bel⟩
set_option maxRecDepth 20000 in
set_option maxHeartbeats 16000000 in
theorem balone_few (a0 a1 a2 : Int) (A : Option Addr) (m cap : Nat) (F : Nat → Bool) (w : World) (hx0 : (Lit.int .i64 a0).wf = true) (hx1 : (Lit.int .i64 a1).wf = true) (hx2 : (Lit.int .i64 a2).wf = true) (hF : RdB w A m F) (h20 : m ≤ 60) :
    Calls Tryz.prog 8 #[.int .i64 a0, .int .i64 a1, .int .i64 a2, .slice A m cap] w fun e w' => e = .returned (.bool true) ∧ Below w.heap.size w w' := by
  obtain ⟨a00, a01⟩ := rngI64 hx0
  obtain ⟨a10, a11⟩ := rngI64 hx1
  obtain ⟨a20, a21⟩ := rngI64 hx2
  have p6 := pickI_rng (c := a0) (n := 6) (by decide)
  have p4 := pickI_rng (c := a1) (n := 4) (by decide)
  have q17 := pickI_rng (c := a2) (n := 17) (by decide)
  obtain ⟨nn, hnn⟩ : ∃ nn : Nat, 1 + pickI a0 6 = (nn : Int) := Int.eq_ofNat_of_zero_le (by omega)
  obtain ⟨ss, hss⟩ : ∃ ss : Nat, pickI a1 4 = (ss : Int) := Int.eq_ofNat_of_zero_le (by omega)
  obtain ⟨bud, hbud⟩ : ∃ bud, pickI a2 17 = bud := ⟨_, rfl⟩
  obtain ⟨base, hbase⟩ : ∃ base, 1 + pickI 1 64 = base := ⟨_, rfl⟩
  obtain ⟨wt, hwt⟩ : ∃ wt : Int, 1152921504606846976 = wt := ⟨_, rfl⟩
  obtain ⟨N, hN⟩ : ∃ N, N = 2 + 2 * nn + ss + 0 := ⟨_, rfl⟩
  obtain ⟨T, hT⟩ : ∃ T : Int, 5 * 4294967296 = T := ⟨_, rfl⟩
  obtain ⟨rg, hrg⟩ : ∃ rg, pR 1 (ss : Int) = rg := ⟨_, rfl⟩
  have n1 : 1 ≤ nn := by omega
  have n2 : nn ≤ 64 := by omega
  have n6 : nn ≤ 6 := by omega
  have s4 : ss < 4 := by omega
  have hN2 : 2 + 2 * nn ≤ N := by omega
  have hNle : N ≤ 1024 := by omega
  have t0 : (0 : Int) ≤ 5 := by omega
  have t1 : (5 : Int) < 4294967296 := by omega
  have b0 : 0 ≤ bud := by omega
  have b1 : bud ≤ 16 := by omega
  have eb : pickI 1 64 = 1 := by decide
  have x0 : 1 ≤ base := by omega
  have x1 : base ≤ 64 := by omega
  have y0 : 0 ≤ wt := by omega
  have y1 : wt < 18446744073709551616 := by omega
  have HOKC : Hid (okC (nn : Int) (ss : Int) ((0 : Nat) : Int) = true) := Lib.hid (by simp [okC]; omega)
  have HOK0 : Hid (okC (nn : Int) (ss : Int) 0 = true) := Lib.hid HOKC.out
  have HFR : Hid (∀ x ∈ frL T nn nn ss N, 0 ≤ x ∧ x < 18446744073709551616) := Lib.hid (frL_rng (by omega) (by omega) (by omega))
  have HOE : Hid (okE (nn : Int) (ss : Int) 0 bud base = true) := Lib.hid (okE_iff.2 ⟨HOK0.out, by omega, by omega, by omega, by omega⟩)
  obtain ⟨bp, hbp⟩ : ∃ bp, bPush (ss : Int) bud = bp := ⟨_, rfl⟩
  obtain ⟨bq, hbq⟩ : ∃ bq, bPop (ss : Int) bud = bq := ⟨_, rfl⟩
  have hm69 : 0 ≤ bud * bVis (ss : Int) := Int.mul_nonneg b0 (by unfold bVis; split <;> decide)
  have bp7 : 7 ≤ bp := by rw [← hbp]; unfold bPush; omega
  have bq7 : 7 ≤ bq := by rw [← hbq]; unfold bPop; omega
  have HBP := Lib.hid hbp
  have HBQ := Lib.hid hbq
  clear hbp hbq hm69
  have HSTE : Hid (stE (nn : Int) (ss : Int) 0 bud base rg 0 = 0) := Lib.hid (by
    unfold stE
    refine if_pos ⟨okE_iff.2 ⟨HOK0.out, by omega, by omega, by omega, by omega⟩, pOk_iff.2 ⟨by omega, by omega, ?_, ?_, by decide, by decide⟩⟩
    · rw [← hrg]; unfold pR; omega
    · rw [← hrg]; unfold pR; omega)
  have HTW : Hid (Two nn N T (frL T nn nn ss N) [] (upL 1 nn) [] 5 5) := Lib.hid (fresh_two hT t0 t1 (by omega) n1 n2)
  have HUP : Hid (([] : List Int).length + (upL 1 nn).length = nn) := Lib.hid (by rw [upL_len]; simp)
  have HNN := Lib.hid hnn
  have HSS := Lib.hid hss
  have HBU := Lib.hid hbud
  have HBA := Lib.hid hbase
  have HWT := Lib.hid hwt
  have HN := Lib.hid hN
  have HT := Lib.hid hT
  have HRG := Lib.hid hrg
  have H := Lib.hid (St.nil w)
  have HDS : Hid (DsOk []) := Lib.hid (fun d hd => by cases hd)
  clear hx0 hx1 hx2 p6 p4 q17 hnn hss hbud hbase hwt hN hT hrg
  have c20 : decide ((60 : Int) < (m : Int)) = false := decide_eq_false (by omega)
  have HF := Lib.hid hF
  clear hF
  go_enter Tryz.func8, Tryz.ntmps8
  go_wp2_with (first | ((have _h := H4); go_at_call 14; refine (src_new H4.out).mono ?_; rintro e w5 ⟨r, rfl, h⟩; (have H5 := Lib.hid (show St w [memA q _ _, srcA r 0 [], boxA _ _ _] _ from h.front 1 rfl)); clear h; clear d0 d1 d2 d3 d4 d5 d6 ld; (obtain ⟨⟨d0, d1, d2, d3, d4, d5, d6⟩, ld⟩ := cells7 (H5.out.cells 2 rfl)); clear _h) | ((have _h := H3); go_at_call 13; refine (new_st H3.out.tail (some ⟨_, 0, none⟩) _ N (frL T nn nn ss N) (rowRd (H3.out.row 0 rfl) (frL_len _ _ _ _ _)) hNle HFR.out (frL_len _ _ _ _ _)).mono ?_; rintro e w4 ⟨q, rfl, h⟩; (have H4 := Lib.hid (h)); clear h; clear d0 d1 d2 d3 d4 d5 d6 ld; (obtain ⟨⟨d0, d1, d2, d3, d4, d5, d6⟩, ld⟩ := cells7 (H4.out.cells 1 rfl)); clear _h) | ((have _h := H2); go_at_call 44; refine (fresh_ok nn ss 0 5 T N H2.out HOKC.out HN.out HT.out t0 t1).mono ?_; rintro e w3 ⟨g, rfl, h⟩; (have H3 := Lib.hid (h)); clear h; clear d0 d1 d2 d3 d4 d5 d6 ld; (obtain ⟨⟨d0, d1, d2, d3, d4, d5, d6⟩, ld⟩ := cells7 (H3.out.cells 1 rfl)); clear _h) | ((have _h := H1); go_at_call 43; refine (cfg21_is a0 a1 a2 1 nn ss bud base _ HNN.out HSS.out HBU.out HBA.out a00 a01 a10 a11 a20 a21 (by decide) (by decide)).mono ?_; rintro e w2 ⟨rfl, hb⟩; (have H2 := Lib.hid (by have h0 := (H1.out.below hb).alloc #[.int .i64 (nn : Int), .int .i64 (ss : Int), .int .i64 0, .int .u32 5, .int .i64 bud, .int .i64 base, .int .u64 1152921504606846976] 27; rw [HWT.out] at h0; exact h0)); clear hb; rw [HWT.out]; (obtain ⟨⟨d0, d1, d2, d3, d4, d5, d6⟩, ld⟩ := cells7 (H2.out.cells 0 rfl)); clear _h) | ((have _h := H); go_at_call 42; refine (shown21 _).mono ?_; rintro e w1 ⟨rfl, hb⟩; (have H1 := Lib.hid (H.out.below hb)); clear hb; clear _h))
  obtain ⟨bc, hbc⟩ : ∃ bc, w2.heap.size = bc := ⟨_, rfl⟩
  simp only [hbc] at *
  have HREL := Lib.hid H5.out
  clear H1 H2 H3 H4 H5
  have HCS : Hid (∀ (L' : List Asn) (i : Nat) (w' : World), St w L' w' → L'[i]? = some (boxA bc #[.int .i64 (nn : Int), .int .i64 (ss : Int), .int .i64 0, .int .u32 5, .int .i64 bud, .int .i64 base, .int .u64 wt] 27) → w'.cell? ⟨bc, 0, none⟩ = some (.int .i64 (nn : Int)) ∧ w'.cell? ⟨bc, 1, none⟩ = some (.int .i64 (ss : Int)) ∧ w'.cell? ⟨bc, 2, none⟩ = some (.int .i64 0) ∧ w'.cell? ⟨bc, 3, none⟩ = some (.int .u32 5) ∧ w'.cell? ⟨bc, 4, none⟩ = some (.int .i64 bud) ∧ w'.cell? ⟨bc, 5, none⟩ = some (.int .i64 base) ∧ w'.cell? ⟨bc, 6, none⟩ = some (.int .u64 wt)) := Lib.hid fun L' i w' hh e1 => (cells7 (hh.cells i e1)).1
  go_loopg [16, 17] (m + 1) (fun kq y z w' => ∃ (i : Nat) (l f V : List Int) (T0 T1 : Int) (ws : List Int) (ns : List Note) (ln : Nat), y = .int .i64 ln ∧ z = .int .i64 i ∧ i + kq = m + 1 ∧ i ≤ m ∧ Two nn N T ws l f V T0 T1 ∧ l.length + f.length = nn ∧ l.length = ln ∧ ns.length ≤ 7 * i ∧ St w [memA q ws ns, srcA r 0 [], boxA bc #[.int .i64 (nn : Int), .int .i64 (ss : Int), .int .i64 0, .int .u32 5, .int .i64 bud, .int .i64 base, .int .u64 wt] 27] w')
  case atStart => exact ⟨0, [], upL 1 nn, [], 5, 5, _, [], 0, rfl, rfl, by omega, by omega, HTW.out, HUP.out, rfl, Nat.le_refl _, HREL.out⟩
  case round =>
    obtain ⟨i, l, f, V, T0, T1, ws, ns, ln, rfl, rfl, hkq, hile, htw, hlf, hln, hns, hS⟩ := hrel
    have Z := Lib.hid hS
    have HT2 := Lib.hid htw
    have HLF := Lib.hid hlf
    have HLN := Lib.hid hln
    have hn6 : ns.length ≤ 1000000 := by omega
    have lnn : ln ≤ nn := by omega
    obtain ⟨⟨d0, d1, d2, d3, d4, d5, d6⟩, ld⟩ := cells7 (hS.cells 2 rfl)
    clear hS htw hlf hln
    cases gk with
    | zero => omega
    | succ kk =>
      by_cases him : i < m
      · have cI : decide ((i : Int) < (m : Int)) = true := decide_eq_true (by omega)
        have i0 : (0 : Int) ≤ (i : Int) := by omega
        have i1 : (i : Int) < (m : Int) := by omega
        have i2 : (i : Int) < 18446744073709551616 := by omega
        have ew : IntKind.u64.wrap (i : Int) = (i : Int) := by rw [IntKind.wrap_u64]; omega
        have e17 : IntKind.i64.wrap ((i : Int) + 1) = ((i + 1 : Nat) : Int) := by rw [IntKind.wrap_i64]; omega
        obtain ⟨ad, hA, hcI⟩ := HF.out.2 i him
        have HCI := Lib.hid hcI
        clear hcI
        subst hA
        go_upto_region 12 with (fail)
        go_region_held3 (fun w' => w'.cell? ⟨bc, 0, none⟩ = some (.int .i64 (nn : Int)) ∧ w'.cell? ⟨bc, 1, none⟩ = some (.int .i64 (ss : Int)) ∧ w'.cell? ⟨bc, 2, none⟩ = some (.int .i64 0) ∧ w'.cell? ⟨bc, 3, none⟩ = some (.int .u32 5) ∧ w'.cell? ⟨bc, 4, none⟩ = some (.int .i64 bud) ∧ w'.cell? ⟨bc, 5, none⟩ = some (.int .i64 base) ∧ w'.cell? ⟨bc, 6, none⟩ = some (.int .u64 wt)) (first | exact HCS.out _ 2 _ Z10.out.tail rfl | first | exact HCS.out _ 2 _ (Z.out.drew.below HB1.out) rfl | exact HCS.out _ 2 _ Z.out.drew rfl | exact HCS.out _ 2 _ Z.out rfl) (first | ((have _h := HB1); go_at_call 17; refine (make_pop nn ss 0 5 bud base wt rg 0 0 HSTE.out (Z.out.drew.below HB1.out)).mono ?_; rintro e u2 ⟨po, rfl, h⟩; (have Z10 := Lib.hid h); clear h _h) | (go_at_call 24; refine (fresh_is nn ss 0 5 bud base wt rg 0 _ HRG.out (by decide)).mono ?_; rintro e u1 ⟨rfl, hb⟩; (have HB1 := Lib.hid hb); clear hb))
        have Z1 := Lib.hid (show St w [memA q ws ns, srcA r 0 [], opA po _, boxA bc _ _] _ from (show St w (opA po _ :: memA q ws ns :: srcA r 0 [] :: boxA bc _ _ :: []) _ from Z10.out).re 3 [1, 2, 0])
        clear Z10 HB1
        clear d0 d1 d2 d3 d4 d5 d6 ld; (obtain ⟨⟨d0, d1, d2, d3, d4, d5, d6⟩, ld⟩ := cells7 (Z1.out.cells 3 rfl))
        (have hcI := (Z1.out.bel.cell (World.block_lt_of_cell? _ _ HCI.out)).trans HCI.out)
        have c77 : decide (bq < 7) = false := decide_eq_false (by omega)
        have c71 : decide (bq < 1) = false := decide_eq_false (by omega)
        have cp7 : decide (bp < 7) = false := decide_eq_false (by omega)
        have cp1 : decide (bp < 1) = false := decide_eq_false (by omega)
        cases hFi : F i with
        | true =>
          rw [hFi] at HCI hcI
          go_upto_region 16 with (first | ((have _h := Z1); go_at_call 45; refine (b_pop nn ss 0 5 bud base wt _ HOE.out).mono ?_; rintro e u3 ⟨rfl, hb⟩; rw [HBQ.out]; (have Z2 := Lib.hid (Z1.out.below hb)); clear hb; clear d0 d1 d2 d3 d4 d5 d6 ld; (obtain ⟨⟨d0, d1, d2, d3, d4, d5, d6⟩, ld⟩ := cells7 (Z2.out.cells 3 rfl)); (clear hcI); (have hcI := (Z2.out.bel.cell (World.block_lt_of_cell? _ _ HCI.out)).trans HCI.out); clear _h))
          go_region_held3 (fun w' => w'.cell? ⟨bc, 0, none⟩ = some (.int .i64 (nn : Int)) ∧ w'.cell? ⟨bc, 1, none⟩ = some (.int .i64 (ss : Int)) ∧ w'.cell? ⟨bc, 2, none⟩ = some (.int .i64 0) ∧ w'.cell? ⟨bc, 3, none⟩ = some (.int .u32 5) ∧ w'.cell? ⟨bc, 4, none⟩ = some (.int .i64 bud) ∧ w'.cell? ⟨bc, 5, none⟩ = some (.int .i64 base) ∧ w'.cell? ⟨bc, 6, none⟩ = some (.int .u64 wt)) (first | exact HCS.out _ 3 _ Z30.out.tail rfl | first | exact HCS.out _ 3 _ (Z2.out.drew.below HB3.out) rfl | exact HCS.out _ 3 _ Z2.out.drew rfl | exact HCS.out _ 3 _ Z2.out rfl) (first | ((have _h := HB3); go_at_call 16; refine (make_push nn ss 0 5 bud base wt rg 0 (i : Int) HSTE.out (Z2.out.drew.below HB3.out)).mono ?_; rintro e u5 ⟨pu, rfl, h⟩; (have Z30 := Lib.hid h); clear h _h) | (go_at_call 24; refine (fresh_is nn ss 0 5 bud base wt rg 0 _ HRG.out (by decide)).mono ?_; rintro e u4 ⟨rfl, hb⟩; (have HB3 := Lib.hid hb); clear hb))
          have Z3 := Lib.hid (show St w [memA q ws ns, srcA r 0 [], opA pu _, opA po _, boxA bc _ _] _ from (show St w (opA pu _ :: memA q ws ns :: srcA r 0 [] :: opA po _ :: boxA bc _ _ :: []) _ from Z30.out).re 3 [1, 2, 0])
          clear Z30 HB3
          clear d0 d1 d2 d3 d4 d5 d6 ld; (obtain ⟨⟨d0, d1, d2, d3, d4, d5, d6⟩, ld⟩ := cells7 (Z3.out.cells 4 rfl))
          clear hcI
          (have hcI := (Z3.out.bel.cell (World.block_lt_of_cell? _ _ HCI.out)).trans HCI.out)
          by_cases hfull : ln = nn
          · have cN : ((ln : Int) == (nn : Int)) = true := by simp; omega
            go_wp2_with (first | ((have _h := Z3); go_at_call 46; refine (b_push nn ss 0 5 bud base wt _ HOE.out).mono ?_; rintro e u6 ⟨rfl, hb⟩; rw [HBP.out]; (have Z4 := Lib.hid (Z3.out.below hb)); clear hb; clear d0 d1 d2 d3 d4 d5 d6 ld; (obtain ⟨⟨d0, d1, d2, d3, d4, d5, d6⟩, ld⟩ := cells7 (Z4.out.cells 4 rfl)); (clear hcI); (have hcI := (Z4.out.bel.cell (World.block_lt_of_cell? _ _ HCI.out)).trans HCI.out); clear _h))
            obtain ⟨Se, we, le, fe, Ve, T0e, T1e, hrun, htwe, hfe, hle⟩ := run_len true ss 5 bud base wt rg 0 (i : Int) HOK0.out hN2 i0 i2 HT2.out nn HLF.out 1 ln (by rw [HLN.out]; simp; omega) (by rw [HLN.out]; simp)
            have HRUN := Lib.hid hrun
            have HTWE := Lib.hid htwe
            have HFE := Lib.hid hfe
            have HLE := Lib.hid hle
            have HOKO := Lib.hid (opN_ok true ws.length ns.length b0 b1 x0 x1 y0 y1 i0 i2 : (opN true nn ss 0 5 bud base wt rg 0 (i : Int)).ok ws.length ns.length)
            clear hrun htwe hfe hle
            go_loopg [21] 1 (fun kq z w' => ∃ (j : Nat) (Sj : OM) (wj : List Int) (nt : List Note), z = .int .i64 (j : Int) ∧ j + kq = 1 ∧ nt.length ≤ j ∧ wj.length = ws.length ∧ Sj.ok ws.length (ns.length + nt.length) ∧ RunO kq Sj wj Se we ∧ St w (memA q wj (ns ++ nt) :: srcA r 0 [] :: opA pu Sj :: opA po (opN false nn ss 0 5 bud base wt rg 0 0) :: boxA bc #[.int .i64 (nn : Int), .int .i64 (ss : Int), .int .i64 0, .int .u32 5, .int .i64 bud, .int .i64 base, .int .u64 wt] 27 :: []) w')
            case atStart => exact ⟨0, _, ws, [], rfl, rfl, Nat.le_refl _, rfl, HOKO.out, HRUN.out, by rw [List.append_nil]; exact Z4.out⟩
            case round =>
              obtain ⟨j, Sj, wj, nt, rfl, hj, hnt, hlen, hok, hrun, hS⟩ := hrel
              have HS := Lib.hid hS
              have hrg := fun i (hi : i < wj.length) => hS.rng hi
              have hpos := hrun.pos
              obtain ⟨M, hM⟩ : ∃ M, ns ++ nt = M := ⟨_, rfl⟩
              have hML : M.length = ns.length + nt.length := by rw [← hM, List.length_append]
              have hC7 : M.length ≤ 1000000000000 := by omega
              rw [hM] at HS
              have HOj : Hid (Sj.ok wj.length M.length) := Lib.hid (by rw [hlen, hML]; exact hok)
              have c1 : decide ((j : Int) < 100) = true := decide_eq_true (by omega)
              have ej : IntKind.i64.wrap ((j : Int) + 1) = ((j + 1 : Nat) : Int) := by rw [IntKind.wrap_i64]; omega
              clear hS
              cases gk with
              | zero => omega
              | succ kk2 =>
                rcases hrun.inv with ⟨hrem, rr, n1', hst, hr0, hn1⟩ | ⟨kk', S1, ws1, n1', hrem, hst, hn1, hrest⟩
                · obtain ⟨hok1, hlen1⟩ := OM.step_ok [] HOj.out (Int.le_refl 0) (by decide) hrg
                  have hst2 := OM.step_st Sj wj 0 []
                  rw [hst 0 []] at hok1 hlen1 hst2
                  have HE := Lib.hid (hst 0 [])
                  have HN3 := Lib.hid (show M ++ n1' = M ++ n1' from rfl)
                  have b1' : (rr != 0) = true := by simpa using hr0
                  obtain ⟨vt, hvt⟩ : ∃ vt, Se.told rr = vt := ⟨_, rfl⟩
                  have HV := Lib.hid hvt
                  have ej7 : IntKind.i64.wrap ((j : Int) + 1) = 1 := by rw [IntKind.wrap_i64]; omega
                  have hMn : (M ++ n1').length ≤ ns.length + 7 := by rw [List.length_append]; omega
                  have HMN := Lib.hid hMn
                  clear hok1 hlen1 hst2 hst hr0 hn1 hok hrun hM hML hrg hnt hlen hpos hrem hvt hMn ej hj
                  go_wp2_with (go_at_call 18; refine (op_step HE.out HN3.out HV.out HS.out HOj.out HDS.out (Int.le_refl 0) (by decide) hC7).mono ?_; rintro e w8 ⟨rfl, h⟩; (have H8 := Lib.hid h); clear h)
                  go_roundg kk
                  case measure => omega
                  case rel => exact ⟨i + 1, le, fe, Ve, T0e, T1e, we, M ++ n1', ln, by first | rfl | (rw [hfull]; rfl) | (rw [hfull]), by rfl, by omega, by omega, HTWE.out, HFE.out, HLE.out, by have := HMN.out; omega, (show St w [memA q we (M ++ n1'), srcA r 0 [], boxA bc _ _] _ from (show St w (memA q we (M ++ n1') :: srcA r 0 [] :: opA _ Se :: opA _ _ :: boxA bc _ _ :: []) _ from H8.out).re 5 [0, 1, 4])⟩
                · obtain ⟨hok1, hlen1⟩ := OM.step_ok [] HOj.out (Int.le_refl 0) (by decide) hrg
                  rw [hst 0 []] at hok1 hlen1
                  obtain rfl : kk2 = kk' := by omega
                  have HE := Lib.hid (hst 0 [])
                  have HN3 := Lib.hid (show M ++ n1' = M ++ n1' from rfl)
                  have HT0 : Hid (S1.told 0 = 0) := Lib.hid (by unfold OM.told; rw [if_pos (.inr (by decide))])
                  have HF2 := Lib.hid (show (nt ++ n1').length ≤ j + 1 ∧ ws1.length = ws.length ∧ S1.ok ws.length (ns.length + (nt ++ n1').length) ∧ ns ++ (nt ++ n1') = M ++ n1' ∧ RunO kk2 S1 ws1 Se we from ⟨by rw [List.length_append]; omega, hlen1.trans hlen, by rw [List.length_append, ← Nat.add_assoc, ← hML, ← hlen]; exact hok1, by rw [← List.append_assoc, hM], hrest⟩)
                  clear hok1 hlen1 hst hn1 hok hrun hM hML hrg hnt hlen hpos hrem hrest
                  go_wp2_with (go_at_call 18; refine (op_step HE.out HN3.out HT0.out HS.out HOj.out HDS.out (Int.le_refl 0) (by decide) hC7).mono ?_; rintro e w8 ⟨rfl, h⟩; (have H8 := Lib.hid h); clear h)
                  go_roundg kk2
                  case measure => omega
                  case rel =>
                    obtain ⟨f1, f2, f3, f4, f5⟩ := HF2.out
                    exact ⟨j + 1, S1, ws1, nt ++ n1', by rfl, by omega, f1, f2, f3, f5, by rw [f4]; exact H8.out⟩
          · have cN : ((ln : Int) == (nn : Int)) = false := by simp; omega
            have e16 : IntKind.i64.wrap ((ln : Int) + 1) = ((ln + 1 : Nat) : Int) := by rw [IntKind.wrap_i64]; omega
            go_wp2_with (first | ((have _h := Z3); go_at_call 46; refine (b_push nn ss 0 5 bud base wt _ HOE.out).mono ?_; rintro e u6 ⟨rfl, hb⟩; rw [HBP.out]; (have Z4 := Lib.hid (Z3.out.below hb)); clear hb; clear d0 d1 d2 d3 d4 d5 d6 ld; (obtain ⟨⟨d0, d1, d2, d3, d4, d5, d6⟩, ld⟩ := cells7 (Z4.out.cells 4 rfl)); (clear hcI); (have hcI := (Z4.out.bel.cell (World.block_lt_of_cell? _ _ HCI.out)).trans HCI.out); clear _h))
            obtain ⟨Se, we, le, fe, Ve, T0e, T1e, hrun, htwe, hfe, hle⟩ := run_len true ss 5 bud base wt rg 0 (i : Int) HOK0.out hN2 i0 i2 HT2.out nn HLF.out 7 (ln + 1) (by rw [HLN.out]; simp; omega) (by rw [HLN.out]; simp)
            have HRUN := Lib.hid hrun
            have HTWE := Lib.hid htwe
            have HFE := Lib.hid hfe
            have HLE := Lib.hid hle
            have HOKO := Lib.hid (opN_ok true ws.length ns.length b0 b1 x0 x1 y0 y1 i0 i2 : (opN true nn ss 0 5 bud base wt rg 0 (i : Int)).ok ws.length ns.length)
            clear hrun htwe hfe hle
            go_loopg [21] 7 (fun kq z w' => ∃ (j : Nat) (Sj : OM) (wj : List Int) (nt : List Note), z = .int .i64 (j : Int) ∧ j + kq = 7 ∧ nt.length ≤ j ∧ wj.length = ws.length ∧ Sj.ok ws.length (ns.length + nt.length) ∧ RunO kq Sj wj Se we ∧ St w (memA q wj (ns ++ nt) :: srcA r 0 [] :: opA pu Sj :: opA po (opN false nn ss 0 5 bud base wt rg 0 0) :: boxA bc #[.int .i64 (nn : Int), .int .i64 (ss : Int), .int .i64 0, .int .u32 5, .int .i64 bud, .int .i64 base, .int .u64 wt] 27 :: []) w')
            case atStart => exact ⟨0, _, ws, [], rfl, rfl, Nat.le_refl _, rfl, HOKO.out, HRUN.out, by rw [List.append_nil]; exact Z4.out⟩
            case round =>
              obtain ⟨j, Sj, wj, nt, rfl, hj, hnt, hlen, hok, hrun, hS⟩ := hrel
              have HS := Lib.hid hS
              have hrg := fun i (hi : i < wj.length) => hS.rng hi
              have hpos := hrun.pos
              obtain ⟨M, hM⟩ : ∃ M, ns ++ nt = M := ⟨_, rfl⟩
              have hML : M.length = ns.length + nt.length := by rw [← hM, List.length_append]
              have hC7 : M.length ≤ 1000000000000 := by omega
              rw [hM] at HS
              have HOj : Hid (Sj.ok wj.length M.length) := Lib.hid (by rw [hlen, hML]; exact hok)
              have c1 : decide ((j : Int) < 100) = true := decide_eq_true (by omega)
              have ej : IntKind.i64.wrap ((j : Int) + 1) = ((j + 1 : Nat) : Int) := by rw [IntKind.wrap_i64]; omega
              clear hS
              cases gk with
              | zero => omega
              | succ kk2 =>
                rcases hrun.inv with ⟨hrem, rr, n1', hst, hr0, hn1⟩ | ⟨kk', S1, ws1, n1', hrem, hst, hn1, hrest⟩
                · obtain ⟨hok1, hlen1⟩ := OM.step_ok [] HOj.out (Int.le_refl 0) (by decide) hrg
                  have hst2 := OM.step_st Sj wj 0 []
                  rw [hst 0 []] at hok1 hlen1 hst2
                  have HE := Lib.hid (hst 0 [])
                  have HN3 := Lib.hid (show M ++ n1' = M ++ n1' from rfl)
                  have b1' : (rr != 0) = true := by simpa using hr0
                  obtain ⟨vt, hvt⟩ : ∃ vt, Se.told rr = vt := ⟨_, rfl⟩
                  have HV := Lib.hid hvt
                  have ej7 : IntKind.i64.wrap ((j : Int) + 1) = 7 := by rw [IntKind.wrap_i64]; omega
                  have hMn : (M ++ n1').length ≤ ns.length + 7 := by rw [List.length_append]; omega
                  have HMN := Lib.hid hMn
                  clear hok1 hlen1 hst2 hst hr0 hn1 hok hrun hM hML hrg hnt hlen hpos hrem hvt hMn ej hj
                  go_wp2_with (go_at_call 18; refine (op_step HE.out HN3.out HV.out HS.out HOj.out HDS.out (Int.le_refl 0) (by decide) hC7).mono ?_; rintro e w8 ⟨rfl, h⟩; (have H8 := Lib.hid h); clear h)
                  go_roundg kk
                  case measure => omega
                  case rel => exact ⟨i + 1, le, fe, Ve, T0e, T1e, we, M ++ n1', (ln + 1), by first | rfl | (rw [hfull]; rfl) | (rw [hfull]), by rfl, by omega, by omega, HTWE.out, HFE.out, HLE.out, by have := HMN.out; omega, (show St w [memA q we (M ++ n1'), srcA r 0 [], boxA bc _ _] _ from (show St w (memA q we (M ++ n1') :: srcA r 0 [] :: opA _ Se :: opA _ _ :: boxA bc _ _ :: []) _ from H8.out).re 5 [0, 1, 4])⟩
                · obtain ⟨hok1, hlen1⟩ := OM.step_ok [] HOj.out (Int.le_refl 0) (by decide) hrg
                  rw [hst 0 []] at hok1 hlen1
                  obtain rfl : kk2 = kk' := by omega
                  have HE := Lib.hid (hst 0 [])
                  have HN3 := Lib.hid (show M ++ n1' = M ++ n1' from rfl)
                  have HT0 : Hid (S1.told 0 = 0) := Lib.hid (by unfold OM.told; rw [if_pos (.inr (by decide))])
                  have HF2 := Lib.hid (show (nt ++ n1').length ≤ j + 1 ∧ ws1.length = ws.length ∧ S1.ok ws.length (ns.length + (nt ++ n1').length) ∧ ns ++ (nt ++ n1') = M ++ n1' ∧ RunO kk2 S1 ws1 Se we from ⟨by rw [List.length_append]; omega, hlen1.trans hlen, by rw [List.length_append, ← Nat.add_assoc, ← hML, ← hlen]; exact hok1, by rw [← List.append_assoc, hM], hrest⟩)
                  clear hok1 hlen1 hst hn1 hok hrun hM hML hrg hnt hlen hpos hrem hrest
                  go_wp2_with (go_at_call 18; refine (op_step HE.out HN3.out HT0.out HS.out HOj.out HDS.out (Int.le_refl 0) (by decide) hC7).mono ?_; rintro e w8 ⟨rfl, h⟩; (have H8 := Lib.hid h); clear h)
                  go_roundg kk2
                  case measure => omega
                  case rel =>
                    obtain ⟨f1, f2, f3, f4, f5⟩ := HF2.out
                    exact ⟨j + 1, S1, ws1, nt ++ n1', by rfl, by omega, f1, f2, f3, f5, by rw [f4]; exact H8.out⟩
        | false =>
          rw [hFi] at HCI hcI
          by_cases hfull : ln = 0
          · have cN : ((ln : Int) == 0) = true := by simp; omega
            go_wp2_with (first | ((have _h := Z1); go_at_call 45; refine (b_pop nn ss 0 5 bud base wt _ HOE.out).mono ?_; rintro e u3 ⟨rfl, hb⟩; rw [HBQ.out]; (have Z2 := Lib.hid (Z1.out.below hb)); clear hb; clear d0 d1 d2 d3 d4 d5 d6 ld; (obtain ⟨⟨d0, d1, d2, d3, d4, d5, d6⟩, ld⟩ := cells7 (Z2.out.cells 3 rfl)); (clear hcI); (have hcI := (Z2.out.bel.cell (World.block_lt_of_cell? _ _ HCI.out)).trans HCI.out); clear _h))
            obtain ⟨Se, we, le, fe, Ve, T0e, T1e, hrun, htwe, hfe, hle⟩ := run_len false ss 5 bud base wt rg 0 0 HOK0.out hN2 (by decide) (by decide) HT2.out nn HLF.out 1 ln (by rw [HLN.out]; simp; omega) (by rw [HLN.out]; simp)
            have HRUN := Lib.hid hrun
            have HTWE := Lib.hid htwe
            have HFE := Lib.hid hfe
            have HLE := Lib.hid hle
            have HOKO := Lib.hid (opN_ok false ws.length ns.length b0 b1 x0 x1 y0 y1 (by decide) (by decide) : (opN false nn ss 0 5 bud base wt rg 0 0).ok ws.length ns.length)
            clear hrun htwe hfe hle
            go_loopg [21] 1 (fun kq z w' => ∃ (j : Nat) (Sj : OM) (wj : List Int) (nt : List Note), z = .int .i64 (j : Int) ∧ j + kq = 1 ∧ nt.length ≤ j ∧ wj.length = ws.length ∧ Sj.ok ws.length (ns.length + nt.length) ∧ RunO kq Sj wj Se we ∧ St w (memA q wj (ns ++ nt) :: srcA r 0 [] :: opA po Sj :: boxA bc #[.int .i64 (nn : Int), .int .i64 (ss : Int), .int .i64 0, .int .u32 5, .int .i64 bud, .int .i64 base, .int .u64 wt] 27 :: []) w')
            case atStart => exact ⟨0, _, ws, [], rfl, rfl, Nat.le_refl _, rfl, HOKO.out, HRUN.out, by rw [List.append_nil]; exact Z2.out⟩
            case round =>
              obtain ⟨j, Sj, wj, nt, rfl, hj, hnt, hlen, hok, hrun, hS⟩ := hrel
              have HS := Lib.hid hS
              have hrg := fun i (hi : i < wj.length) => hS.rng hi
              have hpos := hrun.pos
              obtain ⟨M, hM⟩ : ∃ M, ns ++ nt = M := ⟨_, rfl⟩
              have hML : M.length = ns.length + nt.length := by rw [← hM, List.length_append]
              have hC7 : M.length ≤ 1000000000000 := by omega
              rw [hM] at HS
              have HOj : Hid (Sj.ok wj.length M.length) := Lib.hid (by rw [hlen, hML]; exact hok)
              have c1 : decide ((j : Int) < 100) = true := decide_eq_true (by omega)
              have ej : IntKind.i64.wrap ((j : Int) + 1) = ((j + 1 : Nat) : Int) := by rw [IntKind.wrap_i64]; omega
              clear hS
              cases gk with
              | zero => omega
              | succ kk2 =>
                rcases hrun.inv with ⟨hrem, rr, n1', hst, hr0, hn1⟩ | ⟨kk', S1, ws1, n1', hrem, hst, hn1, hrest⟩
                · obtain ⟨hok1, hlen1⟩ := OM.step_ok [] HOj.out (Int.le_refl 0) (by decide) hrg
                  have hst2 := OM.step_st Sj wj 0 []
                  rw [hst 0 []] at hok1 hlen1 hst2
                  have HE := Lib.hid (hst 0 [])
                  have HN3 := Lib.hid (show M ++ n1' = M ++ n1' from rfl)
                  have b1' : (rr != 0) = true := by simpa using hr0
                  obtain ⟨vt, hvt⟩ : ∃ vt, Se.told rr = vt := ⟨_, rfl⟩
                  have HV := Lib.hid hvt
                  have ej7 : IntKind.i64.wrap ((j : Int) + 1) = 1 := by rw [IntKind.wrap_i64]; omega
                  have hMn : (M ++ n1').length ≤ ns.length + 7 := by rw [List.length_append]; omega
                  have HMN := Lib.hid hMn
                  clear hok1 hlen1 hst2 hst hr0 hn1 hok hrun hM hML hrg hnt hlen hpos hrem hvt hMn ej hj
                  go_wp2_with (go_at_call 18; refine (op_step HE.out HN3.out HV.out HS.out HOj.out HDS.out (Int.le_refl 0) (by decide) hC7).mono ?_; rintro e w8 ⟨rfl, h⟩; (have H8 := Lib.hid h); clear h)
                  go_roundg kk
                  case measure => omega
                  case rel => exact ⟨i + 1, le, fe, Ve, T0e, T1e, we, M ++ n1', ln, by first | rfl | (rw [hfull]; rfl) | (rw [hfull]), by rfl, by omega, by omega, HTWE.out, HFE.out, HLE.out, by have := HMN.out; omega, (show St w [memA q we (M ++ n1'), srcA r 0 [], boxA bc _ _] _ from (show St w (memA q we (M ++ n1') :: srcA r 0 [] :: opA _ Se :: boxA bc _ _ :: []) _ from H8.out).re 4 [0, 1, 3])⟩
                · obtain ⟨hok1, hlen1⟩ := OM.step_ok [] HOj.out (Int.le_refl 0) (by decide) hrg
                  rw [hst 0 []] at hok1 hlen1
                  obtain rfl : kk2 = kk' := by omega
                  have HE := Lib.hid (hst 0 [])
                  have HN3 := Lib.hid (show M ++ n1' = M ++ n1' from rfl)
                  have HT0 : Hid (S1.told 0 = 0) := Lib.hid (by unfold OM.told; rw [if_pos (.inr (by decide))])
                  have HF2 := Lib.hid (show (nt ++ n1').length ≤ j + 1 ∧ ws1.length = ws.length ∧ S1.ok ws.length (ns.length + (nt ++ n1').length) ∧ ns ++ (nt ++ n1') = M ++ n1' ∧ RunO kk2 S1 ws1 Se we from ⟨by rw [List.length_append]; omega, hlen1.trans hlen, by rw [List.length_append, ← Nat.add_assoc, ← hML, ← hlen]; exact hok1, by rw [← List.append_assoc, hM], hrest⟩)
                  clear hok1 hlen1 hst hn1 hok hrun hM hML hrg hnt hlen hpos hrem hrest
                  go_wp2_with (go_at_call 18; refine (op_step HE.out HN3.out HT0.out HS.out HOj.out HDS.out (Int.le_refl 0) (by decide) hC7).mono ?_; rintro e w8 ⟨rfl, h⟩; (have H8 := Lib.hid h); clear h)
                  go_roundg kk2
                  case measure => omega
                  case rel =>
                    obtain ⟨f1, f2, f3, f4, f5⟩ := HF2.out
                    exact ⟨j + 1, S1, ws1, nt ++ n1', by rfl, by omega, f1, f2, f3, f5, by rw [f4]; exact H8.out⟩
          · have cN : ((ln : Int) == 0) = false := by simp; omega
            have e16 : IntKind.i64.wrap ((ln : Int) - 1) = ((ln - 1 : Nat) : Int) := by rw [IntKind.wrap_i64]; omega
            go_wp2_with (first | ((have _h := Z1); go_at_call 45; refine (b_pop nn ss 0 5 bud base wt _ HOE.out).mono ?_; rintro e u3 ⟨rfl, hb⟩; rw [HBQ.out]; (have Z2 := Lib.hid (Z1.out.below hb)); clear hb; clear d0 d1 d2 d3 d4 d5 d6 ld; (obtain ⟨⟨d0, d1, d2, d3, d4, d5, d6⟩, ld⟩ := cells7 (Z2.out.cells 3 rfl)); (clear hcI); (have hcI := (Z2.out.bel.cell (World.block_lt_of_cell? _ _ HCI.out)).trans HCI.out); clear _h))
            obtain ⟨Se, we, le, fe, Ve, T0e, T1e, hrun, htwe, hfe, hle⟩ := run_len false ss 5 bud base wt rg 0 0 HOK0.out hN2 (by decide) (by decide) HT2.out nn HLF.out 7 (ln - 1) (by rw [HLN.out]; simp; omega) (by rw [HLN.out]; simp)
            have HRUN := Lib.hid hrun
            have HTWE := Lib.hid htwe
            have HFE := Lib.hid hfe
            have HLE := Lib.hid hle
            have HOKO := Lib.hid (opN_ok false ws.length ns.length b0 b1 x0 x1 y0 y1 (by decide) (by decide) : (opN false nn ss 0 5 bud base wt rg 0 0).ok ws.length ns.length)
            clear hrun htwe hfe hle
            go_loopg [21] 7 (fun kq z w' => ∃ (j : Nat) (Sj : OM) (wj : List Int) (nt : List Note), z = .int .i64 (j : Int) ∧ j + kq = 7 ∧ nt.length ≤ j ∧ wj.length = ws.length ∧ Sj.ok ws.length (ns.length + nt.length) ∧ RunO kq Sj wj Se we ∧ St w (memA q wj (ns ++ nt) :: srcA r 0 [] :: opA po Sj :: boxA bc #[.int .i64 (nn : Int), .int .i64 (ss : Int), .int .i64 0, .int .u32 5, .int .i64 bud, .int .i64 base, .int .u64 wt] 27 :: []) w')
            case atStart => exact ⟨0, _, ws, [], rfl, rfl, Nat.le_refl _, rfl, HOKO.out, HRUN.out, by rw [List.append_nil]; exact Z2.out⟩
            case round =>
              obtain ⟨j, Sj, wj, nt, rfl, hj, hnt, hlen, hok, hrun, hS⟩ := hrel
              have HS := Lib.hid hS
              have hrg := fun i (hi : i < wj.length) => hS.rng hi
              have hpos := hrun.pos
              obtain ⟨M, hM⟩ : ∃ M, ns ++ nt = M := ⟨_, rfl⟩
              have hML : M.length = ns.length + nt.length := by rw [← hM, List.length_append]
              have hC7 : M.length ≤ 1000000000000 := by omega
              rw [hM] at HS
              have HOj : Hid (Sj.ok wj.length M.length) := Lib.hid (by rw [hlen, hML]; exact hok)
              have c1 : decide ((j : Int) < 100) = true := decide_eq_true (by omega)
              have ej : IntKind.i64.wrap ((j : Int) + 1) = ((j + 1 : Nat) : Int) := by rw [IntKind.wrap_i64]; omega
              clear hS
              cases gk with
              | zero => omega
              | succ kk2 =>
                rcases hrun.inv with ⟨hrem, rr, n1', hst, hr0, hn1⟩ | ⟨kk', S1, ws1, n1', hrem, hst, hn1, hrest⟩
                · obtain ⟨hok1, hlen1⟩ := OM.step_ok [] HOj.out (Int.le_refl 0) (by decide) hrg
                  have hst2 := OM.step_st Sj wj 0 []
                  rw [hst 0 []] at hok1 hlen1 hst2
                  have HE := Lib.hid (hst 0 [])
                  have HN3 := Lib.hid (show M ++ n1' = M ++ n1' from rfl)
                  have b1' : (rr != 0) = true := by simpa using hr0
                  obtain ⟨vt, hvt⟩ : ∃ vt, Se.told rr = vt := ⟨_, rfl⟩
                  have HV := Lib.hid hvt
                  have ej7 : IntKind.i64.wrap ((j : Int) + 1) = 7 := by rw [IntKind.wrap_i64]; omega
                  have hMn : (M ++ n1').length ≤ ns.length + 7 := by rw [List.length_append]; omega
                  have HMN := Lib.hid hMn
                  clear hok1 hlen1 hst2 hst hr0 hn1 hok hrun hM hML hrg hnt hlen hpos hrem hvt hMn ej hj
                  go_wp2_with (go_at_call 18; refine (op_step HE.out HN3.out HV.out HS.out HOj.out HDS.out (Int.le_refl 0) (by decide) hC7).mono ?_; rintro e w8 ⟨rfl, h⟩; (have H8 := Lib.hid h); clear h)
                  go_roundg kk
                  case measure => omega
                  case rel => exact ⟨i + 1, le, fe, Ve, T0e, T1e, we, M ++ n1', (ln - 1), by first | rfl | (rw [hfull]; rfl) | (rw [hfull]), by rfl, by omega, by omega, HTWE.out, HFE.out, HLE.out, by have := HMN.out; omega, (show St w [memA q we (M ++ n1'), srcA r 0 [], boxA bc _ _] _ from (show St w (memA q we (M ++ n1') :: srcA r 0 [] :: opA _ Se :: boxA bc _ _ :: []) _ from H8.out).re 4 [0, 1, 3])⟩
                · obtain ⟨hok1, hlen1⟩ := OM.step_ok [] HOj.out (Int.le_refl 0) (by decide) hrg
                  rw [hst 0 []] at hok1 hlen1
                  obtain rfl : kk2 = kk' := by omega
                  have HE := Lib.hid (hst 0 [])
                  have HN3 := Lib.hid (show M ++ n1' = M ++ n1' from rfl)
                  have HT0 : Hid (S1.told 0 = 0) := Lib.hid (by unfold OM.told; rw [if_pos (.inr (by decide))])
                  have HF2 := Lib.hid (show (nt ++ n1').length ≤ j + 1 ∧ ws1.length = ws.length ∧ S1.ok ws.length (ns.length + (nt ++ n1').length) ∧ ns ++ (nt ++ n1') = M ++ n1' ∧ RunO kk2 S1 ws1 Se we from ⟨by rw [List.length_append]; omega, hlen1.trans hlen, by rw [List.length_append, ← Nat.add_assoc, ← hML, ← hlen]; exact hok1, by rw [← List.append_assoc, hM], hrest⟩)
                  clear hok1 hlen1 hst hn1 hok hrun hM hML hrg hnt hlen hpos hrem hrest
                  go_wp2_with (go_at_call 18; refine (op_step HE.out HN3.out HT0.out HS.out HOj.out HDS.out (Int.le_refl 0) (by decide) hC7).mono ?_; rintro e w8 ⟨rfl, h⟩; (have H8 := Lib.hid h); clear h)
                  go_roundg kk2
                  case measure => omega
                  case rel =>
                    obtain ⟨f1, f2, f3, f4, f5⟩ := HF2.out
                    exact ⟨j + 1, S1, ws1, nt ++ n1', by rfl, by omega, f1, f2, f3, f5, by rw [f4]; exact H8.out⟩
      · have cI : decide ((i : Int) < (m : Int)) = false := decide_eq_false (by omega)
        go_wp2
        go_ret
        exact ⟨rfl, Z.out.bel⟩
theorem boundAlone_walk (a0 a1 a2 : Int) (A : Option Addr) (m cap : Nat) (F : Nat → Bool) (w : World) (hx0 : (Lit.int .i64 a0).wf = true) (hx1 : (Lit.int .i64 a1).wf = true) (hx2 : (Lit.int .i64 a2).wf = true) (hF : RdB w A m F) :
    Calls Tryz.prog 8 #[.int .i64 a0, .int .i64 a1, .int .i64 a2, .slice A m cap] w fun e w' => e = .returned (.bool true) ∧ Below w.heap.size w w' := by
  by_cases h20 : 60 < m
  · exact balone_many a0 a1 a2 A m cap F w hx0 hx1 hx2 hF h20
  · exact balone_few a0 a1 a2 A m cap F w hx0 hx1 hx2 hF (by omega)
end Go.Proofs.YtgfeagggkplegaaGreat
