/-
  Chapter 13's laws: pick, config, a memory that begins, an operation alone, the example.
-/
import Derived.Test.YtgfeagggkplegaaGreatRunP
namespace Go.Proofs.YtgfeagggkplegaaGreat
open Go.RowKit
set_option linter.unusedVariables false
set_option linter.unusedSimpArgs false

theorem rowRd {w : World} {base N : Nat} {a : Option Addr} {c : Nat} {ws : List Int} (ho : w.ownsRow base 25 1 (.slice a N c) N (wsV ws)) (hl : ws.length = N) : RdU w a ws := by
  subst hl
  exact (row_rdU ho).1
theorem pick13_is (c n k : Int) (w : World) (hk : pickI c n = k) (h0 : 0 < n) (h1 : n < 9223372036854775808) (c0 : -9223372036854775808 ≤ c) (c1 : c < 9223372036854775808) :
    Calls Tryz.prog 25 #[.int .i64 c, .int .i64 n] w fun e w' => e = .returned (.int .i64 k) ∧ w = w' := by
  subst hk
  by_cases hc : c < 0
  · have e : pickI c n = (-(c + 1)) % n := by simp [pickI, hc]
    rw [e]
    have d0 : decide (c < 0) = true := decide_eq_true hc
    have b1 : 0 ≤ -(c + 1) := by omega
    have b2 : -(c + 1) < 9223372036854775808 := by omega
    have b3 : -9223372036854775808 ≤ c + 1 := by omega
    have b4 : (-(c + 1)).tmod n = (-(c + 1)) % n := Int.tmod_eq_emod_of_nonneg b1
    go_enter Tryz.func25, Tryz.ntmps25
    go_wp2
    go_ret
    exact ⟨rfl, rfl⟩
  · have e : pickI c n = c % n := by simp [pickI, hc]
    rw [e]
    have d0 : decide (c < 0) = false := decide_eq_false hc
    have b1 : 0 ≤ c := by omega
    go_enter Tryz.func25, Tryz.ntmps25
    go_wp2
    go_ret
    exact ⟨rfl, rfl⟩
theorem cfg13_is (a b c t n s bud base wait : Int) (w : World) (hn : 1 + pickI a 6 = n) (hs : pickI b 4 = s) (hb : pickI c 4 = bud) (hm : 1 + pickI c 3 = base) (hw : pickI b 7 = wait) (a0 : -9223372036854775808 ≤ a) (a1 : a < 9223372036854775808) (b0 : -9223372036854775808 ≤ b) (b1 : b < 9223372036854775808) (c0 : -9223372036854775808 ≤ c) (c1 : c < 9223372036854775808) :
    Calls Tryz.prog 22 #[.int .i64 a, .int .i64 b, .int .i64 c, .int .u32 t] w fun e w' => e = .returned (cfgE n s 0 t bud base wait) ∧ Below w.heap.size w w' := by
  have r1 := pickI_rng (c := a) (n := 6) (by decide)
  have r2 := pickI_rng (c := c) (n := 3) (by decide)
  have r3 := pickI_rng (c := b) (n := 7) (by decide)
  obtain ⟨k, hk⟩ : ∃ k, pickI a 6 = k := ⟨_, rfl⟩
  obtain ⟨m, hm2⟩ : ∃ m, pickI c 3 = m := ⟨_, rfl⟩
  rw [hk] at hn r1
  rw [hm2] at hm r2
  rw [hw] at r3
  obtain ⟨r0, r1⟩ := r1
  obtain ⟨r2, r4⟩ := r2
  obtain ⟨r3, r5⟩ := r3
  have HK := Lib.hid hk
  have HS := Lib.hid hs
  have HB := Lib.hid hb
  have HM := Lib.hid hm2
  have HW := Lib.hid hw
  clear hk hs hb hm2 hw
  subst hn hm
  have e1 : IntKind.i64.wrap (1 + k) = 1 + k := by rw [IntKind.wrap_i64]; omega
  have e2 : IntKind.i64.wrap (1 + m) = 1 + m := by rw [IntKind.wrap_i64]; omega
  have e3 : IntKind.u64.wrap wait = wait := by rw [IntKind.wrap_u64]; omega
  go_enter Tryz.func22, Tryz.ntmps22
  go_wp2_with (first | ((have _h := A4); go_at_call 25; refine (pick13_is b 7 wait _ HW.out (by decide) (by decide) b0 b1).mono ?_; rintro e w1 ⟨rfl, rfl⟩; (have A5 : True := trivial)) | ((have _h := A3); go_at_call 25; refine (pick13_is c 3 m _ HM.out (by decide) (by decide) c0 c1).mono ?_; rintro e w1 ⟨rfl, rfl⟩; (have A4 : True := trivial)) | ((have _h := A2); go_at_call 25; refine (pick13_is c 4 bud _ HB.out (by decide) (by decide) c0 c1).mono ?_; rintro e w1 ⟨rfl, rfl⟩; (have A3 : True := trivial)) | ((have _h := A1); go_at_call 25; refine (pick13_is b 4 s _ HS.out (by decide) (by decide) b0 b1).mono ?_; rintro e w1 ⟨rfl, rfl⟩; (have A2 : True := trivial)) | (go_at_call 25; refine (pick13_is a 6 k _ HK.out (by decide) (by decide) a0 a1).mono ?_; rintro e w1 ⟨rfl, rfl⟩; (have A1 : True := trivial)))
  go_returns
  exact ⟨rfl, by go_grown⟩
/-- A memory of a fresh config. -/
theorem begun13_is {w0 w : World} {L : List Asn} (nn ss : Nat) (t T : Int) (N : Nat) (hS : St w0 L w) (hok : okC (nn : Int) (ss : Int) ((0 : Nat) : Int) = true) (hN : N = 2 + 2 * nn + ss + 0) (hT : t * 4294967296 = T) (t0 : 0 ≤ t) (t1 : t < 4294967296) :
    Calls Tryz.prog 23 #[.agg #[.int .i64 nn, .int .i64 ss, .int .i64 0, .int .u32 t]] w fun e w' => ∃ q, e = .returned (.pointer (some ⟨q, 0, none⟩)) ∧ St w0 (memA q (frL T nn nn ss N) [] :: L) w' := by
  obtain ⟨b1, b2, b3, b4, _⟩ := okC_bounds hok
  have H := Lib.hid (hS.alloc #[.int .i64 nn, .int .i64 ss, .int .i64 0, .int .u32 t] 24)
  have HOK := Lib.hid hok
  have HN := Lib.hid hN
  have HT := Lib.hid hT
  have hN4 : N ≤ 1024 := by omega
  have HFR : Hid (∀ x ∈ frL T nn nn ss N, 0 ≤ x ∧ x < 18446744073709551616) := Lib.hid (frL_rng (by omega) (by omega) (by omega))
  obtain ⟨q0, q1, q2, q3⟩ := cells4 (H.out.cells 0 rfl)
  have lq := lt_of_heap (H.out.cells 0 rfl)
  clear hS hok hN hT
  go_enter Tryz.func23, Tryz.ntmps23
  go_wp2_with (first | ((have _h := H1); go_at_call 13; refine (new_st H1.out.tail (some ⟨_, 0, none⟩) _ N (frL T nn nn ss N) (rowRd (H1.out.row 0 rfl) (frL_len _ _ _ _ _)) hN4 HFR.out (frL_len _ _ _ _ _)).mono ?_; rintro e w2 ⟨q, rfl, h⟩; (have H2 := Lib.hid (h)); clear h; clear _h) | ((have _h := H); go_at_call 44; refine (fresh_ok nn ss 0 t T N H.out HOK.out HN.out HT.out t0 t1).mono ?_; rintro e w1 ⟨g, rfl, h⟩; (have H1 := Lib.hid (h)); clear h; clear _h))
  go_ret
  exact ⟨q, rfl, H2.out.drop1⟩
theorem OM.step_st (S : OM) (ws : List Int) (now : Int) (ds : List Int) : (S.step ws now ds).S.st = (S.step ws now ds).r := by
  unfold OM.step
  split <;> rfl
theorem RunO.st {m : Nat} {S S' : OM} {ws ws' : List Int} (h : RunO m S ws S' ws') : S'.st ≠ 0 := by
  induction h with
  | last h1 h2 h3 =>
    rename_i S S' ws ws' r nt
    have := OM.step_st S ws 0 []
    rw [h1 0 []] at this
    exact fun c => h2 (this.symm.trans c)
  | on h1 h2 h3 ih => exact ih
set_option maxRecDepth 100000 in
set_option maxHeartbeats 8000000 in
theorem alone13 {w0 w : World} {q p r : Nat} {ws ws' : List Int} {ns : List Note} {now : Int} {ds : List Int} {L : List Asn} {S S' : OM} {k : Nat} (a v : Int) (hr : RunO k S ws S' ws') (ha : S'.st = a) (hv : S'.told a = v) (hS : St w0 (memA q ws ns :: srcA r now ds :: opA p S :: L) w) (hok : S.ok ws.length ns.length) (hds : DsOk ds) (n0 : 0 ≤ now) (n1 : now < 18446744073709551616) (hk : ns.length ≤ 1000000) (hm : k ≤ 1000) :
    Calls Tryz.prog 29 #[.pointer (some ⟨p, 0, none⟩), .pointer (some ⟨q, 0, none⟩), .pointer (some ⟨r, 0, none⟩)] w fun e w' => e = .returned (.tuple #[.int .i64 a, .int .u64 v, .bool true]) ∧ ∃ nt, nt.length ≤ k ∧ ws'.length = ws.length ∧ S'.ok ws.length (ns.length + nt.length) ∧ St w0 (memA q ws' (ns ++ nt) :: srcA r now ds :: opA p S' :: L) w' := by
  have H := Lib.hid hS
  have HR := Lib.hid hr
  have HA := Lib.hid ha
  have HV := Lib.hid hv
  have HOK := Lib.hid hok
  clear hS hr hok ha hv
  go_enter Tryz.func29, Tryz.ntmps29
  go_wp2
  go_loopg [9] k (fun kq x w' => ∃ (j : Nat) (Sj : OM) (wj : List Int) (nt : List Note), x = .int .i64 (j : Int) ∧ j + kq = k ∧ nt.length ≤ j ∧ wj.length = ws.length ∧ Sj.ok ws.length (ns.length + nt.length) ∧ RunO kq Sj wj S' ws' ∧ St w0 (memA q wj (ns ++ nt) :: srcA r now ds :: opA p Sj :: L) w')
  case atStart => exact ⟨0, S, ws, [], rfl, by omega, Nat.le_refl _, rfl, HOK.out, HR.out, by rw [List.append_nil]; exact H.out⟩
  case round =>
    obtain ⟨j, Sj, wj, nt, rfl, hj, hnt, hlen, hok, hrun, hS⟩ := hrel
    have HS := Lib.hid hS
    have hrg := fun i (hi : i < wj.length) => hS.rng hi
    have hpos := hrun.pos
    obtain ⟨M, hM⟩ : ∃ M, ns ++ nt = M := ⟨_, rfl⟩
    have hML : M.length = ns.length + nt.length := by rw [← hM, List.length_append]
    have hC7 : M.length ≤ 1000000000000 := by omega
    rw [hM] at HS
    have HOj : Hid (Sj.ok wj.length M.length) := Lib.hid (by rw [hlen, hML]; exact hok)
    have c1 : decide ((j : Int) < 2000) = true := decide_eq_true (by omega)
    clear hS
    cases gk with
    | zero => omega
    | succ kk =>
      rcases hrun.inv with ⟨hrem, rr, n1', hst, hr0, hn1⟩ | ⟨kk', S1, ws1, n1', hrem, hst, hn1, hrest⟩
      · obtain ⟨hok1, hlen1⟩ := OM.step_ok ds HOj.out n0 n1 hrg
        have hst2 := OM.step_st Sj wj now ds
        rw [hst now ds] at hok1 hlen1 hst2
        obtain rfl : rr = a := by rw [← HA.out]; exact hst2.symm
        have HE := Lib.hid (hst now ds)
        have HN := Lib.hid (show M ++ n1' = M ++ n1' from rfl)
        have b1 : (rr != 0) = true := by simpa using hr0
        have HF := Lib.hid (show (nt ++ n1').length ≤ k ∧ ws'.length = ws.length ∧ S'.ok ws.length (ns.length + (nt ++ n1').length) ∧ ns ++ (nt ++ n1') = M ++ n1' from ⟨by rw [List.length_append]; omega, hlen1.trans hlen, by rw [List.length_append, ← Nat.add_assoc, ← hML, ← hlen]; exact hok1, by rw [← List.append_assoc, hM]⟩)
        clear hok1 hlen1 hst2 hst hr0 hn1 hok hrun hM hML hrg hnt hlen hpos hrem
        go_wp2_with (go_at_call 18; refine (op_step HE.out HN.out HV.out HS.out HOj.out hds n0 n1 hC7).mono ?_; rintro e w3 ⟨rfl, h⟩; (have H3 := Lib.hid h); clear h)
        go_ret3
        obtain ⟨f1, f2, f3, f4⟩ := HF.out
        exact ⟨rfl, nt ++ n1', f1, f2, f3, by rw [f4]; exact H3.out⟩
      · obtain ⟨hok1, hlen1⟩ := OM.step_ok ds HOj.out n0 n1 hrg
        rw [hst now ds] at hok1 hlen1
        obtain rfl : kk = kk' := by omega
        have HE := Lib.hid (hst now ds)
        have HN := Lib.hid (show M ++ n1' = M ++ n1' from rfl)
        have HT0 : Hid (S1.told 0 = 0) := Lib.hid (by unfold OM.told; rw [if_pos (.inr (by decide))])
        have HF := Lib.hid (show (nt ++ n1').length ≤ j + 1 ∧ ws1.length = ws.length ∧ S1.ok ws.length (ns.length + (nt ++ n1').length) ∧ ns ++ (nt ++ n1') = M ++ n1' ∧ RunO kk S1 ws1 S' ws' from ⟨by rw [List.length_append]; omega, hlen1.trans hlen, by rw [List.length_append, ← Nat.add_assoc, ← hML, ← hlen]; exact hok1, by rw [← List.append_assoc, hM], hrest⟩)
        clear hok1 hlen1 hst hn1 hok hrun hM hML hrg hnt hlen hpos hrem hrest
        go_wp2_with (go_at_call 18; refine (op_step HE.out HN.out HT0.out HS.out HOj.out hds n0 n1 hC7).mono ?_; rintro e w3 ⟨rfl, h⟩; (have H3 := Lib.hid h); clear h)
        go_roundg kk
        case measure => omega
        case rel =>
          obtain ⟨f1, f2, f3, f4, f5⟩ := HF.out
          exact ⟨j + 1, S1, ws1, nt ++ n1', by rfl, by omega, f1, f2, f3, f5, by rw [f4]; exact H3.out⟩
theorem fresh_is (n s h t bud base wait rg ex : Int) (w : World) (h1 : pR 1 s = rg) (h2 : pE 0 = ex) :
    Calls Tryz.prog 24 #[cfgE n s h t bud base wait] w fun e w' => e = .returned (thrV (.slice none 0 0) rg ex) ∧ Below w.heap.size w w' := by
  subst h1 h2
  exact e_fresh n s h t bud base wait w
/-- What an operation alone leaves. -/
def AlonePost (w0 : World) (nn N : Nat) (W : Int) (V : List Int) (many : Nat) (rg ex a x : Int) (q r p : Nat) (now : Int) (ds : List Int) (ns : List Note) (L : List Asn) (w' : World) : Prop :=
  ∃ (l f : List Int) (T0 T1 : Int) (ws : List Int) (ns' : List Note) (S : OM), Two nn N W ws l f V T0 T1 ∧ l.length + f.length = many ∧ S.shelf = [] ∧ S.rg = rg ∧ S.ex = ex ∧ S.i = 0 ∧ (∀ E, S.part ≠ .visit E) ∧ S.ok N ns'.length ∧ S.st ≠ 0 ∧ S.st = a ∧ S.told a = x ∧ ns'.length ≤ ns.length + 7 ∧ St w0 (memA q ws ns' :: srcA r now ds :: opA p S :: L) w'
theorem alone_any {w0 w : World} {q p r nn N : Nat} {W : Int} {ws l f V V' : List Int} {T0 T1 : Int} {ns : List Note} {now : Int} {ds : List Int} {L : List Asn} (push : Bool) (s t bud base wait rg ex v a x : Int) (many : Nat) (hA : lifoA push v V (f != []) = (a, x, V')) (h : Two nn N W ws l f V T0 T1) (hm : l.length + f.length = many) (hS : St w0 (memA q ws ns :: srcA r now ds :: opA p (opN push nn s 0 t bud base wait rg ex v) :: L) w) (hok : okC nn s 0 = true) (hN : 2 + 2 * nn ≤ N) (v0 : 0 ≤ v) (v1 : v < 18446744073709551616) (b0 : 0 ≤ bud) (b1 : bud ≤ 16) (x0 : 1 ≤ base) (x1 : base ≤ 64) (y0 : 0 ≤ wait) (y1 : wait < 18446744073709551616) (hds : DsOk ds) (n0 : 0 ≤ now) (n1 : now < 18446744073709551616) (hk : ns.length ≤ 1000000) :
    Calls Tryz.prog 29 #[.pointer (some ⟨p, 0, none⟩), .pointer (some ⟨q, 0, none⟩), .pointer (some ⟨r, 0, none⟩)] w fun e w' => e = .returned (.tuple #[.int .i64 a, .int .u64 x, .bool true]) ∧ AlonePost w0 nn N W V' many rg ex a x q r p now ds ns L w' := by
  obtain ⟨k, S', ws', l', f', T0', T1', h1, h2, h3, h4, h5, h6, h7, h8, h9, h10, h11, _⟩ := run_any push s t bud base wait rg ex v hok hN v0 v1 h
  rw [hA] at h2 h3 h5 h6
  dsimp only at h2 h3 h5 h6
  have hl := h.len
  have hk7 : k ≤ 7 := by rw [h2]; split <;> omega
  rw [h5] at h6
  refine (alone13 a x h1 h5 h6 hS (opN_ok push _ _ b0 b1 x0 x1 y0 y1 v0 v1) hds n0 n1 hk (by omega)).mono fun e w' g => ?_
  obtain ⟨g1, nt, g2, g3, g4, g5⟩ := g
  rw [hl] at g4
  have hst := h1.st
  exact ⟨g1, l', f', T0', T1', ws', ns ++ nt, S', h3, h4.trans hm, h7, h8, h9, h10, h11, by rw [List.length_append]; exact g4, hst, h5, h6, by rw [List.length_append]; omega, g5⟩
theorem make_push {w0 w : World} {L : List Asn} (n s h t bud base wait rg ex v : Int) (hE : stE n s h bud base rg ex = 0) (hS : St w0 L w) :
    Calls Tryz.prog 16 #[cfgE n s h t bud base wait, thrV (.slice none 0 0) rg ex, .int .u64 v] w fun e w' => ∃ p, e = .returned (.pointer (some ⟨p, 0, none⟩)) ∧ St w0 (opA p (opN true n s h t bud base wait rg ex v) :: L) w' := by
  have h1 := op_newpush n s h t bud base wait none 0 0 [] rg ex v hS (Rd32.nil _) rfl (by decide)
  rw [hE] at h1
  exact h1
theorem make_pop {w0 w : World} {L : List Asn} (n s h t bud base wait rg ex v : Int) (hE : stE n s h bud base rg ex = 0) (hS : St w0 L w) :
    Calls Tryz.prog 17 #[cfgE n s h t bud base wait, thrV (.slice none 0 0) rg ex] w fun e w' => ∃ p, e = .returned (.pointer (some ⟨p, 0, none⟩)) ∧ St w0 (opA p (opN false n s h t bud base wait rg ex v) :: L) w' := by
  have h1 := op_newpop n s h t bud base wait none 0 0 [] rg ex hS (Rd32.nil _) rfl (by decide)
  rw [hE] at h1
  exact h1
set_option maxRecDepth 20000 in
set_option maxHeartbeats 16000000 in
/-- The example. -/
theorem shown13 (w : World) : Calls Tryz.prog 12 #[] w fun e w' => e = .returned (.bool true) ∧ Below w.heap.size w w' := by
  have H := Lib.hid (St.nil w)
  have HDS : Hid (DsOk []) := Lib.hid (fun d hd => by cases hd)
  have HTW : Hid (Two 3 8 0 (frL 0 3 3 0 8) [] (upL 1 3) [] 0 0) := Lib.hid (fresh_two (t := 0) (T := 0) (nn := 3) (N := 8) (ss := 0) rfl (by decide) (by decide) rfl (by decide) (by decide))
  go_enter Tryz.func12, Tryz.ntmps12
  go_wp2_with (first | ((have _h := H9); go_at_call 29; refine (alone_any false 0 0 0 1 0 0 0 0 2 0 3 (by rfl) HTb.out HMb.out H9.out (by decide) (by decide) (by decide) (by decide) (by decide) (by decide) (by decide) (by decide) (by decide) (by decide) HDS.out (by decide) (by decide) (by omega)).mono ?_; rintro e w10 ⟨rfl, lc, fc, T0c, T1c, wsc, nsc, Sc, g1, g2, g3, g4, g5, g6, g7, g8, g9, ga, gx, g10, h⟩; (have H10 := Lib.hid (h.drop1')); (have HTc := Lib.hid g1); (have HMc := Lib.hid g2); (have HLc : nsc.length ≤ 21 := by first | omega | (simpa using g10)); clear h g1 g2 g3 g4 g5 g6 g7 g8 g9 ga gx g10; clear d0 d1 d2 d3 d4 d5 d6 ld; clear f0 f1 f2 lf; (obtain ⟨⟨d0, d1, d2, d3, d4, d5, d6⟩, ld⟩ := cells7 (H10.out.cells 2 rfl)); (obtain ⟨⟨f0, f1, f2⟩, lf⟩ := cells3 (H10.out.cells 3 rfl)); clear _h) | ((have _h := H8); go_at_call 17; refine (make_pop 3 0 0 0 0 1 0 0 0 0 (by decide) H8.out).mono ?_; rintro e w9 ⟨pc, rfl, h⟩; (have H9 := Lib.hid (show St w [memA q _ _, srcA r 0 [], opA _ _, boxA _ _ _, boxA _ _ _] _ from h.re 3 [1, 2, 0])); clear h; clear d0 d1 d2 d3 d4 d5 d6 ld; clear f0 f1 f2 lf; (obtain ⟨⟨d0, d1, d2, d3, d4, d5, d6⟩, ld⟩ := cells7 (H9.out.cells 3 rfl)); (obtain ⟨⟨f0, f1, f2⟩, lf⟩ := cells3 (H9.out.cells 4 rfl)); clear _h) | ((have _h := H7); go_at_call 29; refine (alone_any false 0 0 0 1 0 0 0 0 1 5 3 (by rfl) HTa.out HMa.out H7.out (by decide) (by decide) (by decide) (by decide) (by decide) (by decide) (by decide) (by decide) (by decide) (by decide) HDS.out (by decide) (by decide) (by omega)).mono ?_; rintro e w8 ⟨rfl, lb, fb, T0b, T1b, wsb, nsb, Sb, g1, g2, g3, g4, g5, g6, g7, g8, g9, ga, gx, g10, h⟩; (have H8 := Lib.hid (h.drop1')); (have HTb := Lib.hid g1); (have HMb := Lib.hid g2); (have HLb : nsb.length ≤ 14 := by first | omega | (simpa using g10)); clear h g1 g2 g3 g4 g5 g6 g7 g8 g9 ga gx g10; clear d0 d1 d2 d3 d4 d5 d6 ld; clear f0 f1 f2 lf; (obtain ⟨⟨d0, d1, d2, d3, d4, d5, d6⟩, ld⟩ := cells7 (H8.out.cells 2 rfl)); (obtain ⟨⟨f0, f1, f2⟩, lf⟩ := cells3 (H8.out.cells 3 rfl)); clear _h) | ((have _h := H6); go_at_call 17; refine (make_pop 3 0 0 0 0 1 0 0 0 0 (by decide) H6.out).mono ?_; rintro e w7 ⟨pb, rfl, h⟩; (have H7 := Lib.hid (show St w [memA q _ _, srcA r 0 [], opA _ _, boxA _ _ _, boxA _ _ _] _ from h.re 3 [1, 2, 0])); clear h; clear d0 d1 d2 d3 d4 d5 d6 ld; clear f0 f1 f2 lf; (obtain ⟨⟨d0, d1, d2, d3, d4, d5, d6⟩, ld⟩ := cells7 (H7.out.cells 3 rfl)); (obtain ⟨⟨f0, f1, f2⟩, lf⟩ := cells3 (H7.out.cells 4 rfl)); clear _h) | ((have _h := H5); go_at_call 29; refine (alone_any true 0 0 0 1 0 0 0 5 1 0 3 (by rfl) HTW.out (by rfl) H5.out (by decide) (by decide) (by decide) (by decide) (by decide) (by decide) (by decide) (by decide) (by decide) (by decide) HDS.out (by decide) (by decide) (by decide)).mono ?_; rintro e w6 ⟨rfl, la, fa, T0a, T1a, wsa, nsa, Sa, g1, g2, g3, g4, g5, g6, g7, g8, g9, ga, gx, g10, h⟩; (have H6 := Lib.hid (h.drop1')); (have HTa := Lib.hid g1); (have HMa := Lib.hid g2); (have HLa : nsa.length ≤ 7 := by first | omega | (simpa using g10)); clear h g1 g2 g3 g4 g5 g6 g7 g8 g9 ga gx g10; clear d0 d1 d2 d3 d4 d5 d6 ld; clear f0 f1 f2 lf; (obtain ⟨⟨d0, d1, d2, d3, d4, d5, d6⟩, ld⟩ := cells7 (H6.out.cells 2 rfl)); (obtain ⟨⟨f0, f1, f2⟩, lf⟩ := cells3 (H6.out.cells 3 rfl)); clear _h) | ((have _h := H4); go_at_call 16; refine (make_push 3 0 0 0 0 1 0 0 0 5 (by decide) H4.out).mono ?_; rintro e w5 ⟨pa, rfl, h⟩; (have H5 := Lib.hid (show St w [memA q _ _, srcA r 0 [], opA _ _, boxA _ _ _, boxA _ _ _] _ from h.re 3 [1, 2, 0])); clear h; clear d0 d1 d2 d3 d4 d5 d6 ld; clear f0 f1 f2 lf; (obtain ⟨⟨d0, d1, d2, d3, d4, d5, d6⟩, ld⟩ := cells7 (H5.out.cells 3 rfl)); (obtain ⟨⟨f0, f1, f2⟩, lf⟩ := cells3 (H5.out.cells 4 rfl)); clear _h) | ((have _h := H3); go_at_call 24; refine (fresh_is 3 0 0 0 0 1 0 0 0 _ (by decide) (by decide)).mono ?_; rintro e w4 ⟨rfl, hb⟩; (have H4 := Lib.hid (show St w [memA q _ _, srcA r 0 [], boxA _ _ _, boxA _ _ _] _ from ((H3.out.below hb).alloc #[.slice none 0 0, .int .i64 0, .int .i64 0] 43).re 4 [1, 2, 3, 0])); clear hb; clear d0 d1 d2 d3 d4 d5 d6 ld; (obtain ⟨⟨d0, d1, d2, d3, d4, d5, d6⟩, ld⟩ := cells7 (H4.out.cells 2 rfl)); (obtain ⟨⟨f0, f1, f2⟩, lf⟩ := cells3 (H4.out.cells 3 rfl)); clear _h) | ((have _h := H2); go_at_call 14; refine (src_new H2.out).mono ?_; rintro e w3 ⟨r, rfl, h⟩; (have H3 := Lib.hid (h.front 1 rfl)); clear h; clear d0 d1 d2 d3 d4 d5 d6 ld; (obtain ⟨⟨d0, d1, d2, d3, d4, d5, d6⟩, ld⟩ := cells7 (H3.out.cells 2 rfl)); clear _h) | ((have _h := H1); go_at_call 23; refine (begun13_is 3 0 0 0 8 H1.out (by decide) (by decide) rfl (by decide) (by decide)).mono ?_; rintro e w2 ⟨q, rfl, h⟩; (have H2 := Lib.hid (h)); clear h; clear d0 d1 d2 d3 d4 d5 d6 ld; (obtain ⟨⟨d0, d1, d2, d3, d4, d5, d6⟩, ld⟩ := cells7 (H2.out.cells 1 rfl)); clear _h) | ((have _h := H); go_at_call 22; refine (cfg13_is 2 0 0 0 3 0 0 1 0 _ rfl rfl rfl rfl rfl (by decide) (by decide) (by decide) (by decide) (by decide) (by decide)).mono ?_; rintro e w1 ⟨rfl, hb⟩; (have H1 := Lib.hid ((H.out.below hb).alloc #[.int .i64 3, .int .i64 0, .int .i64 0, .int .u32 0, .int .i64 0, .int .i64 1, .int .u64 0] 27)); clear hb; (obtain ⟨⟨d0, d1, d2, d3, d4, d5, d6⟩, ld⟩ := cells7 (H1.out.cells 0 rfl)); clear _h))
  go_ret
  exact ⟨rfl, H10.out.bel⟩
end Go.Proofs.YtgfeagggkplegaaGreat
