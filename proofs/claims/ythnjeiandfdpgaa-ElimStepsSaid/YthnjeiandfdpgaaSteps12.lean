/-
  The law ElimSteps: the walk.
-/
import Derived.Test.YthnjeiandfdpgaaSteps12A
namespace Go.Proofs.Ythnjeiandfdpgaa
open Go.RowKit
set_option linter.unusedVariables false
set_option linter.unusedSimpArgs false

set_option maxHeartbeats 16000000 in
set_option maxRecDepth 100000 in
theorem esteps_body (gn gs gh gt : Int) (A : Option Addr) (N c : Nat) (B : Option Addr) (m cb : Nat) (D : Option Addr) (tl cd : Nat) (w : World) (hN : N ≤ maxLen) (hm : m ≤ maxLen) (ht : tl ≤ maxLen) (ws : List Int) (hr : RdU w A ws) (hws : ws.length = N) (hv : ∀ x ∈ ws, 0 ≤ x ∧ x < 18446744073709551616) (hN1 : N ≤ 1024) (h0 : 0 < m) (h1 : m ≤ 20) (h2 : tl ≤ 200) (F : Nat → PJob) (T : Nat → PTurn) (hF : RdJob w B m F) (hT : RdTurn w D tl T) :
    Calls Try.prog 8 #[.agg #[.int .i64 gn, .int .i64 gs, .int .i64 gh, .int .u32 gt], .slice A N c, .slice B m cb, .slice D tl cd] w fun e w' => e = .returned (.bool true) ∧ Below w.heap.size w w' := by
  unfold maxLen at hN hm ht
  have b0 : ((m : Int) == 0) = false := by simp; omega
  have b1 : decide ((20 : Int) < m) = false := decide_eq_false (by omega)
  have b2 : decide ((200 : Int) < tl) = false := decide_eq_false (by omega)
  have bN : decide ((1024 : Int) < N) = false := decide_eq_false (by omega)
  have HR := Lib.hid hr
  have HWS := Lib.hid hws
  have HV := Lib.hid hv
  clear hr hws hv
  have HF := Lib.hid hF
  have HT := Lib.hid hT
  clear hF hT
  obtain ⟨iA, hiA, hzA0, hzA1, hzA2⟩ := info_parts infoEV
  obtain ⟨iB, hiB, hzB0, hzB1, hzB2⟩ := info_parts infoRE
  have H := Lib.hid ((St.nil w).alloc #[.int .i64 gn, .int .i64 gs, .int .i64 gh, .int .u32 gt] 28)
  obtain ⟨q0, q1, q2, q3⟩ := cells4 (H.out.cells 0 rfl)
  go_enter Try.func8, Try.ntmps8
  go_wp2_with (first | ((have _h := H3); go_at_call 12; refine (src_new H3.out).mono ?_; rintro e w4 ⟨r, rfl, h⟩; (have H4 := Lib.hid (h)); clear h; clear q0 q1 q2 q3; (obtain ⟨q0, q1, q2, q3⟩ := cells4 (H4.out.cells 3 rfl)); clear _h) | ((have _h := H2); go_at_call 29; refine (rnew_st H2.out A c N ws (HR.out.kept H2.out.bel) hN1 HV.out HWS.out).mono ?_; rintro e w3 ⟨y, rfl, h⟩; (have H3 := Lib.hid (h)); clear h; clear q0 q1 q2 q3; (obtain ⟨q0, q1, q2, q3⟩ := cells4 (H3.out.cells 2 rfl)); clear _h) | ((have _h := H1); go_at_call 28; refine (new_st H1.out A c N ws (HR.out.kept H1.out.bel) hN1 HV.out HWS.out).mono ?_; rintro e w2 ⟨q, rfl, h⟩; (have H2 := Lib.hid (h)); clear h; clear q0 q1 q2 q3; (obtain ⟨q0, q1, q2, q3⟩ := cells4 (H2.out.cells 1 rfl)); clear _h) | ((have _h := H); go_at_call 9; refine (shown12 _).mono ?_; rintro e w1 ⟨rfl, hb⟩; (have H1 := Lib.hid (H.out.below hb)); clear hb; clear q0 q1 q2 q3; (obtain ⟨q0, q1, q2, q3⟩ := cells4 (H1.out.cells 0 rfl)); clear _h))
  have HRel := Lib.hid (show EMake w q y r w4.heap.size N ws w.heap.size #[.int .i64 gn, .int .i64 gs, .int .i64 gh, .int .u32 gt] (.slice none 0 0) (.slice none 0 0) 0 (w4.alloc (.cells #[.int .u64 0, .slice none 0 0] 69)) from ⟨[], [], rfl, rfl, ⟨HWS.out, by simp, by decide, by decide, (fun d hd => by cases hd), Nat.le_refl _, fun k x h => by simp at h⟩, by
    have h5 := (((((((H4.out.alloc #[.int .u64 0, .slice none 0 0] 69).cutNil.front 5 rfl).front 5 rfl).front 5 rfl).front 5 rfl).front 4 rfl).front 5 rfl)
    have h6 := rsA_close h5
    have h7 := (((((h6.front 4 rfl).front 1 rfl).front 2 rfl).front 3 rfl).front 4 rfl)
    have h8 := ((h7.head4).rowNil 74 1).rowNil 33 1
    exact ((((h8.front 3 rfl).front 2 rfl).front 2 rfl).front 3 rfl)⟩)
  clear H1 H2 H3 H4 q0 q1 q2 q3
  generalize (w4.alloc (.cells #[.int .u64 0, .slice none 0 0] 69)) = w5 at *
  obtain ⟨r2, hr2⟩ : ∃ r2, w4.heap.size = r2 := ⟨_, rfl⟩
  obtain ⟨bc, hbc⟩ : ∃ bc, w.heap.size = bc := ⟨_, rfl⟩
  try simp only [hr2, hbc] at *
  try go_wp2
  go_loopg [16, 17, 18] 21 (fun kq va vb z w' => ∃ i : Nat, z = .int .i64 i ∧ i ≤ m ∧ i + kq = 21 ∧ EMake w q y r r2 N ws bc #[.int .i64 gn, .int .i64 gs, .int .i64 gh, .int .u32 gt] va vb i w')
  case atStart => exact ⟨0, rfl, by omega, by omega, HRel.out⟩
  case round =>
    obtain ⟨i, rfl, hi, hkq, ps, xs, hps, hxs, hT0, hS⟩ := hrel
    obtain ⟨A1, c1, rfl, hml⟩ := row_is (hS.rowOf 1 rfl)
    obtain ⟨A2, c2, rfl, _⟩ := row_is (hS.rowOf 2 rfl)
    obtain ⟨q0, q1, q2, q3⟩ := cells4 (hS.cells 3 rfl)
    have lq := lt_of_heap (hS.cells 3 rfl)
    have HE := Lib.hid hS
    unfold maxLen at hml
    clear HRel
    cases gk with
    | zero => omega
    | succ kk =>
      by_cases c4 : i < m
      · have c4b : decide ((i : Int) < m) = true := decide_eq_true (by omega)
        obtain ⟨bd, rfl, f0, f1, f2, f3, f4, f5, hok⟩ := (HF.out.kept hS.bel).at_ c4
        have r0 : (0 : Int) ≤ (i : Int) := by omega
        have r1 : (i : Int) < (m : Int) := by omega
        obtain ⟨⟨o0, o1⟩, ⟨o2, o3⟩, ⟨o4, o5⟩, ⟨o6, o7⟩, o8, o9⟩ := hok
        have HPS := Lib.hid (And.intro hps (And.intro hxs hT0))
        clear hS hps hxs hT0
        go_wp2_with (first | ((have _h := L2); at_builtin; go_must (refine wpList_append_lies _ (by rfl) _ _ _ (by rfl) 0 74 iB _ 1 8 Try.underlying71 hiB hzB0 hzB1 hzB2 rfl (by decide) (.slice A2 i c2) i (xs.map fun x => ptrV x.1) (by rfl) (((L2.out.alloc _ _).below (bl_alloc (bl_refl _) _)).rowOf 5 rfl) ⟨wL.heap.size + 1, 0, none⟩ 1 1 [.pointer (some ⟨wL.heap.size, 0, none⟩)] (by rfl) rfl (by exact World.news_of_block (cs := #[.pointer (some ⟨wL.heap.size, 0, none⟩)]) (t := 74) (fr := (0, 0)) (heap_new (by simp))) (by simp [Value.oneCell']) (by decide) (by unfold maxLen; omega) (by omega) (Nat.zero_le _) _ rfl ?_); go_must (intro g cp wB hown hgrow hat hlt); (have L3 := Lib.hid (((((L2.out.alloc #[.int .i64 gn, .int .i64 gs, .int .i64 gh, .int .u32 gt, .int .i64 (F i).rg, .int .i64 (F i).ex, .bool (F i).push, .int .u32 (F i).i, .int .i64 (F i).base, .int .u64 (F i).wait, .bool false, .bool false, .int .i64 0, .bool false, .int .u32 0, .int .u64 0, .int .i64 0, .int .i64 0, .int .i64 0, .int .u64 0, .int .u64 0, .int .i64 0, .bool false, .bool false] 80).below (bl_alloc (bl_refl _) _)).front 5 rfl).append hown hgrow hat))); clear hown hgrow hat hlt _h) | ((have _h := N1); at_builtin; go_must (refine wpList_append_lies _ (by rfl) _ _ _ (by rfl) 0 33 iA _ 1 8 Try.underlying70 hiA hzA0 hzA1 hzA2 rfl (by decide) (.slice A1 i c1) i (ps.map ptrV) (by rfl) ((N1.out.below (bl_alloc (bl_refl _) _)).rowOf 3 rfl) ⟨wN.heap.size, 0, none⟩ 1 1 [.pointer (some ⟨p, 0, none⟩)] (by rfl) rfl (by exact World.news_of_block (cs := #[.pointer (some ⟨p, 0, none⟩)]) (t := 33) (fr := (0, 0)) (heap_new rfl)) (by simp [Value.oneCell']) (by decide) (by unfold maxLen; omega) (by omega) (Nat.zero_le _) _ rfl ?_); go_must (intro g cp wL hown hgrow hat hlt); (have L2 := Lib.hid ((((N1.out.below (bl_alloc (bl_refl _) _)).front 3 rfl).append hown hgrow hat).rot4')); clear hown hgrow hat hlt _h; clear k0 k1 k2 k3 k4 k5 lk q0 q1 q2 q3 lq; obtain ⟨k0, k1, k2, k3, k4, k5⟩ := cells6 (L2.out.cells 0 rfl); (have lk := lt_of_heap (L2.out.cells 0 rfl)); (obtain ⟨q0, q1, q2, q3⟩ := cells4 (L2.out.cells 5 rfl)); (have lq := lt_of_heap (L2.out.cells 5 rfl))) | ((have _h := HE); go_at_call 13; refine (em_new gn gs gh gt (F i).rg (F i).ex (F i).push (F i).i (F i).base (F i).wait (HE.out.alloc _ _)).mono ?_; rintro e wN ⟨p, rfl, h⟩; (have N1 := Lib.hid h); clear h _h q0 q1 q2 q3 lq; (obtain ⟨q0, q1, q2, q3⟩ := cells4 (N1.out.cells 5 rfl)); (have lq := lt_of_heap (N1.out.cells 5 rfl)); obtain ⟨k0, k1, k2, k3, k4, k5⟩ := cells6 (N1.out.cells 0 rfl); (have lk := lt_of_heap (N1.out.cells 0 rfl))))
        go_roundg kk
        case measure => omega
        case rel => exact ⟨i + 1, rfl, by omega, by omega, ps ++ [p], xs ++ [(wL.heap.size, 0, newEM gn gs gh gt (F i).rg (F i).ex (F i).push (F i).i (F i).base (F i).wait)], by simp [HPS.out.1], by simp [HPS.out.2.1], HPS.out.2.2.snoc _ (newEM_ok _ _ o4 o5 o6 o7 o8 o9) rfl, by
          have h5 := ((((((((L3.out.front 6 rfl).front 1 rfl).front 6 rfl).front 6 rfl).front 4 rfl).front 6 rfl).front 6 rfl)).tail
          have h5' : St w (headE q y r r2 ws [] 0 [] :: rfA wL.heap.size 0 (newEM gn gs gh gt (F i).rg (F i).ex (F i).push (F i).i (F i).base (F i).wait) :: emA p (newEM gn gs gh gt (F i).rg (F i).ex (F i).push (F i).i (F i).base (F i).wait) :: ([_, _, _] ++ manyA evA ps xs)) _ := h5
          have h6 := St.snoc (A := [_, _, _]) (f := evA) (p := p) (S := (wL.heap.size, 0, newEM gn gs gh gt (F i).rg (F i).ex (F i).push (F i).i (F i).base (F i).wait)) h5'.pairUp (by rw [HPS.out.1, HPS.out.2.1])
          unfold eRows
          rw [show (ps ++ [p]).map ptrV = ps.map ptrV ++ [ptrV p] from List.map_append, List.map_append]
          exact h6⟩
      · obtain rfl : m = i := by omega
        have c4b : decide (((m : Nat) : Int) < (m : Int)) = false := decide_eq_false (by omega)
        obtain ⟨ga, ca, he1⟩ := row_some (hS.rowOf 1 rfl) h0
        obtain ⟨gb, cb', he2⟩ := row_some (hS.rowOf 2 rfl) h0
        cases he1
        cases he2
        have HS2 := Lib.hid (show ERel w q y r r2 N bc #[.int .i64 gn, .int .i64 gs, .int .i64 gh, .int .u32 gt] ga c1 gb c2 ps m 0 wr from ⟨ws, [], 0, [], xs, hxs, hT0, hS⟩)
        have HPS := Lib.hid hps
        clear hS hxs hT0 c4 HE hps hiA hzA0 hzA1 hzA2 hiB hzB0 hzB1 hzB2 q0 q1 q2 q3 lq
        have hm0 : (0 : Int) < (m : Int) := by omega
        have hm1 : (m : Int) < 9223372036854775808 := by omega
        go_wp2
        go_loopg [21] 201 (fun kq z w' => ∃ i : Nat, z = .int .i64 i ∧ i ≤ tl ∧ i + kq = 201 ∧ ERel w q y r r2 N bc #[.int .i64 gn, .int .i64 gs, .int .i64 gh, .int .u32 gt] ga c1 gb c2 ps m i w')
        case atStart => exact ⟨0, rfl, by omega, by omega, HS2.out⟩
        case round =>
          obtain ⟨i, rfl, hi, hkq, ws, ns, now, ds, xs, hxs, hT1, hS⟩ := hrel
          clear HS2
          cases gk with
          | zero => omega
          | succ k3 =>
            by_cases c4 : i < tl
            · have c4b : decide ((i : Int) < tl) = true := decide_eq_true (by omega)
              obtain ⟨bd, rfl, f0, f1, f2, hok⟩ := (HT.out.kept hS.bel).at_ c4
              obtain ⟨⟨o0, o1⟩, ⟨o2, o3⟩, o4, o5⟩ := hok
              have r0 : (0 : Int) ≤ (i : Int) := by omega
              have r1 : (i : Int) < (tl : Int) := by omega
              have hnl : ns.length ≤ 1000000000000 := by have := hT1.few; omega
              have hdl : ds.length ≤ 1000000000000 := by have := hT1.dl; omega
              have n0 := hT1.n0
              have n1 := hT1.n1
              obtain ⟨kk0, kk1⟩ := pickI_rng (c := (T i).op) (n := 8) (by decide)
              obtain ⟨op, hop⟩ : ∃ op, pickI (T i).op 8 = op := ⟨_, rfl⟩
              rw [hop] at kk0 kk1
              have HOP := Lib.hid hop
              clear hop
              by_cases h1 : op = 1
              · subst h1
                obtain ⟨tn, htn⟩ : ∃ tn, dlI now (T i).n = tn := ⟨_, rfl⟩
                have HTN := Lib.hid htn
                have HB := Lib.hid ((hS.unstar.alloc #[.int .i64 (T i).op, .int .i64 (T i).which, .int .u64 (T i).n] 82).front 3 rfl)
                have HT1 := Lib.hid (htn ▸ hT1.tick o4)
                have HXS := Lib.hid hxs
                clear htn hS hT1 hxs kk0 kk1
                go_wp2_with (first | ((have _h := V1); go_at_call 30; refine (rsrc_tick (T i).n tn (V1.out.front 4 rfl) n0 n1 o4 o5 HTN.out).mono ?_; rintro e w2 ⟨rfl, h⟩; (have V2 := Lib.hid ((((h.front 4 rfl).front 4 rfl).front 4 rfl).front 4 rfl)); clear h _h V1) | ((have _h := HB); go_at_call 25; refine (src_tick (T i).n tn HB.out n0 n1 o4 o5 HTN.out).mono ?_; rintro e w1 ⟨rfl, h⟩; (have V1 := Lib.hid h); clear h _h HB; (have f5 := (cells3 (V1.out.cells 1 rfl)).2.2)) | (go_at_call 10; refine (pick_is (T i).op 8 1 _ HOP.out (by decide) (by decide) o0 o1).mono ?_; rintro e w' ⟨rfl, rfl⟩))
                go_roundg k3
                all_goals first | omega | exact ⟨i + 1, rfl, by omega, by omega, ws, ns, tn, ds, xs, HXS.out, HT1.out, ((((((V2.out.front 4 rfl).front 1 rfl).front 4 rfl).front 4 rfl).front 4 rfl)).tail.head4⟩
              by_cases h2 : op = 2
              · subst h2
                obtain ⟨ae, hae⟩ : ∃ ae, addE (T i).n = ae := ⟨_, rfl⟩
                obtain ⟨da, hda⟩ : ∃ da, addR ds (T i).n = da := ⟨_, rfl⟩
                have HAE := Lib.hid hae
                have HDA := Lib.hid hda
                have HB := Lib.hid ((hS.unstar.alloc #[.int .i64 (T i).op, .int .i64 (T i).which, .int .u64 (T i).n] 82).front 3 rfl)
                have HT1 := Lib.hid (hda ▸ hT1.add o4)
                have HXS := Lib.hid hxs
                clear hae hda hS hT1 hxs kk0 kk1
                go_wp2_with (go_at_call 10; refine (pick_is (T i).op 8 2 _ HOP.out (by decide) (by decide) o0 o1).mono ?_; rintro e w' ⟨rfl, rfl⟩)
                go_region_held3 (fun w' => w'.cell? ⟨wr.heap.size, 2, none⟩ = some (.int .u64 (T i).n)) (first | exact (cells3 (SF.out.cells 1 rfl)).2.2 | exact (cells3 (SA.out.cells 1 rfl)).2.2 | exact (cells3 (SB.out.cells 1 rfl)).2.2 | exact (cells3 (HB.out.drew.cells 1 rfl)).2.2 | exact (cells3 (HB.out.cells 1 rfl)).2.2) (first | ((have _h := SB); go_at_call 14; refine (src_add (T i).n ae da SB.out o4 hdl HAE.out HDA.out).mono ?_; rintro e wS ⟨rfl, h⟩; (have SF := Lib.hid h); clear h _h SB) | (go_at_call 14; refine (src_add (T i).n ae da HB.out.drew o4 hdl HAE.out HDA.out).mono ?_; rintro e wS ⟨rfl, h⟩; (have SA := Lib.hid h); clear h) | ((have _h := SA); go_at_call 31; refine (rsrc_add (T i).n ae da (SA.out.front 4 rfl) o4 hdl HAE.out HDA.out).mono ?_; rintro e wS ⟨rfl, h⟩; (have SF := Lib.hid ((((h.front 4 rfl).front 4 rfl).front 4 rfl).front 4 rfl)); clear h _h SA) | (go_at_call 31; refine (rsrc_add (T i).n ae da (HB.out.drew.front 4 rfl) o4 hdl HAE.out HDA.out).mono ?_; rintro e wS ⟨rfl, h⟩; (have SB := Lib.hid ((((h.front 4 rfl).front 4 rfl).front 4 rfl).front 4 rfl)); clear h))
                all_goals go_wp2
                all_goals go_roundg k3
                all_goals first | omega | exact ⟨i + 1, rfl, by omega, by omega, ws, ns, now, da, xs, HXS.out, HT1.out, ((((((SF.out.front 4 rfl).front 1 rfl).front 4 rfl).front 4 rfl).front 4 rfl)).tail.head4⟩
              · have e1b : (op == 1) = false := by simpa using h1
                have e2b : (op == 2) = false := by simpa using h2
                clear kk0 kk1
                obtain ⟨kk0, kk1⟩ := pickI_rng (c := (T i).which) hm0
                obtain ⟨k, hk⟩ := Int.eq_ofNat_of_zero_le kk0
                have hkm : k < m := by omega
                have k0 : (0 : Int) ≤ (k : Int) := by omega
                have k1 : (k : Int) < (m : Int) := by omega
                obtain ⟨x, hxk⟩ := getE (l := xs) (k := k) (by omega)
                obtain ⟨p, hpk⟩ := getE (l := ps) (k := k) (by have := HPS.out; omega)
                obtain ⟨R, hR1, hR2⟩ := hS.pick2 (A := [_, _, _]) hpk hxk
                have hok := hT1.ok k x hxk
                have hdo := hT1.dok
                have hns := hT1.step (fun j hj => hS.unstar.rng hj) hxk
                have hR3 := hR1.open6
                obtain ⟨b, nx, S⟩ := x
                dsimp only at hok hns hR3
                obtain ⟨⟨a, z, S', ws', nt, ds'⟩, ho⟩ : ∃ o, S.step ws now ds = o := ⟨_, rfl⟩
                rw [ho] at hns
                dsimp only at hns
                obtain ⟨ns', hns'⟩ : ∃ ns', ns ++ nt = ns' := ⟨_, rfl⟩
                obtain ⟨mb, hmb⟩ : ∃ mb, S'.met ws' = mb := ⟨_, rfl⟩
                rw [hns'] at hns
                have HK := Lib.hid hk
                have HST := Lib.hid ho
                have HN2 := Lib.hid hns'
                have HMB := Lib.hid hmb
                have HOK : Hid (S.ok ws.length ns.length) := Lib.hid (by rw [hT1.len]; exact hok.1)
                have HNX : Hid (nx ≤ 1000000000000) := Lib.hid (by have := hok.2.1; omega)
                have HUN : Hid (S.en = 2 → S.fit = false) := Lib.hid hok.2.2
                have HDO := Lib.hid hdo
                have HT2 := Lib.hid hns
                have HOK2 : Hid (S'.ok N ns'.length) := Lib.hid (by
                  have hkl : k < xs.length := by omega
                  exact (hns.ok k (b, nx + 1, S') (by rw [List.getElem?_set_self hkl])).1)
                have HL2 : Hid (ws'.length = N) := Lib.hid hns.len
                have HPK : Hid (∀ w1 w' m' S', St w1 (m' :: evA p S' :: ([_, _, _] ++ R)) w' → St w1 (m' :: (eRows (.slice (some ⟨ga, 0, none⟩) m c1) (.slice (some ⟨gb, 0, none⟩) m c2) m ps xs bc #[.int .i64 gn, .int .i64 gs, .int .i64 gh, .int .u32 gt] ++ manyA evA ps (xs.set k S'))) w') := Lib.hid hR2
                have HB := Lib.hid (((((((hR3.alloc #[.int .i64 (T i).op, .int .i64 (T i).which, .int .u64 (T i).n] 82).front 6 rfl).front 6 rfl).front 6 rfl).front 6 rfl).front 6 rfl).front 6 rfl)
                have HXK := Lib.hid hxk
                have HPKK := Lib.hid hpk
                have HXS := Lib.hid hxs
                have q1 : (wr.alloc (.cells #[.int .i64 (T i).op, .int .i64 (T i).which, .int .u64 (T i).n] 82)).cell? ⟨ga, k, none⟩ = some (.pointer (some ⟨p, 0, none⟩)) := ((hS.alloc _ _).at_ 2 rfl k (u := ptrV p) (by rw [List.getElem?_map, hpk]; rfl)).1
                clear hk ho hns' hmb hok hns hS hT1 hxs hR1 hR2 hR3 hxk hpk hdo kk0 kk1 h1 h2
                go_wp2_with (first | ((have _h := V1); go_at_call 32; refine (rstep12 HST.out HN2.out (((((((V1.out.front 6 rfl).front 3 rfl).front 3 rfl).front 3 rfl).front 6 rfl).front 6 rfl).front 6 rfl) HOK.out HUN.out HDO.out n0 n1 hnl HNX.out).mono ?_; rintro e w2 ⟨rfl, h⟩; (have V2 := Lib.hid h); clear h _h V1 q2; (have q3 := (V2.out.at_ 7 rfl k (u := ptrV p) (by rw [List.getElem?_map, HPKK.out]; rfl)).1); (have q3 : w2.cell? ⟨ga, k, none⟩ = some (.pointer (some ⟨p, 0, none⟩)) := q3)) | ((have _h := P2); go_at_call 15; refine (estep HST.out HN2.out HB.out HOK.out HDO.out n0 n1 hnl).mono ?_; rintro e w1 ⟨rfl, h⟩; (have V1 := Lib.hid h); clear h _h q1 HB P2; (have q2 := (V1.out.at_ 8 rfl k (u := ptrV b) (by rw [List.getElem?_map, HXK.out]; rfl)).1); (have q2 : w1.cell? ⟨gb, k, none⟩ = some (.pointer (some ⟨b, 0, none⟩)) := q2)) | ((have _h := P1); go_at_call 10; refine (pick_is (T i).which m (k : Int) _ HK.out hm0 hm1 o2 o3).mono ?_; rintro e w' ⟨rfl, rfl⟩; (have P2 := P1); clear _h P1) | ((have _h := HB); go_at_call 10; refine (pick_is (T i).op 8 op _ HOP.out (by decide) (by decide) o0 o1).mono ?_; rintro e w' ⟨rfl, rfl⟩; (have P1 : True := trivial); clear _h) | (go_at_call 18; refine (e_state V2.out 5 rfl).mono ?_; rintro e w3 ⟨rfl, hb⟩; (have V3 := Lib.hid ((((((((((V2.out.below hb).alloc #[.int .i64 S'.rg, .int .i64 S'.ex] 23).front 7 rfl).front 1 rfl).front 7 rfl).front 7 rfl).front 7 rfl).front 7 rfl).front 7 rfl).front 7 rfl)); clear q3 hb))
                obtain ⟨A3, c3, B3, d3, m0, m1, hr3, _⟩ := V3.out.refCells 0 rfl
                rw [HL2.out] at m0
                obtain ⟨A4, c5, _, m2⟩ := rsA_now V3.out 1 rfl
                obtain ⟨m3, m4, _, _⟩ := rfA_box V3.out 2 rfl
                have m5 := (V3.out.at_ 8 rfl k (u := ptrV p) (by rw [List.getElem?_map, HPKK.out]; rfl)).1
                have m6 := (V3.out.at_ 9 rfl k (u := ptrV b) (by rw [List.getElem?_map, HXK.out]; rfl)).1
                have m7 := cell_of (V3.out.cells 6 rfl) 0
                have m8 := cell_of (V3.out.cells 6 rfl) 1
                have HC : Hid (∀ w', Below (w3.alloc (.cells #[.int .i64 S'.rg, .int .i64 S'.ex] 23)).heap.size (w3.alloc (.cells #[.int .i64 S'.rg, .int .i64 S'.ex] 23)) w' → w'.cell? ⟨ga, k, none⟩ = some (.pointer (some ⟨p, 0, none⟩)) ∧ w'.cell? ⟨gb, k, none⟩ = some (.pointer (some ⟨b, 0, none⟩)) ∧ w'.cell? ⟨y, 0, none⟩ = some (.slice A3 N c3) ∧ w'.cell? ⟨y, 1, none⟩ = some (.slice B3 ns'.length d3) ∧ w'.cell? ⟨r2, 1, none⟩ = some (.slice A4 ds'.length c5) ∧ w'.cell? ⟨b, 4, none⟩ = some (.int .i64 S'.rg) ∧ w'.cell? ⟨b, 5, none⟩ = some (.int .i64 S'.ex) ∧ w'.cell? ⟨w3.heap.size, 0, none⟩ = some (.int .i64 S'.rg) ∧ w'.cell? ⟨w3.heap.size, 1, none⟩ = some (.int .i64 S'.ex)) := Lib.hid (fun w' hb => ⟨(hb.cell (World.block_lt_of_cell? _ _ m5)).trans m5, (hb.cell (World.block_lt_of_cell? _ _ m6)).trans m6, (hb.cell (World.block_lt_of_cell? _ _ m0)).trans m0, (hb.cell (World.block_lt_of_cell? _ _ m1)).trans m1, (hb.cell (World.block_lt_of_cell? _ _ m2)).trans m2, (hb.cell (World.block_lt_of_cell? _ _ m3)).trans m3, (hb.cell (World.block_lt_of_cell? _ _ m4)).trans m4, (hb.cell (World.block_lt_of_cell? _ _ m7)).trans m7, (hb.cell (World.block_lt_of_cell? _ _ m8)).trans m8⟩)
                have HYR : Hid (∀ w', Below (w3.alloc (.cells #[.int .i64 S'.rg, .int .i64 S'.ex] 23)).heap.size (w3.alloc (.cells #[.int .i64 S'.rg, .int .i64 S'.ex] 23)) w' → RdU w' A3 ws') := Lib.hid (fun w' hb => hr3.kept hb)
                clear m0 m1 m2 m3 m4 m5 m6 m7 m8 hr3
                have HBW := Lib.hid (Below.refl (w3.alloc (.cells #[.int .i64 S'.rg, .int .i64 S'.ex] 23)).heap.size (w3.alloc (.cells #[.int .i64 S'.rg, .int .i64 S'.ex] 23)))
                have HBD := Lib.hid ((Below.refl (w3.alloc (.cells #[.int .i64 S'.rg, .int .i64 S'.ex] 23)).heap.size (w3.alloc (.cells #[.int .i64 S'.rg, .int .i64 S'.ex] 23))).drew)
                simp only [List.append]
                refine wp_region_held_drew (S := (fun w' => w'.cell? ⟨ga, k, none⟩ = some (.pointer (some ⟨p, 0, none⟩)) ∧ w'.cell? ⟨gb, k, none⟩ = some (.pointer (some ⟨b, 0, none⟩)) ∧ w'.cell? ⟨y, 0, none⟩ = some (.slice A3 N c3) ∧ w'.cell? ⟨y, 1, none⟩ = some (.slice B3 ns'.length d3) ∧ w'.cell? ⟨r2, 1, none⟩ = some (.slice A4 ds'.length c5) ∧ w'.cell? ⟨b, 4, none⟩ = some (.int .i64 S'.rg) ∧ w'.cell? ⟨b, 5, none⟩ = some (.int .i64 S'.ex) ∧ w'.cell? ⟨w3.heap.size, 0, none⟩ = some (.int .i64 S'.rg) ∧ w'.cell? ⟨w3.heap.size, 1, none⟩ = some (.int .i64 S'.ex))) (by as_aux_lemma => kernel_rfl) ?_ (fun hHeld0 => ?_)
                · first | exact HC.out _ HBD.out | exact HC.out _ HBW.out
                refine wpAnyH_take (i := 0) (v := ?_) rfl (by as_aux_lemma => kernel_rfl) (by as_aux_lemma => kernel_rfl) (by as_aux_lemma => kernel_rfl) (fun _ _ _ h => h) (Or.inl ⟨by rfl, ?_⟩) hHeld0 ?_
                rotate_left
                · intro w hSw
                  (try dsimp only at hSw)
                  go_simp
                  try (first | (with_reducible rfl) | rfl)
                try simp only [List.getElem_toArray, List.getElem_cons_zero, List.getElem_cons_succ, Act.put, List.setIfInBounds_toArray, List.set_cons_zero, List.set_cons_succ]
                refine wpAnyH_take (i := 1) (v := ?_) rfl (by as_aux_lemma => kernel_rfl) (by as_aux_lemma => kernel_rfl) (by as_aux_lemma => kernel_rfl) (fun _ _ _ h => h) (Or.inl ⟨by rfl, ?_⟩) hHeld0 ?_
                rotate_left
                · intro w hSw
                  (try dsimp only at hSw)
                  go_simp
                  try (first | (with_reducible rfl) | rfl)
                try simp only [List.getElem_toArray, List.getElem_cons_zero, List.getElem_cons_succ, Act.put, List.setIfInBounds_toArray, List.set_cons_zero, List.set_cons_succ]
                refine wpAnyH_take (i := 2) (v := ?_) rfl (by as_aux_lemma => kernel_rfl) (by as_aux_lemma => kernel_rfl) (by as_aux_lemma => kernel_rfl) (fun _ _ _ h => h) (Or.inl ⟨by rfl, ?_⟩) hHeld0 ?_
                rotate_left
                · intro w hSw
                  (try dsimp only at hSw)
                  go_simp
                  try (first | (with_reducible rfl) | rfl)
                try simp only [List.getElem_toArray, List.getElem_cons_zero, List.getElem_cons_succ, Act.put, List.setIfInBounds_toArray, List.set_cons_zero, List.set_cons_succ]
                refine wpAnyH_take (i := 3) (v := ?_) rfl (by as_aux_lemma => kernel_rfl) (by as_aux_lemma => kernel_rfl) (by as_aux_lemma => kernel_rfl) (fun _ _ _ h => h) (Or.inl ⟨by rfl, ?_⟩) hHeld0 ?_
                rotate_left
                · intro w hSw
                  (try dsimp only at hSw)
                  go_simp
                  try (first | (with_reducible rfl) | rfl)
                try simp only [List.getElem_toArray, List.getElem_cons_zero, List.getElem_cons_succ, Act.put, List.setIfInBounds_toArray, List.set_cons_zero, List.set_cons_succ]
                refine wpAnyH_take (i := 4) (v := ?_) rfl (by as_aux_lemma => kernel_rfl) (by as_aux_lemma => kernel_rfl) (by as_aux_lemma => kernel_rfl) (fun _ _ _ h => h) (Or.inl ⟨by rfl, ?_⟩) hHeld0 ?_
                rotate_left
                · intro w hSw
                  (try dsimp only at hSw)
                  go_simp
                  try (first | (with_reducible rfl) | rfl)
                try simp only [List.getElem_toArray, List.getElem_cons_zero, List.getElem_cons_succ, Act.put, List.setIfInBounds_toArray, List.set_cons_zero, List.set_cons_succ]
                refine wpAnyH_take (i := 5) (v := ?_) rfl (by as_aux_lemma => kernel_rfl) (by as_aux_lemma => kernel_rfl) (by as_aux_lemma => kernel_rfl) (fun _ _ _ h => h) (Or.inl ⟨by rfl, ?_⟩) hHeld0 ?_
                rotate_left
                · intro w hSw
                  (try dsimp only at hSw)
                  go_simp
                  try (first | (with_reducible rfl) | rfl)
                try simp only [List.getElem_toArray, List.getElem_cons_zero, List.getElem_cons_succ, Act.put, List.setIfInBounds_toArray, List.set_cons_zero, List.set_cons_succ]
                refine wpAnyH_take (i := 6) (v := ?_) rfl (by as_aux_lemma => kernel_rfl) (by as_aux_lemma => kernel_rfl) (by as_aux_lemma => kernel_rfl) (fun _ _ _ h => h) (Or.inl ⟨by rfl, ?_⟩) hHeld0 ?_
                rotate_left
                · intro w hSw
                  (try dsimp only at hSw)
                  go_simp
                  try (first | (with_reducible rfl) | rfl)
                try simp only [List.getElem_toArray, List.getElem_cons_zero, List.getElem_cons_succ, Act.put, List.setIfInBounds_toArray, List.set_cons_zero, List.set_cons_succ]
                refine wpAnyH_take (i := 7) (v := ?_) rfl (by as_aux_lemma => kernel_rfl) (by as_aux_lemma => kernel_rfl) (by as_aux_lemma => kernel_rfl) (fun _ _ _ h => h) (Or.inl ⟨by rfl, ?_⟩) hHeld0 ?_
                rotate_left
                · intro w hSw
                  (try dsimp only at hSw)
                  go_simp
                  try (first | (with_reducible rfl) | rfl)
                try simp only [List.getElem_toArray, List.getElem_cons_zero, List.getElem_cons_succ, Act.put, List.setIfInBounds_toArray, List.set_cons_zero, List.set_cons_succ]
                refine wpAnyH_take (i := 8) (v := ?_) rfl (by as_aux_lemma => kernel_rfl) (by as_aux_lemma => kernel_rfl) (by as_aux_lemma => kernel_rfl) (fun _ _ _ h => h) (Or.inl ⟨by rfl, ?_⟩) hHeld0 ?_
                rotate_left
                · intro w hSw
                  (try dsimp only at hSw)
                  go_simp
                  try (first | (with_reducible rfl) | rfl)
                try simp only [List.getElem_toArray, List.getElem_cons_zero, List.getElem_cons_succ, Act.put, List.setIfInBounds_toArray, List.set_cons_zero, List.set_cons_succ]
                refine wpAnyH_take (i := 9) (v := ?_) rfl (by as_aux_lemma => kernel_rfl) (by as_aux_lemma => kernel_rfl) (by as_aux_lemma => kernel_rfl) (fun _ _ _ h => h) (Or.inl ⟨by rfl, ?_⟩) hHeld0 ?_
                rotate_left
                · intro w hSw
                  (try dsimp only at hSw)
                  go_simp
                  try (first | (with_reducible rfl) | rfl)
                try simp only [List.getElem_toArray, List.getElem_cons_zero, List.getElem_cons_succ, Act.put, List.setIfInBounds_toArray, List.set_cons_zero, List.set_cons_succ]
                refine wpAnyH_take (i := 11) (v := ?_) rfl (by as_aux_lemma => kernel_rfl) (by as_aux_lemma => kernel_rfl) (by as_aux_lemma => kernel_rfl) (fun _ _ _ h => h) (Or.inl ⟨by rfl, ?_⟩) hHeld0 ?_
                rotate_left
                · intro w hSw
                  (try dsimp only at hSw)
                  go_simp
                  try (first | (with_reducible rfl) | rfl)
                try simp only [List.getElem_toArray, List.getElem_cons_zero, List.getElem_cons_succ, Act.put, List.setIfInBounds_toArray, List.set_cons_zero, List.set_cons_succ]
                refine wpAnyH_take (i := 12) (v := ?_) rfl (by as_aux_lemma => kernel_rfl) (by as_aux_lemma => kernel_rfl) (by as_aux_lemma => kernel_rfl) (fun _ _ _ h => h) (Or.inl ⟨by rfl, ?_⟩) hHeld0 ?_
                rotate_left
                · intro w hSw
                  (try dsimp only at hSw)
                  go_simp
                  try (first | (with_reducible rfl) | rfl)
                try simp only [List.getElem_toArray, List.getElem_cons_zero, List.getElem_cons_succ, Act.put, List.setIfInBounds_toArray, List.set_cons_zero, List.set_cons_succ]
                refine wpAnyH_take (i := 13) (v := ?_) rfl (by as_aux_lemma => kernel_rfl) (by as_aux_lemma => kernel_rfl) (by as_aux_lemma => kernel_rfl) (fun _ _ _ h => h) (Or.inl ⟨by rfl, ?_⟩) hHeld0 ?_
                rotate_left
                · intro w hSw
                  (try dsimp only at hSw)
                  go_simp
                  try (first | (with_reducible rfl) | rfl)
                try simp only [List.getElem_toArray, List.getElem_cons_zero, List.getElem_cons_succ, Act.put, List.setIfInBounds_toArray, List.set_cons_zero, List.set_cons_succ]
                refine wpAnyH_take (i := 14) (v := ?_) rfl (by as_aux_lemma => kernel_rfl) (by as_aux_lemma => kernel_rfl) (by as_aux_lemma => kernel_rfl) (fun _ _ _ h => h) (Or.inl ⟨by rfl, ?_⟩) hHeld0 ?_
                rotate_left
                · intro w hSw
                  (try dsimp only at hSw)
                  go_simp
                  try (first | (with_reducible rfl) | rfl)
                try simp only [List.getElem_toArray, List.getElem_cons_zero, List.getElem_cons_succ, Act.put, List.setIfInBounds_toArray, List.set_cons_zero, List.set_cons_succ]
                refine wpAnyH_take (i := 15) (v := ?_) rfl (by as_aux_lemma => kernel_rfl) (by as_aux_lemma => kernel_rfl) (by as_aux_lemma => kernel_rfl) (fun _ _ _ h => h) (Or.inl ⟨by rfl, ?_⟩) hHeld0 ?_
                rotate_left
                · intro w hSw
                  (try dsimp only at hSw)
                  go_simp
                  try (first | (with_reducible rfl) | rfl)
                try simp only [List.getElem_toArray, List.getElem_cons_zero, List.getElem_cons_succ, Act.put, List.setIfInBounds_toArray, List.set_cons_zero, List.set_cons_succ]
                refine wpAnyH_ready (rs := [10]) (by as_aux_lemma => kernel_rfl) (by simp) ?_
                refine AllReadyH.cons rfl (fun K hK => ?_) ?_
                · go_simp
                  (go_at_call 16; refine (count_st ((V3.out.below HBD.out).front 3 rfl) (ns'.length : Int) rfl).mono ?_; rintro e w' ⟨rfl, rfl⟩)
                  go_wp2_with fail
                  refine hK.out _ _ ?_ (fun hHeld15_10 => ?_)
                  · first | exact HC.out _ HBD.out | exact HC.out _ HBW.out
                  clear hK K
                  try simp only [List.getElem_toArray, List.getElem_cons_zero, List.getElem_cons_succ, Act.put, List.setIfInBounds_toArray, List.set_cons_zero, List.set_cons_succ]
                  refine wpAnyH_take (i := 16) (v := ?_) rfl (by as_aux_lemma => kernel_rfl) (by as_aux_lemma => kernel_rfl) (by as_aux_lemma => kernel_rfl) (fun _ _ _ h => h) (Or.inl ⟨by rfl, ?_⟩) hHeld15_10 ?_
                  rotate_left
                  · intro w hSw
                    (try dsimp only at hSw)
                    go_simp
                    try (first | (with_reducible rfl) | rfl)
                  try simp only [List.getElem_toArray, List.getElem_cons_zero, List.getElem_cons_succ, Act.put, List.setIfInBounds_toArray, List.set_cons_zero, List.set_cons_succ]
                  refine wpAnyH_take (i := 17) (v := ?_) rfl (by as_aux_lemma => kernel_rfl) (by as_aux_lemma => kernel_rfl) (by as_aux_lemma => kernel_rfl) (fun _ _ _ h => h) (Or.inl ⟨by rfl, ?_⟩) hHeld15_10 ?_
                  rotate_left
                  · intro w hSw
                    (try dsimp only at hSw)
                    go_simp
                    try (first | (with_reducible rfl) | rfl)
                  try simp only [List.getElem_toArray, List.getElem_cons_zero, List.getElem_cons_succ, Act.put, List.setIfInBounds_toArray, List.set_cons_zero, List.set_cons_succ]
                  refine wpAnyH_take (i := 18) (v := ?_) rfl (by as_aux_lemma => kernel_rfl) (by as_aux_lemma => kernel_rfl) (by as_aux_lemma => kernel_rfl) (fun _ _ _ h => h) (Or.inl ⟨by rfl, ?_⟩) hHeld15_10 ?_
                  rotate_left
                  · intro w hSw
                    (try dsimp only at hSw)
                    go_simp
                    try (first | (with_reducible rfl) | rfl)
                  try simp only [List.getElem_toArray, List.getElem_cons_zero, List.getElem_cons_succ, Act.put, List.setIfInBounds_toArray, List.set_cons_zero, List.set_cons_succ]
                  refine wpAnyH_take (i := 19) (v := ?_) rfl (by as_aux_lemma => kernel_rfl) (by as_aux_lemma => kernel_rfl) (by as_aux_lemma => kernel_rfl) (fun _ _ _ h => h) (Or.inl ⟨by rfl, ?_⟩) hHeld15_10 ?_
                  rotate_left
                  · intro w hSw
                    (try dsimp only at hSw)
                    go_simp
                    try (first | (with_reducible rfl) | rfl)
                  try simp only [List.getElem_toArray, List.getElem_cons_zero, List.getElem_cons_succ, Act.put, List.setIfInBounds_toArray, List.set_cons_zero, List.set_cons_succ]
                  refine wpAnyH_take (i := 21) (v := ?_) rfl (by as_aux_lemma => kernel_rfl) (by as_aux_lemma => kernel_rfl) (by as_aux_lemma => kernel_rfl) (fun _ _ _ h => h) (Or.inl ⟨by rfl, ?_⟩) hHeld15_10 ?_
                  rotate_left
                  · intro w hSw
                    (try dsimp only at hSw)
                    go_simp
                    try (first | (with_reducible rfl) | rfl)
                  try simp only [List.getElem_toArray, List.getElem_cons_zero, List.getElem_cons_succ, Act.put, List.setIfInBounds_toArray, List.set_cons_zero, List.set_cons_succ]
                  refine wpAnyH_take (i := 22) (v := ?_) rfl (by as_aux_lemma => kernel_rfl) (by as_aux_lemma => kernel_rfl) (by as_aux_lemma => kernel_rfl) (fun _ _ _ h => h) (Or.inl ⟨by rfl, ?_⟩) hHeld15_10 ?_
                  rotate_left
                  · intro w hSw
                    (try dsimp only at hSw)
                    go_simp
                    try (first | (with_reducible rfl) | rfl)
                  try simp only [List.getElem_toArray, List.getElem_cons_zero, List.getElem_cons_succ, Act.put, List.setIfInBounds_toArray, List.set_cons_zero, List.set_cons_succ]
                  refine wpAnyH_take (i := 23) (v := ?_) rfl (by as_aux_lemma => kernel_rfl) (by as_aux_lemma => kernel_rfl) (by as_aux_lemma => kernel_rfl) (fun _ _ _ h => h) (Or.inl ⟨by rfl, ?_⟩) hHeld15_10 ?_
                  rotate_left
                  · intro w hSw
                    (try dsimp only at hSw)
                    go_simp
                    try (first | (with_reducible rfl) | rfl)
                  try simp only [List.getElem_toArray, List.getElem_cons_zero, List.getElem_cons_succ, Act.put, List.setIfInBounds_toArray, List.set_cons_zero, List.set_cons_succ]
                  refine wpAnyH_take (i := 24) (v := ?_) rfl (by as_aux_lemma => kernel_rfl) (by as_aux_lemma => kernel_rfl) (by as_aux_lemma => kernel_rfl) (fun _ _ _ h => h) (Or.inl ⟨by rfl, ?_⟩) hHeld15_10 ?_
                  rotate_left
                  · intro w hSw
                    (try dsimp only at hSw)
                    go_simp
                    try (first | (with_reducible rfl) | rfl)
                  try simp only [List.getElem_toArray, List.getElem_cons_zero, List.getElem_cons_succ, Act.put, List.setIfInBounds_toArray, List.set_cons_zero, List.set_cons_succ]
                  refine wpAnyH_take (i := 25) (v := ?_) rfl (by as_aux_lemma => kernel_rfl) (by as_aux_lemma => kernel_rfl) (by as_aux_lemma => kernel_rfl) (fun _ _ _ h => h) (Or.inl ⟨by rfl, ?_⟩) hHeld15_10 ?_
                  rotate_left
                  · intro w hSw
                    (try dsimp only at hSw)
                    go_simp
                    try (first | (with_reducible rfl) | rfl)
                  try simp only [List.getElem_toArray, List.getElem_cons_zero, List.getElem_cons_succ, Act.put, List.setIfInBounds_toArray, List.set_cons_zero, List.set_cons_succ]
                  refine wpAnyH_ready (rs := [20]) (by as_aux_lemma => kernel_rfl) (by simp) ?_
                  refine AllReadyH.cons rfl (fun K hK => ?_) ?_
                  · go_simp
                    (go_at_call 17; refine (src_left ds'.length ((V3.out.below HBD.out).front 4 rfl) rfl).mono ?_; rintro e w' ⟨rfl, rfl⟩)
                    go_wp2_with fail
                    refine hK.out _ _ ?_ (fun hHeld25_20 => ?_)
                    · first | exact HC.out _ HBD.out | exact HC.out _ HBW.out
                    clear hK K
                    try simp only [List.getElem_toArray, List.getElem_cons_zero, List.getElem_cons_succ, Act.put, List.setIfInBounds_toArray, List.set_cons_zero, List.set_cons_succ]
                    refine wpAnyH_take (i := 26) (v := ?_) rfl (by as_aux_lemma => kernel_rfl) (by as_aux_lemma => kernel_rfl) (by as_aux_lemma => kernel_rfl) (fun _ _ _ h => h) (Or.inl ⟨by rfl, ?_⟩) hHeld25_20 ?_
                    rotate_left
                    · intro w hSw
                      (try dsimp only at hSw)
                      go_simp
                      try (first | (with_reducible rfl) | rfl)
                    try simp only [List.getElem_toArray, List.getElem_cons_zero, List.getElem_cons_succ, Act.put, List.setIfInBounds_toArray, List.set_cons_zero, List.set_cons_succ]
                    refine wpAnyH_take (i := 27) (v := ?_) rfl (by as_aux_lemma => kernel_rfl) (by as_aux_lemma => kernel_rfl) (by as_aux_lemma => kernel_rfl) (fun _ _ _ h => h) (Or.inl ⟨by rfl, ?_⟩) hHeld25_20 ?_
                    rotate_left
                    · intro w hSw
                      (try dsimp only at hSw)
                      go_simp
                      try (first | (with_reducible rfl) | rfl)
                    try simp only [List.getElem_toArray, List.getElem_cons_zero, List.getElem_cons_succ, Act.put, List.setIfInBounds_toArray, List.set_cons_zero, List.set_cons_succ]
                    refine wpAnyH_take (i := 28) (v := ?_) rfl (by as_aux_lemma => kernel_rfl) (by as_aux_lemma => kernel_rfl) (by as_aux_lemma => kernel_rfl) (fun _ _ _ h => h) (Or.inl ⟨by rfl, ?_⟩) hHeld25_20 ?_
                    rotate_left
                    · intro w hSw
                      (try dsimp only at hSw)
                      go_simp
                      try (first | (with_reducible rfl) | rfl)
                    try simp only [List.getElem_toArray, List.getElem_cons_zero, List.getElem_cons_succ, Act.put, List.setIfInBounds_toArray, List.set_cons_zero, List.set_cons_succ]
                    refine wpAnyH_take (i := 29) (v := ?_) rfl (by as_aux_lemma => kernel_rfl) (by as_aux_lemma => kernel_rfl) (by as_aux_lemma => kernel_rfl) (fun _ _ _ h => h) (Or.inl ⟨by rfl, ?_⟩) hHeld25_20 ?_
                    rotate_left
                    · intro w hSw
                      (try dsimp only at hSw)
                      go_simp
                      try (first | (with_reducible rfl) | rfl)
                    try simp only [List.getElem_toArray, List.getElem_cons_zero, List.getElem_cons_succ, Act.put, List.setIfInBounds_toArray, List.set_cons_zero, List.set_cons_succ]
                    refine wpAnyH_take (i := 30) (v := ?_) rfl (by as_aux_lemma => kernel_rfl) (by as_aux_lemma => kernel_rfl) (by as_aux_lemma => kernel_rfl) (fun _ _ _ h => h) (Or.inl ⟨by rfl, ?_⟩) hHeld25_20 ?_
                    rotate_left
                    · intro w hSw
                      (try dsimp only at hSw)
                      go_simp
                      try (first | (with_reducible rfl) | rfl)
                    try simp only [List.getElem_toArray, List.getElem_cons_zero, List.getElem_cons_succ, Act.put, List.setIfInBounds_toArray, List.set_cons_zero, List.set_cons_succ]
                    refine wpAnyH_take (i := 31) (v := ?_) rfl (by as_aux_lemma => kernel_rfl) (by as_aux_lemma => kernel_rfl) (by as_aux_lemma => kernel_rfl) (fun _ _ _ h => h) (Or.inl ⟨by rfl, ?_⟩) hHeld25_20 ?_
                    rotate_left
                    · intro w hSw
                      (try dsimp only at hSw)
                      go_simp
                      try (first | (with_reducible rfl) | rfl)
                    try simp only [List.getElem_toArray, List.getElem_cons_zero, List.getElem_cons_succ, Act.put, List.setIfInBounds_toArray, List.set_cons_zero, List.set_cons_succ]
                    refine wpAnyH_take (i := 32) (v := ?_) rfl (by as_aux_lemma => kernel_rfl) (by as_aux_lemma => kernel_rfl) (by as_aux_lemma => kernel_rfl) (fun _ _ _ h => h) (Or.inl ⟨by rfl, ?_⟩) hHeld25_20 ?_
                    rotate_left
                    · intro w hSw
                      (try dsimp only at hSw)
                      go_simp
                      try (first | (with_reducible rfl) | rfl)
                    try simp only [List.getElem_toArray, List.getElem_cons_zero, List.getElem_cons_succ, Act.put, List.setIfInBounds_toArray, List.set_cons_zero, List.set_cons_succ]
                    refine wpAnyH_take (i := 33) (v := ?_) rfl (by as_aux_lemma => kernel_rfl) (by as_aux_lemma => kernel_rfl) (by as_aux_lemma => kernel_rfl) (fun _ _ _ h => h) (Or.inl ⟨by rfl, ?_⟩) hHeld25_20 ?_
                    rotate_left
                    · intro w hSw
                      (try dsimp only at hSw)
                      go_simp
                      try (first | (with_reducible rfl) | rfl)
                    try simp only [List.getElem_toArray, List.getElem_cons_zero, List.getElem_cons_succ, Act.put, List.setIfInBounds_toArray, List.set_cons_zero, List.set_cons_succ]
                    refine wpAnyH_take (i := 34) (v := ?_) rfl (by as_aux_lemma => kernel_rfl) (by as_aux_lemma => kernel_rfl) (by as_aux_lemma => kernel_rfl) (fun _ _ _ h => h) (Or.inl ⟨by rfl, ?_⟩) hHeld25_20 ?_
                    rotate_left
                    · intro w hSw
                      (try dsimp only at hSw)
                      go_simp
                      try (first | (with_reducible rfl) | rfl)
                    try simp only [List.getElem_toArray, List.getElem_cons_zero, List.getElem_cons_succ, Act.put, List.setIfInBounds_toArray, List.set_cons_zero, List.set_cons_succ]
                    refine wpAnyH_take (i := 35) (v := ?_) rfl (by as_aux_lemma => kernel_rfl) (by as_aux_lemma => kernel_rfl) (by as_aux_lemma => kernel_rfl) (fun _ _ _ h => h) (Or.inl ⟨by rfl, ?_⟩) hHeld25_20 ?_
                    rotate_left
                    · intro w hSw
                      (try dsimp only at hSw)
                      go_simp
                      try (first | (with_reducible rfl) | rfl)
                    try simp only [List.getElem_toArray, List.getElem_cons_zero, List.getElem_cons_succ, Act.put, List.setIfInBounds_toArray, List.set_cons_zero, List.set_cons_succ]
                    refine wpAnyH_take (i := 36) (v := ?_) rfl (by as_aux_lemma => kernel_rfl) (by as_aux_lemma => kernel_rfl) (by as_aux_lemma => kernel_rfl) (fun _ _ _ h => h) (Or.inl ⟨by rfl, ?_⟩) hHeld25_20 ?_
                    rotate_left
                    · intro w hSw
                      (try dsimp only at hSw)
                      go_simp
                      try (first | (with_reducible rfl) | rfl)
                    try simp only [List.getElem_toArray, List.getElem_cons_zero, List.getElem_cons_succ, Act.put, List.setIfInBounds_toArray, List.set_cons_zero, List.set_cons_succ]
                    refine wpAnyH_take (i := 37) (v := ?_) rfl (by as_aux_lemma => kernel_rfl) (by as_aux_lemma => kernel_rfl) (by as_aux_lemma => kernel_rfl) (fun _ _ _ h => h) (Or.inl ⟨by rfl, ?_⟩) hHeld25_20 ?_
                    rotate_left
                    · intro w hSw
                      (try dsimp only at hSw)
                      go_simp
                      try (first | (with_reducible rfl) | rfl)
                    try simp only [List.getElem_toArray, List.getElem_cons_zero, List.getElem_cons_succ, Act.put, List.setIfInBounds_toArray, List.set_cons_zero, List.set_cons_succ]
                    refine wpAnyH_take (i := 38) (v := ?_) rfl (by as_aux_lemma => kernel_rfl) (by as_aux_lemma => kernel_rfl) (by as_aux_lemma => kernel_rfl) (fun _ _ _ h => h) (Or.inl ⟨by rfl, ?_⟩) hHeld25_20 ?_
                    rotate_left
                    · intro w hSw
                      (try dsimp only at hSw)
                      go_simp
                      try (first | (with_reducible rfl) | rfl)
                    try simp only [List.getElem_toArray, List.getElem_cons_zero, List.getElem_cons_succ, Act.put, List.setIfInBounds_toArray, List.set_cons_zero, List.set_cons_succ]
                    refine wpAnyH_take (i := 39) (v := ?_) rfl (by as_aux_lemma => kernel_rfl) (by as_aux_lemma => kernel_rfl) (by as_aux_lemma => kernel_rfl) (fun _ _ _ h => h) (Or.inl ⟨by rfl, ?_⟩) hHeld25_20 ?_
                    rotate_left
                    · intro w hSw
                      (try dsimp only at hSw)
                      go_simp
                      try (first | (with_reducible rfl) | rfl)
                    try simp only [List.getElem_toArray, List.getElem_cons_zero, List.getElem_cons_succ, Act.put, List.setIfInBounds_toArray, List.set_cons_zero, List.set_cons_succ]
                    refine wpAnyH_take (i := 40) (v := ?_) rfl (by as_aux_lemma => kernel_rfl) (by as_aux_lemma => kernel_rfl) (by as_aux_lemma => kernel_rfl) (fun _ _ _ h => h) (Or.inl ⟨by rfl, ?_⟩) hHeld25_20 ?_
                    rotate_left
                    · intro w hSw
                      (try dsimp only at hSw)
                      go_simp
                      try (first | (with_reducible rfl) | rfl)
                    try simp only [List.getElem_toArray, List.getElem_cons_zero, List.getElem_cons_succ, Act.put, List.setIfInBounds_toArray, List.set_cons_zero, List.set_cons_succ]
                    refine wpAnyH_take (i := 41) (v := ?_) rfl (by as_aux_lemma => kernel_rfl) (by as_aux_lemma => kernel_rfl) (by as_aux_lemma => kernel_rfl) (fun _ _ _ h => h) (Or.inl ⟨by rfl, ?_⟩) hHeld25_20 ?_
                    rotate_left
                    · intro w hSw
                      (try dsimp only at hSw)
                      go_simp
                      try (first | (with_reducible rfl) | rfl)
                    try simp only [List.getElem_toArray, List.getElem_cons_zero, List.getElem_cons_succ, Act.put, List.setIfInBounds_toArray, List.set_cons_zero, List.set_cons_succ]
                    refine wpAnyH_take (i := 42) (v := ?_) rfl (by as_aux_lemma => kernel_rfl) (by as_aux_lemma => kernel_rfl) (by as_aux_lemma => kernel_rfl) (fun _ _ _ h => h) (Or.inl ⟨by rfl, ?_⟩) hHeld25_20 ?_
                    rotate_left
                    · intro w hSw
                      (try dsimp only at hSw)
                      go_simp
                      try (first | (with_reducible rfl) | rfl)
                    try simp only [List.getElem_toArray, List.getElem_cons_zero, List.getElem_cons_succ, Act.put, List.setIfInBounds_toArray, List.set_cons_zero, List.set_cons_succ]
                    refine wpAnyH_take (i := 43) (v := ?_) rfl (by as_aux_lemma => kernel_rfl) (by as_aux_lemma => kernel_rfl) (by as_aux_lemma => kernel_rfl) (fun _ _ _ h => h) (Or.inl ⟨by rfl, ?_⟩) hHeld25_20 ?_
                    rotate_left
                    · intro w hSw
                      (try dsimp only at hSw)
                      go_simp
                      try (first | (with_reducible rfl) | rfl)
                    try simp only [List.getElem_toArray, List.getElem_cons_zero, List.getElem_cons_succ, Act.put, List.setIfInBounds_toArray, List.set_cons_zero, List.set_cons_succ]
                    refine wpAnyH_take (i := 44) (v := ?_) rfl (by as_aux_lemma => kernel_rfl) (by as_aux_lemma => kernel_rfl) (by as_aux_lemma => kernel_rfl) (fun _ _ _ h => h) (Or.inl ⟨by rfl, ?_⟩) hHeld25_20 ?_
                    rotate_left
                    · intro w hSw
                      (try dsimp only at hSw)
                      go_simp
                      try (first | (with_reducible rfl) | rfl)
                    try simp only [List.getElem_toArray, List.getElem_cons_zero, List.getElem_cons_succ, Act.put, List.setIfInBounds_toArray, List.set_cons_zero, List.set_cons_succ]
                    refine wpAnyH_take (i := 45) (v := ?_) rfl (by as_aux_lemma => kernel_rfl) (by as_aux_lemma => kernel_rfl) (by as_aux_lemma => kernel_rfl) (fun _ _ _ h => h) (Or.inl ⟨by rfl, ?_⟩) hHeld25_20 ?_
                    rotate_left
                    · intro w hSw
                      (try dsimp only at hSw)
                      go_simp
                      try (first | (with_reducible rfl) | rfl)
                    try simp only [List.getElem_toArray, List.getElem_cons_zero, List.getElem_cons_succ, Act.put, List.setIfInBounds_toArray, List.set_cons_zero, List.set_cons_succ]
                    refine wpAnyH_take (i := 46) (v := ?_) rfl (by as_aux_lemma => kernel_rfl) (by as_aux_lemma => kernel_rfl) (by as_aux_lemma => kernel_rfl) (fun _ _ _ h => h) (Or.inl ⟨by rfl, ?_⟩) hHeld25_20 ?_
                    rotate_left
                    · intro w hSw
                      (try dsimp only at hSw)
                      go_simp
                      try (first | (with_reducible rfl) | rfl)
                    try simp only [List.getElem_toArray, List.getElem_cons_zero, List.getElem_cons_succ, Act.put, List.setIfInBounds_toArray, List.set_cons_zero, List.set_cons_succ]
                    refine wpAnyH_take (i := 47) (v := ?_) rfl (by as_aux_lemma => kernel_rfl) (by as_aux_lemma => kernel_rfl) (by as_aux_lemma => kernel_rfl) (fun _ _ _ h => h) (Or.inl ⟨by rfl, ?_⟩) hHeld25_20 ?_
                    rotate_left
                    · intro w hSw
                      (try dsimp only at hSw)
                      go_simp
                      try (first | (with_reducible rfl) | rfl)
                    try simp only [List.getElem_toArray, List.getElem_cons_zero, List.getElem_cons_succ, Act.put, List.setIfInBounds_toArray, List.set_cons_zero, List.set_cons_succ]
                    refine wpAnyH_take (i := 48) (v := ?_) rfl (by as_aux_lemma => kernel_rfl) (by as_aux_lemma => kernel_rfl) (by as_aux_lemma => kernel_rfl) (fun _ _ _ h => h) (Or.inl ⟨by rfl, ?_⟩) hHeld25_20 ?_
                    rotate_left
                    · intro w hSw
                      (try dsimp only at hSw)
                      go_simp
                      try (first | (with_reducible rfl) | rfl)
                    try simp only [List.getElem_toArray, List.getElem_cons_zero, List.getElem_cons_succ, Act.put, List.setIfInBounds_toArray, List.set_cons_zero, List.set_cons_succ]
                    refine wpAnyH_take (i := 49) (v := ?_) rfl (by as_aux_lemma => kernel_rfl) (by as_aux_lemma => kernel_rfl) (by as_aux_lemma => kernel_rfl) (fun _ _ _ h => h) (Or.inl ⟨by rfl, ?_⟩) hHeld25_20 ?_
                    rotate_left
                    · intro w hSw
                      (try dsimp only at hSw)
                      go_simp
                      try (first | (with_reducible rfl) | rfl)
                    try simp only [List.getElem_toArray, List.getElem_cons_zero, List.getElem_cons_succ, Act.put, List.setIfInBounds_toArray, List.set_cons_zero, List.set_cons_succ]
                    refine wpAnyH_take (i := 50) (v := ?_) rfl (by as_aux_lemma => kernel_rfl) (by as_aux_lemma => kernel_rfl) (by as_aux_lemma => kernel_rfl) (fun _ _ _ h => h) (Or.inl ⟨by rfl, ?_⟩) hHeld25_20 ?_
                    rotate_left
                    · intro w hSw
                      (try dsimp only at hSw)
                      go_simp
                      try (first | (with_reducible rfl) | rfl)
                    try simp only [List.getElem_toArray, List.getElem_cons_zero, List.getElem_cons_succ, Act.put, List.setIfInBounds_toArray, List.set_cons_zero, List.set_cons_succ]
                    refine wpAnyH_take (i := 51) (v := ?_) rfl (by as_aux_lemma => kernel_rfl) (by as_aux_lemma => kernel_rfl) (by as_aux_lemma => kernel_rfl) (fun _ _ _ h => h) (Or.inl ⟨by rfl, ?_⟩) hHeld25_20 ?_
                    rotate_left
                    · intro w hSw
                      (try dsimp only at hSw)
                      go_simp
                      try (first | (with_reducible rfl) | rfl)
                    try simp only [List.getElem_toArray, List.getElem_cons_zero, List.getElem_cons_succ, Act.put, List.setIfInBounds_toArray, List.set_cons_zero, List.set_cons_succ]
                    refine wpAnyH_take (i := 52) (v := ?_) rfl (by as_aux_lemma => kernel_rfl) (by as_aux_lemma => kernel_rfl) (by as_aux_lemma => kernel_rfl) (fun _ _ _ h => h) (Or.inl ⟨by rfl, ?_⟩) hHeld25_20 ?_
                    rotate_left
                    · intro w hSw
                      (try dsimp only at hSw)
                      go_simp
                      try (first | (with_reducible rfl) | rfl)
                    try simp only [List.getElem_toArray, List.getElem_cons_zero, List.getElem_cons_succ, Act.put, List.setIfInBounds_toArray, List.set_cons_zero, List.set_cons_succ]
                    refine wpAnyH_take (i := 53) (v := ?_) rfl (by as_aux_lemma => kernel_rfl) (by as_aux_lemma => kernel_rfl) (by as_aux_lemma => kernel_rfl) (fun _ _ _ h => h) (Or.inl ⟨by rfl, ?_⟩) hHeld25_20 ?_
                    rotate_left
                    · intro w hSw
                      (try dsimp only at hSw)
                      go_simp
                      try (first | (with_reducible rfl) | rfl)
                    try simp only [List.getElem_toArray, List.getElem_cons_zero, List.getElem_cons_succ, Act.put, List.setIfInBounds_toArray, List.set_cons_zero, List.set_cons_succ]
                    refine wpAnyH_take (i := 54) (v := ?_) rfl (by as_aux_lemma => kernel_rfl) (by as_aux_lemma => kernel_rfl) (by as_aux_lemma => kernel_rfl) (fun _ _ _ h => h) (Or.inl ⟨by rfl, ?_⟩) hHeld25_20 ?_
                    rotate_left
                    · intro w hSw
                      (try dsimp only at hSw)
                      go_simp
                      try (first | (with_reducible rfl) | rfl)
                    try simp only [List.getElem_toArray, List.getElem_cons_zero, List.getElem_cons_succ, Act.put, List.setIfInBounds_toArray, List.set_cons_zero, List.set_cons_succ]
                    refine wpAnyH_take (i := 55) (v := ?_) rfl (by as_aux_lemma => kernel_rfl) (by as_aux_lemma => kernel_rfl) (by as_aux_lemma => kernel_rfl) (fun _ _ _ h => h) (Or.inl ⟨by rfl, ?_⟩) hHeld25_20 ?_
                    rotate_left
                    · intro w hSw
                      (try dsimp only at hSw)
                      go_simp
                      try (first | (with_reducible rfl) | rfl)
                    try simp only [List.getElem_toArray, List.getElem_cons_zero, List.getElem_cons_succ, Act.put, List.setIfInBounds_toArray, List.set_cons_zero, List.set_cons_succ]
                    refine wpAnyH_take (i := 56) (v := ?_) rfl (by as_aux_lemma => kernel_rfl) (by as_aux_lemma => kernel_rfl) (by as_aux_lemma => kernel_rfl) (fun _ _ _ h => h) (Or.inl ⟨by rfl, ?_⟩) hHeld25_20 ?_
                    rotate_left
                    · intro w hSw
                      (try dsimp only at hSw)
                      go_simp
                      try (first | (with_reducible rfl) | rfl)
                    try simp only [List.getElem_toArray, List.getElem_cons_zero, List.getElem_cons_succ, Act.put, List.setIfInBounds_toArray, List.set_cons_zero, List.set_cons_succ]
                    refine wpAnyH_take (i := 57) (v := ?_) rfl (by as_aux_lemma => kernel_rfl) (by as_aux_lemma => kernel_rfl) (by as_aux_lemma => kernel_rfl) (fun _ _ _ h => h) (Or.inl ⟨by rfl, ?_⟩) hHeld25_20 ?_
                    rotate_left
                    · intro w hSw
                      (try dsimp only at hSw)
                      go_simp
                      try (first | (with_reducible rfl) | rfl)
                    try simp only [List.getElem_toArray, List.getElem_cons_zero, List.getElem_cons_succ, Act.put, List.setIfInBounds_toArray, List.set_cons_zero, List.set_cons_succ]
                    refine wpAnyH_take (i := 58) (v := ?_) rfl (by as_aux_lemma => kernel_rfl) (by as_aux_lemma => kernel_rfl) (by as_aux_lemma => kernel_rfl) (fun _ _ _ h => h) (Or.inl ⟨by rfl, ?_⟩) hHeld25_20 ?_
                    rotate_left
                    · intro w hSw
                      (try dsimp only at hSw)
                      go_simp
                      try (first | (with_reducible rfl) | rfl)
                    try simp only [List.getElem_toArray, List.getElem_cons_zero, List.getElem_cons_succ, Act.put, List.setIfInBounds_toArray, List.set_cons_zero, List.set_cons_succ]
                    refine wpAnyH_take (i := 60) (v := ?_) rfl (by as_aux_lemma => kernel_rfl) (by as_aux_lemma => kernel_rfl) (by as_aux_lemma => kernel_rfl) (fun _ _ _ h => h) (Or.inl ⟨by rfl, ?_⟩) hHeld25_20 ?_
                    rotate_left
                    · intro w hSw
                      (try dsimp only at hSw)
                      go_simp
                      try (first | (with_reducible rfl) | rfl)
                    try simp only [List.getElem_toArray, List.getElem_cons_zero, List.getElem_cons_succ, Act.put, List.setIfInBounds_toArray, List.set_cons_zero, List.set_cons_succ]
                    refine wpAnyH_take (i := 61) (v := ?_) rfl (by as_aux_lemma => kernel_rfl) (by as_aux_lemma => kernel_rfl) (by as_aux_lemma => kernel_rfl) (fun _ _ _ h => h) (Or.inl ⟨by rfl, ?_⟩) hHeld25_20 ?_
                    rotate_left
                    · intro w hSw
                      (try dsimp only at hSw)
                      go_simp
                      try (first | (with_reducible rfl) | rfl)
                    try simp only [List.getElem_toArray, List.getElem_cons_zero, List.getElem_cons_succ, Act.put, List.setIfInBounds_toArray, List.set_cons_zero, List.set_cons_succ]
                    refine wpAnyH_take (i := 62) (v := ?_) rfl (by as_aux_lemma => kernel_rfl) (by as_aux_lemma => kernel_rfl) (by as_aux_lemma => kernel_rfl) (fun _ _ _ h => h) (Or.inl ⟨by rfl, ?_⟩) hHeld25_20 ?_
                    rotate_left
                    · intro w hSw
                      (try dsimp only at hSw)
                      go_simp
                      try (first | (with_reducible rfl) | rfl)
                    try simp only [List.getElem_toArray, List.getElem_cons_zero, List.getElem_cons_succ, Act.put, List.setIfInBounds_toArray, List.set_cons_zero, List.set_cons_succ]
                    refine wpAnyH_take (i := 63) (v := ?_) rfl (by as_aux_lemma => kernel_rfl) (by as_aux_lemma => kernel_rfl) (by as_aux_lemma => kernel_rfl) (fun _ _ _ h => h) (Or.inl ⟨by rfl, ?_⟩) hHeld25_20 ?_
                    rotate_left
                    · intro w hSw
                      (try dsimp only at hSw)
                      go_simp
                      try (first | (with_reducible rfl) | rfl)
                    try simp only [List.getElem_toArray, List.getElem_cons_zero, List.getElem_cons_succ, Act.put, List.setIfInBounds_toArray, List.set_cons_zero, List.set_cons_succ]
                    refine wpAnyH_ready (rs := [59]) (by as_aux_lemma => kernel_rfl) (by simp) ?_
                    refine AllReadyH.cons rfl (fun K hK => ?_) ?_
                    · go_simp
                      (go_at_call 19; refine (e_place (V3.out.below HBD.out) 5 rfl).mono ?_; rintro e w' ⟨rfl, rfl⟩)
                      go_wp2_with fail
                      refine hK.out _ _ ?_ (fun hHeld63_59 => ?_)
                      · first | exact HC.out _ HBD.out | exact HC.out _ HBW.out
                      clear hK K
                      try simp only [List.getElem_toArray, List.getElem_cons_zero, List.getElem_cons_succ, Act.put, List.setIfInBounds_toArray, List.set_cons_zero, List.set_cons_succ]
                      refine wpAnyH_ready (rs := [64]) (by as_aux_lemma => kernel_rfl) (by simp) ?_
                      refine AllReadyH.cons rfl (fun K hK => ?_) ?_
                      · go_simp
                        (go_at_call 33; refine (rf_place (V3.out.below HBD.out) 2 rfl HOK2.out).mono ?_; rintro e w' ⟨rfl, rfl⟩)
                        go_wp2_with fail
                        refine hK.out _ _ ?_ (fun hHeld64_64 => ?_)
                        · first | exact HC.out _ HBD.out | exact HC.out _ HBW.out
                        clear hK K
                        try simp only [List.getElem_toArray, List.getElem_cons_zero, List.getElem_cons_succ, Act.put, List.setIfInBounds_toArray, List.set_cons_zero, List.set_cons_succ]
                        refine wpAnyH_take (i := 65) (v := ?_) rfl (by as_aux_lemma => kernel_rfl) (by as_aux_lemma => kernel_rfl) (by as_aux_lemma => kernel_rfl) (fun _ _ _ h => h) (Or.inl ⟨by rfl, ?_⟩) hHeld64_64 ?_
                        rotate_left
                        · intro w hSw
                          (try dsimp only at hSw)
                          go_simp
                          try (first | (with_reducible rfl) | rfl)
                        try simp only [List.getElem_toArray, List.getElem_cons_zero, List.getElem_cons_succ, Act.put, List.setIfInBounds_toArray, List.set_cons_zero, List.set_cons_succ]
                        refine wpAnyH_take (i := 66) (v := ?_) rfl (by as_aux_lemma => kernel_rfl) (by as_aux_lemma => kernel_rfl) (by as_aux_lemma => kernel_rfl) (fun _ _ _ h => h) (Or.inl ⟨by rfl, ?_⟩) hHeld64_64 ?_
                        rotate_left
                        · intro w hSw
                          (try dsimp only at hSw)
                          go_simp
                          try (first | (with_reducible rfl) | rfl)
                        try simp only [List.getElem_toArray, List.getElem_cons_zero, List.getElem_cons_succ, Act.put, List.setIfInBounds_toArray, List.set_cons_zero, List.set_cons_succ]
                        refine wpAnyH_take (i := 67) (v := ?_) rfl (by as_aux_lemma => kernel_rfl) (by as_aux_lemma => kernel_rfl) (by as_aux_lemma => kernel_rfl) (fun _ _ _ h => h) (Or.inl ⟨by rfl, ?_⟩) hHeld64_64 ?_
                        rotate_left
                        · intro w hSw
                          (try dsimp only at hSw)
                          go_simp
                          try (first | (with_reducible rfl) | rfl)
                        try simp only [List.getElem_toArray, List.getElem_cons_zero, List.getElem_cons_succ, Act.put, List.setIfInBounds_toArray, List.set_cons_zero, List.set_cons_succ]
                        refine wpAnyH_take (i := 68) (v := ?_) rfl (by as_aux_lemma => kernel_rfl) (by as_aux_lemma => kernel_rfl) (by as_aux_lemma => kernel_rfl) (fun _ _ _ h => h) (Or.inl ⟨by rfl, ?_⟩) hHeld64_64 ?_
                        rotate_left
                        · intro w hSw
                          (try dsimp only at hSw)
                          go_simp
                          try (first | (with_reducible rfl) | rfl)
                        try simp only [List.getElem_toArray, List.getElem_cons_zero, List.getElem_cons_succ, Act.put, List.setIfInBounds_toArray, List.set_cons_zero, List.set_cons_succ]
                        refine wpAnyH_take (i := 69) (v := ?_) rfl (by as_aux_lemma => kernel_rfl) (by as_aux_lemma => kernel_rfl) (by as_aux_lemma => kernel_rfl) (fun _ _ _ h => h) (Or.inl ⟨by rfl, ?_⟩) hHeld64_64 ?_
                        rotate_left
                        · intro w hSw
                          (try dsimp only at hSw)
                          go_simp
                          try (first | (with_reducible rfl) | rfl)
                        try simp only [List.getElem_toArray, List.getElem_cons_zero, List.getElem_cons_succ, Act.put, List.setIfInBounds_toArray, List.set_cons_zero, List.set_cons_succ]
                        refine wpAnyH_take (i := 70) (v := ?_) rfl (by as_aux_lemma => kernel_rfl) (by as_aux_lemma => kernel_rfl) (by as_aux_lemma => kernel_rfl) (fun _ _ _ h => h) (Or.inl ⟨by rfl, ?_⟩) hHeld64_64 ?_
                        rotate_left
                        · intro w hSw
                          (try dsimp only at hSw)
                          go_simp
                          try (first | (with_reducible rfl) | rfl)
                        try simp only [List.getElem_toArray, List.getElem_cons_zero, List.getElem_cons_succ, Act.put, List.setIfInBounds_toArray, List.set_cons_zero, List.set_cons_succ]
                        refine wpAnyH_take (i := 71) (v := ?_) rfl (by as_aux_lemma => kernel_rfl) (by as_aux_lemma => kernel_rfl) (by as_aux_lemma => kernel_rfl) (fun _ _ _ h => h) (Or.inl ⟨by rfl, ?_⟩) hHeld64_64 ?_
                        rotate_left
                        · intro w hSw
                          (try dsimp only at hSw)
                          go_simp
                          try (first | (with_reducible rfl) | rfl)
                        try simp only [List.getElem_toArray, List.getElem_cons_zero, List.getElem_cons_succ, Act.put, List.setIfInBounds_toArray, List.set_cons_zero, List.set_cons_succ]
                        refine wpAnyH_take (i := 72) (v := ?_) rfl (by as_aux_lemma => kernel_rfl) (by as_aux_lemma => kernel_rfl) (by as_aux_lemma => kernel_rfl) (fun _ _ _ h => h) (Or.inl ⟨by rfl, ?_⟩) hHeld64_64 ?_
                        rotate_left
                        · intro w hSw
                          (try dsimp only at hSw)
                          go_simp
                          try (first | (with_reducible rfl) | rfl)
                        try simp only [List.getElem_toArray, List.getElem_cons_zero, List.getElem_cons_succ, Act.put, List.setIfInBounds_toArray, List.set_cons_zero, List.set_cons_succ]
                        refine wpAnyH_take (i := 75) (v := ?_) rfl (by as_aux_lemma => kernel_rfl) (by as_aux_lemma => kernel_rfl) (by as_aux_lemma => kernel_rfl) (fun _ _ _ h => h) (Or.inl ⟨by rfl, ?_⟩) hHeld64_64 ?_
                        rotate_left
                        · intro w hSw
                          (try dsimp only at hSw)
                          go_simp
                          try (first | (with_reducible rfl) | rfl)
                        try simp only [List.getElem_toArray, List.getElem_cons_zero, List.getElem_cons_succ, Act.put, List.setIfInBounds_toArray, List.set_cons_zero, List.set_cons_succ]
                        refine wpAnyH_take (i := 76) (v := ?_) rfl (by as_aux_lemma => kernel_rfl) (by as_aux_lemma => kernel_rfl) (by as_aux_lemma => kernel_rfl) (fun _ _ _ h => h) (Or.inl ⟨by rfl, ?_⟩) hHeld64_64 ?_
                        rotate_left
                        · intro w hSw
                          (try dsimp only at hSw)
                          go_simp
                          try (first | (with_reducible rfl) | rfl)
                        try simp only [List.getElem_toArray, List.getElem_cons_zero, List.getElem_cons_succ, Act.put, List.setIfInBounds_toArray, List.set_cons_zero, List.set_cons_succ]
                        refine wpAnyH_take (i := 77) (v := ?_) rfl (by as_aux_lemma => kernel_rfl) (by as_aux_lemma => kernel_rfl) (by as_aux_lemma => kernel_rfl) (fun _ _ _ h => h) (Or.inl ⟨by rfl, ?_⟩) hHeld64_64 ?_
                        rotate_left
                        · intro w hSw
                          (try dsimp only at hSw)
                          go_simp
                          try (first | (with_reducible rfl) | rfl)
                        try simp only [List.getElem_toArray, List.getElem_cons_zero, List.getElem_cons_succ, Act.put, List.setIfInBounds_toArray, List.set_cons_zero, List.set_cons_succ]
                        refine wpAnyH_take (i := 78) (v := ?_) rfl (by as_aux_lemma => kernel_rfl) (by as_aux_lemma => kernel_rfl) (by as_aux_lemma => kernel_rfl) (fun _ _ _ h => h) (Or.inl ⟨by rfl, ?_⟩) hHeld64_64 ?_
                        rotate_left
                        · intro w hSw
                          (try dsimp only at hSw)
                          go_simp
                          try (first | (with_reducible rfl) | rfl)
                        try simp only [List.getElem_toArray, List.getElem_cons_zero, List.getElem_cons_succ, Act.put, List.setIfInBounds_toArray, List.set_cons_zero, List.set_cons_succ]
                        refine wpAnyH_take (i := 79) (v := ?_) rfl (by as_aux_lemma => kernel_rfl) (by as_aux_lemma => kernel_rfl) (by as_aux_lemma => kernel_rfl) (fun _ _ _ h => h) (Or.inl ⟨by rfl, ?_⟩) hHeld64_64 ?_
                        rotate_left
                        · intro w hSw
                          (try dsimp only at hSw)
                          go_simp
                          try (first | (with_reducible rfl) | rfl)
                        try simp only [List.getElem_toArray, List.getElem_cons_zero, List.getElem_cons_succ, Act.put, List.setIfInBounds_toArray, List.set_cons_zero, List.set_cons_succ]
                        refine wpAnyH_take (i := 80) (v := ?_) rfl (by as_aux_lemma => kernel_rfl) (by as_aux_lemma => kernel_rfl) (by as_aux_lemma => kernel_rfl) (fun _ _ _ h => h) (Or.inl ⟨by rfl, ?_⟩) hHeld64_64 ?_
                        rotate_left
                        · intro w hSw
                          (try dsimp only at hSw)
                          go_simp
                          try (first | (with_reducible rfl) | rfl)
                        try simp only [List.getElem_toArray, List.getElem_cons_zero, List.getElem_cons_succ, Act.put, List.setIfInBounds_toArray, List.set_cons_zero, List.set_cons_succ]
                        refine wpAnyH_take (i := 81) (v := ?_) rfl (by as_aux_lemma => kernel_rfl) (by as_aux_lemma => kernel_rfl) (by as_aux_lemma => kernel_rfl) (fun _ _ _ h => h) (Or.inl ⟨by rfl, ?_⟩) hHeld64_64 ?_
                        rotate_left
                        · intro w hSw
                          (try dsimp only at hSw)
                          go_simp
                          try (first | (with_reducible rfl) | rfl)
                        try simp only [List.getElem_toArray, List.getElem_cons_zero, List.getElem_cons_succ, Act.put, List.setIfInBounds_toArray, List.set_cons_zero, List.set_cons_succ]
                        refine wpAnyH_take (i := 82) (v := ?_) rfl (by as_aux_lemma => kernel_rfl) (by as_aux_lemma => kernel_rfl) (by as_aux_lemma => kernel_rfl) (fun _ _ _ h => h) (Or.inl ⟨by rfl, ?_⟩) hHeld64_64 ?_
                        rotate_left
                        · intro w hSw
                          (try dsimp only at hSw)
                          go_simp
                          try (first | (with_reducible rfl) | rfl)
                        try simp only [List.getElem_toArray, List.getElem_cons_zero, List.getElem_cons_succ, Act.put, List.setIfInBounds_toArray, List.set_cons_zero, List.set_cons_succ]
                        refine wpAnyH_ready (rs := [73]) (by as_aux_lemma => kernel_rfl) (by simp) ?_
                        refine AllReadyH.cons rfl (fun K hK => ?_) ?_
                        · go_simp
                          (go_at_call 21; refine (words_st ((V3.out.below HBD.out).front 3 rfl) N HL2.out).mono ?_; rintro e w4 ⟨al, c4', rfl, hrw, _, hb⟩; (have HRW := Lib.hid hrw); clear hrw; (have HZ2 := Lib.hid (HBD.out.trans (hb.mono HBD.out.size))); clear hb HBD; (have HBD := HZ2); clear HZ2)
                          go_wp2_with fail
                          refine hK.out _ _ ?_ (fun hHeld81_73 => ?_)
                          · first | exact HC.out _ HBD.out | exact HC.out _ HBW.out
                          clear hK K
                          try simp only [List.getElem_toArray, List.getElem_cons_zero, List.getElem_cons_succ, Act.put, List.setIfInBounds_toArray, List.set_cons_zero, List.set_cons_succ]
                          refine wpAnyH_ready (rs := [74]) (by as_aux_lemma => kernel_rfl) (by simp) ?_
                          refine AllReadyH.cons rfl (fun K hK => ?_) ?_
                          · go_simp
                            (go_at_call 20; refine (e_met _ N _ N ns'.length ws' mb ((((V3.out.below HBD.out).front 5 rfl).front 2 rfl).front 2 rfl) HOK2.out HRW.out HL2.out HMB.out).mono ?_; rintro e w5 ⟨rfl, hb⟩; (have HZ2 := Lib.hid (HBD.out.trans (hb.mono HBD.out.size))); clear hb HBD; (have HBD := HZ2); clear HZ2)
                            go_wp2_with fail
                            refine hK.out _ _ ?_ (fun hHeld82_74 => ?_)
                            · first | exact HC.out _ HBD.out | exact HC.out _ HBW.out
                            clear hK K
                            try simp only [List.getElem_toArray, List.getElem_cons_zero, List.getElem_cons_succ, Act.put, List.setIfInBounds_toArray, List.set_cons_zero, List.set_cons_succ]
                            refine wpAnyH_ready (rs := [83]) (by as_aux_lemma => kernel_rfl) (by simp) ?_
                            refine AllReadyH.cons rfl (fun K hK => ?_) ?_
                            · go_simp
                              (go_at_call 34; refine (rf_met _ N _ N ns'.length ws' mb (V3.out.below HBD.out) HOK2.out (HYR.out _ HBD.out) HL2.out HMB.out).mono ?_; rintro e w6 ⟨rfl, hb⟩; (have HZ2 := Lib.hid (HBD.out.trans (hb.mono HBD.out.size))); clear hb HBD; (have HBD := HZ2); clear HZ2)
                              go_wp2_with fail
                              refine hK.out _ _ ?_ (fun hHeld83_83 => ?_)
                              · first | exact HC.out _ HBD.out | exact HC.out _ HBW.out
                              clear hK K
                              try simp only [List.getElem_toArray, List.getElem_cons_zero, List.getElem_cons_succ, Act.put, List.setIfInBounds_toArray, List.set_cons_zero, List.set_cons_succ]
                              refine wpAnyH_take (i := 84) (v := ?_) rfl (by as_aux_lemma => kernel_rfl) (by as_aux_lemma => kernel_rfl) (by as_aux_lemma => kernel_rfl) (fun _ _ _ h => h) (Or.inl ⟨by rfl, ?_⟩) hHeld83_83 ?_
                              rotate_left
                              · intro w hSw
                                (try dsimp only at hSw)
                                go_simp
                                try (first | (with_reducible rfl) | rfl)
                              try simp only [List.getElem_toArray, List.getElem_cons_zero, List.getElem_cons_succ, Act.put, List.setIfInBounds_toArray, List.set_cons_zero, List.set_cons_succ]
                              refine wpAnyH_take (i := 85) (v := ?_) rfl (by as_aux_lemma => kernel_rfl) (by as_aux_lemma => kernel_rfl) (by as_aux_lemma => kernel_rfl) (fun _ _ _ h => h) (Or.inl ⟨by rfl, ?_⟩) hHeld83_83 ?_
                              rotate_left
                              · intro w hSw
                                (try dsimp only at hSw)
                                go_simp
                                try (first | (with_reducible rfl) | rfl)
                              try simp only [List.getElem_toArray, List.getElem_cons_zero, List.getElem_cons_succ, Act.put, List.setIfInBounds_toArray, List.set_cons_zero, List.set_cons_succ]
                              refine wpAnyH_done (by as_aux_lemma => kernel_rfl) ?_ _
                              go_wp2
                              go_roundg k3
                              all_goals first | omega | exact ⟨i + 1, rfl, by omega, by omega, ws', ns', now, ds', xs.set k (b, nx + 1, S'), by rw [List.length_set]; exact HXS.out, HT2.out, by
                                have h5 := HPK.out _ _ _ (b, nx + 1, S') (St.close6 ((((((((((V3.out.below HBD.out).front 2 rfl).front 2 rfl).front 2 rfl).front 5 rfl).front 5 rfl).front 5 rfl).front 7 rfl).front 7 rfl)).tail.tail)
                                have hkl : k < xs.length := by have := HXS.out; omega
                                have e5 : ((xs.set k (b, nx + 1, S')).map fun x => ptrV x.1) = xs.map fun x => ptrV x.1 := by
                                  rw [List.map_set]
                                  exact set_kept (by rw [List.getElem?_map, HXK.out]; rfl)
                                unfold eRows
                                rw [e5]
                                exact h5⟩
                            exact AllReadyH.nil
                          exact AllReadyH.nil
                        exact AllReadyH.nil
                      exact AllReadyH.nil
                    exact AllReadyH.nil
                  exact AllReadyH.nil
                exact AllReadyH.nil
            · have c4b : decide ((i : Int) < tl) = false := decide_eq_false (by omega)
              have HE := Lib.hid hS.unstar
              obtain ⟨A3, c3, B3, d3, n0, n1, hr3, hl3⟩ := HE.out.refCells 1 rfl
              have hlN : ws.length = N := hT1.len
              have HLN := Lib.hid hlN
              rw [hlN] at n0
              have HY : Hid (∀ w', Below wr.heap.size wr w' → w'.cell? ⟨y, 0, none⟩ = some (.slice A3 N c3) ∧ RdU w' A3 ws) := Lib.hid (fun w' hb => ⟨(hb.cell (World.block_lt_of_cell? _ _ n0)).trans n0, hr3.kept hb⟩)
              have HBD := Lib.hid ((Below.refl wr.heap.size wr).drew)
              clear hS hT1 hxs n0 n1 hr3 hlN hl3
              go_wp2
              go_region_held3 (fun w' => w'.cell? ⟨y, 0, none⟩ = some (.slice A3 N c3)) (first | exact (HY.out _ HBD.out).1 | exact (HY.out _ (Below.refl _ _)).1) (first | (go_at_call 21; refine (words_st (HE.out.below HBD.out) N HLN.out).mono ?_; rintro e w4 ⟨al, c4', rfl, hrw, _, hb⟩; (have HZ2 := Lib.hid (HBD.out.trans (hb.mono HBD.out.size))); (have HWM := Lib.hid hrw); clear hrw hb HBD; (have HBD := HZ2); clear HZ2) | (go_at_call 35; refine (same10 _ _ N _ _ ws _ HWM.out (HY.out _ HBD.out).2 HLN.out hN1).mono ?_; rintro e w5 ⟨rfl, hb⟩; (have HZ2 := Lib.hid (HBD.out.trans (hb.mono HBD.out.size))); clear hb HBD HWM; (have HBD := HZ2); clear HZ2))
              all_goals go_wp2
              all_goals go_ret
              all_goals exact ⟨rfl, (HE.out.below HBD.out).bel⟩

theorem elimSteps_walk (gn gs gh gt : Int) (A : Option Addr) (N c : Nat) (zs : List Int) (B : Option Addr) (m cb : Nat) (F : Nat → PJob) (D : Option Addr) (t cd : Nat) (T : Nat → PTurn) (w : World) {P0 P1 P2 P3 : Prop} (_ : P0) (_ : P1) (_ : P2) (_ : P3) (h : IsRow .u64 w A N c zs) (hF : RdJob w B m F) (hT : RdTurn w D t T) :
    Calls Try.prog 8 #[.agg #[.int .i64 gn, .int .i64 gs, .int .i64 gh, .int .u32 gt], .slice A N c, .slice B m cb, .slice D t cd] w fun e w' => e = .returned (.bool true) ∧ Below w.heap.size w w' := by
  obtain ⟨hr, hws, hv⟩ := h.rdU
  by_cases n1 : N ≤ 1024
  · by_cases h0 : m = 0
    · exact esteps_near_none gn gs gh gt A N c B m cb D t cd w h.le hF.1 hT.1 _ hr hws hv n1 h0
    by_cases h1 : 20 < m
    · exact esteps_near_many gn gs gh gt A N c B m cb D t cd w h.le hF.1 hT.1 _ hr hws hv n1 h1
    by_cases h2 : 200 < t
    · exact esteps_near_long gn gs gh gt A N c B m cb D t cd w h.le hF.1 hT.1 _ hr hws hv n1 (by omega) (by omega) h2
    · exact esteps_body gn gs gh gt A N c B m cb D t cd w h.le hF.1 hT.1 _ hr hws hv n1 (by omega) (by omega) (by omega) F T hF hT
  · by_cases h0 : m = 0
    · exact esteps_far_none gn gs gh gt A N c B m cb D t cd w h.le hF.1 hT.1 (by omega) h0
    by_cases h1 : 20 < m
    · exact esteps_far_many gn gs gh gt A N c B m cb D t cd w h.le hF.1 hT.1 (by omega) h1
    by_cases h2 : 200 < t
    · exact esteps_far_long gn gs gh gt A N c B m cb D t cd w h.le hF.1 hT.1 (by omega) (by omega) (by omega) h2
    · exact esteps_far_fine gn gs gh gt A N c B m cb D t cd w h.le hF.1 hT.1 (by omega) (by omega) (by omega) (by omega)
end Go.Proofs.Ythnjeiandfdpgaa
