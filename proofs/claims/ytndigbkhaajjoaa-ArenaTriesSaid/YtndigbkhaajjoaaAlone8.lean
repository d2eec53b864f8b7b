/-
  ArenaAlone: all nodes are taken, one behind the other, and given back.
-/
import Derived.Test.YtndigbkhaajjoaaShown8s
import Derived.Test.YtndigbkhaajjoaaRunA
import Derived.Test.YtndigbkhaajjoaaWf
namespace Go.Proofs.Ytndigbkhaajjoaa
open Go.RowKit
set_option linter.unusedVariables false
set_option linter.unusedSimpArgs false

theorem rowRd {w : World} {base N : Nat} {a : Option Addr} {c : Nat} {ws : List Int} (ho : w.ownsRow base 35 1 (.slice a N c) N (wsV ws)) (hl : ws.length = N) : RdU w a ws := by
  subst hl
  exact (row_rdU ho).1
theorem row32_cell {w0 w : World} {K : List Asn} {j : Nat} {A : Option Addr} {n c : Nat} {l : List Int} {k : Nat} {x : Int} (h : St w0 K w) (he : K[j]? = some (row32 (.slice A n c) l)) (hk : l[k]? = some x) : ∃ g, A = some ⟨g, 0, none⟩ ∧ w.cell? ⟨g, k, none⟩ = some (.int .u32 x) := by
  have hkl := (List.getElem?_eq_some_iff.1 hk).1
  obtain ⟨h1, h2 | ⟨g, cap, cur, hv, h0, hh, h3, h4, h5, h6⟩⟩ := h.rowOf j he
  · have := h2.2
    omega
  · simp only [Value.slice.injEq] at hv
    obtain ⟨rfl, _, _⟩ := hv
    refine ⟨g, rfl, ?_⟩
    rw [cell_of hh]
    have : (l.map u32V)[k]? = some (.int .u32 x) := by rw [List.getElem?_map, hk]; rfl
    rw [← h6, List.getElem?_take, if_pos (by omega)] at this
    simpa using this
/-- What holds on the way: so many accesses, these free nodes. -/
def LeRel (w : World) (q bc nn : Nat) (tg T : Int) (l : List Int) (N k : Nat) (w' : World) : Prop := ∃ ws ns, ns.length = k ∧ Left nn T l N ws ∧ St w [memA q ws ns, bxC bc nn 0 0 tg] w'
set_option maxRecDepth 20000 in
set_option maxHeartbeats 16000000 in
theorem arenaAlone_walk (a0 tg bg : Int) (w : World) (hx0 : (Lit.int .i64 a0).wf = true) (hx2 : (Lit.int .u32 tg).wf = true) (hx1 : (Lit.int .i64 bg).wf = true) :
    Calls Try.prog 13 #[.int .i64 a0, .int .u32 tg, .int .i64 bg] w fun e w' => e = .returned (.bool true) ∧ Below w.heap.size w w' := by
  obtain ⟨a00, a01⟩ := rngI64 hx0
  obtain ⟨m0, m1⟩ := rngI64 hx1
  obtain ⟨t0, t1⟩ := rngU32 hx2
  have hp := pickI_rng (c := a0) (n := 64) (by decide)
  obtain ⟨nn, hnn⟩ : ∃ nn : Nat, 1 + pickI a0 64 = (nn : Int) := Int.eq_ofNat_of_zero_le (by omega)
  have n1 : 1 ≤ nn := by omega
  have n2 : nn ≤ 64 := by omega
  obtain ⟨N, hN⟩ : ∃ N, N = 2 + 2 * nn + 0 + 0 := ⟨_, rfl⟩
  obtain ⟨T, hT⟩ : ∃ T, tg * 4294967296 = T := ⟨_, rfl⟩
  have hN4 : N ≤ 1024 := by omega
  have hN2 : 2 + 2 * nn ≤ N := by omega
  have HNN := Lib.hid hnn
  have HN := Lib.hid hN
  have HT := Lib.hid hT
  have HOK : Hid (okC (nn : Int) ((0 : Nat) : Int) ((0 : Nat) : Int) = true) := Lib.hid (by simp [okC]; omega)
  have HFR : Hid (∀ x ∈ frL T nn nn 0 N, 0 ≤ x ∧ x < 18446744073709551616) := Lib.hid (frL_rng (by omega) (by omega) n2)
  have HMV : Hid (Left nn tg (upL 1 nn) N (frL T nn nn 0 N)) := Lib.hid ⟨fresh_at1 hT t0 t1 hN2 n1 n2, frL_len _ _ _ _ _, HFR.out⟩
  have H := Lib.hid (St.nil w)
  have d0 : decide ((nn : Int) < 1) = false := decide_eq_false (by omega)
  clear hx0 hx1 hx2 hp hnn hN hT
  go_enter Try.func13, Try.ntmps13
  go_wp2_with (first | ((have _h := H3); go_at_call 26; refine (new_st H3.out.tail (some ⟨_, 0, none⟩) _ N (frL T nn nn 0 N) (rowRd (H3.out.row 0 rfl) (frL_len _ _ _ _ _)) hN4 HFR.out (frL_len _ _ _ _ _)).mono ?_; rintro e w4 ⟨q, rfl, h⟩; (have H4 := Lib.hid (h)); clear h; clear q0 q1 q2 q3 lq; (obtain ⟨q0, q1, q2, q3⟩ := cells4 (H4.out.cells 1 rfl)); (have lq := lt_of_heap (H4.out.cells 1 rfl)); clear _h) | ((have _h := H2); go_at_call 16; refine (fresh_ok nn 0 0 tg T N H2.out HOK.out HN.out HT.out t0 t1).mono ?_; rintro e w3 ⟨g, rfl, h⟩; (have H3 := Lib.hid (h)); clear h; clear q0 q1 q2 q3 lq; (obtain ⟨q0, q1, q2, q3⟩ := cells4 (H3.out.cells 1 rfl)); (have lq := lt_of_heap (H3.out.cells 1 rfl)); clear _h) | ((have _h := H1); go_at_call 47; refine (cfg8_is a0 0 0 tg nn 0 0 _ HNN.out rfl rfl a00 a01 (by decide) (by decide) (by decide) (by decide)).mono ?_; rintro e w2 ⟨rfl, hb⟩; (have H2 := Lib.hid ((H1.out.below hb).alloc #[.int .i64 nn, .int .i64 0, .int .i64 0, .int .u32 tg] 26)); clear hb; (obtain ⟨q0, q1, q2, q3⟩ := cells4 (H2.out.cells 0 rfl)); (have lq := lt_of_heap (H2.out.cells 0 rfl)); clear _h) | ((have _h := H); go_at_call 42; refine (shown8 _).mono ?_; rintro e w1 ⟨rfl, hb⟩; (have H1 := Lib.hid (H.out.below hb)); clear hb; clear _h))
  have HREL := Lib.hid (show LeRel w q w2.heap.size nn tg (tg + ((0 : Nat) : Int)) (upL (((0 : Nat) : Int) + 1) (nn - 0)) N 0 w4 from ⟨_, [], rfl, by simpa using HMV.out, H4.out⟩)
  clear H1 H2 H3 H4 q0 q1 q2 q3 lq
  obtain ⟨bc, hbc⟩ : ∃ bc, w2.heap.size = bc := ⟨_, rfl⟩
  simp only [hbc] at *
  go_loopg [13] 66 (fun kq z w' => ∃ k : Nat, z = .int .i64 ((k : Int) + 1) ∧ k ≤ nn ∧ k + kq = 66 ∧ LeRel w q bc nn tg (tg + k) (upL ((k : Int) + 1) (nn - k)) N (3 * k) w')
  case atStart => exact ⟨0, rfl, by omega, by omega, HREL.out⟩
  case round =>
    obtain ⟨k, rfl, hk, hkq, ws, ns, hns, hmv, hS⟩ := hrel
    clear HREL HMV
    obtain ⟨q0, q1, q2, q3⟩ := cells4 (hS.cells 1 rfl)
    have lq := lt_of_heap (hS.cells 1 rfl)
    cases gk with
    | zero => omega
    | succ kk =>
      by_cases c4 : k < nn
      · have c4b : decide ((k : Int) + 1 ≤ (nn : Int)) = true := decide_eq_true (by omega)
        have L := Lib.hid hS
        obtain ⟨d, hd⟩ : ∃ d, nn - k = d + 1 := ⟨nn - k - 1, by omega⟩
        rw [hd] at hmv
        obtain ⟨ws1, ⟨S1, hr1, hs1, hi1⟩, hm1⟩ := Left.take (t := tg) (b := bg) HOK.out hmv hN2
        have HR1 := Lib.hid hr1
        have HS1 := Lib.hid hs1
        have HI1 := Lib.hid hi1
        have HM1 := Lib.hid hm1
        have HD := Lib.hid hd
        have hnl : ns.length ≤ 500 := by omega
        have HNS := Lib.hid hns
        have u1 : ((k : Int) + 1) % 4294967296 = (k : Int) + 1 := by omega
        clear hS hmv hr1 hs1 hi1 hm1 hns hd
        go_wp2_with (first | ((have _h := La1); go_at_call 49; refine (ends8 (.pointer (some rb1)) 3 1 ((k : Int) + 1) (.inl ⟨rfl, rfl, rfl⟩) HR1.out HS1.out HI1.out La1.out (newAT_ok _ (by omega) (by decide) (by decide)) (fun _ => by show (0 : Int) ≠ 6; decide) (by omega) (by decide) (by decide)).mono ?_; rintro e v2 ⟨rfl, n1t, hn1, _, h⟩; (have La2 := Lib.hid (h.re 2 [0])); (have HTn1 := Lib.hid hn1); clear h hn1; clear q0 q1 q2 q3 lq; (obtain ⟨q0, q1, q2, q3⟩ := cells4 (La2.out.cells 1 rfl)); (have lq := lt_of_heap (La2.out.cells 1 rfl)); clear _h) | ((have _h := L); go_at_call 43; refine (made8_tz nn 0 0 tg bg 0 none 0 [] L.out (Rd32.nil _) rfl).mono ?_; rintro e v1 ⟨p1, rb1, rfl, h⟩; (have La1 := Lib.hid ((h.alloc #[.pointer (some ⟨p1, 0, none⟩), .pointer none, .pointer (some rb1)] 84).re 3 [2, 1])); clear h; clear q0 q1 q2 q3 lq; (obtain ⟨q0, q1, q2, q3⟩ := cells4 (La1.out.cells 2 rfl)); (have lq := lt_of_heap (La1.out.cells 2 rfl)); clear _h))
        go_roundg kk
        case measure => omega
        case rel =>
          refine ⟨k + 1, by rfl, by omega, by omega, ws1, ns ++ n1t, by rw [List.length_append, HTn1.out, HNS.out]; omega, ?_, La2.out⟩
          have e1 : tg + ((k + 1 : Nat) : Int) = tg + k + 1 := by omega
          have e2 : ((k + 1 : Nat) : Int) + 1 = (k : Int) + 1 + 1 := by omega
          have e3 : nn - (k + 1) = d := by have := HD.out; omega
          rw [e1, e2, e3]
          exact HM1.out
      · have c4b : decide ((k : Int) + 1 ≤ (nn : Int)) = false := decide_eq_false (by omega)
        obtain rfl : k = nn := by omega
        have Z := Lib.hid hS
        have hmv0 : Left k (tg + k) [] N ws := by have := hmv; rw [Nat.sub_self] at this; exact this
        obtain ⟨S0, hr0, hs0, hi0⟩ := RunA.none1 (S := newAT k 0 0 tg bg []) (nn := k) (ws := ws) (T := tg + k) rfl rfl rfl rfl hmv0.free (by have := hmv0.len; omega)
        have HR0 := Lib.hid hr0
        have HS0 := Lib.hid hs0
        have HI0 := Lib.hid hi0
        have HM0 := Lib.hid hmv0
        have hnl : ns.length ≤ 500 := by omega
        have HNS := Lib.hid hns
        clear hS hmv hmv0 hr0 hs0 hi0 hns
        go_wp2_with (first | ((have _h := Zb1); go_at_call 49; refine (ends8 (.pointer (some rb1)) 1 2 0 (.inl ⟨rfl, rfl, rfl⟩) HR0.out HS0.out HI0.out Zb1.out (newAT_ok _ (by omega) (by decide) (by decide)) (fun _ => by show (0 : Int) ≠ 6; decide) (by omega) (by decide) (by decide)).mono ?_; rintro e z2 ⟨rfl, n0t, hn0, _, h⟩; (have Zb2 := Lib.hid (h.re 2 [0])); (have HTn0 := Lib.hid hn0); clear h hn0; clear q0 q1 q2 q3 lq; (obtain ⟨q0, q1, q2, q3⟩ := cells4 (Zb2.out.cells 1 rfl)); (have lq := lt_of_heap (Zb2.out.cells 1 rfl)); clear _h) | ((have _h := Z); go_at_call 43; refine (made8_tz k 0 0 tg bg 0 none 0 [] Z.out (Rd32.nil _) rfl).mono ?_; rintro e z1 ⟨p1, rb1, rfl, h⟩; (have Zb1 := Lib.hid ((h.alloc #[.pointer (some ⟨p1, 0, none⟩), .pointer none, .pointer (some rb1)] 84).re 3 [2, 1])); clear h; clear q0 q1 q2 q3 lq; (obtain ⟨q0, q1, q2, q3⟩ := cells4 (Zb1.out.cells 2 rfl)); (have lq := lt_of_heap (Zb1.out.cells 2 rfl)); clear _h))
        have HREL := Lib.hid (show LeRel w q bc k tg (tg + k + ((0 : Nat) : Int)) (dnL 0) N (3 * k + 1) _ from ⟨ws, ns ++ n0t, by rw [List.length_append, HTn0.out, HNS.out], by simpa [dnL] using HM0.out, Zb2.out⟩)
        clear Z Zb1 Zb2 q0 q1 q2 q3 lq HM0 HNS HTn0 c4b
        go_loopg [16] 66 (fun kq z w' => ∃ j : Nat, z = .int .i64 ((j : Int) + 1) ∧ j ≤ k ∧ j + kq = 66 ∧ LeRel w q bc k tg (tg + k + j) (dnL j) N (3 * k + 1 + 3 * j) w')
        case atStart => exact ⟨0, rfl, by omega, by omega, HREL.out⟩
        case round =>
          obtain ⟨j, rfl, hj, hkq2, ws, ns, hns, hmv, hS⟩ := hrel
          clear HREL
          obtain ⟨q0, q1, q2, q3⟩ := cells4 (hS.cells 1 rfl)
          have lq := lt_of_heap (hS.cells 1 rfl)
          cases gk with
          | zero => omega
          | succ k2 =>
            by_cases c5 : j < k
            · have c5b : decide ((j : Int) + 1 ≤ (k : Int)) = true := decide_eq_true (by omega)
              have L := Lib.hid hS
              obtain ⟨ws1, ⟨S1, hr1, hs1, hi1⟩, hm1⟩ := Left.give (t := tg) (b := bg) (i := (j : Int) + 1) HOK.out hmv hN2 ⟨by omega, by omega⟩ (fun h => by have := mem_dnL.1 h; omega)
              have HR1 := Lib.hid hr1
              have HS1 := Lib.hid hs1
              have HI1 := Lib.hid hi1
              have HM1 := Lib.hid hm1
              have hnl : ns.length ≤ 900 := by omega
              have HNS := Lib.hid hns
              have u1 : ((j : Int) + 1) % 4294967296 = (j : Int) + 1 := by omega
              have i00 : (0 : Int) ≤ (j : Int) + 1 := by omega
              have i01 : (j : Int) + 1 < 4294967296 := by omega
              clear hS hmv hr1 hs1 hi1 hm1 hns
              go_wp2_with (first | ((have _h := Lc1); go_at_call 49; refine (ends8 (.pointer (some rb1)) 3 1 ((j : Int) + 1) (.inr ⟨rfl, rfl, rfl⟩) HR1.out HS1.out HI1.out Lc1.out (newAG_ok _ (by omega) (by decide) (by decide) i00 i01) (fun _ => by show (0 : Int) ≠ 6; decide) (by omega) (by decide) (by decide)).mono ?_; rintro e y2 ⟨rfl, n1t, hn1, _, h⟩; (have Lc2 := Lib.hid (h.re 2 [0])); (have HTn1 := Lib.hid hn1); clear h hn1; clear q0 q1 q2 q3 lq; (obtain ⟨q0, q1, q2, q3⟩ := cells4 (Lc2.out.cells 1 rfl)); (have lq := lt_of_heap (Lc2.out.cells 1 rfl)); clear _h) | ((have _h := L); go_at_call 43; refine (made8_gz k 0 0 tg bg ((j : Int) + 1) ((j : Int) + 1) none 0 [] L.out (Rd32.nil _) rfl (by omega)).mono ?_; rintro e y1 ⟨p1, rb1, rfl, h⟩; (have Lc1 := Lib.hid ((h.alloc #[.pointer none, .pointer (some ⟨p1, 0, none⟩), .pointer (some rb1)] 84).re 3 [2, 1])); clear h; clear q0 q1 q2 q3 lq; (obtain ⟨q0, q1, q2, q3⟩ := cells4 (Lc1.out.cells 2 rfl)); (have lq := lt_of_heap (Lc1.out.cells 2 rfl)); clear _h))
              go_roundg k2
              case measure => omega
              case rel =>
                refine ⟨j + 1, by rfl, by omega, by omega, ws1, ns ++ n1t, by rw [List.length_append, HTn1.out, HNS.out]; omega, ?_, Lc2.out⟩
                have e1 : tg + k + ((j + 1 : Nat) : Int) = tg + k + j + 1 := by omega
                rw [e1]
                exact HM1.out
            · have c5b : decide ((j : Int) + 1 ≤ (k : Int)) = false := decide_eq_false (by omega)
              obtain rfl : j = k := by omega
              have Z := Lib.hid hS
              have HLZ := Lib.hid hmv.len
              have HFZ := Lib.hid hmv.free
              have HVZ := Lib.hid hmv.rng
              have N0 : (0 : Int) < (N : Int) := by omega
              have N0n : 0 < N := by omega
              have N1 : (1 : Int) < (N : Int) := by omega
              have N1n : 1 < N := by omega
              clear hS hmv hns
              go_wp2
              have HCS : Hid (∀ w', Below wr.heap.size wr w' → w'.cell? ⟨bc, 0, none⟩ = some (.int .i64 j) ∧ w'.cell? ⟨bc, 1, none⟩ = some (.int .i64 0) ∧ w'.cell? ⟨bc, 2, none⟩ = some (.int .i64 0) ∧ w'.cell? ⟨bc, 3, none⟩ = some (.int .u32 tg)) := Lib.hid (fun w' hb => cells4 ((Z.out.below hb).cells 1 rfl))
              have HBD := Lib.hid (Below.refl wr.heap.size wr).drew
              refine wp_region_held_drew (S := (fun w' => w'.cell? ⟨bc, 0, none⟩ = some (.int .i64 j) ∧ w'.cell? ⟨bc, 1, none⟩ = some (.int .i64 0) ∧ w'.cell? ⟨bc, 2, none⟩ = some (.int .i64 0) ∧ w'.cell? ⟨bc, 3, none⟩ = some (.int .u32 tg))) (by as_aux_lemma => kernel_rfl) ?_ (fun hHeld0 => ?_)
              · first | exact HCS.out _ HBD.out | exact HCS.out _ (Below.refl _ _)
              refine wpAnyH_take (i := 0) (v := ?_) rfl (by as_aux_lemma => kernel_rfl) (by as_aux_lemma => kernel_rfl) (by as_aux_lemma => kernel_rfl) (fun _ _ _ h => h) (Or.inl ⟨by rfl, ?_⟩) hHeld0 ?_
              rotate_left
              · intro w hSw
                (try dsimp only at hSw)
                go_simp
                try (first | (with_reducible rfl) | rfl)
              try simp only [List.getElem_toArray, List.getElem_cons_zero, List.getElem_cons_succ, Act.put, List.setIfInBounds_toArray, List.set_cons_zero, List.set_cons_succ]
              refine wpAnyH_take (i := 1) (v := ?_) rfl (by as_aux_lemma => kernel_rfl) (by as_aux_lemma => kernel_rfl) (by as_aux_lemma => kernel_rfl) (fun _ _ _ h => h) (Or.inl ⟨by rfl, ?_⟩) hHeld0 ?_
              rotate_left
              · intro w hSw
                (try dsimp only at hSw)
                go_simp
                try (first | (with_reducible rfl) | rfl)
              try simp only [List.getElem_toArray, List.getElem_cons_zero, List.getElem_cons_succ, Act.put, List.setIfInBounds_toArray, List.set_cons_zero, List.set_cons_succ]
              refine wpAnyH_take (i := 3) (v := ?_) rfl (by as_aux_lemma => kernel_rfl) (by as_aux_lemma => kernel_rfl) (by as_aux_lemma => kernel_rfl) (fun _ _ _ h => h) (Or.inl ⟨by rfl, ?_⟩) hHeld0 ?_
              rotate_left
              · intro w hSw
                (try dsimp only at hSw)
                go_simp
                try (first | (with_reducible rfl) | rfl)
              try simp only [List.getElem_toArray, List.getElem_cons_zero, List.getElem_cons_succ, Act.put, List.setIfInBounds_toArray, List.set_cons_zero, List.set_cons_succ]
              refine wpAnyH_ready (rs := [2]) (by as_aux_lemma => kernel_rfl) (by simp) ?_
              refine AllReadyH.cons rfl (fun K hK => ?_) ?_
              · go_simp
                (go_at_call 34; refine (words_st (Z.out.below HBD.out) N HLZ.out).mono ?_; rintro e w4 ⟨al, c4', rfl, hrw, _, hb⟩; (have HRW := Lib.hid hrw); (have HZ2 := Lib.hid (HBD.out.trans (hb.mono HBD.out.size))); clear hrw hb HBD; (have HBD := HZ2); clear HZ2)
                go_wp2_with fail
                refine hK.out _ _ ?_ (fun hHeld3_2 => ?_)
                · first | exact HCS.out _ HBD.out | exact HCS.out _ (Below.refl _ _)
                clear hK K
                try simp only [List.getElem_toArray, List.getElem_cons_zero, List.getElem_cons_succ, Act.put, List.setIfInBounds_toArray, List.set_cons_zero, List.set_cons_succ]
                refine wpAnyH_ready (rs := [4]) (by as_aux_lemma => kernel_rfl) (by simp) ?_
                refine AllReadyH.cons rfl (fun K hK => ?_) ?_
                · go_simp
                  (go_at_call 34; refine (words_pos N (Z.out.below HBD.out) HLZ.out (by omega)).mono ?_; rintro e w5 ⟨g5, c5', rfl, hw5, _, _, hb⟩; (have hx5 := hw5 1 (by omega)); (have HRZ := Lib.hid (HRW.out.kept hb)); clear HRW; (have HRW := HRZ); clear HRZ; (have HZ2 := Lib.hid (HBD.out.trans (hb.mono HBD.out.size))); clear hw5 hb HBD; (have HBD := HZ2); clear HZ2)
                  go_wp2_with fail
                  refine hK.out _ _ ?_ (fun hHeld4_4 => ?_)
                  · first | exact HCS.out _ HBD.out | exact HCS.out _ (Below.refl _ _)
                  clear hK K
                  try simp only [List.getElem_toArray, List.getElem_cons_zero, List.getElem_cons_succ, Act.put, List.setIfInBounds_toArray, List.set_cons_zero, List.set_cons_succ]
                  refine wpAnyH_take (i := 5) (v := ?_) rfl (by as_aux_lemma => kernel_rfl) (by as_aux_lemma => kernel_rfl) (by as_aux_lemma => kernel_rfl) (fun _ _ _ h => h) (Or.inl ⟨by rfl, ?_⟩) hHeld4_4 ?_
                  rotate_left
                  · intro w hSw
                    (try dsimp only at hSw)
                    go_simp
                    try (first | (with_reducible rfl) | rfl)
                  try simp only [List.getElem_toArray, List.getElem_cons_zero, List.getElem_cons_succ, Act.put, List.setIfInBounds_toArray, List.set_cons_zero, List.set_cons_succ]
                  refine wpAnyH_ready (rs := [6]) (by as_aux_lemma => kernel_rfl) (by simp) ?_
                  refine AllReadyH.cons rfl (fun K hK => ?_) ?_
                  · go_simp
                    refine hK.out _ _ ?_ (fun hHeld6_6 => ?_)
                    · first | exact HCS.out _ HBD.out | exact HCS.out _ (Below.refl _ _)
                    clear hK K
                    try simp only [List.getElem_toArray, List.getElem_cons_zero, List.getElem_cons_succ, Act.put, List.setIfInBounds_toArray, List.set_cons_zero, List.set_cons_succ]
                    refine wpAnyH_ready (rs := [7]) (by as_aux_lemma => kernel_rfl) (by simp) ?_
                    refine AllReadyH.cons rfl (fun K hK => ?_) ?_
                    · go_simp
                      (go_at_call 22; refine (chain_at j 0 0 tg al N c4' _ 1 _ _ _ (Z.out.below HBD.out) HOK.out HN.out HRW.out HLZ.out HFZ.out (by rw [dnL_len]; omega) HVZ.out rfl).mono ?_; rintro e w7 ⟨A7, c7, rfl, hb, h⟩; (have HC7 := Lib.hid h); (have HZ2 := Lib.hid (HBD.out.trans (hb.mono HBD.out.size))); clear h hb HBD; (have HBD := HZ2); clear HZ2)
                      go_wp2_with fail
                      refine hK.out _ _ ?_ (fun hHeld7_7 => ?_)
                      · first | exact HCS.out _ HBD.out | exact HCS.out _ (Below.refl _ _)
                      clear hK K
                      try simp only [List.getElem_toArray, List.getElem_cons_zero, List.getElem_cons_succ, Act.put, List.setIfInBounds_toArray, List.set_cons_zero, List.set_cons_succ]
                      refine wpAnyH_take (i := 8) (v := ?_) rfl (by as_aux_lemma => kernel_rfl) (by as_aux_lemma => kernel_rfl) (by as_aux_lemma => kernel_rfl) (fun _ _ _ h => h) (Or.inl ⟨by rfl, ?_⟩) hHeld7_7 ?_
                      rotate_left
                      · intro w hSw
                        (try dsimp only at hSw)
                        go_simp
                        try (first | (with_reducible rfl) | rfl)
                      try simp only [List.getElem_toArray, List.getElem_cons_zero, List.getElem_cons_succ, Act.put, List.setIfInBounds_toArray, List.set_cons_zero, List.set_cons_succ]
                      refine wpAnyH_take (i := 9) (v := ?_) rfl (by as_aux_lemma => kernel_rfl) (by as_aux_lemma => kernel_rfl) (by as_aux_lemma => kernel_rfl) (fun _ _ _ h => h) (Or.inl ⟨by rfl, ?_⟩) hHeld7_7 ?_
                      rotate_left
                      · intro w hSw
                        (try dsimp only at hSw)
                        go_simp
                        try (first | (with_reducible rfl) | rfl)
                      try simp only [List.getElem_toArray, List.getElem_cons_zero, List.getElem_cons_succ, Act.put, List.setIfInBounds_toArray, List.set_cons_zero, List.set_cons_succ]
                      refine wpAnyH_take (i := 10) (v := ?_) rfl (by as_aux_lemma => kernel_rfl) (by as_aux_lemma => kernel_rfl) (by as_aux_lemma => kernel_rfl) (fun _ _ _ h => h) (Or.inl ⟨by rfl, ?_⟩) hHeld7_7 ?_
                      rotate_left
                      · intro w hSw
                        (try dsimp only at hSw)
                        go_simp
                        try (first | (with_reducible rfl) | rfl)
                      try simp only [List.getElem_toArray, List.getElem_cons_zero, List.getElem_cons_succ, Act.put, List.setIfInBounds_toArray, List.set_cons_zero, List.set_cons_succ]
                      refine wpAnyH_take (i := 11) (v := ?_) rfl (by as_aux_lemma => kernel_rfl) (by as_aux_lemma => kernel_rfl) (by as_aux_lemma => kernel_rfl) (fun _ _ _ h => h) (Or.inl ⟨by rfl, ?_⟩) hHeld7_7 ?_
                      rotate_left
                      · intro w hSw
                        (try dsimp only at hSw)
                        go_simp
                        try (first | (with_reducible rfl) | rfl)
                      try simp only [List.getElem_toArray, List.getElem_cons_zero, List.getElem_cons_succ, Act.put, List.setIfInBounds_toArray, List.set_cons_zero, List.set_cons_succ]
                      refine wpAnyH_take (i := 12) (v := ?_) rfl (by as_aux_lemma => kernel_rfl) (by as_aux_lemma => kernel_rfl) (by as_aux_lemma => kernel_rfl) (fun _ _ _ h => h) (Or.inl ⟨by rfl, ?_⟩) hHeld7_7 ?_
                      rotate_left
                      · intro w hSw
                        (try dsimp only at hSw)
                        go_simp
                        try (first | (with_reducible rfl) | rfl)
                      try simp only [List.getElem_toArray, List.getElem_cons_zero, List.getElem_cons_succ, Act.put, List.setIfInBounds_toArray, List.set_cons_zero, List.set_cons_succ]
                      refine wpAnyH_done (by as_aux_lemma => kernel_rfl) ?_ _
                      have HLE2 : Hid ((dnL j).length = j) := Lib.hid (dnL_len _)
                      rw [HLE2.out]
                      obtain ⟨kq, hkq3⟩ : ∃ kq, j = kq + 1 := ⟨j - 1, by omega⟩
                      obtain ⟨g8, hA8, hc8⟩ := row32_cell (j := 0) (k := 0) (x := (j : Int)) HC7.out rfl (by rw [hkq3]; show some (((kq : Nat) : Int) + 1) = _; congr 1)
                      subst hA8
                      clear hkq3
                      clear q0 q1 q2 q3 lq
                      (obtain ⟨q0, q1, q2, q3⟩ := cells4 (HC7.out.cells 2 rfl))
                      have y0 : (0 : Int) < (j : Int) := by omega
                      have y0n : 0 < j := by omega
                      have u4 : (j : Int) % 4294967296 = (j : Int) := by omega
                      go_wp2
                      go_quiet (fail)
                      go_wp2
                      go_ret
                      exact ⟨rfl, (HC7.out.drewN _).bel⟩
                    exact AllReadyH.nil
                  exact AllReadyH.nil
                exact AllReadyH.nil
              exact AllReadyH.nil
end Go.Proofs.Ytndigbkhaajjoaa
