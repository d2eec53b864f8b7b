/-
  TaglistAlone: nodes are taken from the free ones, one behind the other, and given to the stack.
-/
import Derived.Test.YtndigbkhaajjoaaShown7s
import Derived.Test.YtndigbkhaajjoaaChain
import Derived.Test.YtndigbkhaajjoaaWf
namespace Go.Proofs.Ytndigbkhaajjoaa
open Go.RowKit
set_option linter.unusedVariables false
set_option linter.unusedSimpArgs false

theorem tag_is (x y : Int) (w : World) (h0 : 0 ≤ x) (h1 : x < 18446744073709551616) (h : x / 4294967296 = y) :
    Calls Try.prog 41 #[.int .u64 x] w fun e w' => e = .returned (.int .u32 y) ∧ Below w.heap.size w w' := by
  subst h
  exact tag_any x w h0 h1
theorem row32_cell {w0 w : World} {K : List Asn} {j : Nat} {A : Option Addr} {n c : Nat} {l : List Int} {k : Nat} {x : Int} (h : St w0 K w) (he : K[j]? = some (row32 (.slice A n c) l)) (hk : l[k]? = some x) : ∃ g, A = some ⟨g, 0, none⟩ ∧ w.cell? ⟨g, k, none⟩ = some (.int .u32 x) := by
  have hkl := (List.getElem?_eq_some_iff.1 hk).1
  obtain ⟨h1, h2 | ⟨g, cap, cur, hv, h0, hh, h3, h4, h5, h6⟩⟩ := h.rowOf j he
  · have := h2.2
    omega
  · simp only [Value.slice.injEq] at hv
    obtain ⟨rfl, _, _⟩ := hv
    refine ⟨g, rfl, ?_⟩
    rw [cell_of hh]
    have : (l.map u32V)[k]? = some (.int .u32 x) := by rw [List.getElem?_map, hk]; rfl
    rw [← h6, List.getElem?_take, if_pos (by omega)] at this
    simpa using this
/-- What holds behind k nodes. -/
def AlRel (w : World) (q bc nn : Nat) (tg : Int) (N k : Nat) (w' : World) : Prop := ∃ ws ns, ns.length = 6 * k ∧ Moved nn tg k N ws ∧ St w [memA q ws ns, bxC bc nn 0 0 tg] w'
set_option maxRecDepth 20000 in
set_option maxHeartbeats 16000000 in
theorem taglistAlone_walk (a0 mm tg : Int) (w : World) (hx0 : (Lit.int .i64 a0).wf = true) (hx1 : (Lit.int .i64 mm).wf = true) (hx2 : (Lit.int .u32 tg).wf = true) :
    Calls Try.prog 7 #[.int .i64 a0, .int .i64 mm, .int .u32 tg] w fun e w' => e = .returned (.bool true) ∧ Below w.heap.size w w' := by
  obtain ⟨a00, a01⟩ := rngI64 hx0
  obtain ⟨m0, m1⟩ := rngI64 hx1
  obtain ⟨t0, t1⟩ := rngU32 hx2
  have hp := pickI_rng (c := a0) (n := 64) (by decide)
  obtain ⟨nn, hnn⟩ : ∃ nn : Nat, 1 + pickI a0 64 = (nn : Int) := Int.eq_ofNat_of_zero_le (by omega)
  have n1 : 1 ≤ nn := by omega
  have n2 : nn ≤ 64 := by omega
  have hpm := pickI_rng (c := mm) (n := (nn : Int) + 1) (by omega)
  obtain ⟨m, hm⟩ : ∃ m : Nat, pickI mm ((nn : Int) + 1) = (m : Int) := Int.eq_ofNat_of_zero_le hpm.1
  have hmn : m ≤ nn := by omega
  obtain ⟨N, hN⟩ : ∃ N, N = 2 + 2 * nn + 0 + 0 := ⟨_, rfl⟩
  obtain ⟨T, hT⟩ : ∃ T, tg * 4294967296 = T := ⟨_, rfl⟩
  have hN4 : N ≤ 1024 := by omega
  have hN2 : 2 + 2 * nn ≤ N := by omega
  have HNN := Lib.hid hnn
  have HM := Lib.hid hm
  have HN := Lib.hid hN
  have HT := Lib.hid hT
  have HOK : Hid (okC (nn : Int) ((0 : Nat) : Int) ((0 : Nat) : Int) = true) := Lib.hid (by simp [okC]; omega)
  have HFR : Hid (∀ x ∈ frL T nn nn 0 N, 0 ≤ x ∧ x < 18446744073709551616) := Lib.hid (frL_rng (by omega) (by omega) n2)
  have HMV : Hid (Moved nn tg 0 N (frL T nn nn 0 N)) := Lib.hid ⟨by have := fresh_at1 hT t0 t1 hN2 n1 n2; simpa using this, by have := fresh_at0 (nn := nn) (N := N) hT t0 t1 (by omega); simpa [dnL] using this, frL_len _ _ _ _ _, HFR.out⟩
  have H := Lib.hid (St.nil w)
  have d0 : decide ((nn : Int) < 1) = false := decide_eq_false (by omega)
  clear hx0 hx1 hx2 hp hnn hpm hm hN hT
  go_enter Try.func7, Try.ntmps7
  go_wp2_with (first | ((have _h := H4); go_at_call 29; refine (pick7_is mm (nn + 1) m _ HM.out (by omega) (by omega) m0 m1).mono ?_; rintro e w5 ⟨rfl, rfl⟩; (have H5 := Lib.hid (H4.out)); clear _h) | ((have _h := H3); go_at_call 26; refine (new_st H3.out.tail (some ⟨_, 0, none⟩) _ N (frL T nn nn 0 N) (rowRd (H3.out.row 0 rfl) (frL_len _ _ _ _ _)) hN4 HFR.out (frL_len _ _ _ _ _)).mono ?_; rintro e w4 ⟨q, rfl, h⟩; (have H4 := Lib.hid (h)); clear h; clear q0 q1 q2 q3; (obtain ⟨q0, q1, q2, q3⟩ := cells4 (H4.out.cells 1 rfl)); clear _h) | ((have _h := H2); go_at_call 16; refine (fresh_ok nn 0 0 tg T N H2.out HOK.out HN.out HT.out t0 t1).mono ?_; rintro e w3 ⟨g, rfl, h⟩; (have H3 := Lib.hid (h)); clear h; clear q0 q1 q2 q3; (obtain ⟨q0, q1, q2, q3⟩ := cells4 (H3.out.cells 1 rfl)); clear _h) | ((have _h := H1); go_at_call 35; refine (cfg7_is a0 0 0 tg nn 0 0 _ HNN.out rfl rfl a00 a01 (by decide) (by decide) (by decide) (by decide)).mono ?_; rintro e w2 ⟨rfl, hb⟩; (have H2 := Lib.hid ((H1.out.below hb).alloc #[.int .i64 nn, .int .i64 0, .int .i64 0, .int .u32 tg] 26)); clear hb; (obtain ⟨q0, q1, q2, q3⟩ := cells4 (H2.out.cells 0 rfl)); clear _h) | ((have _h := H); go_at_call 25; refine (shown7 _).mono ?_; rintro e w1 ⟨rfl, hb⟩; (have H1 := Lib.hid (H.out.below hb)); clear hb; clear _h))
  have HREL := Lib.hid (show AlRel w q w2.heap.size nn tg N 0 w4 from ⟨_, [], rfl, HMV.out, H5.out⟩)
  clear H1 H2 H3 H4 H5 q0 q1 q2 q3
  obtain ⟨bc, hbc⟩ : ∃ bc, w2.heap.size = bc := ⟨_, rfl⟩
  simp only [hbc] at *
  go_loopg [14] 66 (fun kq z w' => ∃ k : Nat, z = .int .i64 ((k : Int) + 1) ∧ k ≤ m ∧ k + kq = 66 ∧ AlRel w q bc nn tg N k w')
  case atStart => exact ⟨0, rfl, by omega, by omega, HREL.out⟩
  case round =>
    obtain ⟨k, rfl, hk, hkq, ws, ns, hns, hmv, hS⟩ := hrel
    clear HREL HMV
    obtain ⟨q0, q1, q2, q3⟩ := cells4 (hS.cells 1 rfl)
    have hlen := hmv.len
    cases gk with
    | zero => omega
    | succ kk =>
      by_cases c4 : k < m
      · have c4b : decide ((k : Int) + 1 ≤ (m : Int)) = true := decide_eq_true (by omega)
        have L := Lib.hid hS
        obtain ⟨ws1, ⟨S1, hr1⟩, hf1, hh1, hl1, hv1⟩ := hmv.take hN2 (by omega) n2
        obtain ⟨ws2, ⟨S2, hr2⟩, hm2⟩ := Moved.give hf1 hh1 hl1 hv1 hN2 (by omega) n2
        have HR1 := Lib.hid hr1
        have HR2 := Lib.hid hr2
        have HF1 := Lib.hid hf1
        have HL1 := Lib.hid hl1
        have HV1 := Lib.hid hv1
        have HM2 := Lib.hid hm2
        have hnl : ns.length ≤ 500 := by omega
        have HNS := Lib.hid hns
        have u1 : ((k : Int) + 1) % 4294967296 = (k : Int) + 1 := by omega
        have u2 : ((k : Int) + 1 + 1) % 4294967296 = (k : Int) + 1 + 1 := by omega
        have i00 : (0 : Int) ≤ (k : Int) + 1 := by omega
        have N0 : (0 : Int) < (N : Int) := by omega
        have N0n : 0 < N := by omega
        have N1 : (1 : Int) < (N : Int) := by omega
        have i01 : (k : Int) + 1 < 4294967296 := by omega
        clear hS hmv hr1 hr2 hf1 hl1 hv1 hm2 hh1 hns
        by_cases cd : nn = k + 1
        · have ed : nn - (k + 1) = 0 := by omega
          have HED := Lib.hid ed
          clear ed cd
          go_wp2_with (first | ((have _h := La1); go_at_call 37; refine (ends7 (.pointer none) 3 ((k : Int) + 1) (.inl ⟨rfl, rfl, rfl⟩) HR1.out.toN HR1.out.i La1.out (newTk_ok _ _ _ _ _ _) (by omega) (by decide)).mono ?_; rintro e v2 ⟨rfl, n1t, hn1, _, _, h⟩; (have La2 := Lib.hid (h.re 2 [0])); (have HN1 := Lib.hid hn1); (have hnl1 : (ns ++ n1t).length ≤ 600 := by rw [List.length_append]; omega); clear h hn1; clear q0 q1 q2 q3; (obtain ⟨q0, q1, q2, q3⟩ := cells4 (La2.out.cells 1 rfl)); clear _h) | ((have _h := L); go_at_call 36; refine (take_new nn 0 0 tg 1 L.out).mono ?_; rintro e v1 ⟨p1, rfl, h⟩; (have La1 := Lib.hid (h.swap)); clear h; clear q0 q1 q2 q3; (obtain ⟨q0, q1, q2, q3⟩ := cells4 (La1.out.cells 2 rfl)); clear _h))
          have HCS : Hid (∀ w', Below v2.heap.size v2 w' → w'.cell? ⟨bc, 0, none⟩ = some (.int .i64 nn) ∧ w'.cell? ⟨bc, 1, none⟩ = some (.int .i64 0) ∧ w'.cell? ⟨bc, 2, none⟩ = some (.int .i64 0) ∧ w'.cell? ⟨bc, 3, none⟩ = some (.int .u32 tg)) := Lib.hid (fun w' hb => cells4 ((La2.out.below hb).cells 1 rfl))
          have HBD := Lib.hid (Below.refl v2.heap.size v2).drew
          refine wp_region_held_drew (S := (fun w' => w'.cell? ⟨bc, 0, none⟩ = some (.int .i64 nn) ∧ w'.cell? ⟨bc, 1, none⟩ = some (.int .i64 0) ∧ w'.cell? ⟨bc, 2, none⟩ = some (.int .i64 0) ∧ w'.cell? ⟨bc, 3, none⟩ = some (.int .u32 tg))) (by as_aux_lemma => kernel_rfl) ?_ (fun hHeld0 => ?_)
          · first | exact HCS.out _ HBD.out | exact HCS.out _ (Below.refl _ _)
          refine wpAnyH_take (i := 0) (v := ?_) rfl (by as_aux_lemma => kernel_rfl) (by as_aux_lemma => kernel_rfl) (by as_aux_lemma => kernel_rfl) (fun _ _ _ h => h) (Or.inl ⟨by rfl, ?_⟩) hHeld0 ?_
          rotate_left
          · intro w hSw
            (try dsimp only at hSw)
            go_simp
            try (first | (with_reducible rfl) | rfl)
          try simp only [List.getElem_toArray, List.getElem_cons_zero, List.getElem_cons_succ, Act.put, List.setIfInBounds_toArray, List.set_cons_zero, List.set_cons_succ]
          refine wpAnyH_take (i := 1) (v := ?_) rfl (by as_aux_lemma => kernel_rfl) (by as_aux_lemma => kernel_rfl) (by as_aux_lemma => kernel_rfl) (fun _ _ _ h => h) (Or.inl ⟨by rfl, ?_⟩) hHeld0 ?_
          rotate_left
          · intro w hSw
            (try dsimp only at hSw)
            go_simp
            try (first | (with_reducible rfl) | rfl)
          try simp only [List.getElem_toArray, List.getElem_cons_zero, List.getElem_cons_succ, Act.put, List.setIfInBounds_toArray, List.set_cons_zero, List.set_cons_succ]
          refine wpAnyH_take (i := 3) (v := ?_) rfl (by as_aux_lemma => kernel_rfl) (by as_aux_lemma => kernel_rfl) (by as_aux_lemma => kernel_rfl) (fun _ _ _ h => h) (Or.inl ⟨by rfl, ?_⟩) hHeld0 ?_
          rotate_left
          · intro w hSw
            (try dsimp only at hSw)
            go_simp
            try (first | (with_reducible rfl) | rfl)
          try simp only [List.getElem_toArray, List.getElem_cons_zero, List.getElem_cons_succ, Act.put, List.setIfInBounds_toArray, List.set_cons_zero, List.set_cons_succ]
          refine wpAnyH_ready (rs := [2]) (by as_aux_lemma => kernel_rfl) (by simp) ?_
          refine AllReadyH.cons rfl (fun K hK => ?_) ?_
          · go_simp
            (go_at_call 34; refine (words_st (La2.out.below HBD.out) N HL1.out).mono ?_; rintro e w4 ⟨al, c4', rfl, hrw, _, hb⟩; (have HRW := Lib.hid hrw); (have HZ2 := Lib.hid (HBD.out.trans (hb.mono HBD.out.size))); clear hrw hb HBD; (have HBD := HZ2); clear HZ2)
            go_wp2_with fail
            refine hK.out _ _ ?_ (fun hHeld3_2 => ?_)
            · first | exact HCS.out _ HBD.out | exact HCS.out _ (Below.refl _ _)
            clear hK K
            try simp only [List.getElem_toArray, List.getElem_cons_zero, List.getElem_cons_succ, Act.put, List.setIfInBounds_toArray, List.set_cons_zero, List.set_cons_succ]
            refine wpAnyH_ready (rs := [4]) (by as_aux_lemma => kernel_rfl) (by simp) ?_
            refine AllReadyH.cons rfl (fun K hK => ?_) ?_
            · go_simp
              (go_at_call 34; refine (words_pos N (La2.out.below HBD.out) HL1.out (by omega)).mono ?_; rintro e w5 ⟨g5, c5', rfl, hw5, _, _, hb⟩; (have hx5 := hw5 1 (by omega)); (have HRZ := Lib.hid (HRW.out.kept hb)); clear HRW; (have HRW := HRZ); clear HRZ; (have HZ2 := Lib.hid (HBD.out.trans (hb.mono HBD.out.size))); clear hw5 hb HBD; (have HBD := HZ2); clear HZ2)
              go_wp2_with fail
              refine hK.out _ _ ?_ (fun hHeld4_4 => ?_)
              · first | exact HCS.out _ HBD.out | exact HCS.out _ (Below.refl _ _)
              clear hK K
              try simp only [List.getElem_toArray, List.getElem_cons_zero, List.getElem_cons_succ, Act.put, List.setIfInBounds_toArray, List.set_cons_zero, List.set_cons_succ]
              refine wpAnyH_take (i := 5) (v := ?_) rfl (by as_aux_lemma => kernel_rfl) (by as_aux_lemma => kernel_rfl) (by as_aux_lemma => kernel_rfl) (fun _ _ _ h => h) (Or.inl ⟨by rfl, ?_⟩) hHeld4_4 ?_
              rotate_left
              · intro w hSw
                (try dsimp only at hSw)
                go_simp
                try (first | (with_reducible rfl) | rfl)
              try simp only [List.getElem_toArray, List.getElem_cons_zero, List.getElem_cons_succ, Act.put, List.setIfInBounds_toArray, List.set_cons_zero, List.set_cons_succ]
              refine wpAnyH_ready (rs := [6]) (by as_aux_lemma => kernel_rfl) (by simp) ?_
              refine AllReadyH.cons rfl (fun K hK => ?_) ?_
              · go_simp
                refine hK.out _ _ ?_ (fun hHeld6_6 => ?_)
                · first | exact HCS.out _ HBD.out | exact HCS.out _ (Below.refl _ _)
                clear hK K
                try simp only [List.getElem_toArray, List.getElem_cons_zero, List.getElem_cons_succ, Act.put, List.setIfInBounds_toArray, List.set_cons_zero, List.set_cons_succ]
                refine wpAnyH_ready (rs := [7]) (by as_aux_lemma => kernel_rfl) (by simp) ?_
                refine AllReadyH.cons rfl (fun K hK => ?_) ?_
                · go_simp
                  (go_at_call 22; refine (chain_at nn 0 0 tg al N c4' _ 1 _ _ _ (La2.out.below HBD.out) HOK.out HN.out HRW.out HL1.out HF1.out (by rw [upL_len]; omega) HV1.out rfl).mono ?_; rintro e w7 ⟨A7, c7, rfl, hb, h⟩; (have HC7 := Lib.hid h); (have HZ2 := Lib.hid (HBD.out.trans (hb.mono HBD.out.size))); clear h hb HBD; (have HBD := HZ2); clear HZ2)
                  go_wp2_with fail
                  refine hK.out _ _ ?_ (fun hHeld7_7 => ?_)
                  · first | exact HCS.out _ HBD.out | exact HCS.out _ (Below.refl _ _)
                  clear hK K
                  try simp only [List.getElem_toArray, List.getElem_cons_zero, List.getElem_cons_succ, Act.put, List.setIfInBounds_toArray, List.set_cons_zero, List.set_cons_succ]
                  refine wpAnyH_take (i := 8) (v := ?_) rfl (by as_aux_lemma => kernel_rfl) (by as_aux_lemma => kernel_rfl) (by as_aux_lemma => kernel_rfl) (fun _ _ _ h => h) (Or.inl ⟨by rfl, ?_⟩) hHeld7_7 ?_
                  rotate_left
                  · intro w hSw
                    (try dsimp only at hSw)
                    go_simp
                    try (first | (with_reducible rfl) | rfl)
                  try simp only [List.getElem_toArray, List.getElem_cons_zero, List.getElem_cons_succ, Act.put, List.setIfInBounds_toArray, List.set_cons_zero, List.set_cons_succ]
                  refine wpAnyH_take (i := 9) (v := ?_) rfl (by as_aux_lemma => kernel_rfl) (by as_aux_lemma => kernel_rfl) (by as_aux_lemma => kernel_rfl) (fun _ _ _ h => h) (Or.inl ⟨by rfl, ?_⟩) hHeld7_7 ?_
                  rotate_left
                  · intro w hSw
                    (try dsimp only at hSw)
                    go_simp
                    try (first | (with_reducible rfl) | rfl)
                  try simp only [List.getElem_toArray, List.getElem_cons_zero, List.getElem_cons_succ, Act.put, List.setIfInBounds_toArray, List.set_cons_zero, List.set_cons_succ]
                  refine wpAnyH_take (i := 10) (v := ?_) rfl (by as_aux_lemma => kernel_rfl) (by as_aux_lemma => kernel_rfl) (by as_aux_lemma => kernel_rfl) (fun _ _ _ h => h) (Or.inl ⟨by rfl, ?_⟩) hHeld7_7 ?_
                  rotate_left
                  · intro w hSw
                    (try dsimp only at hSw)
                    go_simp
                    try (first | (with_reducible rfl) | rfl)
                  try simp only [List.getElem_toArray, List.getElem_cons_zero, List.getElem_cons_succ, Act.put, List.setIfInBounds_toArray, List.set_cons_zero, List.set_cons_succ]
                  refine wpAnyH_take (i := 11) (v := ?_) rfl (by as_aux_lemma => kernel_rfl) (by as_aux_lemma => kernel_rfl) (by as_aux_lemma => kernel_rfl) (fun _ _ _ h => h) (Or.inl ⟨by rfl, ?_⟩) hHeld7_7 ?_
                  rotate_left
                  · intro w hSw
                    (try dsimp only at hSw)
                    go_simp
                    try (first | (with_reducible rfl) | rfl)
                  try simp only [List.getElem_toArray, List.getElem_cons_zero, List.getElem_cons_succ, Act.put, List.setIfInBounds_toArray, List.set_cons_zero, List.set_cons_succ]
                  refine wpAnyH_take (i := 12) (v := ?_) rfl (by as_aux_lemma => kernel_rfl) (by as_aux_lemma => kernel_rfl) (by as_aux_lemma => kernel_rfl) (fun _ _ _ h => h) (Or.inl ⟨by rfl, ?_⟩) hHeld7_7 ?_
                  rotate_left
                  · intro w hSw
                    (try dsimp only at hSw)
                    go_simp
                    try (first | (with_reducible rfl) | rfl)
                  try simp only [List.getElem_toArray, List.getElem_cons_zero, List.getElem_cons_succ, Act.put, List.setIfInBounds_toArray, List.set_cons_zero, List.set_cons_succ]
                  refine wpAnyH_done (by as_aux_lemma => kernel_rfl) ?_ _
                  have ed := HED.out
                  have HLEN : Hid ((upL ((k : Int) + 1 + 1) (nn - (k + 1))).length = nn - (k + 1)) := Lib.hid (upL_len _ _)
                  rw [HLEN.out]
                  have HD := Lib.hid (show St w [memA q ws1 (ns ++ n1t), bxC bc nn 0 0 tg] _ from HC7.out.tail)
                  clear q0 q1 q2 q3
                  (obtain ⟨q0, q1, q2, q3⟩ := cells4 (HD.out.cells 1 rfl))
                  have e9 : ((nn - (k + 1) : Nat) : Int) = (nn : Int) - ((k : Int) + 1) := by omega
                  have e8 : ((nn - (k + 1) : Nat) : Int) = 0 := by omega
                  obtain ⟨D, hD⟩ : ∃ D : Nat, nn - (k + 1) = D := ⟨_, rfl⟩
                  rw [hD] at e9 e8 ed
                  have hn5 : (nn : Int) = (D : Int) + (k : Int) + 1 := by omega
                  try rw [hD]
                  obtain rfl : D = 0 := by omega
                  have e7 : (nn : Int) - ((k : Int) + 1) = 0 := by omega
                  have w9 : IntKind.i64.wrap ((nn : Int) - ((k : Int) + 1)) = 0 := by rw [IntKind.wrap_i64]; omega
                  skip
                  skip
                  clear e9
                  have HD9 := Lib.hid hD
                  have HD8 := Lib.hid hn5
                  clear ed hD hn5
                  go_wp2_with (first | ((have _h := Ma1); go_at_call 37; refine (ends7 (.pointer none) 3 ((k : Int) + 1) (.inr ⟨rfl, rfl, rfl⟩) HR2.out.toN HR2.out.i Ma1.out (newGv_ok _ _ _ _ _ i00 i01 _) (by omega) (by decide)).mono ?_; rintro e u2 ⟨rfl, n2t, hn2, _, _, h⟩; (have Ma2 := Lib.hid (h.re 2 [0])); (have HN2 := Lib.hid hn2); clear h hn2; clear q0 q1 q2 q3; (obtain ⟨q0, q1, q2, q3⟩ := cells4 (Ma2.out.cells 1 rfl)); clear _h) | ((have _h := HD); go_at_call 38; refine (give_new nn 0 0 tg 0 ((k : Int) + 1) HD.out).mono ?_; rintro e u1 ⟨p2, rfl, h⟩; (have Ma1 := Lib.hid (h.re 2 [1, 0])); clear h; clear q0 q1 q2 q3; (obtain ⟨q0, q1, q2, q3⟩ := cells4 (Ma1.out.cells 2 rfl)); clear _h))
                  clear HBD HCS HC7 HRW
                  have HCS : Hid (∀ w', Below u2.heap.size u2 w' → w'.cell? ⟨bc, 0, none⟩ = some (.int .i64 nn) ∧ w'.cell? ⟨bc, 1, none⟩ = some (.int .i64 0) ∧ w'.cell? ⟨bc, 2, none⟩ = some (.int .i64 0) ∧ w'.cell? ⟨bc, 3, none⟩ = some (.int .u32 tg)) := Lib.hid (fun w' hb => cells4 ((Ma2.out.below hb).cells 1 rfl))
                  have HL2 := Lib.hid HM2.out.len
                  have HBD := Lib.hid (Below.refl u2.heap.size u2).drew
                  refine wp_region_held_drew (S := (fun w' => w'.cell? ⟨bc, 0, none⟩ = some (.int .i64 nn) ∧ w'.cell? ⟨bc, 1, none⟩ = some (.int .i64 0) ∧ w'.cell? ⟨bc, 2, none⟩ = some (.int .i64 0) ∧ w'.cell? ⟨bc, 3, none⟩ = some (.int .u32 tg))) (by as_aux_lemma => kernel_rfl) ?_ (fun hHeld0 => ?_)
                  · first | exact HCS.out _ HBD.out | exact HCS.out _ (Below.refl _ _)
                  refine wpAnyH_take (i := 0) (v := ?_) rfl (by as_aux_lemma => kernel_rfl) (by as_aux_lemma => kernel_rfl) (by as_aux_lemma => kernel_rfl) (fun _ _ _ h => h) (Or.inl ⟨by rfl, ?_⟩) hHeld0 ?_
                  rotate_left
                  · intro w hSw
                    (try dsimp only at hSw)
                    go_simp
                    try (first | (with_reducible rfl) | rfl)
                  try simp only [List.getElem_toArray, List.getElem_cons_zero, List.getElem_cons_succ, Act.put, List.setIfInBounds_toArray, List.set_cons_zero, List.set_cons_succ]
                  refine wpAnyH_take (i := 1) (v := ?_) rfl (by as_aux_lemma => kernel_rfl) (by as_aux_lemma => kernel_rfl) (by as_aux_lemma => kernel_rfl) (fun _ _ _ h => h) (Or.inl ⟨by rfl, ?_⟩) hHeld0 ?_
                  rotate_left
                  · intro w hSw
                    (try dsimp only at hSw)
                    go_simp
                    try (first | (with_reducible rfl) | rfl)
                  try simp only [List.getElem_toArray, List.getElem_cons_zero, List.getElem_cons_succ, Act.put, List.setIfInBounds_toArray, List.set_cons_zero, List.set_cons_succ]
                  refine wpAnyH_take (i := 3) (v := ?_) rfl (by as_aux_lemma => kernel_rfl) (by as_aux_lemma => kernel_rfl) (by as_aux_lemma => kernel_rfl) (fun _ _ _ h => h) (Or.inl ⟨by rfl, ?_⟩) hHeld0 ?_
                  rotate_left
                  · intro w hSw
                    (try dsimp only at hSw)
                    go_simp
                    try (first | (with_reducible rfl) | rfl)
                  try simp only [List.getElem_toArray, List.getElem_cons_zero, List.getElem_cons_succ, Act.put, List.setIfInBounds_toArray, List.set_cons_zero, List.set_cons_succ]
                  refine wpAnyH_ready (rs := [2]) (by as_aux_lemma => kernel_rfl) (by simp) ?_
                  refine AllReadyH.cons rfl (fun K hK => ?_) ?_
                  · go_simp
                    (go_at_call 34; refine (words_st (Ma2.out.below HBD.out) N HL2.out).mono ?_; rintro e w4 ⟨al, c4', rfl, hrw, _, hb⟩; (have HRW := Lib.hid hrw); (have HZ2 := Lib.hid (HBD.out.trans (hb.mono HBD.out.size))); clear hrw hb HBD; (have HBD := HZ2); clear HZ2)
                    go_wp2_with fail
                    refine hK.out _ _ ?_ (fun hHeld3_2 => ?_)
                    · first | exact HCS.out _ HBD.out | exact HCS.out _ (Below.refl _ _)
                    clear hK K
                    try simp only [List.getElem_toArray, List.getElem_cons_zero, List.getElem_cons_succ, Act.put, List.setIfInBounds_toArray, List.set_cons_zero, List.set_cons_succ]
                    refine wpAnyH_ready (rs := [4]) (by as_aux_lemma => kernel_rfl) (by simp) ?_
                    refine AllReadyH.cons rfl (fun K hK => ?_) ?_
                    · go_simp
                      (go_at_call 34; refine (words_pos N (Ma2.out.below HBD.out) HL2.out (by omega)).mono ?_; rintro e w5 ⟨g5, c5', rfl, hw5, _, _, hb⟩; (have hx5 := hw5 0 (by omega)); (have HRZ := Lib.hid (HRW.out.kept hb)); clear HRW; (have HRW := HRZ); clear HRZ; (have HZ2 := Lib.hid (HBD.out.trans (hb.mono HBD.out.size))); clear hw5 hb HBD; (have HBD := HZ2); clear HZ2)
                      go_wp2_with fail
                      refine hK.out _ _ ?_ (fun hHeld4_4 => ?_)
                      · first | exact HCS.out _ HBD.out | exact HCS.out _ (Below.refl _ _)
                      clear hK K
                      try simp only [List.getElem_toArray, List.getElem_cons_zero, List.getElem_cons_succ, Act.put, List.setIfInBounds_toArray, List.set_cons_zero, List.set_cons_succ]
                      refine wpAnyH_take (i := 5) (v := ?_) rfl (by as_aux_lemma => kernel_rfl) (by as_aux_lemma => kernel_rfl) (by as_aux_lemma => kernel_rfl) (fun _ _ _ h => h) (Or.inl ⟨by rfl, ?_⟩) hHeld4_4 ?_
                      rotate_left
                      · intro w hSw
                        (try dsimp only at hSw)
                        go_simp
                        try (first | (with_reducible rfl) | rfl)
                      try simp only [List.getElem_toArray, List.getElem_cons_zero, List.getElem_cons_succ, Act.put, List.setIfInBounds_toArray, List.set_cons_zero, List.set_cons_succ]
                      refine wpAnyH_ready (rs := [6]) (by as_aux_lemma => kernel_rfl) (by simp) ?_
                      refine AllReadyH.cons rfl (fun K hK => ?_) ?_
                      · go_simp
                        refine hK.out _ _ ?_ (fun hHeld6_6 => ?_)
                        · first | exact HCS.out _ HBD.out | exact HCS.out _ (Below.refl _ _)
                        clear hK K
                        try simp only [List.getElem_toArray, List.getElem_cons_zero, List.getElem_cons_succ, Act.put, List.setIfInBounds_toArray, List.set_cons_zero, List.set_cons_succ]
                        refine wpAnyH_ready (rs := [7]) (by as_aux_lemma => kernel_rfl) (by simp) ?_
                        refine AllReadyH.cons rfl (fun K hK => ?_) ?_
                        · go_simp
                          (go_at_call 22; refine (chain_at nn 0 0 tg al N c4' _ 0 _ _ _ (Ma2.out.below HBD.out) HOK.out HN.out HRW.out HL2.out HM2.out.head (by rw [dnL_len]; omega) HM2.out.rng rfl).mono ?_; rintro e w7 ⟨A7, c7, rfl, hb, h⟩; (have HC7 := Lib.hid h); (have HZ2 := Lib.hid (HBD.out.trans (hb.mono HBD.out.size))); clear h hb HBD; (have HBD := HZ2); clear HZ2)
                          go_wp2_with fail
                          refine hK.out _ _ ?_ (fun hHeld7_7 => ?_)
                          · first | exact HCS.out _ HBD.out | exact HCS.out _ (Below.refl _ _)
                          clear hK K
                          try simp only [List.getElem_toArray, List.getElem_cons_zero, List.getElem_cons_succ, Act.put, List.setIfInBounds_toArray, List.set_cons_zero, List.set_cons_succ]
                          refine wpAnyH_take (i := 8) (v := ?_) rfl (by as_aux_lemma => kernel_rfl) (by as_aux_lemma => kernel_rfl) (by as_aux_lemma => kernel_rfl) (fun _ _ _ h => h) (Or.inl ⟨by rfl, ?_⟩) hHeld7_7 ?_
                          rotate_left
                          · intro w hSw
                            (try dsimp only at hSw)
                            go_simp
                            try (first | (with_reducible rfl) | rfl)
                          try simp only [List.getElem_toArray, List.getElem_cons_zero, List.getElem_cons_succ, Act.put, List.setIfInBounds_toArray, List.set_cons_zero, List.set_cons_succ]
                          refine wpAnyH_take (i := 9) (v := ?_) rfl (by as_aux_lemma => kernel_rfl) (by as_aux_lemma => kernel_rfl) (by as_aux_lemma => kernel_rfl) (fun _ _ _ h => h) (Or.inl ⟨by rfl, ?_⟩) hHeld7_7 ?_
                          rotate_left
                          · intro w hSw
                            (try dsimp only at hSw)
                            go_simp
                            try (first | (with_reducible rfl) | rfl)
                          try simp only [List.getElem_toArray, List.getElem_cons_zero, List.getElem_cons_succ, Act.put, List.setIfInBounds_toArray, List.set_cons_zero, List.set_cons_succ]
                          refine wpAnyH_take (i := 10) (v := ?_) rfl (by as_aux_lemma => kernel_rfl) (by as_aux_lemma => kernel_rfl) (by as_aux_lemma => kernel_rfl) (fun _ _ _ h => h) (Or.inl ⟨by rfl, ?_⟩) hHeld7_7 ?_
                          rotate_left
                          · intro w hSw
                            (try dsimp only at hSw)
                            go_simp
                            try (first | (with_reducible rfl) | rfl)
                          try simp only [List.getElem_toArray, List.getElem_cons_zero, List.getElem_cons_succ, Act.put, List.setIfInBounds_toArray, List.set_cons_zero, List.set_cons_succ]
                          refine wpAnyH_take (i := 11) (v := ?_) rfl (by as_aux_lemma => kernel_rfl) (by as_aux_lemma => kernel_rfl) (by as_aux_lemma => kernel_rfl) (fun _ _ _ h => h) (Or.inl ⟨by rfl, ?_⟩) hHeld7_7 ?_
                          rotate_left
                          · intro w hSw
                            (try dsimp only at hSw)
                            go_simp
                            try (first | (with_reducible rfl) | rfl)
                          try simp only [List.getElem_toArray, List.getElem_cons_zero, List.getElem_cons_succ, Act.put, List.setIfInBounds_toArray, List.set_cons_zero, List.set_cons_succ]
                          refine wpAnyH_take (i := 12) (v := ?_) rfl (by as_aux_lemma => kernel_rfl) (by as_aux_lemma => kernel_rfl) (by as_aux_lemma => kernel_rfl) (fun _ _ _ h => h) (Or.inl ⟨by rfl, ?_⟩) hHeld7_7 ?_
                          rotate_left
                          · intro w hSw
                            (try dsimp only at hSw)
                            go_simp
                            try (first | (with_reducible rfl) | rfl)
                          try simp only [List.getElem_toArray, List.getElem_cons_zero, List.getElem_cons_succ, Act.put, List.setIfInBounds_toArray, List.set_cons_zero, List.set_cons_succ]
                          refine wpAnyH_done (by as_aux_lemma => kernel_rfl) ?_ _
                          clear q0 q1 q2 q3
                          have HLE2 : Hid ((dnL (k + 1)).length = k + 1) := Lib.hid (dnL_len _)
                          rw [HLE2.out]
                          obtain ⟨g8, hA8, hc8⟩ := row32_cell (j := 0) (k := 0) (x := (k : Int) + 1) HC7.out rfl rfl
                          subst hA8
                          have x9 : (((k + 1 : Nat)) : Int) = (k : Int) + 1 := by omega
                          obtain ⟨K1, hK1⟩ : ∃ K1 : Nat, k + 1 = K1 := ⟨_, rfl⟩
                          rw [hK1] at x9
                          rw [hK1]
                          have y0 : (0 : Int) < (K1 : Int) := by omega
                          have y0n : 0 < K1 := by omega
                          have y1 : (0 : Int) ≤ 0 := by decide
                          have HZZ := Lib.hid hK1
                          clear hK1
                          go_wp2
                          go_roundg kk
                          case measure => omega
                          case rel =>
                            have hK := HZZ.out
                            exact ⟨k + 1, by first | rfl | (congr 1) | (simp; omega), by omega, by omega, ws2, (ns ++ n1t) ++ n2t, by rw [List.length_append, List.length_append, HN1.out, HN2.out, HNS.out]; omega, HM2.out, HC7.out.tail⟩
                        exact AllReadyH.nil
                      exact AllReadyH.nil
                    exact AllReadyH.nil
                  exact AllReadyH.nil
                exact AllReadyH.nil
              exact AllReadyH.nil
            exact AllReadyH.nil
          exact AllReadyH.nil
        · obtain ⟨d, ed⟩ : ∃ d, nn - (k + 1) = d + 1 := ⟨nn - (k + 1) - 1, by omega⟩
          have HED := Lib.hid ed
          clear ed cd
          go_wp2_with (first | ((have _h := Lb1); go_at_call 37; refine (ends7 (.pointer none) 3 ((k : Int) + 1) (.inl ⟨rfl, rfl, rfl⟩) HR1.out.toN HR1.out.i Lb1.out (newTk_ok _ _ _ _ _ _) (by omega) (by decide)).mono ?_; rintro e v2 ⟨rfl, n1t, hn1, _, _, h⟩; (have Lb2 := Lib.hid (h.re 2 [0])); (have HN1 := Lib.hid hn1); (have hnl1 : (ns ++ n1t).length ≤ 600 := by rw [List.length_append]; omega); clear h hn1; clear q0 q1 q2 q3; (obtain ⟨q0, q1, q2, q3⟩ := cells4 (Lb2.out.cells 1 rfl)); clear _h) | ((have _h := L); go_at_call 36; refine (take_new nn 0 0 tg 1 L.out).mono ?_; rintro e v1 ⟨p1, rfl, h⟩; (have Lb1 := Lib.hid (h.swap)); clear h; clear q0 q1 q2 q3; (obtain ⟨q0, q1, q2, q3⟩ := cells4 (Lb1.out.cells 2 rfl)); clear _h))
          have HCS : Hid (∀ w', Below v2.heap.size v2 w' → w'.cell? ⟨bc, 0, none⟩ = some (.int .i64 nn) ∧ w'.cell? ⟨bc, 1, none⟩ = some (.int .i64 0) ∧ w'.cell? ⟨bc, 2, none⟩ = some (.int .i64 0) ∧ w'.cell? ⟨bc, 3, none⟩ = some (.int .u32 tg)) := Lib.hid (fun w' hb => cells4 ((Lb2.out.below hb).cells 1 rfl))
          have HBD := Lib.hid (Below.refl v2.heap.size v2).drew
          refine wp_region_held_drew (S := (fun w' => w'.cell? ⟨bc, 0, none⟩ = some (.int .i64 nn) ∧ w'.cell? ⟨bc, 1, none⟩ = some (.int .i64 0) ∧ w'.cell? ⟨bc, 2, none⟩ = some (.int .i64 0) ∧ w'.cell? ⟨bc, 3, none⟩ = some (.int .u32 tg))) (by as_aux_lemma => kernel_rfl) ?_ (fun hHeld0 => ?_)
          · first | exact HCS.out _ HBD.out | exact HCS.out _ (Below.refl _ _)
          refine wpAnyH_take (i := 0) (v := ?_) rfl (by as_aux_lemma => kernel_rfl) (by as_aux_lemma => kernel_rfl) (by as_aux_lemma => kernel_rfl) (fun _ _ _ h => h) (Or.inl ⟨by rfl, ?_⟩) hHeld0 ?_
          rotate_left
          · intro w hSw
            (try dsimp only at hSw)
            go_simp
            try (first | (with_reducible rfl) | rfl)
          try simp only [List.getElem_toArray, List.getElem_cons_zero, List.getElem_cons_succ, Act.put, List.setIfInBounds_toArray, List.set_cons_zero, List.set_cons_succ]
          refine wpAnyH_take (i := 1) (v := ?_) rfl (by as_aux_lemma => kernel_rfl) (by as_aux_lemma => kernel_rfl) (by as_aux_lemma => kernel_rfl) (fun _ _ _ h => h) (Or.inl ⟨by rfl, ?_⟩) hHeld0 ?_
          rotate_left
          · intro w hSw
            (try dsimp only at hSw)
            go_simp
            try (first | (with_reducible rfl) | rfl)
          try simp only [List.getElem_toArray, List.getElem_cons_zero, List.getElem_cons_succ, Act.put, List.setIfInBounds_toArray, List.set_cons_zero, List.set_cons_succ]
          refine wpAnyH_take (i := 3) (v := ?_) rfl (by as_aux_lemma => kernel_rfl) (by as_aux_lemma => kernel_rfl) (by as_aux_lemma => kernel_rfl) (fun _ _ _ h => h) (Or.inl ⟨by rfl, ?_⟩) hHeld0 ?_
          rotate_left
          · intro w hSw
            (try dsimp only at hSw)
            go_simp
            try (first | (with_reducible rfl) | rfl)
          try simp only [List.getElem_toArray, List.getElem_cons_zero, List.getElem_cons_succ, Act.put, List.setIfInBounds_toArray, List.set_cons_zero, List.set_cons_succ]
          refine wpAnyH_ready (rs := [2]) (by as_aux_lemma => kernel_rfl) (by simp) ?_
          refine AllReadyH.cons rfl (fun K hK => ?_) ?_
          · go_simp
            (go_at_call 34; refine (words_st (Lb2.out.below HBD.out) N HL1.out).mono ?_; rintro e w4 ⟨al, c4', rfl, hrw, _, hb⟩; (have HRW := Lib.hid hrw); (have HZ2 := Lib.hid (HBD.out.trans (hb.mono HBD.out.size))); clear hrw hb HBD; (have HBD := HZ2); clear HZ2)
            go_wp2_with fail
            refine hK.out _ _ ?_ (fun hHeld3_2 => ?_)
            · first | exact HCS.out _ HBD.out | exact HCS.out _ (Below.refl _ _)
            clear hK K
            try simp only [List.getElem_toArray, List.getElem_cons_zero, List.getElem_cons_succ, Act.put, List.setIfInBounds_toArray, List.set_cons_zero, List.set_cons_succ]
            refine wpAnyH_ready (rs := [4]) (by as_aux_lemma => kernel_rfl) (by simp) ?_
            refine AllReadyH.cons rfl (fun K hK => ?_) ?_
            · go_simp
              (go_at_call 34; refine (words_pos N (Lb2.out.below HBD.out) HL1.out (by omega)).mono ?_; rintro e w5 ⟨g5, c5', rfl, hw5, _, _, hb⟩; (have hx5 := hw5 1 (by omega)); (have HRZ := Lib.hid (HRW.out.kept hb)); clear HRW; (have HRW := HRZ); clear HRZ; (have HZ2 := Lib.hid (HBD.out.trans (hb.mono HBD.out.size))); clear hw5 hb HBD; (have HBD := HZ2); clear HZ2)
              go_wp2_with fail
              refine hK.out _ _ ?_ (fun hHeld4_4 => ?_)
              · first | exact HCS.out _ HBD.out | exact HCS.out _ (Below.refl _ _)
              clear hK K
              try simp only [List.getElem_toArray, List.getElem_cons_zero, List.getElem_cons_succ, Act.put, List.setIfInBounds_toArray, List.set_cons_zero, List.set_cons_succ]
              refine wpAnyH_take (i := 5) (v := ?_) rfl (by as_aux_lemma => kernel_rfl) (by as_aux_lemma => kernel_rfl) (by as_aux_lemma => kernel_rfl) (fun _ _ _ h => h) (Or.inl ⟨by rfl, ?_⟩) hHeld4_4 ?_
              rotate_left
              · intro w hSw
                (try dsimp only at hSw)
                go_simp
                try (first | (with_reducible rfl) | rfl)
              try simp only [List.getElem_toArray, List.getElem_cons_zero, List.getElem_cons_succ, Act.put, List.setIfInBounds_toArray, List.set_cons_zero, List.set_cons_succ]
              refine wpAnyH_ready (rs := [6]) (by as_aux_lemma => kernel_rfl) (by simp) ?_
              refine AllReadyH.cons rfl (fun K hK => ?_) ?_
              · go_simp
                refine hK.out _ _ ?_ (fun hHeld6_6 => ?_)
                · first | exact HCS.out _ HBD.out | exact HCS.out _ (Below.refl _ _)
                clear hK K
                try simp only [List.getElem_toArray, List.getElem_cons_zero, List.getElem_cons_succ, Act.put, List.setIfInBounds_toArray, List.set_cons_zero, List.set_cons_succ]
                refine wpAnyH_ready (rs := [7]) (by as_aux_lemma => kernel_rfl) (by simp) ?_
                refine AllReadyH.cons rfl (fun K hK => ?_) ?_
                · go_simp
                  (go_at_call 22; refine (chain_at nn 0 0 tg al N c4' _ 1 _ _ _ (Lb2.out.below HBD.out) HOK.out HN.out HRW.out HL1.out HF1.out (by rw [upL_len]; omega) HV1.out rfl).mono ?_; rintro e w7 ⟨A7, c7, rfl, hb, h⟩; (have HC7 := Lib.hid h); (have HZ2 := Lib.hid (HBD.out.trans (hb.mono HBD.out.size))); clear h hb HBD; (have HBD := HZ2); clear HZ2)
                  go_wp2_with fail
                  refine hK.out _ _ ?_ (fun hHeld7_7 => ?_)
                  · first | exact HCS.out _ HBD.out | exact HCS.out _ (Below.refl _ _)
                  clear hK K
                  try simp only [List.getElem_toArray, List.getElem_cons_zero, List.getElem_cons_succ, Act.put, List.setIfInBounds_toArray, List.set_cons_zero, List.set_cons_succ]
                  refine wpAnyH_take (i := 8) (v := ?_) rfl (by as_aux_lemma => kernel_rfl) (by as_aux_lemma => kernel_rfl) (by as_aux_lemma => kernel_rfl) (fun _ _ _ h => h) (Or.inl ⟨by rfl, ?_⟩) hHeld7_7 ?_
                  rotate_left
                  · intro w hSw
                    (try dsimp only at hSw)
                    go_simp
                    try (first | (with_reducible rfl) | rfl)
                  try simp only [List.getElem_toArray, List.getElem_cons_zero, List.getElem_cons_succ, Act.put, List.setIfInBounds_toArray, List.set_cons_zero, List.set_cons_succ]
                  refine wpAnyH_take (i := 9) (v := ?_) rfl (by as_aux_lemma => kernel_rfl) (by as_aux_lemma => kernel_rfl) (by as_aux_lemma => kernel_rfl) (fun _ _ _ h => h) (Or.inl ⟨by rfl, ?_⟩) hHeld7_7 ?_
                  rotate_left
                  · intro w hSw
                    (try dsimp only at hSw)
                    go_simp
                    try (first | (with_reducible rfl) | rfl)
                  try simp only [List.getElem_toArray, List.getElem_cons_zero, List.getElem_cons_succ, Act.put, List.setIfInBounds_toArray, List.set_cons_zero, List.set_cons_succ]
                  refine wpAnyH_take (i := 10) (v := ?_) rfl (by as_aux_lemma => kernel_rfl) (by as_aux_lemma => kernel_rfl) (by as_aux_lemma => kernel_rfl) (fun _ _ _ h => h) (Or.inl ⟨by rfl, ?_⟩) hHeld7_7 ?_
                  rotate_left
                  · intro w hSw
                    (try dsimp only at hSw)
                    go_simp
                    try (first | (with_reducible rfl) | rfl)
                  try simp only [List.getElem_toArray, List.getElem_cons_zero, List.getElem_cons_succ, Act.put, List.setIfInBounds_toArray, List.set_cons_zero, List.set_cons_succ]
                  refine wpAnyH_take (i := 11) (v := ?_) rfl (by as_aux_lemma => kernel_rfl) (by as_aux_lemma => kernel_rfl) (by as_aux_lemma => kernel_rfl) (fun _ _ _ h => h) (Or.inl ⟨by rfl, ?_⟩) hHeld7_7 ?_
                  rotate_left
                  · intro w hSw
                    (try dsimp only at hSw)
                    go_simp
                    try (first | (with_reducible rfl) | rfl)
                  try simp only [List.getElem_toArray, List.getElem_cons_zero, List.getElem_cons_succ, Act.put, List.setIfInBounds_toArray, List.set_cons_zero, List.set_cons_succ]
                  refine wpAnyH_take (i := 12) (v := ?_) rfl (by as_aux_lemma => kernel_rfl) (by as_aux_lemma => kernel_rfl) (by as_aux_lemma => kernel_rfl) (fun _ _ _ h => h) (Or.inl ⟨by rfl, ?_⟩) hHeld7_7 ?_
                  rotate_left
                  · intro w hSw
                    (try dsimp only at hSw)
                    go_simp
                    try (first | (with_reducible rfl) | rfl)
                  try simp only [List.getElem_toArray, List.getElem_cons_zero, List.getElem_cons_succ, Act.put, List.setIfInBounds_toArray, List.set_cons_zero, List.set_cons_succ]
                  refine wpAnyH_done (by as_aux_lemma => kernel_rfl) ?_ _
                  have ed := HED.out
                  have HLEN : Hid ((upL ((k : Int) + 1 + 1) (nn - (k + 1))).length = nn - (k + 1)) := Lib.hid (upL_len _ _)
                  rw [HLEN.out]
                  obtain ⟨g7, hA7, hc7⟩ := row32_cell (j := 0) (k := 0) (x := (k : Int) + 1 + 1) HC7.out rfl (by rw [HED.out]; rfl)
                  subst hA7
                  have HD := Lib.hid (show St w [memA q ws1 (ns ++ n1t), bxC bc nn 0 0 tg] _ from HC7.out.tail)
                  clear q0 q1 q2 q3
                  (obtain ⟨q0, q1, q2, q3⟩ := cells4 (HD.out.cells 1 rfl))
                  have e9 : ((nn - (k + 1) : Nat) : Int) = (nn : Int) - ((k : Int) + 1) := by omega
                  have e8 : decide ((0 : Int) < ((nn - (k + 1) : Nat) : Int)) = true := decide_eq_true (by omega)
                  obtain ⟨D, hD⟩ : ∃ D : Nat, nn - (k + 1) = D := ⟨_, rfl⟩
                  rw [hD] at e9 e8 ed
                  have hn5 : (nn : Int) = (D : Int) + (k : Int) + 1 := by omega
                  try rw [hD]
                  have w9 : IntKind.i64.wrap ((nn : Int) - ((k : Int) + 1)) = (D : Int) := by rw [IntKind.wrap_i64]; omega
                  have yD : 0 < D := by omega
                  have e9r : (nn : Int) - ((k : Int) + 1) = (D : Int) := by omega
                  clear e9
                  have HD9 := Lib.hid hD
                  have HD8 := Lib.hid hn5
                  clear ed hD hn5
                  go_wp2_with (first | ((have _h := Mb1); go_at_call 37; refine (ends7 (.pointer none) 3 ((k : Int) + 1) (.inr ⟨rfl, rfl, rfl⟩) HR2.out.toN HR2.out.i Mb1.out (newGv_ok _ _ _ _ _ i00 i01 _) (by omega) (by decide)).mono ?_; rintro e u2 ⟨rfl, n2t, hn2, _, _, h⟩; (have Mb2 := Lib.hid (h.re 2 [0])); (have HN2 := Lib.hid hn2); clear h hn2; clear q0 q1 q2 q3; (obtain ⟨q0, q1, q2, q3⟩ := cells4 (Mb2.out.cells 1 rfl)); clear _h) | ((have _h := HD); go_at_call 38; refine (give_new nn 0 0 tg 0 ((k : Int) + 1) HD.out).mono ?_; rintro e u1 ⟨p2, rfl, h⟩; (have Mb1 := Lib.hid (h.re 2 [1, 0])); clear h; clear q0 q1 q2 q3; (obtain ⟨q0, q1, q2, q3⟩ := cells4 (Mb1.out.cells 2 rfl)); clear _h))
                  clear HBD HCS HC7 HRW
                  have HCS : Hid (∀ w', Below u2.heap.size u2 w' → w'.cell? ⟨bc, 0, none⟩ = some (.int .i64 nn) ∧ w'.cell? ⟨bc, 1, none⟩ = some (.int .i64 0) ∧ w'.cell? ⟨bc, 2, none⟩ = some (.int .i64 0) ∧ w'.cell? ⟨bc, 3, none⟩ = some (.int .u32 tg)) := Lib.hid (fun w' hb => cells4 ((Mb2.out.below hb).cells 1 rfl))
                  have HL2 := Lib.hid HM2.out.len
                  have HBD := Lib.hid (Below.refl u2.heap.size u2).drew
                  refine wp_region_held_drew (S := (fun w' => w'.cell? ⟨bc, 0, none⟩ = some (.int .i64 nn) ∧ w'.cell? ⟨bc, 1, none⟩ = some (.int .i64 0) ∧ w'.cell? ⟨bc, 2, none⟩ = some (.int .i64 0) ∧ w'.cell? ⟨bc, 3, none⟩ = some (.int .u32 tg))) (by as_aux_lemma => kernel_rfl) ?_ (fun hHeld0 => ?_)
                  · first | exact HCS.out _ HBD.out | exact HCS.out _ (Below.refl _ _)
                  refine wpAnyH_take (i := 0) (v := ?_) rfl (by as_aux_lemma => kernel_rfl) (by as_aux_lemma => kernel_rfl) (by as_aux_lemma => kernel_rfl) (fun _ _ _ h => h) (Or.inl ⟨by rfl, ?_⟩) hHeld0 ?_
                  rotate_left
                  · intro w hSw
                    (try dsimp only at hSw)
                    go_simp
                    try (first | (with_reducible rfl) | rfl)
                  try simp only [List.getElem_toArray, List.getElem_cons_zero, List.getElem_cons_succ, Act.put, List.setIfInBounds_toArray, List.set_cons_zero, List.set_cons_succ]
                  refine wpAnyH_take (i := 1) (v := ?_) rfl (by as_aux_lemma => kernel_rfl) (by as_aux_lemma => kernel_rfl) (by as_aux_lemma => kernel_rfl) (fun _ _ _ h => h) (Or.inl ⟨by rfl, ?_⟩) hHeld0 ?_
                  rotate_left
                  · intro w hSw
                    (try dsimp only at hSw)
                    go_simp
                    try (first | (with_reducible rfl) | rfl)
                  try simp only [List.getElem_toArray, List.getElem_cons_zero, List.getElem_cons_succ, Act.put, List.setIfInBounds_toArray, List.set_cons_zero, List.set_cons_succ]
                  refine wpAnyH_take (i := 3) (v := ?_) rfl (by as_aux_lemma => kernel_rfl) (by as_aux_lemma => kernel_rfl) (by as_aux_lemma => kernel_rfl) (fun _ _ _ h => h) (Or.inl ⟨by rfl, ?_⟩) hHeld0 ?_
                  rotate_left
                  · intro w hSw
                    (try dsimp only at hSw)
                    go_simp
                    try (first | (with_reducible rfl) | rfl)
                  try simp only [List.getElem_toArray, List.getElem_cons_zero, List.getElem_cons_succ, Act.put, List.setIfInBounds_toArray, List.set_cons_zero, List.set_cons_succ]
                  refine wpAnyH_ready (rs := [2]) (by as_aux_lemma => kernel_rfl) (by simp) ?_
                  refine AllReadyH.cons rfl (fun K hK => ?_) ?_
                  · go_simp
                    (go_at_call 34; refine (words_st (Mb2.out.below HBD.out) N HL2.out).mono ?_; rintro e w4 ⟨al, c4', rfl, hrw, _, hb⟩; (have HRW := Lib.hid hrw); (have HZ2 := Lib.hid (HBD.out.trans (hb.mono HBD.out.size))); clear hrw hb HBD; (have HBD := HZ2); clear HZ2)
                    go_wp2_with fail
                    refine hK.out _ _ ?_ (fun hHeld3_2 => ?_)
                    · first | exact HCS.out _ HBD.out | exact HCS.out _ (Below.refl _ _)
                    clear hK K
                    try simp only [List.getElem_toArray, List.getElem_cons_zero, List.getElem_cons_succ, Act.put, List.setIfInBounds_toArray, List.set_cons_zero, List.set_cons_succ]
                    refine wpAnyH_ready (rs := [4]) (by as_aux_lemma => kernel_rfl) (by simp) ?_
                    refine AllReadyH.cons rfl (fun K hK => ?_) ?_
                    · go_simp
                      (go_at_call 34; refine (words_pos N (Mb2.out.below HBD.out) HL2.out (by omega)).mono ?_; rintro e w5 ⟨g5, c5', rfl, hw5, _, _, hb⟩; (have hx5 := hw5 0 (by omega)); (have HRZ := Lib.hid (HRW.out.kept hb)); clear HRW; (have HRW := HRZ); clear HRZ; (have HZ2 := Lib.hid (HBD.out.trans (hb.mono HBD.out.size))); clear hw5 hb HBD; (have HBD := HZ2); clear HZ2)
                      go_wp2_with fail
                      refine hK.out _ _ ?_ (fun hHeld4_4 => ?_)
                      · first | exact HCS.out _ HBD.out | exact HCS.out _ (Below.refl _ _)
                      clear hK K
                      try simp only [List.getElem_toArray, List.getElem_cons_zero, List.getElem_cons_succ, Act.put, List.setIfInBounds_toArray, List.set_cons_zero, List.set_cons_succ]
                      refine wpAnyH_take (i := 5) (v := ?_) rfl (by as_aux_lemma => kernel_rfl) (by as_aux_lemma => kernel_rfl) (by as_aux_lemma => kernel_rfl) (fun _ _ _ h => h) (Or.inl ⟨by rfl, ?_⟩) hHeld4_4 ?_
                      rotate_left
                      · intro w hSw
                        (try dsimp only at hSw)
                        go_simp
                        try (first | (with_reducible rfl) | rfl)
                      try simp only [List.getElem_toArray, List.getElem_cons_zero, List.getElem_cons_succ, Act.put, List.setIfInBounds_toArray, List.set_cons_zero, List.set_cons_succ]
                      refine wpAnyH_ready (rs := [6]) (by as_aux_lemma => kernel_rfl) (by simp) ?_
                      refine AllReadyH.cons rfl (fun K hK => ?_) ?_
                      · go_simp
                        refine hK.out _ _ ?_ (fun hHeld6_6 => ?_)
                        · first | exact HCS.out _ HBD.out | exact HCS.out _ (Below.refl _ _)
                        clear hK K
                        try simp only [List.getElem_toArray, List.getElem_cons_zero, List.getElem_cons_succ, Act.put, List.setIfInBounds_toArray, List.set_cons_zero, List.set_cons_succ]
                        refine wpAnyH_ready (rs := [7]) (by as_aux_lemma => kernel_rfl) (by simp) ?_
                        refine AllReadyH.cons rfl (fun K hK => ?_) ?_
                        · go_simp
                          (go_at_call 22; refine (chain_at nn 0 0 tg al N c4' _ 0 _ _ _ (Mb2.out.below HBD.out) HOK.out HN.out HRW.out HL2.out HM2.out.head (by rw [dnL_len]; omega) HM2.out.rng rfl).mono ?_; rintro e w7 ⟨A7, c7, rfl, hb, h⟩; (have HC7 := Lib.hid h); (have HZ2 := Lib.hid (HBD.out.trans (hb.mono HBD.out.size))); clear h hb HBD; (have HBD := HZ2); clear HZ2)
                          go_wp2_with fail
                          refine hK.out _ _ ?_ (fun hHeld7_7 => ?_)
                          · first | exact HCS.out _ HBD.out | exact HCS.out _ (Below.refl _ _)
                          clear hK K
                          try simp only [List.getElem_toArray, List.getElem_cons_zero, List.getElem_cons_succ, Act.put, List.setIfInBounds_toArray, List.set_cons_zero, List.set_cons_succ]
                          refine wpAnyH_take (i := 8) (v := ?_) rfl (by as_aux_lemma => kernel_rfl) (by as_aux_lemma => kernel_rfl) (by as_aux_lemma => kernel_rfl) (fun _ _ _ h => h) (Or.inl ⟨by rfl, ?_⟩) hHeld7_7 ?_
                          rotate_left
                          · intro w hSw
                            (try dsimp only at hSw)
                            go_simp
                            try (first | (with_reducible rfl) | rfl)
                          try simp only [List.getElem_toArray, List.getElem_cons_zero, List.getElem_cons_succ, Act.put, List.setIfInBounds_toArray, List.set_cons_zero, List.set_cons_succ]
                          refine wpAnyH_take (i := 9) (v := ?_) rfl (by as_aux_lemma => kernel_rfl) (by as_aux_lemma => kernel_rfl) (by as_aux_lemma => kernel_rfl) (fun _ _ _ h => h) (Or.inl ⟨by rfl, ?_⟩) hHeld7_7 ?_
                          rotate_left
                          · intro w hSw
                            (try dsimp only at hSw)
                            go_simp
                            try (first | (with_reducible rfl) | rfl)
                          try simp only [List.getElem_toArray, List.getElem_cons_zero, List.getElem_cons_succ, Act.put, List.setIfInBounds_toArray, List.set_cons_zero, List.set_cons_succ]
                          refine wpAnyH_take (i := 10) (v := ?_) rfl (by as_aux_lemma => kernel_rfl) (by as_aux_lemma => kernel_rfl) (by as_aux_lemma => kernel_rfl) (fun _ _ _ h => h) (Or.inl ⟨by rfl, ?_⟩) hHeld7_7 ?_
                          rotate_left
                          · intro w hSw
                            (try dsimp only at hSw)
                            go_simp
                            try (first | (with_reducible rfl) | rfl)
                          try simp only [List.getElem_toArray, List.getElem_cons_zero, List.getElem_cons_succ, Act.put, List.setIfInBounds_toArray, List.set_cons_zero, List.set_cons_succ]
                          refine wpAnyH_take (i := 11) (v := ?_) rfl (by as_aux_lemma => kernel_rfl) (by as_aux_lemma => kernel_rfl) (by as_aux_lemma => kernel_rfl) (fun _ _ _ h => h) (Or.inl ⟨by rfl, ?_⟩) hHeld7_7 ?_
                          rotate_left
                          · intro w hSw
                            (try dsimp only at hSw)
                            go_simp
                            try (first | (with_reducible rfl) | rfl)
                          try simp only [List.getElem_toArray, List.getElem_cons_zero, List.getElem_cons_succ, Act.put, List.setIfInBounds_toArray, List.set_cons_zero, List.set_cons_succ]
                          refine wpAnyH_take (i := 12) (v := ?_) rfl (by as_aux_lemma => kernel_rfl) (by as_aux_lemma => kernel_rfl) (by as_aux_lemma => kernel_rfl) (fun _ _ _ h => h) (Or.inl ⟨by rfl, ?_⟩) hHeld7_7 ?_
                          rotate_left
                          · intro w hSw
                            (try dsimp only at hSw)
                            go_simp
                            try (first | (with_reducible rfl) | rfl)
                          try simp only [List.getElem_toArray, List.getElem_cons_zero, List.getElem_cons_succ, Act.put, List.setIfInBounds_toArray, List.set_cons_zero, List.set_cons_succ]
                          refine wpAnyH_done (by as_aux_lemma => kernel_rfl) ?_ _
                          clear q0 q1 q2 q3
                          have HLE2 : Hid ((dnL (k + 1)).length = k + 1) := Lib.hid (dnL_len _)
                          rw [HLE2.out]
                          obtain ⟨g8, hA8, hc8⟩ := row32_cell (j := 0) (k := 0) (x := (k : Int) + 1) HC7.out rfl rfl
                          subst hA8
                          have x9 : (((k + 1 : Nat)) : Int) = (k : Int) + 1 := by omega
                          obtain ⟨K1, hK1⟩ : ∃ K1 : Nat, k + 1 = K1 := ⟨_, rfl⟩
                          rw [hK1] at x9
                          rw [hK1]
                          have y0 : (0 : Int) < (K1 : Int) := by omega
                          have y0n : 0 < K1 := by omega
                          have y1 : (0 : Int) ≤ 0 := by decide
                          have HZZ := Lib.hid hK1
                          clear hK1
                          go_wp2
                          go_roundg kk
                          case measure => omega
                          case rel =>
                            have hK := HZZ.out
                            exact ⟨k + 1, by first | rfl | (congr 1) | (simp; omega), by omega, by omega, ws2, (ns ++ n1t) ++ n2t, by rw [List.length_append, List.length_append, HN1.out, HN2.out, HNS.out]; omega, HM2.out, HC7.out.tail⟩
                        exact AllReadyH.nil
                      exact AllReadyH.nil
                    exact AllReadyH.nil
                  exact AllReadyH.nil
                exact AllReadyH.nil
              exact AllReadyH.nil
            exact AllReadyH.nil
          exact AllReadyH.nil
      · have c4b : decide ((k : Int) + 1 ≤ (m : Int)) = false := decide_eq_false (by omega)
        obtain rfl : k = m := by omega
        have Z := Lib.hid hS
        have HLZ := Lib.hid hlen
        have wf := hmv.free.word
        have wh := hmv.head.word
        have hf := hdI_rng (nn := nn) hmv.free.rng
        have hh := hdI_rng (nn := nn) hmv.head.rng
        obtain ⟨xf, hxf⟩ : ∃ xf, rdW ws 1 = xf := ⟨_, rfl⟩
        obtain ⟨xh, hxh⟩ : ∃ xh, rdW ws 0 = xh := ⟨_, rfl⟩
        rw [hxf] at wf
        rw [hxh] at wh
        have xf0 : 0 ≤ xf := by omega
        have xf1 : xf < 18446744073709551616 := by omega
        have xh0 : 0 ≤ xh := by omega
        have xh1 : xh < 18446744073709551616 := by omega
        have HXF : Hid (xf / 4294967296 = (tg + k) % 4294967296) := Lib.hid (by omega)
        have HXH : Hid (xh / 4294967296 = (tg + k) % 4294967296) := Lib.hid (by omega)
        have HZF := Lib.hid hxf
        have HZH := Lib.hid hxh
        have HZN : Hid ((ns.length : Int) = 6 * (k : Int)) := Lib.hid (by rw [hns]; omega)
        have u3 : (k : Int) % 4294967296 = k := by omega
        have N0 : (0 : Int) < (N : Int) := by omega
        have N0n : 0 < N := by omega
        have N1 : (1 : Int) < (N : Int) := by omega
        clear hS hmv hlen wf wh hf hh hxf hxh hns
        go_wp2_with (first | ((have _h := Z4); go_at_call 32; refine (count_st Z4.out (6 * (k : Int)) HZN.out).mono ?_; rintro e z5 ⟨rfl, rfl⟩; (have Z5 := Lib.hid (Z4.out)); clear _h) | ((have _h := Z3); go_at_call 41; refine (tag_is xh ((tg + k) % 4294967296) _ xh0 xh1 HXH.out).mono ?_; rintro e z4 ⟨rfl, hb⟩; (have Z4 := Lib.hid (Z3.out.below hb)); clear hb hx; clear _h) | ((have _h := Z2); go_at_call 34; refine (words_pos N Z2.out HLZ.out (by omega)).mono ?_; rintro e z3 ⟨g2, c2, rfl, hw, _, _, hb⟩; (have Z3 := Lib.hid (Z2.out.below hb)); (have hx := hw 0 (by omega)); rw [HZH.out] at hx; clear hw hb; clear _h) | ((have _h := Z1); go_at_call 41; refine (tag_is xf ((tg + k) % 4294967296) _ xf0 xf1 HXF.out).mono ?_; rintro e z2 ⟨rfl, hb⟩; (have Z2 := Lib.hid (Z1.out.below hb)); clear hb hx; clear _h) | ((have _h := Z); go_at_call 34; refine (words_pos N Z.out HLZ.out (by omega)).mono ?_; rintro e z1 ⟨g1, c1, rfl, hw, _, _, hb⟩; (have Z1 := Lib.hid (Z.out.below hb)); (have hx := hw 1 (by omega)); rw [HZF.out] at hx; clear hw hb; clear _h))
        go_ret
        exact ⟨rfl, Z5.out.bel⟩
end Go.Proofs.Ytndigbkhaajjoaa
