/-
  Free nodes, those on shelves, and those that are held, are all nodes, each once: it is told.
-/
import Derived.Test.YtndigbkhaajjoaaWhole7
import Derived.Test.YtndigbkhaajjoaaMi8
namespace Go.Proofs.Ytndigbkhaajjoaa
open Go.RowKit
set_option linter.unusedVariables false
set_option linter.unusedSimpArgs false

theorem seg8_le (hs : List Int) (shs : Nat → List Int) {i : Nat} : ∀ {j : Nat}, i ≤ j → (seg8 hs shs i).length ≤ (seg8 hs shs j).length
  | 0, h => by rw [show i = 0 by omega]; exact Nat.le_refl _
  | j + 1, h => by
    by_cases c : i = j + 1
    · rw [c]; exact Nat.le_refl _
    · have := seg8_le hs shs (i := i) (j := j) (by omega)
      show _ ≤ ((seg8 hs shs j ++ _) ++ shs j).length
      rw [List.length_append, List.length_append]
      omega
set_option maxRecDepth 20000 in
set_option maxHeartbeats 16000000 in
theorem whole8 (nn N : Nat) (tg : Int) (g0 c0 : Nat) (ws : List Int) (g4 c4 g6 c6 : Nat) (hs l1 : List Int) (shs : Nat → List Int) (T1 : Int) (w : World) (hok : okC (nn : Int) ((0 : Nat) : Int) ((0 : Nat) : Int) = true) (hN : N = 2 + 2 * nn + 0 + 0) (hr : RdU w (some ⟨g0, 0, none⟩) ws) (hl : ws.length = N) (h1 : AtL nn ws 1 l1 T1) (hv : ∀ x ∈ ws, 0 ≤ x ∧ x < 18446744073709551616) (hh : Rd32 w (some ⟨g4, 0, none⟩) hs) (h4 : hs.length = 4)
    (hsh : ∀ j, j < 4 → ∃ A n c, w.cell? ⟨g6, j, none⟩ = some (.slice A n c) ∧ Rd32 w A (shs j) ∧ (shs j).length = n) (ha : AllN nn (l1 ++ seg8 hs shs 4)) :
    Calls Try.prog 50 #[.agg #[.int .i64 nn, .int .i64 0, .int .i64 0, .int .u32 tg], .slice (some ⟨g0, 0, none⟩) N c0, .slice (some ⟨g4, 0, none⟩) 4 c4, .slice (some ⟨g6, 0, none⟩) 4 c6] w fun e w' => e = .returned (.bool true) ∧ Below w.heap.size w w' := by
  obtain ⟨b1, b2, _⟩ := okC_bounds hok
  have hlen := ha.len
  rw [List.length_append] at hlen
  obtain ⟨n1, hn1⟩ : ∃ n1, l1.length = n1 := ⟨_, rfl⟩
  have HLE1 : Hid (l1.length ≤ nn) := Lib.hid (by omega)
  have HSEG : Hid (∀ i, i ≤ 4 → (l1 ++ seg8 hs shs i).length ≤ nn) := Lib.hid fun i hi => by
    have := seg8_le hs shs hi
    rw [List.length_append]
    omega
  obtain ⟨ad', e, hc1⟩ := hr.cellA (k := 1) (by omega)
  cases e
  obtain ⟨ad4, e, hc4⟩ := hh.2 (by omega)
  cases e
  have H := Lib.hid ((St.nil w).alloc #[.int .i64 nn, .int .i64 0, .int .i64 0, .int .u32 tg] 26)
  have HRA : Hid (∀ w', Below w.heap.size w w' → RdU w' (some ⟨g0, 0, none⟩) ws) := Lib.hid fun w' hb => hr.kept hb
  have HC4 : Hid (∀ w', Below w.heap.size w w' → ∀ (j : Nat) (x : Int), hs[j]? = some x → w'.cell? ⟨g4, j, none⟩ = some (.int .u32 x)) := Lib.hid fun w' hb j x hx => by
    have h9 := hc4 j (.int .u32 x) (by rw [List.getElem?_map, hx]; rfl)
    have e9 : (⟨g4, 0, none⟩ : Addr).add j = ⟨g4, j, none⟩ := by simp [Addr.add]; omega
    rw [e9] at h9
    exact (hb.cell (World.block_lt_of_cell? _ _ h9)).trans h9
  have HSH : Hid (∀ w', Below w.heap.size w w' → ∀ j, j < 4 → ∃ A n c, w'.cell? ⟨g6, j, none⟩ = some (.slice A n c) ∧ Rd32 w' A (shs j) ∧ (shs j).length = n) := Lib.hid fun w' hb j hj => by
    obtain ⟨A, n, c, k1, k2, k3⟩ := hsh j hj
    exact ⟨A, n, c, (hb.cell (World.block_lt_of_cell? _ _ k1)).trans k1, k2.kept hb, k3⟩
  have HOK := Lib.hid hok
  have HN := Lib.hid hN
  have HL := Lib.hid hl
  have HA1 := Lib.hid h1
  have HV := Lib.hid hv
  have H4 := Lib.hid h4
  have HAL := Lib.hid ha
  have HN1 := Lib.hid hn1
  have dN : decide ((N : Int) < 2) = false := decide_eq_false (by omega)
  have hN2 : 2 ≤ N := by omega
  have hNa : 0 < N := by omega
  have hNb : 1 < N := by omega
  have hNc : (1 : Int) < (N : Int) := by omega
  have HCW : Hid (∀ w', Below w.heap.size w w' → w'.cell? ⟨g0, 1, none⟩ = some (.int .u64 (rdW ws 1))) := Lib.hid fun w' hb => by
    have e9 : (⟨g0, 0, none⟩ : Addr).add 1 = ⟨g0, 1, none⟩ := by simp [Addr.add]
    rw [e9] at hc1
    exact (hb.cell (World.block_lt_of_cell? _ _ hc1)).trans hc1
  clear hok hr hl h1 hv hh h4 ha hn1 hlen hc1 hc4 hN hsh
  go_enter Try.func50, Try.ntmps50
  go_wp2
  obtain ⟨bc, hbc⟩ : ∃ bc, w.heap.size = bc := ⟨_, rfl⟩
  obtain ⟨W, hW⟩ : ∃ W, w.alloc (.cells #[.int .i64 nn, .int .i64 0, .int .i64 0, .int .u32 tg] 26) = W := ⟨_, rfl⟩
  simp only [hbc, hW] at H ⊢
  have HCT : Hid (∀ X w', St w (bxC bc nn 0 0 tg :: X) w' → w'.cell? ⟨bc, 0, none⟩ = some (.int .i64 nn) ∧ w'.cell? ⟨bc, 1, none⟩ = some (.int .i64 0) ∧ w'.cell? ⟨bc, 2, none⟩ = some (.int .i64 0) ∧ w'.cell? ⟨bc, 3, none⟩ = some (.int .u32 tg) ∧ w'.cell? ⟨g0, 1, none⟩ = some (.int .u64 (rdW ws 1))) := Lib.hid fun X w' h => by
    obtain ⟨a0, a1, a2, a3⟩ := cells4 (h.cells 0 rfl)
    exact ⟨a0, a1, a2, a3, HCW.out _ h.bel⟩
  clear hbc hW
  refine wp_region_held_drew (S := (fun w' => w'.cell? ⟨bc, 0, none⟩ = some (.int .i64 nn) ∧ w'.cell? ⟨bc, 1, none⟩ = some (.int .i64 0) ∧ w'.cell? ⟨bc, 2, none⟩ = some (.int .i64 0) ∧ w'.cell? ⟨bc, 3, none⟩ = some (.int .u32 tg) ∧ w'.cell? ⟨g0, 1, none⟩ = some (.int .u64 (rdW ws 1)))) (by as_aux_lemma => kernel_rfl) ?_ (fun hHeld0 => ?_)
  · first | exact HCT.out _ _ H1.out | exact HCT.out _ _ H.out.drew
  refine wpAnyH_take (i := 0) (v := ?_) rfl (by as_aux_lemma => kernel_rfl) (by as_aux_lemma => kernel_rfl) (by as_aux_lemma => kernel_rfl) (fun _ _ _ h => h) (Or.inl ⟨by rfl, ?_⟩) hHeld0 ?_
  rotate_left
  · intro w hSw
    (try dsimp only at hSw)
    go_simp
    try (first | (with_reducible rfl) | rfl)
  try simp only [List.getElem_toArray, List.getElem_cons_zero, List.getElem_cons_succ, Act.put, List.setIfInBounds_toArray, List.set_cons_zero, List.set_cons_succ]
  refine wpAnyH_take (i := 1) (v := ?_) rfl (by as_aux_lemma => kernel_rfl) (by as_aux_lemma => kernel_rfl) (by as_aux_lemma => kernel_rfl) (fun _ _ _ h => h) (Or.inl ⟨by rfl, ?_⟩) hHeld0 ?_
  rotate_left
  · intro w hSw
    (try dsimp only at hSw)
    go_simp
    try (first | (with_reducible rfl) | rfl)
  try simp only [List.getElem_toArray, List.getElem_cons_zero, List.getElem_cons_succ, Act.put, List.setIfInBounds_toArray, List.set_cons_zero, List.set_cons_succ]
  refine wpAnyH_take (i := 2) (v := ?_) rfl (by as_aux_lemma => kernel_rfl) (by as_aux_lemma => kernel_rfl) (by as_aux_lemma => kernel_rfl) (fun _ _ _ h => h) (Or.inl ⟨by rfl, ?_⟩) hHeld0 ?_
  rotate_left
  · intro w hSw
    (try dsimp only at hSw)
    go_simp
    try (first | (with_reducible rfl) | rfl)
  try simp only [List.getElem_toArray, List.getElem_cons_zero, List.getElem_cons_succ, Act.put, List.setIfInBounds_toArray, List.set_cons_zero, List.set_cons_succ]
  refine wpAnyH_take (i := 3) (v := ?_) rfl (by as_aux_lemma => kernel_rfl) (by as_aux_lemma => kernel_rfl) (by as_aux_lemma => kernel_rfl) (fun _ _ _ h => h) (Or.inl ⟨by rfl, ?_⟩) hHeld0 ?_
  rotate_left
  · intro w hSw
    (try dsimp only at hSw)
    go_simp
    try (first | (with_reducible rfl) | rfl)
  try simp only [List.getElem_toArray, List.getElem_cons_zero, List.getElem_cons_succ, Act.put, List.setIfInBounds_toArray, List.set_cons_zero, List.set_cons_succ]
  refine wpAnyH_take (i := 4) (v := ?_) rfl (by as_aux_lemma => kernel_rfl) (by as_aux_lemma => kernel_rfl) (by as_aux_lemma => kernel_rfl) (fun _ _ _ h => h) (Or.inl ⟨by rfl, ?_⟩) hHeld0 ?_
  rotate_left
  · intro w hSw
    (try dsimp only at hSw)
    go_simp
    try (first | (with_reducible rfl) | rfl)
  try simp only [List.getElem_toArray, List.getElem_cons_zero, List.getElem_cons_succ, Act.put, List.setIfInBounds_toArray, List.set_cons_zero, List.set_cons_succ]
  refine wpAnyH_ready (rs := [5]) (by as_aux_lemma => kernel_rfl) (by simp) ?_
  refine AllReadyH.cons rfl (fun K hK => ?_) ?_
  · go_simp
    go_at_call 22; refine (chain_at nn 0 0 tg (some ⟨g0, 0, none⟩) N c0 ws 1 _ l1 T1 H.out.drew HOK.out HN.out (HRA.out _ H.out.drew.bel) HL.out HA1.out HLE1.out HV.out rfl).mono ?_; rintro e w71 ⟨A1, c71, rfl, hb, h⟩; simp only [row32, HN1.out] at h; (try simp only [HN1.out]); (have H1 := Lib.hid (show St w (bxC bc nn 0 0 tg :: [rowA 23 1 (.slice A1 n1 c71) n1 (l1.map u32V)]) _ from h.re 2 [1, 0])); clear h hb
    go_wp2_with fail
    refine hK.out _ _ ?_ (fun hHeld5_5 => ?_)
    · first | exact HCT.out _ _ H1.out | exact HCT.out _ _ H.out.drew
    clear hK K
    try simp only [List.getElem_toArray, List.getElem_cons_zero, List.getElem_cons_succ, Act.put, List.setIfInBounds_toArray, List.set_cons_zero, List.set_cons_succ]
    refine wpAnyH_take (i := 6) (v := ?_) rfl (by as_aux_lemma => kernel_rfl) (by as_aux_lemma => kernel_rfl) (by as_aux_lemma => kernel_rfl) (fun _ _ _ h => h) (Or.inl ⟨by rfl, ?_⟩) hHeld5_5 ?_
    rotate_left
    · intro w hSw
      (try dsimp only at hSw)
      go_simp
      try (first | (with_reducible rfl) | rfl)
    try simp only [List.getElem_toArray, List.getElem_cons_zero, List.getElem_cons_succ, Act.put, List.setIfInBounds_toArray, List.set_cons_zero, List.set_cons_succ]
    refine wpAnyH_take (i := 7) (v := ?_) rfl (by as_aux_lemma => kernel_rfl) (by as_aux_lemma => kernel_rfl) (by as_aux_lemma => kernel_rfl) (fun _ _ _ h => h) (Or.inl ⟨by rfl, ?_⟩) hHeld5_5 ?_
    rotate_left
    · intro w hSw
      (try dsimp only at hSw)
      go_simp
      try (first | (with_reducible rfl) | rfl)
    try simp only [List.getElem_toArray, List.getElem_cons_zero, List.getElem_cons_succ, Act.put, List.setIfInBounds_toArray, List.set_cons_zero, List.set_cons_succ]
    refine wpAnyH_take (i := 8) (v := ?_) rfl (by as_aux_lemma => kernel_rfl) (by as_aux_lemma => kernel_rfl) (by as_aux_lemma => kernel_rfl) (fun _ _ _ h => h) (Or.inl ⟨by rfl, ?_⟩) hHeld5_5 ?_
    rotate_left
    · intro w hSw
      (try dsimp only at hSw)
      go_simp
      try (first | (with_reducible rfl) | rfl)
    try simp only [List.getElem_toArray, List.getElem_cons_zero, List.getElem_cons_succ, Act.put, List.setIfInBounds_toArray, List.set_cons_zero, List.set_cons_succ]
    refine wpAnyH_take (i := 9) (v := ?_) rfl (by as_aux_lemma => kernel_rfl) (by as_aux_lemma => kernel_rfl) (by as_aux_lemma => kernel_rfl) (fun _ _ _ h => h) (Or.inl ⟨by rfl, ?_⟩) hHeld5_5 ?_
    rotate_left
    · intro w hSw
      (try dsimp only at hSw)
      go_simp
      try (first | (with_reducible rfl) | rfl)
    try simp only [List.getElem_toArray, List.getElem_cons_zero, List.getElem_cons_succ, Act.put, List.setIfInBounds_toArray, List.set_cons_zero, List.set_cons_succ]
    refine wpAnyH_take (i := 10) (v := ?_) rfl (by as_aux_lemma => kernel_rfl) (by as_aux_lemma => kernel_rfl) (by as_aux_lemma => kernel_rfl) (fun _ _ _ h => h) (Or.inl ⟨by rfl, ?_⟩) hHeld5_5 ?_
    rotate_left
    · intro w hSw
      (try dsimp only at hSw)
      go_simp
      try (first | (with_reducible rfl) | rfl)
    try simp only [List.getElem_toArray, List.getElem_cons_zero, List.getElem_cons_succ, Act.put, List.setIfInBounds_toArray, List.set_cons_zero, List.set_cons_succ]
    refine wpAnyH_done (by as_aux_lemma => kernel_rfl) ?_ _
    go_wp2
    have HREL := Lib.hid H1.out
    clear H H1
    go_loopg [9, 11] 5 (fun kq z y w' => ∃ (i n c : Nat) (A : Option Addr), z = .slice A n c ∧ y = .int .i64 i ∧ i ≤ 4 ∧ i + kq = 5 ∧ n = (l1 ++ seg8 hs shs i).length ∧ St w [rowA 23 1 (.slice A n c) n ((l1 ++ seg8 hs shs i).map u32V), bxC bc nn 0 0 tg] w')
    case atStart =>
      refine ⟨0, n1, c71, A1, rfl, rfl, by omega, rfl, ?_, ?_⟩
      · simp [seg8, HN1.out]
      · have h := HREL.out.re 2 [1, 0]
        simp only [seg8, List.append_nil]
        exact h
    case round =>
      obtain ⟨i, n, c, A, rfl, rfl, hi, hkq, hn, hS⟩ := hrel
      clear HREL
      have HS := Lib.hid hS
      have HNN := Lib.hid hn
      have hnle : n ≤ 64 := by rw [hn]; have := HSEG.out i hi; omega
      clear hS hn
      cases gk with
      | zero => omega
      | succ kk =>
        by_cases c4 : i < 4
        · have c4b : decide ((i : Int) < 4) = true := decide_eq_true (by omega)
          obtain ⟨x, hx⟩ := getE (l := hs) (k := i) (by rw [H4.out]; exact c4)
          have hcell := HC4.out _ HS.out.bel i x hx
          have hxd : hs.getD i 0 = x := by rw [List.getD_eq_getElem?_getD, hx]; rfl
          obtain ⟨Ai, ni, ci, hsc, _, hli⟩ := HSH.out _ HS.out.bel i c4
          have HRS : Hid (∀ w', Below w.heap.size w w' → Rd32 w' Ai (shs i)) := Lib.hid fun w' hb => by
            obtain ⟨A9, n9, c9, k1, k2, _⟩ := HSH.out w' hb i c4
            have e1 := (HSH.out _ hb i c4)
            obtain ⟨Aw, nw, cw, j1, j2, j3⟩ := HSH.out w (Below.refl _ _) i c4
            have e2 := (HS.out.bel.cell (World.block_lt_of_cell? _ _ j1)).trans j1
            rw [hsc] at e2
            cases e2
            exact j2.kept hb
          have HSC : Hid (∀ w', Below w.heap.size w w' → w'.cell? ⟨g6, i, none⟩ = some (.slice Ai ni ci)) := Lib.hid fun w' hb => by
            obtain ⟨Aw, nw, cw, j1, j2, j3⟩ := HSH.out w (Below.refl _ _) i c4
            have e2 := (HS.out.bel.cell (World.block_lt_of_cell? _ _ j1)).trans j1
            rw [hsc] at e2
            cases e2
            exact (hb.cell (World.block_lt_of_cell? _ _ j1)).trans j1
          have HLI := Lib.hid hli
          have i0 : (0 : Int) ≤ (i : Int) := by omega
          have i1 : (i : Int) < 4 := by omega
          have hni : n + ni ≤ 64 ∧ (x ≠ 0 → n + 1 + ni ≤ 64) := by
            have h1 := HSEG.out (i + 1) (by omega)
            have h2 := HNN.out
            have h3 : seg8 hs shs (i + 1) = (seg8 hs shs i ++ (if x = 0 then [] else [x])) ++ shs i := by rw [← hxd]; rfl
            rw [h3] at h1
            simp only [List.length_append] at h1 h2
            by_cases c5 : x = 0
            · exact ⟨by omega, fun c => absurd c5 c⟩
            · rw [if_neg c5] at h1
              simp only [List.length_singleton] at h1
              exact ⟨by omega, fun _ => by omega⟩
          have HSG : Hid (seg8 hs shs (i + 1) = (seg8 hs shs i ++ (if x = 0 then [] else [x])) ++ shs i) := Lib.hid (by rw [← hxd]; rfl)
          obtain ⟨hn1', hn2'⟩ := hni
          clear hx hxd hli
          by_cases c5 : x = 0
          · subst c5
            go_wp2_with ((have _h := HS); at_builtin; go_must (refine wpList_app32 (by rfl) _ _ (by rfl) A n c (l1 ++ seg8 hs shs i) (by rfl) (HS.out) Ai ni ci (shs i) (by rfl) (HRS.out _ HS.out.bel) HLI.out (by omega) ?_); go_must (intro A8 c8 w8 h); (have H7 := Lib.hid h); clear h _h)
            go_roundg kk
            case measure => omega
            case rel =>
              refine ⟨i + 1, n + ni, c8, A8, rfl, by simp, by omega, by omega, ?_, ?_⟩
              · rw [HSG.out, HNN.out, ← HLI.out]; simp; omega
              · rw [HSG.out]; simpa using H7.out
          · have c5b : (x != 0) = true := by simp; exact c5
            have hn3' := hn2' c5
            go_wp2_with (first | ((have _h := H6);  at_builtin; go_must (refine wpList_app32 (by rfl) _ _ (by rfl) A6 (n + 1) c6x ((l1 ++ seg8 hs shs i) ++ [x]) (by rfl) (H6.out) Ai ni ci (shs i) (by rfl) (HRS.out _ H6.out.bel) HLI.out (by omega) ?_); go_must (intro A8 c8 w8 h); (have H7 := Lib.hid h); clear h _h) | ((have _h := HS); at_builtin; go_must (refine wpList_app32 (by rfl) _ _ (by rfl) A n c (l1 ++ seg8 hs shs i) (by rfl) ((HS.out.below (bl_alloc (bl_refl _) _))) (some ⟨_, 0, none⟩) 1 1 [x] (by rfl) (rd32_one (heap_new rfl)) rfl (by omega) ?_); go_must (intro A6 c6x w6 h); (have H6 := Lib.hid h); (have hsc := HSC.out _ H6.out.bel); clear h _h))
            go_roundg kk
            case measure => omega
            case rel =>
              refine ⟨i + 1, n + 1 + ni, c8, A8, rfl, by simp, by omega, by omega, ?_, ?_⟩
              · rw [HSG.out, HNN.out, if_neg c5, ← HLI.out]; simp; omega
              · rw [HSG.out, if_neg c5]; simpa using H7.out
        · obtain rfl : i = 4 := by omega
          have c4b : decide (((4 : Nat) : Int) < 4) = false := rfl
          have hnn : n = nn := by rw [HNN.out]; exact HAL.out.len
          subst hnn
          have HS2 := Lib.hid (show St w [rowA 23 1 (.slice A n c) n ((l1 ++ seg8 hs shs 4).map u32V), bxC bc n 0 0 tg] wr from HS.out)
          clear HS HNN
          obtain ⟨ga, ca, he⟩ := row_some (HS2.out.rowOf 0 rfl) (by omega)
          cases he
          obtain ⟨al, hal⟩ : ∃ al, l1 ++ seg8 hs shs 4 = al := ⟨_, rfl⟩
          rw [hal] at HS2 HAL
          clear hal c4 HSEG HSH HC4
          obtain ⟨q0, q1, q2, q3⟩ := cells4 (HS2.out.cells 1 rfl)
          obtain ⟨iI, hiI, hzI0, hzI1, hzI2⟩ := info_parts infoI64
          go_wp2_with ((have _h := HS2); refine wpList_make_full _ (by rfl) _ _ _ (by rfl) _ 3 iI _ 1 Try.underlying22 hiI hzI0 hzI1 .i64 .i64 _ _ (n + 1) (by rfl) (by rfl) rfl rfl (by rw [hzI2]; omega) (by unfold maxLen; omega) (Nat.le_refl _) ?_; intro wM hown hgrow; (have HM := Lib.hid (show St w (rowG wr.heap.size (n + 1) 3 1 (n + 1) (seenR n al 0) :: rowG ga c 23 1 n (al.map u32V) :: [bxC bc n 0 0 tg]) wM by have h9 := St.made HS2.out hown hgrow; rw [show (madeCells (Value.int .i64 0).cells ((n + 1) * 1)).toList = List.replicate (n + 1) (.int .i64 0) from made_one _ _] at h9; rw [seenR_zero]; exact h9)); clear hown hgrow _h)
          generalize wr.heap.size = gs at *
          clear q0 q1 q2 q3 HS2
          go_loopg [13] (n + 1) (fun kq y w' => ∃ i : Nat, y = .int .i64 i ∧ i ≤ n ∧ i + kq = n + 1 ∧ St w (rowG gs (n + 1) 3 1 (n + 1) (seenR n al i) :: rowG ga c 23 1 n (al.map u32V) :: [bxC bc n 0 0 tg]) w')
          case atStart => exact ⟨0, rfl, by omega, by omega, HM.out⟩
          case round =>
            obtain ⟨i, rfl, hi, hkq, hS⟩ := hrel
            clear HM
            obtain ⟨q0, q1, q2, q3⟩ := cells4 (hS.cells 2 rfl)
            have HS := Lib.hid hS
            have halen := HAL.out.len
            cases gk with
            | zero => omega
            | succ k3 =>
              by_cases c6 : i < n
              · have c6b : decide ((i : Int) < (n : Int)) = true := decide_eq_true (by omega)
                obtain ⟨x, hx⟩ := getE (l := al) (k := i) (by omega)
                have hxr := HAL.out.rg x (List.mem_of_getElem? hx)
                obtain ⟨k, rfl⟩ := Int.eq_ofNat_of_zero_le (show 0 ≤ x by omega)
                obtain ⟨e1, _⟩ := hS.at_ 1 rfl i (u := .int .u32 (k : Int)) (by rw [List.getElem?_map, hx]; rfl)
                obtain ⟨e2, f2⟩ := hS.at_ 0 rfl k (seenR_get (by omega) HAL.out.nd hx)
                have HSE := Lib.hid (seenR_set (nn := n) HAL.out.nd hx (by omega))
                have i0 : (0 : Int) ≤ (i : Int) := by omega
                have i1 : (i : Int) < (n : Int) := by omega
                have k0 : (0 : Int) ≤ (k : Int) := by omega
                have k1 : (k : Int) < ((n + 1 : Nat) : Int) := by omega
                have k2 : (k : Int) < (n : Int) + 1 := by omega
                have d0 : decide ((k : Int) < 1) = false := decide_eq_false (by omega)
                have d1 : decide ((n : Int) < (k : Int)) = false := decide_eq_false (by omega)
                have d2 : IntKind.u32.wrap (n : Int) = (n : Int) := by rw [IntKind.wrap_u32]; omega
                have d7 : decide (n < k) = false := decide_eq_false (by omega)
                have d5 : decide (IntKind.u32.wrap (n : Int) < (k : Int)) = false := by rw [d2]; exact d1
                have d6 : decide ((n : Int) % 4294967296 < (k : Int)) = false := decide_eq_false (by omega)
                have d4 : ((k : Int)).toNat = k := by omega
                have hne : ga ≠ gs := hS.ne 1 0 (by decide) rfl rfl
                have hne2 : gs ≠ ga := fun e => hne e.symm
                have hk64 : k ≤ 64 := by omega
                have HX2 := Lib.hid hx
                have HG2 := Lib.hid (seenR_get (nn := n) (i := i) (k := k) (by omega) HAL.out.nd hx)
                clear hS hx hxr halen
                go_wp2
                go_quiet (fail)
                clear q0 q1 q2 q3 e1 e2 f2
                have HD := Lib.hid (HS.out.drewN nq)
                obtain ⟨e1, _⟩ := HD.out.at_ 1 rfl i (u := .int .u32 (k : Int)) (by rw [List.getElem?_map, HX2.out]; rfl)
                obtain ⟨e2, f2⟩ := HD.out.at_ 0 rfl k HG2.out
                go_wp2
                go_roundg k3
                case measure => omega
                case rel =>
                  refine ⟨i + 1, by simp, by omega, by omega, ?_⟩
                  rw [← HSE.out]
                  exact HD.out.rowSet 0 rfl k (by omega) (.int .i64 (0 + 1))
              · obtain rfl : n = i := by omega
                have c6b : decide (((n : Nat) : Int) < (n : Int)) = false := decide_eq_false (by omega)
                clear hS c6 halen
                go_wp2
                go_ret
                exact ⟨rfl, HS.out.bel⟩
  exact AllReadyH.nil
end Go.Proofs.Ytndigbkhaajjoaa
