/-
  Both lists, and what is held, are all nodes, each once: it is told.
-/
import Derived.Test.YtndigbkhaajjoaaWh
import Derived.Test.YtndigbkhaajjoaaMi7
import Derived.Test.YtndigbkhaajjoaaChain
namespace Go.Proofs.Ytndigbkhaajjoaa
open Go.RowKit
set_option linter.unusedVariables false
set_option linter.unusedSimpArgs false

theorem St.rd32 {w0 w : World} {L : List Asn} (h : St w0 L w) (j : Nat) {A : Option Addr} {n c : Nat} {l : List Int} (he : L[j]? = some (rowA 23 1 (.slice A n c) n (l.map u32V))) (hn : l.length = n) : Rd32 w A l := by
  subst hn
  exact (row32_rd (h.rowOf j he)).1
theorem rd32_one {w : World} {b : Nat} {x : Int} (h : w.heap[b]? = some (.cells #[.int .u32 x] 23 (0, 0))) : Rd32 w (some ⟨b, 0, none⟩) [x] := ⟨fun e => (by cases e), fun _ => ⟨_, rfl, fun j u hu => by
  cases j with
  | zero => simp only [List.map_cons, List.getElem?_cons_zero, Option.some.injEq] at hu; subst hu; exact cell_of h 0
  | succ j => simp at hu⟩⟩
theorem infoI64 : (Try.prog.info? 3).map (fun i => (i.zero, i.size, i.bytes)) = some (some (.int .i64 0), 1, 8) := by kernel_rfl
set_option maxRecDepth 20000 in
set_option maxHeartbeats 16000000 in
theorem whole7 (nn N : Nat) (tg : Int) (g0 c0 : Nat) (ws : List Int) (g4 c4 : Nat) (hs l0 l1 : List Int) (T0 T1 : Int) (w : World) (hok : okC (nn : Int) ((0 : Nat) : Int) ((0 : Nat) : Int) = true) (hN : N = 2 + 2 * nn + 0 + 0) (hr : RdU w (some ⟨g0, 0, none⟩) ws) (hl : ws.length = N) (h0 : AtL nn ws 0 l0 T0) (h1 : AtL nn ws 1 l1 T1) (hv : ∀ x ∈ ws, 0 ≤ x ∧ x < 18446744073709551616) (hh : Rd32 w (some ⟨g4, 0, none⟩) hs) (h4 : hs.length = 4) (ha : AllN nn (l0 ++ l1 ++ nzL hs)) :
    Calls Try.prog 40 #[.agg #[.int .i64 nn, .int .i64 0, .int .i64 0, .int .u32 tg], .slice (some ⟨g0, 0, none⟩) N c0, .slice (some ⟨g4, 0, none⟩) 4 c4] w fun e w' => e = .returned (.bool true) ∧ Below w.heap.size w w' := by
  obtain ⟨b1, b2, _⟩ := okC_bounds hok
  have hlen := ha.len
  rw [List.length_append, List.length_append] at hlen
  obtain ⟨n0, hn0⟩ : ∃ n0, l0.length = n0 := ⟨_, rfl⟩
  obtain ⟨n1, hn1⟩ : ∃ n1, l1.length = n1 := ⟨_, rfl⟩
  have hn01 : n0 + n1 ≤ 64 := by omega
  have HLE0 : Hid (l0.length ≤ nn) := Lib.hid (by omega)
  have HLE1 : Hid (l1.length ≤ nn) := Lib.hid (by omega)
  obtain ⟨ad, e, hc0⟩ := hr.cellA (k := 0) (by omega)
  cases e
  obtain ⟨ad', e, hc1⟩ := hr.cellA (k := 1) (by omega)
  cases e
  obtain ⟨ad4, e, hc4⟩ := hh.2 (by omega)
  cases e
  have H := Lib.hid ((St.nil w).alloc #[.int .i64 nn, .int .i64 0, .int .i64 0, .int .u32 tg] 26)
  have HRA : Hid (∀ w', Below w.heap.size w w' → RdU w' (some ⟨g0, 0, none⟩) ws) := Lib.hid fun w' hb => hr.kept hb
  have HC4 : Hid (∀ w', Below w.heap.size w w' → ∀ (j : Nat) (x : Int), hs[j]? = some x → w'.cell? ⟨g4, j, none⟩ = some (.int .u32 x)) := Lib.hid fun w' hb j x hx => by
    have h9 := hc4 j (.int .u32 x) (by rw [List.getElem?_map, hx]; rfl)
    have e9 : (⟨g4, 0, none⟩ : Addr).add j = ⟨g4, j, none⟩ := by simp [Addr.add]; omega
    rw [e9] at h9
    exact (hb.cell (World.block_lt_of_cell? _ _ h9)).trans h9
  have HCW : Hid (∀ w', Below w.heap.size w w' → w'.cell? ⟨g0, 0, none⟩ = some (.int .u64 (rdW ws 0)) ∧ w'.cell? ⟨g0, 1, none⟩ = some (.int .u64 (rdW ws 1))) := Lib.hid fun w' hb => ⟨(hb.cell (World.block_lt_of_cell? _ _ hc0)).trans hc0, (hb.cell (World.block_lt_of_cell? _ _ hc1)).trans hc1⟩
  have HOK := Lib.hid hok
  have HN := Lib.hid hN
  have HL := Lib.hid hl
  have HA0 := Lib.hid h0
  have HA1 := Lib.hid h1
  have HV := Lib.hid hv
  have H4 := Lib.hid h4
  have HAL := Lib.hid ha
  have HN0 := Lib.hid hn0
  have HN1 := Lib.hid hn1
  have dN : decide ((N : Int) < 2) = false := decide_eq_false (by omega)
  have hN2 : 2 ≤ N := by omega
  have hNa : 0 < N := by omega
  have hNb : 1 < N := by omega
  have hNc : (1 : Int) < (N : Int) := by omega
  have hNd : (0 : Int) < (N : Int) := by omega
  clear hok hr hl h0 h1 hv hh h4 ha hn0 hn1 hlen hc0 hc1 hc4 hN
  go_enter Try.func40, Try.ntmps40
  go_wp2
  obtain ⟨bc, hbc⟩ : ∃ bc, w.heap.size = bc := ⟨_, rfl⟩
  obtain ⟨W, hW⟩ : ∃ W, w.alloc (.cells #[.int .i64 nn, .int .i64 0, .int .i64 0, .int .u32 tg] 26) = W := ⟨_, rfl⟩
  simp only [hbc, hW] at H ⊢
  have HCS : Hid (∀ X w', St w (bxC bc nn 0 0 tg :: X) w' → w'.cell? ⟨bc, 0, none⟩ = some (.int .i64 nn) ∧ w'.cell? ⟨bc, 1, none⟩ = some (.int .i64 0) ∧ w'.cell? ⟨bc, 2, none⟩ = some (.int .i64 0) ∧ w'.cell? ⟨bc, 3, none⟩ = some (.int .u32 tg) ∧ w'.cell? ⟨g0, 0, none⟩ = some (.int .u64 (rdW ws 0))) := Lib.hid fun X w' h => by
    obtain ⟨a0, a1, a2, a3⟩ := cells4 (h.cells 0 rfl)
    exact ⟨a0, a1, a2, a3, (HCW.out _ h.bel).1⟩
  have HCT : Hid (∀ X w', St w (bxC bc nn 0 0 tg :: X) w' → w'.cell? ⟨bc, 0, none⟩ = some (.int .i64 nn) ∧ w'.cell? ⟨bc, 1, none⟩ = some (.int .i64 0) ∧ w'.cell? ⟨bc, 2, none⟩ = some (.int .i64 0) ∧ w'.cell? ⟨bc, 3, none⟩ = some (.int .u32 tg) ∧ w'.cell? ⟨g0, 1, none⟩ = some (.int .u64 (rdW ws 1))) := Lib.hid fun X w' h => by
    obtain ⟨a0, a1, a2, a3⟩ := cells4 (h.cells 0 rfl)
    exact ⟨a0, a1, a2, a3, (HCW.out _ h.bel).2⟩
  clear hbc hW
  refine wp_region_held_drew (S := (fun w' => w'.cell? ⟨bc, 0, none⟩ = some (.int .i64 nn) ∧ w'.cell? ⟨bc, 1, none⟩ = some (.int .i64 0) ∧ w'.cell? ⟨bc, 2, none⟩ = some (.int .i64 0) ∧ w'.cell? ⟨bc, 3, none⟩ = some (.int .u32 tg) ∧ w'.cell? ⟨g0, 0, none⟩ = some (.int .u64 (rdW ws 0)))) (by as_aux_lemma => kernel_rfl) ?_ (fun hHeld0 => ?_)
  · first | exact HCS.out _ _ H1.out | exact HCS.out _ _ H.out.drew
  refine wpAnyH_take (i := 0) (v := ?_) rfl (by as_aux_lemma => kernel_rfl) (by as_aux_lemma => kernel_rfl) (by as_aux_lemma => kernel_rfl) (fun _ _ _ h => h) (Or.inl ⟨by rfl, ?_⟩) hHeld0 ?_
  rotate_left
  · intro w hSw
    (try dsimp only at hSw)
    go_simp
    try (first | (with_reducible rfl) | rfl)
  try simp only [List.getElem_toArray, List.getElem_cons_zero, List.getElem_cons_succ, Act.put, List.setIfInBounds_toArray, List.set_cons_zero, List.set_cons_succ]
  refine wpAnyH_take (i := 1) (v := ?_) rfl (by as_aux_lemma => kernel_rfl) (by as_aux_lemma => kernel_rfl) (by as_aux_lemma => kernel_rfl) (fun _ _ _ h => h) (Or.inl ⟨by rfl, ?_⟩) hHeld0 ?_
  rotate_left
  · intro w hSw
    (try dsimp only at hSw)
    go_simp
    try (first | (with_reducible rfl) | rfl)
  try simp only [List.getElem_toArray, List.getElem_cons_zero, List.getElem_cons_succ, Act.put, List.setIfInBounds_toArray, List.set_cons_zero, List.set_cons_succ]
  refine wpAnyH_take (i := 2) (v := ?_) rfl (by as_aux_lemma => kernel_rfl) (by as_aux_lemma => kernel_rfl) (by as_aux_lemma => kernel_rfl) (fun _ _ _ h => h) (Or.inl ⟨by rfl, ?_⟩) hHeld0 ?_
  rotate_left
  · intro w hSw
    (try dsimp only at hSw)
    go_simp
    try (first | (with_reducible rfl) | rfl)
  try simp only [List.getElem_toArray, List.getElem_cons_zero, List.getElem_cons_succ, Act.put, List.setIfInBounds_toArray, List.set_cons_zero, List.set_cons_succ]
  refine wpAnyH_take (i := 3) (v := ?_) rfl (by as_aux_lemma => kernel_rfl) (by as_aux_lemma => kernel_rfl) (by as_aux_lemma => kernel_rfl) (fun _ _ _ h => h) (Or.inl ⟨by rfl, ?_⟩) hHeld0 ?_
  rotate_left
  · intro w hSw
    (try dsimp only at hSw)
    go_simp
    try (first | (with_reducible rfl) | rfl)
  try simp only [List.getElem_toArray, List.getElem_cons_zero, List.getElem_cons_succ, Act.put, List.setIfInBounds_toArray, List.set_cons_zero, List.set_cons_succ]
  refine wpAnyH_take (i := 4) (v := ?_) rfl (by as_aux_lemma => kernel_rfl) (by as_aux_lemma => kernel_rfl) (by as_aux_lemma => kernel_rfl) (fun _ _ _ h => h) (Or.inl ⟨by rfl, ?_⟩) hHeld0 ?_
  rotate_left
  · intro w hSw
    (try dsimp only at hSw)
    go_simp
    try (first | (with_reducible rfl) | rfl)
  try simp only [List.getElem_toArray, List.getElem_cons_zero, List.getElem_cons_succ, Act.put, List.setIfInBounds_toArray, List.set_cons_zero, List.set_cons_succ]
  refine wpAnyH_ready (rs := [5]) (by as_aux_lemma => kernel_rfl) (by simp) ?_
  refine AllReadyH.cons rfl (fun K hK => ?_) ?_
  · go_simp
    go_at_call 22; refine (chain_at nn 0 0 tg (some ⟨g0, 0, none⟩) N c0 ws 0 _ l0 T0 H.out.drew HOK.out HN.out (HRA.out _ H.out.drew.bel) HL.out HA0.out HLE0.out HV.out rfl).mono ?_; rintro e w70 ⟨A0, c70, rfl, hb, h⟩; simp only [row32, HN0.out] at h; (try simp only [HN0.out]); (have H1 := Lib.hid (show St w (bxC bc nn 0 0 tg :: [rowA 23 1 (.slice A0 n0 c70) n0 (l0.map u32V)]) _ from h.re 2 [1, 0])); clear h hb
    go_wp2_with fail
    refine hK.out _ _ ?_ (fun hHeld5_5 => ?_)
    · first | exact HCS.out _ _ H1.out | exact HCS.out _ _ H.out.drew
    clear hK K
    try simp only [List.getElem_toArray, List.getElem_cons_zero, List.getElem_cons_succ, Act.put, List.setIfInBounds_toArray, List.set_cons_zero, List.set_cons_succ]
    refine wpAnyH_take (i := 6) (v := ?_) rfl (by as_aux_lemma => kernel_rfl) (by as_aux_lemma => kernel_rfl) (by as_aux_lemma => kernel_rfl) (fun _ _ _ h => h) (Or.inl ⟨by rfl, ?_⟩) hHeld5_5 ?_
    rotate_left
    · intro w hSw
      (try dsimp only at hSw)
      go_simp
      try (first | (with_reducible rfl) | rfl)
    try simp only [List.getElem_toArray, List.getElem_cons_zero, List.getElem_cons_succ, Act.put, List.setIfInBounds_toArray, List.set_cons_zero, List.set_cons_succ]
    refine wpAnyH_take (i := 7) (v := ?_) rfl (by as_aux_lemma => kernel_rfl) (by as_aux_lemma => kernel_rfl) (by as_aux_lemma => kernel_rfl) (fun _ _ _ h => h) (Or.inl ⟨by rfl, ?_⟩) hHeld5_5 ?_
    rotate_left
    · intro w hSw
      (try dsimp only at hSw)
      go_simp
      try (first | (with_reducible rfl) | rfl)
    try simp only [List.getElem_toArray, List.getElem_cons_zero, List.getElem_cons_succ, Act.put, List.setIfInBounds_toArray, List.set_cons_zero, List.set_cons_succ]
    refine wpAnyH_take (i := 8) (v := ?_) rfl (by as_aux_lemma => kernel_rfl) (by as_aux_lemma => kernel_rfl) (by as_aux_lemma => kernel_rfl) (fun _ _ _ h => h) (Or.inl ⟨by rfl, ?_⟩) hHeld5_5 ?_
    rotate_left
    · intro w hSw
      (try dsimp only at hSw)
      go_simp
      try (first | (with_reducible rfl) | rfl)
    try simp only [List.getElem_toArray, List.getElem_cons_zero, List.getElem_cons_succ, Act.put, List.setIfInBounds_toArray, List.set_cons_zero, List.set_cons_succ]
    refine wpAnyH_take (i := 9) (v := ?_) rfl (by as_aux_lemma => kernel_rfl) (by as_aux_lemma => kernel_rfl) (by as_aux_lemma => kernel_rfl) (fun _ _ _ h => h) (Or.inl ⟨by rfl, ?_⟩) hHeld5_5 ?_
    rotate_left
    · intro w hSw
      (try dsimp only at hSw)
      go_simp
      try (first | (with_reducible rfl) | rfl)
    try simp only [List.getElem_toArray, List.getElem_cons_zero, List.getElem_cons_succ, Act.put, List.setIfInBounds_toArray, List.set_cons_zero, List.set_cons_succ]
    refine wpAnyH_take (i := 10) (v := ?_) rfl (by as_aux_lemma => kernel_rfl) (by as_aux_lemma => kernel_rfl) (by as_aux_lemma => kernel_rfl) (fun _ _ _ h => h) (Or.inl ⟨by rfl, ?_⟩) hHeld5_5 ?_
    rotate_left
    · intro w hSw
      (try dsimp only at hSw)
      go_simp
      try (first | (with_reducible rfl) | rfl)
    try simp only [List.getElem_toArray, List.getElem_cons_zero, List.getElem_cons_succ, Act.put, List.setIfInBounds_toArray, List.set_cons_zero, List.set_cons_succ]
    refine wpAnyH_done (by as_aux_lemma => kernel_rfl) ?_ _
    go_wp2
    refine wp_region_held_drew (S := (fun w' => w'.cell? ⟨bc, 0, none⟩ = some (.int .i64 nn) ∧ w'.cell? ⟨bc, 1, none⟩ = some (.int .i64 0) ∧ w'.cell? ⟨bc, 2, none⟩ = some (.int .i64 0) ∧ w'.cell? ⟨bc, 3, none⟩ = some (.int .u32 tg) ∧ w'.cell? ⟨g0, 1, none⟩ = some (.int .u64 (rdW ws 1)))) (by as_aux_lemma => kernel_rfl) ?_ (fun hHeld0 => ?_)
    · first | exact HCT.out _ _ H2.out | exact HCT.out _ _ H1.out.drew
    refine wpAnyH_take (i := 0) (v := ?_) rfl (by as_aux_lemma => kernel_rfl) (by as_aux_lemma => kernel_rfl) (by as_aux_lemma => kernel_rfl) (fun _ _ _ h => h) (Or.inl ⟨by rfl, ?_⟩) hHeld0 ?_
    rotate_left
    · intro w hSw
      (try dsimp only at hSw)
      go_simp
      try (first | (with_reducible rfl) | rfl)
    try simp only [List.getElem_toArray, List.getElem_cons_zero, List.getElem_cons_succ, Act.put, List.setIfInBounds_toArray, List.set_cons_zero, List.set_cons_succ]
    refine wpAnyH_take (i := 1) (v := ?_) rfl (by as_aux_lemma => kernel_rfl) (by as_aux_lemma => kernel_rfl) (by as_aux_lemma => kernel_rfl) (fun _ _ _ h => h) (Or.inl ⟨by rfl, ?_⟩) hHeld0 ?_
    rotate_left
    · intro w hSw
      (try dsimp only at hSw)
      go_simp
      try (first | (with_reducible rfl) | rfl)
    try simp only [List.getElem_toArray, List.getElem_cons_zero, List.getElem_cons_succ, Act.put, List.setIfInBounds_toArray, List.set_cons_zero, List.set_cons_succ]
    refine wpAnyH_take (i := 2) (v := ?_) rfl (by as_aux_lemma => kernel_rfl) (by as_aux_lemma => kernel_rfl) (by as_aux_lemma => kernel_rfl) (fun _ _ _ h => h) (Or.inl ⟨by rfl, ?_⟩) hHeld0 ?_
    rotate_left
    · intro w hSw
      (try dsimp only at hSw)
      go_simp
      try (first | (with_reducible rfl) | rfl)
    try simp only [List.getElem_toArray, List.getElem_cons_zero, List.getElem_cons_succ, Act.put, List.setIfInBounds_toArray, List.set_cons_zero, List.set_cons_succ]
    refine wpAnyH_take (i := 3) (v := ?_) rfl (by as_aux_lemma => kernel_rfl) (by as_aux_lemma => kernel_rfl) (by as_aux_lemma => kernel_rfl) (fun _ _ _ h => h) (Or.inl ⟨by rfl, ?_⟩) hHeld0 ?_
    rotate_left
    · intro w hSw
      (try dsimp only at hSw)
      go_simp
      try (first | (with_reducible rfl) | rfl)
    try simp only [List.getElem_toArray, List.getElem_cons_zero, List.getElem_cons_succ, Act.put, List.setIfInBounds_toArray, List.set_cons_zero, List.set_cons_succ]
    refine wpAnyH_take (i := 4) (v := ?_) rfl (by as_aux_lemma => kernel_rfl) (by as_aux_lemma => kernel_rfl) (by as_aux_lemma => kernel_rfl) (fun _ _ _ h => h) (Or.inl ⟨by rfl, ?_⟩) hHeld0 ?_
    rotate_left
    · intro w hSw
      (try dsimp only at hSw)
      go_simp
      try (first | (with_reducible rfl) | rfl)
    try simp only [List.getElem_toArray, List.getElem_cons_zero, List.getElem_cons_succ, Act.put, List.setIfInBounds_toArray, List.set_cons_zero, List.set_cons_succ]
    refine wpAnyH_ready (rs := [5]) (by as_aux_lemma => kernel_rfl) (by simp) ?_
    refine AllReadyH.cons rfl (fun K hK => ?_) ?_
    · go_simp
      go_at_call 22; refine (chain_at nn 0 0 tg (some ⟨g0, 0, none⟩) N c0 ws 1 _ l1 T1 H1.out.drew HOK.out HN.out (HRA.out _ H1.out.drew.bel) HL.out HA1.out HLE1.out HV.out rfl).mono ?_; rintro e w71 ⟨A1, c71, rfl, hb, h⟩; simp only [row32, HN1.out] at h; (try simp only [HN1.out]); (have H2 := Lib.hid (show St w (bxC bc nn 0 0 tg :: rowA 23 1 (.slice A1 n1 c71) n1 (l1.map u32V) :: [rowA 23 1 (.slice A0 n0 c70) n0 (l0.map u32V)]) _ from h.re 3 [1, 0, 2])); clear h hb
      go_wp2_with fail
      refine hK.out _ _ ?_ (fun hHeld5_5 => ?_)
      · first | exact HCT.out _ _ H2.out | exact HCT.out _ _ H1.out.drew
      clear hK K
      try simp only [List.getElem_toArray, List.getElem_cons_zero, List.getElem_cons_succ, Act.put, List.setIfInBounds_toArray, List.set_cons_zero, List.set_cons_succ]
      refine wpAnyH_take (i := 6) (v := ?_) rfl (by as_aux_lemma => kernel_rfl) (by as_aux_lemma => kernel_rfl) (by as_aux_lemma => kernel_rfl) (fun _ _ _ h => h) (Or.inl ⟨by rfl, ?_⟩) hHeld5_5 ?_
      rotate_left
      · intro w hSw
        (try dsimp only at hSw)
        go_simp
        try (first | (with_reducible rfl) | rfl)
      try simp only [List.getElem_toArray, List.getElem_cons_zero, List.getElem_cons_succ, Act.put, List.setIfInBounds_toArray, List.set_cons_zero, List.set_cons_succ]
      refine wpAnyH_take (i := 7) (v := ?_) rfl (by as_aux_lemma => kernel_rfl) (by as_aux_lemma => kernel_rfl) (by as_aux_lemma => kernel_rfl) (fun _ _ _ h => h) (Or.inl ⟨by rfl, ?_⟩) hHeld5_5 ?_
      rotate_left
      · intro w hSw
        (try dsimp only at hSw)
        go_simp
        try (first | (with_reducible rfl) | rfl)
      try simp only [List.getElem_toArray, List.getElem_cons_zero, List.getElem_cons_succ, Act.put, List.setIfInBounds_toArray, List.set_cons_zero, List.set_cons_succ]
      refine wpAnyH_take (i := 8) (v := ?_) rfl (by as_aux_lemma => kernel_rfl) (by as_aux_lemma => kernel_rfl) (by as_aux_lemma => kernel_rfl) (fun _ _ _ h => h) (Or.inl ⟨by rfl, ?_⟩) hHeld5_5 ?_
      rotate_left
      · intro w hSw
        (try dsimp only at hSw)
        go_simp
        try (first | (with_reducible rfl) | rfl)
      try simp only [List.getElem_toArray, List.getElem_cons_zero, List.getElem_cons_succ, Act.put, List.setIfInBounds_toArray, List.set_cons_zero, List.set_cons_succ]
      refine wpAnyH_take (i := 9) (v := ?_) rfl (by as_aux_lemma => kernel_rfl) (by as_aux_lemma => kernel_rfl) (by as_aux_lemma => kernel_rfl) (fun _ _ _ h => h) (Or.inl ⟨by rfl, ?_⟩) hHeld5_5 ?_
      rotate_left
      · intro w hSw
        (try dsimp only at hSw)
        go_simp
        try (first | (with_reducible rfl) | rfl)
      try simp only [List.getElem_toArray, List.getElem_cons_zero, List.getElem_cons_succ, Act.put, List.setIfInBounds_toArray, List.set_cons_zero, List.set_cons_succ]
      refine wpAnyH_take (i := 10) (v := ?_) rfl (by as_aux_lemma => kernel_rfl) (by as_aux_lemma => kernel_rfl) (by as_aux_lemma => kernel_rfl) (fun _ _ _ h => h) (Or.inl ⟨by rfl, ?_⟩) hHeld5_5 ?_
      rotate_left
      · intro w hSw
        (try dsimp only at hSw)
        go_simp
        try (first | (with_reducible rfl) | rfl)
      try simp only [List.getElem_toArray, List.getElem_cons_zero, List.getElem_cons_succ, Act.put, List.setIfInBounds_toArray, List.set_cons_zero, List.set_cons_succ]
      refine wpAnyH_done (by as_aux_lemma => kernel_rfl) ?_ _
      go_wp2_with (first | ((have _h := H3); at_builtin; go_must (refine wpList_app32 (by rfl) _ _ (by rfl) A8 n0 c8 l0 (by rfl) (H3.out) A1 n1 c71 l1 (by rfl) (H3.out.rd32 2 rfl HN1.out) HN1.out (by omega) ?_); go_must (intro A9 c9 w9 h); (have H5 := Lib.hid (show St w (rowA 23 1 (.slice A9 (n0 + n1) c9) (n0 + n1) ((l0 ++ l1).map u32V) :: [bxC bc nn 0 0 tg]) _ from h.re 3 [0, 1])); clear h _h) | ((have _h := H2); at_builtin; go_must (refine wpList_app32 (by rfl) _ _ (by rfl) _ 0 0 [] (by rfl) ((H2.out.lit0)) A0 n0 c70 l0 (by rfl) ((H2.out.lit0).rd32 3 rfl HN0.out) HN0.out (by omega) ?_); go_must (intro A8 c8 w8 h); simp only [Nat.zero_add, List.nil_append] at h ⊢; (have H3 := Lib.hid (show St w (rowA 23 1 (.slice A8 n0 c8) n0 (l0.map u32V) :: bxC bc nn 0 0 tg :: [rowA 23 1 (.slice A1 n1 c71) n1 (l1.map u32V)]) _ from h.re 4 [0, 1, 2])); clear h _h))
      have HREL := Lib.hid H5.out
      clear H H1 H2 H3
      go_loopg [11, 12] 5 (fun kq z y w' => ∃ (i n c : Nat) (A : Option Addr), z = .slice A n c ∧ y = .int .i64 i ∧ i ≤ 4 ∧ i + kq = 5 ∧ n = (l0 ++ l1 ++ nzL (hs.take i)).length ∧ St w [rowA 23 1 (.slice A n c) n ((l0 ++ l1 ++ nzL (hs.take i)).map u32V), bxC bc nn 0 0 tg] w')
      case atStart =>
        refine ⟨0, n0 + n1, c9, A9, rfl, rfl, by omega, rfl, ?_, ?_⟩
        · simp [nzL, HN0.out, HN1.out]
        · have h := HREL.out
          simp only [List.take_zero, nzL, List.filter_nil, List.append_nil]
          exact h
      case round =>
        obtain ⟨i, n, c, A, rfl, rfl, hi, hkq, hn, hS⟩ := hrel
        clear HREL
        have HS := Lib.hid hS
        have HNN := Lib.hid hn
        have hal := HAL.out.len
        have hnle : n ≤ 64 := by
          rw [hn]
          have h1 : (nzL (hs.take i)).length ≤ (nzL hs).length := by
            have : hs = hs.take i ++ hs.drop i := (List.take_append_drop i hs).symm
            have h2 : nzL hs = nzL (hs.take i) ++ nzL (hs.drop i) := by unfold nzL; rw [← List.filter_append, ← this]
            rw [h2, List.length_append]; omega
          simp only [List.length_append] at hal ⊢
          omega
        clear hS hn hal
        cases gk with
        | zero => omega
        | succ kk =>
          by_cases c4 : i < 4
          · have c4b : decide ((i : Int) < 4) = true := decide_eq_true (by omega)
            obtain ⟨x, hx⟩ := getE (l := hs) (k := i) (by rw [H4.out]; exact c4)
            have hcell := HC4.out _ HS.out.bel i x hx
            have HX := Lib.hid hx
            have i0 : (0 : Int) ≤ (i : Int) := by omega
            have i1 : (i : Int) < 4 := by omega
            have HNX := Lib.hid (nzL_snoc hs hx)
            clear hx
            by_cases c5 : x = 0
            · subst c5
              go_wp2
              go_roundg kk
              case measure => omega
              case rel =>
                refine ⟨i + 1, n, c, A, rfl, by simp, by omega, by omega, ?_, ?_⟩
                · rw [HNX.out, HNN.out]; simp
                · rw [HNX.out]; simpa using HS.out
            · have c5b : (x != 0) = true := by simp; exact c5
              go_wp2_with ((have _h := HS); at_builtin; go_must (refine wpList_app32 (by rfl) _ _ (by rfl) A n c (l0 ++ l1 ++ nzL (hs.take i)) (by rfl) ((HS.out.below (bl_alloc (bl_refl _) _))) (some ⟨_, 0, none⟩) 1 1 [x] (by rfl) (rd32_one (heap_new rfl)) rfl (by omega) ?_); go_must (intro A6 c6 w6 h); (have H6 := Lib.hid h); clear h _h)
              go_roundg kk
              case measure => omega
              case rel =>
                refine ⟨i + 1, n + 1, c6, A6, rfl, by simp, by omega, by omega, ?_, ?_⟩
                · rw [HNX.out, HNN.out, if_neg c5]; simp; omega
                · rw [HNX.out, if_neg c5]; simpa using H6.out
          · obtain rfl : i = 4 := by omega
            have c4b : decide (((4 : Nat) : Int) < 4) = false := rfl
            have ht : hs.take 4 = hs := List.take_of_length_le (by rw [H4.out]; omega)
            have hnn : n = nn := by rw [HNN.out, ht]; exact HAL.out.len
            subst hnn
            have HS2 := Lib.hid (show St w [rowA 23 1 (.slice A n c) n ((l0 ++ l1 ++ nzL hs).map u32V), bxC bc n 0 0 tg] wr by have h := HS.out; rw [ht] at h; exact h)
            clear HS HNN
            obtain ⟨ga, ca, he⟩ := row_some (HS2.out.rowOf 0 rfl) (by omega)
            cases he
            obtain ⟨al, hal⟩ : ∃ al, l0 ++ l1 ++ nzL hs = al := ⟨_, rfl⟩
            rw [hal] at HS2 HAL
            clear ht hal c4
            obtain ⟨q0, q1, q2, q3⟩ := cells4 (HS2.out.cells 1 rfl)
            obtain ⟨iI, hiI, hzI0, hzI1, hzI2⟩ := info_parts infoI64
            go_wp2_with ((have _h := HS2); refine wpList_make_full _ (by rfl) _ _ _ (by rfl) _ 3 iI _ 1 Try.underlying22 hiI hzI0 hzI1 .i64 .i64 _ _ (n + 1) (by rfl) (by rfl) rfl rfl (by rw [hzI2]; omega) (by unfold maxLen; omega) (Nat.le_refl _) ?_; intro wM hown hgrow; (have HM := Lib.hid (show St w (rowG wr.heap.size (n + 1) 3 1 (n + 1) (seenR n al 0) :: rowG ga c 23 1 n (al.map u32V) :: [bxC bc n 0 0 tg]) wM by have h9 := St.made HS2.out hown hgrow; rw [show (madeCells (Value.int .i64 0).cells ((n + 1) * 1)).toList = List.replicate (n + 1) (.int .i64 0) from made_one _ _] at h9; rw [seenR_zero]; exact h9)); clear hown hgrow _h)
            generalize wr.heap.size = gs at *
            clear q0 q1 q2 q3 HS2
            go_loopg [14] (n + 1) (fun kq y w' => ∃ i : Nat, y = .int .i64 i ∧ i ≤ n ∧ i + kq = n + 1 ∧ St w (rowG gs (n + 1) 3 1 (n + 1) (seenR n al i) :: rowG ga c 23 1 n (al.map u32V) :: [bxC bc n 0 0 tg]) w')
            case atStart => exact ⟨0, rfl, by omega, by omega, HM.out⟩
            case round =>
              obtain ⟨i, rfl, hi, hkq, hS⟩ := hrel
              clear HM
              obtain ⟨q0, q1, q2, q3⟩ := cells4 (hS.cells 2 rfl)
              have HS := Lib.hid hS
              have halen := HAL.out.len
              cases gk with
              | zero => omega
              | succ k3 =>
                by_cases c6 : i < n
                · have c6b : decide ((i : Int) < (n : Int)) = true := decide_eq_true (by omega)
                  obtain ⟨x, hx⟩ := getE (l := al) (k := i) (by omega)
                  have hxr := HAL.out.rg x (List.mem_of_getElem? hx)
                  obtain ⟨k, rfl⟩ := Int.eq_ofNat_of_zero_le (show 0 ≤ x by omega)
                  obtain ⟨e1, _⟩ := hS.at_ 1 rfl i (u := .int .u32 (k : Int)) (by rw [List.getElem?_map, hx]; rfl)
                  obtain ⟨e2, f2⟩ := hS.at_ 0 rfl k (seenR_get (by omega) HAL.out.nd hx)
                  have HSE := Lib.hid (seenR_set (nn := n) HAL.out.nd hx (by omega))
                  have i0 : (0 : Int) ≤ (i : Int) := by omega
                  have i1 : (i : Int) < (n : Int) := by omega
                  have k0 : (0 : Int) ≤ (k : Int) := by omega
                  have k1 : (k : Int) < ((n + 1 : Nat) : Int) := by omega
                  have k2 : (k : Int) < (n : Int) + 1 := by omega
                  have d0 : decide ((k : Int) < 1) = false := decide_eq_false (by omega)
                  have d1 : decide ((n : Int) < (k : Int)) = false := decide_eq_false (by omega)
                  have d2 : IntKind.u32.wrap (n : Int) = (n : Int) := by rw [IntKind.wrap_u32]; omega
                  have d7 : decide (n < k) = false := decide_eq_false (by omega)
                  have d5 : decide (IntKind.u32.wrap (n : Int) < (k : Int)) = false := by rw [d2]; exact d1
                  have d6 : decide ((n : Int) % 4294967296 < (k : Int)) = false := decide_eq_false (by omega)
                  have d4 : ((k : Int)).toNat = k := by omega
                  have hne : ga ≠ gs := hS.ne 1 0 (by decide) rfl rfl
                  have hne2 : gs ≠ ga := fun e => hne e.symm
                  have hk64 : k ≤ 64 := by omega
                  have HX2 := Lib.hid hx
                  have HG2 := Lib.hid (seenR_get (nn := n) (i := i) (k := k) (by omega) HAL.out.nd hx)
                  clear hS hx hxr halen
                  go_wp2
                  go_quiet (fail)
                  clear q0 q1 q2 q3 e1 e2 f2
                  have HD := Lib.hid (HS.out.drewN nq)
                  obtain ⟨e1, _⟩ := HD.out.at_ 1 rfl i (u := .int .u32 (k : Int)) (by rw [List.getElem?_map, HX2.out]; rfl)
                  obtain ⟨e2, f2⟩ := HD.out.at_ 0 rfl k HG2.out
                  go_wp2
                  go_roundg k3
                  case measure => omega
                  case rel =>
                    refine ⟨i + 1, by simp, by omega, by omega, ?_⟩
                    rw [← HSE.out]
                    exact HD.out.rowSet 0 rfl k (by omega) (.int .i64 (0 + 1))
                · obtain rfl : n = i := by omega
                  have c6b : decide (((n : Nat) : Int) < (n : Int)) = false := decide_eq_false (by omega)
                  clear hS c6 halen
                  go_wp2
                  go_ret
                  exact ⟨rfl, HS.out.bel⟩
    exact AllReadyH.nil
  exact AllReadyH.nil
end Go.Proofs.Ytndigbkhaajjoaa
