/-
  Chapter 8: a machine of a job; the example.
-/
import Derived.Test.YtndigbkhaajjoaaEnds8
import Derived.Laws.IdiomCopy
namespace Go.Proofs.Ytndigbkhaajjoaa
open Go.RowKit
set_option linter.unusedVariables false
set_option linter.unusedSimpArgs false

theorem run_append_zero {P : Program} (w : World) (t ty e : TypeId) (i : TypeInfo) (ht : P.underlying t = some (.slice e)) (hi : P.info? e = some i) (b : Addr) (A : Option Addr) (c : Nat) :
    (Builtin.append_ #[t, t] ty #[.slice (some b) 0 0, .slice A 0 c]).run P w = .ok (.slice (some b) 0 0) w := by
  cases A with
  | none => simp [Builtin.append_, run_underlying ht, sizeOf, typeInfo, hi, Builtin.lenOf, go_sem]
  | some a =>
    have hfc := run_firstCells_some (P := P) w i.size 0 a 0 c [] (by simp) (fun j u h => by simp at h)
    have hst := run_storeCells_cells (P := P) b.block (b.off + 0) [] 0 w (by simp) (by simp) (by simp)
    simp [Builtin.append_, run_underlying ht, sizeOf, typeInfo, hi, Builtin.lenOf, hfc, go_sem]
theorem step_append_zero {P : Program} {ops : Array Oper} {o : Oper} {a : Act} {w : World} {K : Act → World → Prop} {Q : Exit → Act → World → Prop} {E : Prop}
    (hg : o.guard = none) (s x : Operand) (t : TypeId) (hop : o.op = Op.call { callee := Callee.builtin Builtin.append, args := #[s, x], argTypes := #[t, t] })
    (e : TypeId) (i : TypeInfo) (h1 : P.underlying t = some (.slice e)) (h2 : P.info? e = some i) (b : Addr) (A : Option Addr) (c : Nat) (hs : a.eval s = .slice (some b) 0 0) (hx : a.eval x = .slice A 0 c) (hK : K (a.put o.dst (.slice (some b) 0 0)) w) :
    if Region.wanted o (yielded ops a.tmps) = true then Oper.wp P o a w K Q else E := by
  have hw : Region.wanted o (yielded ops a.tmps) = true := by simp [Region.wanted, hg]
  rw [if_pos hw]
  have hrun := run_append_zero (P := P) w t o.type e i h1 h2 b A c
  unfold Oper.wp
  simp [execOp, hop, resolve, invoke, builtin, hs, hx, hrun, Result.andThen]
  exact hK
theorem cells4j {w : World} {b : Nat} {a0 a1 a2 a3 : Value} {e : TypeId} (h : w.heap[b]? = some (.cells #[a0, a1, a2, a3] e (0, 0))) : w.cell? ⟨b, 0, none⟩ = some a0 ∧ w.cell? ⟨b, 1, none⟩ = some a1 ∧ w.cell? ⟨b, 2, none⟩ = some a2 ∧ w.cell? ⟨b, 3, none⟩ = some a3 := ⟨cell_of h 0, cell_of h 1, cell_of h 2, cell_of h 3⟩
set_option maxRecDepth 100000 in
set_option maxHeartbeats 8000000 in
theorem made8_tz {w0 w : World} {L : List Asn} (n s h t budget I : Int) (A : Option Addr) (c : Nat) (l : List Int) (hS : St w0 L w) (hr : Rd32 w A l) (hn : l.length = 0) :
    Calls Try.prog 43 #[.agg #[.int .i64 n, .int .i64 s, .int .i64 h, .int .u32 t], .agg #[.bool false, .int .i64 budget, .int .i64 I, .slice A 0 c]] w fun e w' => ∃ p rb, e = .returned (.agg #[.pointer (some ⟨p, 0, none⟩), .pointer none, .pointer (some rb)]) ∧ St w0 (arA p (newAT n s h t budget l) :: L) w' := by
  obtain ⟨i0, hi0, hz0, hz1, hz2⟩ := info_parts info32
  have h1 := ((hS.alloc #[.int .i64 n, .int .i64 s, .int .i64 h, .int .u32 t] 26).alloc #[.bool false, .int .i64 budget, .int .i64 I, .slice A 0 c] 87).alloc #[.pointer none, .pointer none, .pointer none] 84
  have hb3 : Below w.heap.size w (((w.alloc (.cells #[.int .i64 n, .int .i64 s, .int .i64 h, .int .u32 t] 26)).alloc (.cells #[.bool false, .int .i64 budget, .int .i64 I, .slice A 0 c] 87)).alloc (.cells #[.pointer none, .pointer none, .pointer none] 84)) := bl_alloc (bl_alloc (bl_alloc (bl_refl _) _) _) _
  have hr3 := hr.kept hb3
  have HN := Lib.hid hn
  clear hS hr hn hb3
  go_enter Try.func43, Try.ntmps43
  go_wp2
  simp only [World.size_alloc] at h1 ⊢
  obtain ⟨b0, hb0⟩ : ∃ b0, w.heap.size = b0 := ⟨_, rfl⟩
  obtain ⟨b1, hb1⟩ : ∃ b1, b0 + 1 = b1 := ⟨_, rfl⟩
  obtain ⟨b2, hb2⟩ : ∃ b2, b1 + 1 = b2 := ⟨_, rfl⟩
  simp only [hb0, hb1, hb2] at h1 ⊢
  generalize ((w.alloc (.cells #[.int .i64 n, .int .i64 s, .int .i64 h, .int .u32 t] 26)).alloc (.cells #[.bool false, .int .i64 budget, .int .i64 I, .slice A 0 c] 87)).alloc (.cells #[.pointer none, .pointer none, .pointer none] 84) = W at *
  have H := Lib.hid h1
  have HR := Lib.hid hr3
  obtain ⟨q0, q1, q2, q3⟩ := cells4j (h1.cells 2 rfl)
  obtain ⟨j0, j1, j2, j3⟩ := cells4j (h1.cells 1 rfl)
  have lt0 := lt_of_heap (h1.cells 2 rfl)
  have lt1 := lt_of_heap (h1.cells 1 rfl)
  have lt2 := lt_of_heap (h1.cells 0 rfl)
  clear h1 hr3
  have HCS : Hid (∀ w', Below W.heap.size W w' → w'.cell? ⟨b0, 0, none⟩ = some (.int .i64 n) ∧ w'.cell? ⟨b0, 1, none⟩ = some (.int .i64 s) ∧ w'.cell? ⟨b0, 2, none⟩ = some (.int .i64 h) ∧ w'.cell? ⟨b0, 3, none⟩ = some (.int .u32 t) ∧ w'.cell? ⟨b1, 0, none⟩ = some (.bool false) ∧ w'.cell? ⟨b1, 1, none⟩ = some (.int .i64 budget) ∧ w'.cell? ⟨b1, 2, none⟩ = some (.int .i64 I) ∧ w'.cell? ⟨b1, 3, none⟩ = some (.slice A 0 c)) := Lib.hid fun w' hb => by
    have h5 := H.out.below hb
    obtain ⟨a0, a1, a2, a3⟩ := cells4j (h5.cells 2 rfl)
    obtain ⟨d0, d1, d2, d3⟩ := cells4j (h5.cells 1 rfl)
    exact ⟨a0, a1, a2, a3, d0, d1, d2, d3⟩
  refine wp_region_held_drew (S := (fun w' => w'.cell? ⟨b0, 0, none⟩ = some (.int .i64 n) ∧ w'.cell? ⟨b0, 1, none⟩ = some (.int .i64 s) ∧ w'.cell? ⟨b0, 2, none⟩ = some (.int .i64 h) ∧ w'.cell? ⟨b0, 3, none⟩ = some (.int .u32 t) ∧ w'.cell? ⟨b1, 0, none⟩ = some (.bool false) ∧ w'.cell? ⟨b1, 1, none⟩ = some (.int .i64 budget) ∧ w'.cell? ⟨b1, 2, none⟩ = some (.int .i64 I) ∧ w'.cell? ⟨b1, 3, none⟩ = some (.slice A 0 c))) (by as_aux_lemma => kernel_rfl) ?_ (fun hHeld0 => ?_)
  · first | exact HCS.out _ (bl_alloc HB4.out _) | exact HCS.out _ HB4.out | exact HCS.out _ (bl_alloc (bl_alloc (bl_drew (bl_refl _)) _) _) | exact HCS.out _ (bl_alloc (bl_drew (bl_refl _)) _) | exact HCS.out _ (bl_drew (bl_refl _))
  refine wpAnyH_take (i := 0) (v := ?_) rfl (by as_aux_lemma => kernel_rfl) (by as_aux_lemma => kernel_rfl) (by as_aux_lemma => kernel_rfl) (fun _ _ _ h => h) (Or.inl ⟨by rfl, ?_⟩) hHeld0 ?_
  rotate_left
  · intro w hSw
    (try dsimp only at hSw)
    go_simp
    try (first | (with_reducible rfl) | rfl)
  try simp only [List.getElem_toArray, List.getElem_cons_zero, List.getElem_cons_succ, Act.put, List.setIfInBounds_toArray, List.set_cons_zero, List.set_cons_succ]
  refine wpAnyH_take (i := 1) (v := ?_) rfl (by as_aux_lemma => kernel_rfl) (by as_aux_lemma => kernel_rfl) (by as_aux_lemma => kernel_rfl) (fun _ _ _ h => h) (Or.inl ⟨by rfl, ?_⟩) hHeld0 ?_
  rotate_left
  · intro w hSw
    (try dsimp only at hSw)
    go_simp
    try (first | (with_reducible rfl) | rfl)
  try simp only [List.getElem_toArray, List.getElem_cons_zero, List.getElem_cons_succ, Act.put, List.setIfInBounds_toArray, List.set_cons_zero, List.set_cons_succ]
  refine wpAnyH_take (i := 2) (v := ?_) rfl (by as_aux_lemma => kernel_rfl) (by as_aux_lemma => kernel_rfl) (by as_aux_lemma => kernel_rfl) (fun _ _ _ h => h) (Or.inl ⟨by rfl, ?_⟩) hHeld0 ?_
  rotate_left
  · intro w hSw
    (try dsimp only at hSw)
    go_simp
    try (first | (with_reducible rfl) | rfl)
  try simp only [List.getElem_toArray, List.getElem_cons_zero, List.getElem_cons_succ, Act.put, List.setIfInBounds_toArray, List.set_cons_zero, List.set_cons_succ]
  refine wpAnyH_take (i := 3) (v := ?_) rfl (by as_aux_lemma => kernel_rfl) (by as_aux_lemma => kernel_rfl) (by as_aux_lemma => kernel_rfl) (fun _ _ _ h => h) (Or.inl ⟨by rfl, ?_⟩) hHeld0 ?_
  rotate_left
  · intro w hSw
    (try dsimp only at hSw)
    go_simp
    try (first | (with_reducible rfl) | rfl)
  try simp only [List.getElem_toArray, List.getElem_cons_zero, List.getElem_cons_succ, Act.put, List.setIfInBounds_toArray, List.set_cons_zero, List.set_cons_succ]
  refine wpAnyH_take (i := 4) (v := ?_) rfl (by as_aux_lemma => kernel_rfl) (by as_aux_lemma => kernel_rfl) (by as_aux_lemma => kernel_rfl) (fun _ _ _ h => h) (Or.inl ⟨by rfl, ?_⟩) hHeld0 ?_
  rotate_left
  · intro w hSw
    (try dsimp only at hSw)
    go_simp
    try (first | (with_reducible rfl) | rfl)
  try simp only [List.getElem_toArray, List.getElem_cons_zero, List.getElem_cons_succ, Act.put, List.setIfInBounds_toArray, List.set_cons_zero, List.set_cons_succ]
  refine wpAnyH_take (i := 5) (v := ?_) rfl (by as_aux_lemma => kernel_rfl) (by as_aux_lemma => kernel_rfl) (by as_aux_lemma => kernel_rfl) (fun _ _ _ h => h) (Or.inl ⟨by rfl, ?_⟩) hHeld0 ?_
  rotate_left
  · intro w hSw
    (try dsimp only at hSw)
    go_simp
    try (first | (with_reducible rfl) | rfl)
  try simp only [List.getElem_toArray, List.getElem_cons_zero, List.getElem_cons_succ, Act.put, List.setIfInBounds_toArray, List.set_cons_zero, List.set_cons_succ]
  refine wpAnyH_take (i := 6) (v := ?_) rfl (by as_aux_lemma => kernel_rfl) (by as_aux_lemma => kernel_rfl) (by as_aux_lemma => kernel_rfl) (fun _ _ _ h => h) (Or.inl ⟨by rfl, ?_⟩) hHeld0 ?_
  rotate_left
  · intro w hSw
    (try dsimp only at hSw)
    go_simp
    try (first | (with_reducible rfl) | rfl)
  try simp only [List.getElem_toArray, List.getElem_cons_zero, List.getElem_cons_succ, Act.put, List.setIfInBounds_toArray, List.set_cons_zero, List.set_cons_succ]
  refine wpAnyH_take (i := 7) (v := ?_) rfl (by as_aux_lemma => kernel_rfl) (by as_aux_lemma => kernel_rfl) (by as_aux_lemma => kernel_rfl) (fun _ _ _ h => h) (Or.inl ⟨by rfl, ?_⟩) hHeld0 ?_
  rotate_left
  · intro w hSw
    (try dsimp only at hSw)
    go_simp
    try (first | (with_reducible rfl) | rfl)
  try simp only [List.getElem_toArray, List.getElem_cons_zero, List.getElem_cons_succ, Act.put, List.setIfInBounds_toArray, List.set_cons_zero, List.set_cons_succ]
  refine wpAnyH_take (i := 8) (v := ?_) rfl (by as_aux_lemma => kernel_rfl) (by as_aux_lemma => kernel_rfl) (by as_aux_lemma => kernel_rfl) (fun _ _ _ h => h) (Or.inl ⟨by rfl, ?_⟩) hHeld0 ?_
  rotate_left
  · intro w hSw
    (try dsimp only at hSw)
    go_simp
    try (first | (with_reducible rfl) | rfl)
  try simp only [List.getElem_toArray, List.getElem_cons_zero, List.getElem_cons_succ, Act.put, List.setIfInBounds_toArray, List.set_cons_zero, List.set_cons_succ]
  refine wpAnyH_take (i := 9) (v := ?_) rfl (by as_aux_lemma => kernel_rfl) (by as_aux_lemma => kernel_rfl) (by as_aux_lemma => kernel_rfl) (fun _ _ _ h => h) (Or.inl ⟨by rfl, ?_⟩) hHeld0 ?_
  rotate_left
  · intro w hSw
    (try dsimp only at hSw)
    go_simp
    try (first | (with_reducible rfl) | rfl)
  try simp only [List.getElem_toArray, List.getElem_cons_zero, List.getElem_cons_succ, Act.put, List.setIfInBounds_toArray, List.set_cons_zero, List.set_cons_succ]
  refine wpAnyH_take (i := 10) (v := ?_) rfl (by as_aux_lemma => kernel_rfl) (by as_aux_lemma => kernel_rfl) (by as_aux_lemma => kernel_rfl) (fun _ _ _ h => h) (Or.inl ⟨by rfl, ?_⟩) hHeld0 ?_
  rotate_left
  · intro w hSw
    (try dsimp only at hSw)
    go_simp
    try (first | (with_reducible rfl) | rfl)
  try simp only [List.getElem_toArray, List.getElem_cons_zero, List.getElem_cons_succ, Act.put, List.setIfInBounds_toArray, List.set_cons_zero, List.set_cons_succ]
  refine wpAnyH_take (i := 11) (v := ?_) rfl (by as_aux_lemma => kernel_rfl) (by as_aux_lemma => kernel_rfl) (by as_aux_lemma => kernel_rfl) (fun _ _ _ h => h) (Or.inl ⟨by rfl, ?_⟩) hHeld0 ?_
  rotate_left
  · intro w hSw
    (try dsimp only at hSw)
    go_simp
    try (first | (with_reducible rfl) | rfl)
  try simp only [List.getElem_toArray, List.getElem_cons_zero, List.getElem_cons_succ, Act.put, List.setIfInBounds_toArray, List.set_cons_zero, List.set_cons_succ]
  refine wpAnyH_take (i := 12) (v := ?_) rfl (by as_aux_lemma => kernel_rfl) (by as_aux_lemma => kernel_rfl) (by as_aux_lemma => kernel_rfl) (fun _ _ _ h => h) (Or.inl ⟨by rfl, ?_⟩) hHeld0 ?_
  rotate_left
  · intro w hSw
    (try dsimp only at hSw)
    go_simp
    try (first | (with_reducible rfl) | rfl)
  try simp only [List.getElem_toArray, List.getElem_cons_zero, List.getElem_cons_succ, Act.put, List.setIfInBounds_toArray, List.set_cons_zero, List.set_cons_succ]
  refine wpAnyH_take (i := 14) (v := ?_) rfl (by as_aux_lemma => kernel_rfl) (by as_aux_lemma => kernel_rfl) (by as_aux_lemma => kernel_rfl) (fun _ _ _ h => h) (Or.inl ⟨by rfl, ?_⟩) hHeld0 ?_
  rotate_left
  · intro w hSw
    (try dsimp only at hSw)
    go_simp
    try (first | (with_reducible rfl) | rfl)
  try simp only [List.getElem_toArray, List.getElem_cons_zero, List.getElem_cons_succ, Act.put, List.setIfInBounds_toArray, List.set_cons_zero, List.set_cons_succ]
  refine wpAnyH_take (i := 15) (v := ?_) rfl (by as_aux_lemma => kernel_rfl) (by as_aux_lemma => kernel_rfl) (by as_aux_lemma => kernel_rfl) (fun _ _ _ h => h) (Or.inl ⟨by rfl, ?_⟩) hHeld0 ?_
  rotate_left
  · intro w hSw
    (try dsimp only at hSw)
    go_simp
    try (first | (with_reducible rfl) | rfl)
  try simp only [List.getElem_toArray, List.getElem_cons_zero, List.getElem_cons_succ, Act.put, List.setIfInBounds_toArray, List.set_cons_zero, List.set_cons_succ]
  refine wpAnyH_ready (rs := [13]) (by as_aux_lemma => kernel_rfl) (by simp) ?_
  refine AllReadyH.cons rfl (fun K hK => ?_) ?_
  · go_simp
    refine hK.out _ _ ?_ (fun hHeld15_13 => ?_)
    · first | exact HCS.out _ (bl_alloc HB4.out _) | exact HCS.out _ HB4.out | exact HCS.out _ (bl_alloc (bl_alloc (bl_drew (bl_refl _)) _) _) | exact HCS.out _ (bl_alloc (bl_drew (bl_refl _)) _) | exact HCS.out _ (bl_drew (bl_refl _))
    clear hK K
    try simp only [List.getElem_toArray, List.getElem_cons_zero, List.getElem_cons_succ, Act.put, List.setIfInBounds_toArray, List.set_cons_zero, List.set_cons_succ]
    refine wpAnyH_ready (rs := [16]) (by as_aux_lemma => kernel_rfl) (by simp) ?_
    refine AllReadyH.cons rfl (fun K hK => ?_) ?_
    · refine step_append_zero (by rfl) _ _ _ (by rfl) 23 i0 Try.underlying33 hi0 _ A c (by rfl) (by rfl) ?_
      refine hK.out _ _ ?_ (fun hHeld16_16 => ?_)
      · first | exact HCS.out _ (bl_alloc HB4.out _) | exact HCS.out _ HB4.out | exact HCS.out _ (bl_alloc (bl_alloc (bl_drew (bl_refl _)) _) _) | exact HCS.out _ (bl_alloc (bl_drew (bl_refl _)) _) | exact HCS.out _ (bl_drew (bl_refl _))
      clear hK K
      try simp only [List.getElem_toArray, List.getElem_cons_zero, List.getElem_cons_succ, Act.put, List.setIfInBounds_toArray, List.set_cons_zero, List.set_cons_succ]
      refine wpAnyH_take (i := 17) (v := ?_) rfl (by as_aux_lemma => kernel_rfl) (by as_aux_lemma => kernel_rfl) (by as_aux_lemma => kernel_rfl) (fun _ _ _ h => h) (Or.inl ⟨by rfl, ?_⟩) hHeld16_16 ?_
      rotate_left
      · intro w hSw
        (try dsimp only at hSw)
        go_simp
        try (first | (with_reducible rfl) | rfl)
      try simp only [List.getElem_toArray, List.getElem_cons_zero, List.getElem_cons_succ, Act.put, List.setIfInBounds_toArray, List.set_cons_zero, List.set_cons_succ]
      refine wpAnyH_ready (rs := [18]) (by as_aux_lemma => kernel_rfl) (by simp) ?_
      refine AllReadyH.cons rfl (fun K hK => ?_) ?_
      · go_simp
        refine hK.out _ _ ?_ (fun hHeld18_18 => ?_)
        · first | exact HCS.out _ (bl_alloc HB4.out _) | exact HCS.out _ HB4.out | exact HCS.out _ (bl_alloc (bl_alloc (bl_drew (bl_refl _)) _) _) | exact HCS.out _ (bl_alloc (bl_drew (bl_refl _)) _) | exact HCS.out _ (bl_drew (bl_refl _))
        clear hK K
        try simp only [List.getElem_toArray, List.getElem_cons_zero, List.getElem_cons_succ, Act.put, List.setIfInBounds_toArray, List.set_cons_zero, List.set_cons_succ]
        refine wpAnyH_take (i := 19) (v := ?_) rfl (by as_aux_lemma => kernel_rfl) (by as_aux_lemma => kernel_rfl) (by as_aux_lemma => kernel_rfl) (fun _ _ _ h => h) (Or.inl ⟨by rfl, ?_⟩) hHeld18_18 ?_
        rotate_left
        · intro w hSw
          (try dsimp only at hSw)
          go_simp
          try (first | (with_reducible rfl) | rfl)
        try simp only [List.getElem_toArray, List.getElem_cons_zero, List.getElem_cons_succ, Act.put, List.setIfInBounds_toArray, List.set_cons_zero, List.set_cons_succ]
        refine wpAnyH_done (by as_aux_lemma => kernel_rfl) ?_ _
        go_wp2_with (go_at_call 70; refine (atake_new n s h t budget A 0 c l (H.out.below (bl_drew (bl_alloc (bl_alloc (bl_refl W) _) _))) (HR.out.kept (bl_drew (bl_alloc (bl_alloc (bl_refl W) _) _))) HN.out (by decide)).mono ?_; rintro e w6 ⟨p, rfl, h⟩; (have H7 := Lib.hid h); clear h q0 q1 q2 q3 j0 j1 j2 j3 lt0 lt1 lt2; (have hp2 := H7.out.cells 1 rfl); obtain ⟨k0, k1, k2⟩ := cells3a hp2; (have f0 := free_of hp2 0); (have f1 := free_of hp2 1); (have f2 := free_of hp2 2); (have lp := lt_of_heap hp2); clear hp2)
        have h9 := ((H7.out.setAt 1 rfl 0 (.pointer (some ⟨p, 0, none⟩))).setAt 1 rfl 1 (.pointer none)).setAt 1 rfl 2 (.pointer (some ⟨W.heap.size + 1, 0, none⟩))
        generalize ((w6.setCell ⟨b2, 0, none⟩ (.pointer (some ⟨p, 0, none⟩))).setCell ⟨b2, 1, none⟩ (.pointer none)).setCell ⟨b2, 2, none⟩ (.pointer (some ⟨W.heap.size + 1, 0, none⟩)) = W9 at *
        have H9 := Lib.hid h9
        clear k0 k1 k2
        obtain ⟨k0, k1, k2⟩ := cells3a (h9.cells 1 rfl)
        clear h9
        refine bodyPost_ret (by simp [results, Try.results43, go_sem, k0, k1, k2]; try rfl) rfl ?_
        exact ⟨p, _, rfl, (show St w0 (arA p (newAT n s h t budget l) :: boxA b2 _ _ :: boxA b1 _ _ :: boxA b0 _ _ :: L) _ from H9.out).re 4 [0]⟩
      exact AllReadyH.nil
    exact AllReadyH.nil
  exact AllReadyH.nil
set_option maxRecDepth 100000 in
set_option maxHeartbeats 8000000 in
theorem made8_t {w0 w : World} {L : List Asn} (n s h t budget I : Int) (A : Option Addr) (m c : Nat) (l : List Int) (hS : St w0 L w) (hr : Rd32 w A l) (hn : l.length = m) (hm0 : 0 < m) (hm : m ≤ 1000000000000) :
    Calls Try.prog 43 #[.agg #[.int .i64 n, .int .i64 s, .int .i64 h, .int .u32 t], .agg #[.bool false, .int .i64 budget, .int .i64 I, .slice A m c]] w fun e w' => ∃ p rb, e = .returned (.agg #[.pointer (some ⟨p, 0, none⟩), .pointer none, .pointer (some rb)]) ∧ St w0 (arA p (newAT n s h t budget l) :: L) w' := by
  obtain ⟨i0, hi0, hz0, hz1, hz2⟩ := info_parts info32
  have h1 := ((hS.alloc #[.int .i64 n, .int .i64 s, .int .i64 h, .int .u32 t] 26).alloc #[.bool false, .int .i64 budget, .int .i64 I, .slice A m c] 87).alloc #[.pointer none, .pointer none, .pointer none] 84
  have hb3 : Below w.heap.size w (((w.alloc (.cells #[.int .i64 n, .int .i64 s, .int .i64 h, .int .u32 t] 26)).alloc (.cells #[.bool false, .int .i64 budget, .int .i64 I, .slice A m c] 87)).alloc (.cells #[.pointer none, .pointer none, .pointer none] 84)) := bl_alloc (bl_alloc (bl_alloc (bl_refl _) _) _) _
  have hr3 := hr.kept hb3
  have HN := Lib.hid hn
  clear hS hr hn hb3
  go_enter Try.func43, Try.ntmps43
  go_wp2
  simp only [World.size_alloc] at h1 ⊢
  obtain ⟨b0, hb0⟩ : ∃ b0, w.heap.size = b0 := ⟨_, rfl⟩
  obtain ⟨b1, hb1⟩ : ∃ b1, b0 + 1 = b1 := ⟨_, rfl⟩
  obtain ⟨b2, hb2⟩ : ∃ b2, b1 + 1 = b2 := ⟨_, rfl⟩
  simp only [hb0, hb1, hb2] at h1 ⊢
  generalize ((w.alloc (.cells #[.int .i64 n, .int .i64 s, .int .i64 h, .int .u32 t] 26)).alloc (.cells #[.bool false, .int .i64 budget, .int .i64 I, .slice A m c] 87)).alloc (.cells #[.pointer none, .pointer none, .pointer none] 84) = W at *
  have H := Lib.hid h1
  have HR := Lib.hid hr3
  obtain ⟨q0, q1, q2, q3⟩ := cells4j (h1.cells 2 rfl)
  obtain ⟨j0, j1, j2, j3⟩ := cells4j (h1.cells 1 rfl)
  have lt0 := lt_of_heap (h1.cells 2 rfl)
  have lt1 := lt_of_heap (h1.cells 1 rfl)
  have lt2 := lt_of_heap (h1.cells 0 rfl)
  clear h1 hr3
  obtain ⟨ad, rfl, hcc⟩ := HR.out.2 (by rw [HN.out]; exact hm0)
  have HCC : Hid (∀ j u, (l.map u32V)[j]? = some u → (W.drew.alloc (.cells #[] 23)).cell? (ad.add j) = some u) := Lib.hid fun j u hu => by
    have h2 := hcc j u hu
    exact ((bl_alloc (bl_drew (bl_refl W)) _).cell (World.block_lt_of_cell? _ _ h2)).trans h2
  clear hcc
  have HCS : Hid (∀ w', Below W.heap.size W w' → w'.cell? ⟨b0, 0, none⟩ = some (.int .i64 n) ∧ w'.cell? ⟨b0, 1, none⟩ = some (.int .i64 s) ∧ w'.cell? ⟨b0, 2, none⟩ = some (.int .i64 h) ∧ w'.cell? ⟨b0, 3, none⟩ = some (.int .u32 t) ∧ w'.cell? ⟨b1, 0, none⟩ = some (.bool false) ∧ w'.cell? ⟨b1, 1, none⟩ = some (.int .i64 budget) ∧ w'.cell? ⟨b1, 2, none⟩ = some (.int .i64 I) ∧ w'.cell? ⟨b1, 3, none⟩ = some (.slice (some ad) m c)) := Lib.hid fun w' hb => by
    have h5 := H.out.below hb
    obtain ⟨a0, a1, a2, a3⟩ := cells4j (h5.cells 2 rfl)
    obtain ⟨d0, d1, d2, d3⟩ := cells4j (h5.cells 1 rfl)
    exact ⟨a0, a1, a2, a3, d0, d1, d2, d3⟩
  refine wp_region_held_drew (S := (fun w' => w'.cell? ⟨b0, 0, none⟩ = some (.int .i64 n) ∧ w'.cell? ⟨b0, 1, none⟩ = some (.int .i64 s) ∧ w'.cell? ⟨b0, 2, none⟩ = some (.int .i64 h) ∧ w'.cell? ⟨b0, 3, none⟩ = some (.int .u32 t) ∧ w'.cell? ⟨b1, 0, none⟩ = some (.bool false) ∧ w'.cell? ⟨b1, 1, none⟩ = some (.int .i64 budget) ∧ w'.cell? ⟨b1, 2, none⟩ = some (.int .i64 I) ∧ w'.cell? ⟨b1, 3, none⟩ = some (.slice (some ad) m c))) (by as_aux_lemma => kernel_rfl) ?_ (fun hHeld0 => ?_)
  · first | exact HCS.out _ (bl_alloc HB4.out _) | exact HCS.out _ HB4.out | exact HCS.out _ (bl_alloc (bl_alloc (bl_drew (bl_refl _)) _) _) | exact HCS.out _ (bl_alloc (bl_drew (bl_refl _)) _) | exact HCS.out _ (bl_drew (bl_refl _))
  refine wpAnyH_take (i := 0) (v := ?_) rfl (by as_aux_lemma => kernel_rfl) (by as_aux_lemma => kernel_rfl) (by as_aux_lemma => kernel_rfl) (fun _ _ _ h => h) (Or.inl ⟨by rfl, ?_⟩) hHeld0 ?_
  rotate_left
  · intro w hSw
    (try dsimp only at hSw)
    go_simp
    try (first | (with_reducible rfl) | rfl)
  try simp only [List.getElem_toArray, List.getElem_cons_zero, List.getElem_cons_succ, Act.put, List.setIfInBounds_toArray, List.set_cons_zero, List.set_cons_succ]
  refine wpAnyH_take (i := 1) (v := ?_) rfl (by as_aux_lemma => kernel_rfl) (by as_aux_lemma => kernel_rfl) (by as_aux_lemma => kernel_rfl) (fun _ _ _ h => h) (Or.inl ⟨by rfl, ?_⟩) hHeld0 ?_
  rotate_left
  · intro w hSw
    (try dsimp only at hSw)
    go_simp
    try (first | (with_reducible rfl) | rfl)
  try simp only [List.getElem_toArray, List.getElem_cons_zero, List.getElem_cons_succ, Act.put, List.setIfInBounds_toArray, List.set_cons_zero, List.set_cons_succ]
  refine wpAnyH_take (i := 2) (v := ?_) rfl (by as_aux_lemma => kernel_rfl) (by as_aux_lemma => kernel_rfl) (by as_aux_lemma => kernel_rfl) (fun _ _ _ h => h) (Or.inl ⟨by rfl, ?_⟩) hHeld0 ?_
  rotate_left
  · intro w hSw
    (try dsimp only at hSw)
    go_simp
    try (first | (with_reducible rfl) | rfl)
  try simp only [List.getElem_toArray, List.getElem_cons_zero, List.getElem_cons_succ, Act.put, List.setIfInBounds_toArray, List.set_cons_zero, List.set_cons_succ]
  refine wpAnyH_take (i := 3) (v := ?_) rfl (by as_aux_lemma => kernel_rfl) (by as_aux_lemma => kernel_rfl) (by as_aux_lemma => kernel_rfl) (fun _ _ _ h => h) (Or.inl ⟨by rfl, ?_⟩) hHeld0 ?_
  rotate_left
  · intro w hSw
    (try dsimp only at hSw)
    go_simp
    try (first | (with_reducible rfl) | rfl)
  try simp only [List.getElem_toArray, List.getElem_cons_zero, List.getElem_cons_succ, Act.put, List.setIfInBounds_toArray, List.set_cons_zero, List.set_cons_succ]
  refine wpAnyH_take (i := 4) (v := ?_) rfl (by as_aux_lemma => kernel_rfl) (by as_aux_lemma => kernel_rfl) (by as_aux_lemma => kernel_rfl) (fun _ _ _ h => h) (Or.inl ⟨by rfl, ?_⟩) hHeld0 ?_
  rotate_left
  · intro w hSw
    (try dsimp only at hSw)
    go_simp
    try (first | (with_reducible rfl) | rfl)
  try simp only [List.getElem_toArray, List.getElem_cons_zero, List.getElem_cons_succ, Act.put, List.setIfInBounds_toArray, List.set_cons_zero, List.set_cons_succ]
  refine wpAnyH_take (i := 5) (v := ?_) rfl (by as_aux_lemma => kernel_rfl) (by as_aux_lemma => kernel_rfl) (by as_aux_lemma => kernel_rfl) (fun _ _ _ h => h) (Or.inl ⟨by rfl, ?_⟩) hHeld0 ?_
  rotate_left
  · intro w hSw
    (try dsimp only at hSw)
    go_simp
    try (first | (with_reducible rfl) | rfl)
  try simp only [List.getElem_toArray, List.getElem_cons_zero, List.getElem_cons_succ, Act.put, List.setIfInBounds_toArray, List.set_cons_zero, List.set_cons_succ]
  refine wpAnyH_take (i := 6) (v := ?_) rfl (by as_aux_lemma => kernel_rfl) (by as_aux_lemma => kernel_rfl) (by as_aux_lemma => kernel_rfl) (fun _ _ _ h => h) (Or.inl ⟨by rfl, ?_⟩) hHeld0 ?_
  rotate_left
  · intro w hSw
    (try dsimp only at hSw)
    go_simp
    try (first | (with_reducible rfl) | rfl)
  try simp only [List.getElem_toArray, List.getElem_cons_zero, List.getElem_cons_succ, Act.put, List.setIfInBounds_toArray, List.set_cons_zero, List.set_cons_succ]
  refine wpAnyH_take (i := 7) (v := ?_) rfl (by as_aux_lemma => kernel_rfl) (by as_aux_lemma => kernel_rfl) (by as_aux_lemma => kernel_rfl) (fun _ _ _ h => h) (Or.inl ⟨by rfl, ?_⟩) hHeld0 ?_
  rotate_left
  · intro w hSw
    (try dsimp only at hSw)
    go_simp
    try (first | (with_reducible rfl) | rfl)
  try simp only [List.getElem_toArray, List.getElem_cons_zero, List.getElem_cons_succ, Act.put, List.setIfInBounds_toArray, List.set_cons_zero, List.set_cons_succ]
  refine wpAnyH_take (i := 8) (v := ?_) rfl (by as_aux_lemma => kernel_rfl) (by as_aux_lemma => kernel_rfl) (by as_aux_lemma => kernel_rfl) (fun _ _ _ h => h) (Or.inl ⟨by rfl, ?_⟩) hHeld0 ?_
  rotate_left
  · intro w hSw
    (try dsimp only at hSw)
    go_simp
    try (first | (with_reducible rfl) | rfl)
  try simp only [List.getElem_toArray, List.getElem_cons_zero, List.getElem_cons_succ, Act.put, List.setIfInBounds_toArray, List.set_cons_zero, List.set_cons_succ]
  refine wpAnyH_take (i := 9) (v := ?_) rfl (by as_aux_lemma => kernel_rfl) (by as_aux_lemma => kernel_rfl) (by as_aux_lemma => kernel_rfl) (fun _ _ _ h => h) (Or.inl ⟨by rfl, ?_⟩) hHeld0 ?_
  rotate_left
  · intro w hSw
    (try dsimp only at hSw)
    go_simp
    try (first | (with_reducible rfl) | rfl)
  try simp only [List.getElem_toArray, List.getElem_cons_zero, List.getElem_cons_succ, Act.put, List.setIfInBounds_toArray, List.set_cons_zero, List.set_cons_succ]
  refine wpAnyH_take (i := 10) (v := ?_) rfl (by as_aux_lemma => kernel_rfl) (by as_aux_lemma => kernel_rfl) (by as_aux_lemma => kernel_rfl) (fun _ _ _ h => h) (Or.inl ⟨by rfl, ?_⟩) hHeld0 ?_
  rotate_left
  · intro w hSw
    (try dsimp only at hSw)
    go_simp
    try (first | (with_reducible rfl) | rfl)
  try simp only [List.getElem_toArray, List.getElem_cons_zero, List.getElem_cons_succ, Act.put, List.setIfInBounds_toArray, List.set_cons_zero, List.set_cons_succ]
  refine wpAnyH_take (i := 11) (v := ?_) rfl (by as_aux_lemma => kernel_rfl) (by as_aux_lemma => kernel_rfl) (by as_aux_lemma => kernel_rfl) (fun _ _ _ h => h) (Or.inl ⟨by rfl, ?_⟩) hHeld0 ?_
  rotate_left
  · intro w hSw
    (try dsimp only at hSw)
    go_simp
    try (first | (with_reducible rfl) | rfl)
  try simp only [List.getElem_toArray, List.getElem_cons_zero, List.getElem_cons_succ, Act.put, List.setIfInBounds_toArray, List.set_cons_zero, List.set_cons_succ]
  refine wpAnyH_take (i := 12) (v := ?_) rfl (by as_aux_lemma => kernel_rfl) (by as_aux_lemma => kernel_rfl) (by as_aux_lemma => kernel_rfl) (fun _ _ _ h => h) (Or.inl ⟨by rfl, ?_⟩) hHeld0 ?_
  rotate_left
  · intro w hSw
    (try dsimp only at hSw)
    go_simp
    try (first | (with_reducible rfl) | rfl)
  try simp only [List.getElem_toArray, List.getElem_cons_zero, List.getElem_cons_succ, Act.put, List.setIfInBounds_toArray, List.set_cons_zero, List.set_cons_succ]
  refine wpAnyH_take (i := 14) (v := ?_) rfl (by as_aux_lemma => kernel_rfl) (by as_aux_lemma => kernel_rfl) (by as_aux_lemma => kernel_rfl) (fun _ _ _ h => h) (Or.inl ⟨by rfl, ?_⟩) hHeld0 ?_
  rotate_left
  · intro w hSw
    (try dsimp only at hSw)
    go_simp
    try (first | (with_reducible rfl) | rfl)
  try simp only [List.getElem_toArray, List.getElem_cons_zero, List.getElem_cons_succ, Act.put, List.setIfInBounds_toArray, List.set_cons_zero, List.set_cons_succ]
  refine wpAnyH_take (i := 15) (v := ?_) rfl (by as_aux_lemma => kernel_rfl) (by as_aux_lemma => kernel_rfl) (by as_aux_lemma => kernel_rfl) (fun _ _ _ h => h) (Or.inl ⟨by rfl, ?_⟩) hHeld0 ?_
  rotate_left
  · intro w hSw
    (try dsimp only at hSw)
    go_simp
    try (first | (with_reducible rfl) | rfl)
  try simp only [List.getElem_toArray, List.getElem_cons_zero, List.getElem_cons_succ, Act.put, List.setIfInBounds_toArray, List.set_cons_zero, List.set_cons_succ]
  refine wpAnyH_ready (rs := [13]) (by as_aux_lemma => kernel_rfl) (by simp) ?_
  refine AllReadyH.cons rfl (fun K hK => ?_) ?_
  · go_simp
    refine hK.out _ _ ?_ (fun hHeld15_13 => ?_)
    · first | exact HCS.out _ (bl_alloc HB4.out _) | exact HCS.out _ HB4.out | exact HCS.out _ (bl_alloc (bl_alloc (bl_drew (bl_refl _)) _) _) | exact HCS.out _ (bl_alloc (bl_drew (bl_refl _)) _) | exact HCS.out _ (bl_drew (bl_refl _))
    clear hK K
    try simp only [List.getElem_toArray, List.getElem_cons_zero, List.getElem_cons_succ, Act.put, List.setIfInBounds_toArray, List.set_cons_zero, List.set_cons_succ]
    refine wpAnyH_ready (rs := [16]) (by as_aux_lemma => kernel_rfl) (by simp) ?_
    refine AllReadyH.cons rfl (fun K hK => ?_) ?_
    · (refine step_append_lies _ (by rfl) _ _ _ (by rfl) W.heap.size 23 i0 _ 1 4 Try.underlying33 hi0 hz0 hz1 hz2 rfl (by decide) (.slice (some ⟨W.heap.size, 0, none⟩) 0 0) 0 [] (by rfl) (by exact World.ownsRow_made _ #[] 0 (Nat.le_refl _) (Nat.zero_le _) rfl) ad m c (l.map u32V) (by rfl) (by simp [HN.out]) HCC.out (fun u hu => by obtain ⟨x, _, rfl⟩ := List.mem_map.1 hu; rfl) hm0 (by unfold maxLen; omega) (by omega) (by simp) _ rfl ?_); intro g cp w4 hown hgrow hat hlt; have HB4 := Lib.hid ((bl_alloc (bl_drew (bl_refl W)) _).grown hgrow (by simp) (fun k e => by cases e; exact Nat.le_refl _)); clear hown hgrow hat hlt
      refine hK.out _ _ ?_ (fun hHeld16_16 => ?_)
      · first | exact HCS.out _ (bl_alloc HB4.out _) | exact HCS.out _ HB4.out | exact HCS.out _ (bl_alloc (bl_alloc (bl_drew (bl_refl _)) _) _) | exact HCS.out _ (bl_alloc (bl_drew (bl_refl _)) _) | exact HCS.out _ (bl_drew (bl_refl _))
      clear hK K
      try simp only [List.getElem_toArray, List.getElem_cons_zero, List.getElem_cons_succ, Act.put, List.setIfInBounds_toArray, List.set_cons_zero, List.set_cons_succ]
      refine wpAnyH_take (i := 17) (v := ?_) rfl (by as_aux_lemma => kernel_rfl) (by as_aux_lemma => kernel_rfl) (by as_aux_lemma => kernel_rfl) (fun _ _ _ h => h) (Or.inl ⟨by rfl, ?_⟩) hHeld16_16 ?_
      rotate_left
      · intro w hSw
        (try dsimp only at hSw)
        go_simp
        try (first | (with_reducible rfl) | rfl)
      try simp only [List.getElem_toArray, List.getElem_cons_zero, List.getElem_cons_succ, Act.put, List.setIfInBounds_toArray, List.set_cons_zero, List.set_cons_succ]
      refine wpAnyH_ready (rs := [18]) (by as_aux_lemma => kernel_rfl) (by simp) ?_
      refine AllReadyH.cons rfl (fun K hK => ?_) ?_
      · go_simp
        refine hK.out _ _ ?_ (fun hHeld18_18 => ?_)
        · first | exact HCS.out _ (bl_alloc HB4.out _) | exact HCS.out _ HB4.out | exact HCS.out _ (bl_alloc (bl_alloc (bl_drew (bl_refl _)) _) _) | exact HCS.out _ (bl_alloc (bl_drew (bl_refl _)) _) | exact HCS.out _ (bl_drew (bl_refl _))
        clear hK K
        try simp only [List.getElem_toArray, List.getElem_cons_zero, List.getElem_cons_succ, Act.put, List.setIfInBounds_toArray, List.set_cons_zero, List.set_cons_succ]
        refine wpAnyH_take (i := 19) (v := ?_) rfl (by as_aux_lemma => kernel_rfl) (by as_aux_lemma => kernel_rfl) (by as_aux_lemma => kernel_rfl) (fun _ _ _ h => h) (Or.inl ⟨by rfl, ?_⟩) hHeld18_18 ?_
        rotate_left
        · intro w hSw
          (try dsimp only at hSw)
          go_simp
          try (first | (with_reducible rfl) | rfl)
        try simp only [List.getElem_toArray, List.getElem_cons_zero, List.getElem_cons_succ, Act.put, List.setIfInBounds_toArray, List.set_cons_zero, List.set_cons_succ]
        refine wpAnyH_done (by as_aux_lemma => kernel_rfl) ?_ _
        have h4 := H.out.below HB4.out
        clear q0 q1 q2 q3 j0 j1 j2 j3 lt0 lt1 lt2
        obtain ⟨q0, q1, q2, q3⟩ := cells4j (h4.cells 2 rfl)
        obtain ⟨j0, j1, j2, j3⟩ := cells4j (h4.cells 1 rfl)
        have lt0 := lt_of_heap (h4.cells 2 rfl)
        have lt1 := lt_of_heap (h4.cells 1 rfl)
        have lt2 := lt_of_heap (h4.cells 0 rfl)
        clear h4
        go_wp2_with (go_at_call 70; refine (atake_new n s h t budget (some ad) m c l (H.out.below (bl_alloc HB4.out _)) (HR.out.kept (bl_alloc HB4.out _)) HN.out hm).mono ?_; rintro e w6 ⟨p, rfl, h⟩; (have H7 := Lib.hid h); clear h q0 q1 q2 q3 j0 j1 j2 j3 lt0 lt1 lt2; (have hp2 := H7.out.cells 1 rfl); obtain ⟨k0, k1, k2⟩ := cells3a hp2; (have f0 := free_of hp2 0); (have f1 := free_of hp2 1); (have f2 := free_of hp2 2); (have lp := lt_of_heap hp2); clear hp2)
        have h9 := ((H7.out.setAt 1 rfl 0 (.pointer (some ⟨p, 0, none⟩))).setAt 1 rfl 1 (.pointer none)).setAt 1 rfl 2 (.pointer (some ⟨w4.heap.size, 0, none⟩))
        generalize ((w6.setCell ⟨b2, 0, none⟩ (.pointer (some ⟨p, 0, none⟩))).setCell ⟨b2, 1, none⟩ (.pointer none)).setCell ⟨b2, 2, none⟩ (.pointer (some ⟨w4.heap.size, 0, none⟩)) = W9 at *
        have H9 := Lib.hid h9
        clear k0 k1 k2
        obtain ⟨k0, k1, k2⟩ := cells3a (h9.cells 1 rfl)
        clear h9
        refine bodyPost_ret (by simp [results, Try.results43, go_sem, k0, k1, k2]; try rfl) rfl ?_
        exact ⟨p, _, rfl, (show St w0 (arA p (newAT n s h t budget l) :: boxA b2 _ _ :: boxA b1 _ _ :: boxA b0 _ _ :: L) _ from H9.out).re 4 [0]⟩
      exact AllReadyH.nil
    exact AllReadyH.nil
  exact AllReadyH.nil
set_option maxRecDepth 100000 in
set_option maxHeartbeats 8000000 in
theorem made8_gz {w0 w : World} {L : List Asn} (n s h t budget I i : Int) (A : Option Addr) (c : Nat) (l : List Int) (hS : St w0 L w) (hr : Rd32 w A l) (hn : l.length = 0) (hi : I % 4294967296 = i) :
    Calls Try.prog 43 #[.agg #[.int .i64 n, .int .i64 s, .int .i64 h, .int .u32 t], .agg #[.bool true, .int .i64 budget, .int .i64 I, .slice A 0 c]] w fun e w' => ∃ p rb, e = .returned (.agg #[.pointer none, .pointer (some ⟨p, 0, none⟩), .pointer (some rb)]) ∧ St w0 (arA p (newAG n s h t budget l i) :: L) w' := by
  have hi0 : 0 ≤ i := by omega
  have hi1 : i < 4294967296 := by omega
  have hW : IntKind.u32.wrap I = i := by rw [IntKind.wrap_u32]; exact hi
  obtain ⟨i0, hi0, hz0, hz1, hz2⟩ := info_parts info32
  have h1 := ((hS.alloc #[.int .i64 n, .int .i64 s, .int .i64 h, .int .u32 t] 26).alloc #[.bool true, .int .i64 budget, .int .i64 I, .slice A 0 c] 87).alloc #[.pointer none, .pointer none, .pointer none] 84
  have hb3 : Below w.heap.size w (((w.alloc (.cells #[.int .i64 n, .int .i64 s, .int .i64 h, .int .u32 t] 26)).alloc (.cells #[.bool true, .int .i64 budget, .int .i64 I, .slice A 0 c] 87)).alloc (.cells #[.pointer none, .pointer none, .pointer none] 84)) := bl_alloc (bl_alloc (bl_alloc (bl_refl _) _) _) _
  have hr3 := hr.kept hb3
  have HN := Lib.hid hn
  clear hS hr hn hb3
  go_enter Try.func43, Try.ntmps43
  go_wp2
  simp only [World.size_alloc] at h1 ⊢
  obtain ⟨b0, hb0⟩ : ∃ b0, w.heap.size = b0 := ⟨_, rfl⟩
  obtain ⟨b1, hb1⟩ : ∃ b1, b0 + 1 = b1 := ⟨_, rfl⟩
  obtain ⟨b2, hb2⟩ : ∃ b2, b1 + 1 = b2 := ⟨_, rfl⟩
  simp only [hb0, hb1, hb2] at h1 ⊢
  generalize ((w.alloc (.cells #[.int .i64 n, .int .i64 s, .int .i64 h, .int .u32 t] 26)).alloc (.cells #[.bool true, .int .i64 budget, .int .i64 I, .slice A 0 c] 87)).alloc (.cells #[.pointer none, .pointer none, .pointer none] 84) = W at *
  have H := Lib.hid h1
  have HR := Lib.hid hr3
  obtain ⟨q0, q1, q2, q3⟩ := cells4j (h1.cells 2 rfl)
  obtain ⟨j0, j1, j2, j3⟩ := cells4j (h1.cells 1 rfl)
  have lt0 := lt_of_heap (h1.cells 2 rfl)
  have lt1 := lt_of_heap (h1.cells 1 rfl)
  have lt2 := lt_of_heap (h1.cells 0 rfl)
  clear h1 hr3
  have HCS : Hid (∀ w', Below W.heap.size W w' → w'.cell? ⟨b0, 0, none⟩ = some (.int .i64 n) ∧ w'.cell? ⟨b0, 1, none⟩ = some (.int .i64 s) ∧ w'.cell? ⟨b0, 2, none⟩ = some (.int .i64 h) ∧ w'.cell? ⟨b0, 3, none⟩ = some (.int .u32 t) ∧ w'.cell? ⟨b1, 0, none⟩ = some (.bool true) ∧ w'.cell? ⟨b1, 1, none⟩ = some (.int .i64 budget) ∧ w'.cell? ⟨b1, 2, none⟩ = some (.int .i64 I) ∧ w'.cell? ⟨b1, 3, none⟩ = some (.slice A 0 c)) := Lib.hid fun w' hb => by
    have h5 := H.out.below hb
    obtain ⟨a0, a1, a2, a3⟩ := cells4j (h5.cells 2 rfl)
    obtain ⟨d0, d1, d2, d3⟩ := cells4j (h5.cells 1 rfl)
    exact ⟨a0, a1, a2, a3, d0, d1, d2, d3⟩
  refine wp_region_held_drew (S := (fun w' => w'.cell? ⟨b0, 0, none⟩ = some (.int .i64 n) ∧ w'.cell? ⟨b0, 1, none⟩ = some (.int .i64 s) ∧ w'.cell? ⟨b0, 2, none⟩ = some (.int .i64 h) ∧ w'.cell? ⟨b0, 3, none⟩ = some (.int .u32 t) ∧ w'.cell? ⟨b1, 0, none⟩ = some (.bool true) ∧ w'.cell? ⟨b1, 1, none⟩ = some (.int .i64 budget) ∧ w'.cell? ⟨b1, 2, none⟩ = some (.int .i64 I) ∧ w'.cell? ⟨b1, 3, none⟩ = some (.slice A 0 c))) (by as_aux_lemma => kernel_rfl) ?_ (fun hHeld0 => ?_)
  · first | exact HCS.out _ (bl_alloc HB4.out _) | exact HCS.out _ HB4.out | exact HCS.out _ (bl_alloc (bl_alloc (bl_drew (bl_refl _)) _) _) | exact HCS.out _ (bl_alloc (bl_drew (bl_refl _)) _) | exact HCS.out _ (bl_drew (bl_refl _))
  refine wpAnyH_take (i := 0) (v := ?_) rfl (by as_aux_lemma => kernel_rfl) (by as_aux_lemma => kernel_rfl) (by as_aux_lemma => kernel_rfl) (fun _ _ _ h => h) (Or.inl ⟨by rfl, ?_⟩) hHeld0 ?_
  rotate_left
  · intro w hSw
    (try dsimp only at hSw)
    go_simp
    try (first | (with_reducible rfl) | rfl)
  try simp only [List.getElem_toArray, List.getElem_cons_zero, List.getElem_cons_succ, Act.put, List.setIfInBounds_toArray, List.set_cons_zero, List.set_cons_succ]
  refine wpAnyH_take (i := 1) (v := ?_) rfl (by as_aux_lemma => kernel_rfl) (by as_aux_lemma => kernel_rfl) (by as_aux_lemma => kernel_rfl) (fun _ _ _ h => h) (Or.inl ⟨by rfl, ?_⟩) hHeld0 ?_
  rotate_left
  · intro w hSw
    (try dsimp only at hSw)
    go_simp
    try (first | (with_reducible rfl) | rfl)
  try simp only [List.getElem_toArray, List.getElem_cons_zero, List.getElem_cons_succ, Act.put, List.setIfInBounds_toArray, List.set_cons_zero, List.set_cons_succ]
  refine wpAnyH_take (i := 2) (v := ?_) rfl (by as_aux_lemma => kernel_rfl) (by as_aux_lemma => kernel_rfl) (by as_aux_lemma => kernel_rfl) (fun _ _ _ h => h) (Or.inl ⟨by rfl, ?_⟩) hHeld0 ?_
  rotate_left
  · intro w hSw
    (try dsimp only at hSw)
    go_simp
    try (first | (with_reducible rfl) | rfl)
  try simp only [List.getElem_toArray, List.getElem_cons_zero, List.getElem_cons_succ, Act.put, List.setIfInBounds_toArray, List.set_cons_zero, List.set_cons_succ]
  refine wpAnyH_take (i := 3) (v := ?_) rfl (by as_aux_lemma => kernel_rfl) (by as_aux_lemma => kernel_rfl) (by as_aux_lemma => kernel_rfl) (fun _ _ _ h => h) (Or.inl ⟨by rfl, ?_⟩) hHeld0 ?_
  rotate_left
  · intro w hSw
    (try dsimp only at hSw)
    go_simp
    try (first | (with_reducible rfl) | rfl)
  try simp only [List.getElem_toArray, List.getElem_cons_zero, List.getElem_cons_succ, Act.put, List.setIfInBounds_toArray, List.set_cons_zero, List.set_cons_succ]
  refine wpAnyH_take (i := 4) (v := ?_) rfl (by as_aux_lemma => kernel_rfl) (by as_aux_lemma => kernel_rfl) (by as_aux_lemma => kernel_rfl) (fun _ _ _ h => h) (Or.inl ⟨by rfl, ?_⟩) hHeld0 ?_
  rotate_left
  · intro w hSw
    (try dsimp only at hSw)
    go_simp
    try (first | (with_reducible rfl) | rfl)
  try simp only [List.getElem_toArray, List.getElem_cons_zero, List.getElem_cons_succ, Act.put, List.setIfInBounds_toArray, List.set_cons_zero, List.set_cons_succ]
  refine wpAnyH_take (i := 5) (v := ?_) rfl (by as_aux_lemma => kernel_rfl) (by as_aux_lemma => kernel_rfl) (by as_aux_lemma => kernel_rfl) (fun _ _ _ h => h) (Or.inl ⟨by rfl, ?_⟩) hHeld0 ?_
  rotate_left
  · intro w hSw
    (try dsimp only at hSw)
    go_simp
    try (first | (with_reducible rfl) | rfl)
  try simp only [List.getElem_toArray, List.getElem_cons_zero, List.getElem_cons_succ, Act.put, List.setIfInBounds_toArray, List.set_cons_zero, List.set_cons_succ]
  refine wpAnyH_take (i := 6) (v := ?_) rfl (by as_aux_lemma => kernel_rfl) (by as_aux_lemma => kernel_rfl) (by as_aux_lemma => kernel_rfl) (fun _ _ _ h => h) (Or.inl ⟨by rfl, ?_⟩) hHeld0 ?_
  rotate_left
  · intro w hSw
    (try dsimp only at hSw)
    go_simp
    try (first | (with_reducible rfl) | rfl)
  try simp only [List.getElem_toArray, List.getElem_cons_zero, List.getElem_cons_succ, Act.put, List.setIfInBounds_toArray, List.set_cons_zero, List.set_cons_succ]
  refine wpAnyH_take (i := 7) (v := ?_) rfl (by as_aux_lemma => kernel_rfl) (by as_aux_lemma => kernel_rfl) (by as_aux_lemma => kernel_rfl) (fun _ _ _ h => h) (Or.inl ⟨by rfl, ?_⟩) hHeld0 ?_
  rotate_left
  · intro w hSw
    (try dsimp only at hSw)
    go_simp
    try (first | (with_reducible rfl) | rfl)
  try simp only [List.getElem_toArray, List.getElem_cons_zero, List.getElem_cons_succ, Act.put, List.setIfInBounds_toArray, List.set_cons_zero, List.set_cons_succ]
  refine wpAnyH_take (i := 8) (v := ?_) rfl (by as_aux_lemma => kernel_rfl) (by as_aux_lemma => kernel_rfl) (by as_aux_lemma => kernel_rfl) (fun _ _ _ h => h) (Or.inl ⟨by rfl, ?_⟩) hHeld0 ?_
  rotate_left
  · intro w hSw
    (try dsimp only at hSw)
    go_simp
    try (first | (with_reducible rfl) | rfl)
  try simp only [List.getElem_toArray, List.getElem_cons_zero, List.getElem_cons_succ, Act.put, List.setIfInBounds_toArray, List.set_cons_zero, List.set_cons_succ]
  refine wpAnyH_take (i := 9) (v := ?_) rfl (by as_aux_lemma => kernel_rfl) (by as_aux_lemma => kernel_rfl) (by as_aux_lemma => kernel_rfl) (fun _ _ _ h => h) (Or.inl ⟨by rfl, ?_⟩) hHeld0 ?_
  rotate_left
  · intro w hSw
    (try dsimp only at hSw)
    go_simp
    try (first | (with_reducible rfl) | rfl)
  try simp only [List.getElem_toArray, List.getElem_cons_zero, List.getElem_cons_succ, Act.put, List.setIfInBounds_toArray, List.set_cons_zero, List.set_cons_succ]
  refine wpAnyH_take (i := 10) (v := ?_) rfl (by as_aux_lemma => kernel_rfl) (by as_aux_lemma => kernel_rfl) (by as_aux_lemma => kernel_rfl) (fun _ _ _ h => h) (Or.inl ⟨by rfl, ?_⟩) hHeld0 ?_
  rotate_left
  · intro w hSw
    (try dsimp only at hSw)
    go_simp
    try (first | (with_reducible rfl) | rfl)
  try simp only [List.getElem_toArray, List.getElem_cons_zero, List.getElem_cons_succ, Act.put, List.setIfInBounds_toArray, List.set_cons_zero, List.set_cons_succ]
  refine wpAnyH_take (i := 11) (v := ?_) rfl (by as_aux_lemma => kernel_rfl) (by as_aux_lemma => kernel_rfl) (by as_aux_lemma => kernel_rfl) (fun _ _ _ h => h) (Or.inl ⟨by rfl, ?_⟩) hHeld0 ?_
  rotate_left
  · intro w hSw
    (try dsimp only at hSw)
    go_simp
    try (first | (with_reducible rfl) | rfl)
  try simp only [List.getElem_toArray, List.getElem_cons_zero, List.getElem_cons_succ, Act.put, List.setIfInBounds_toArray, List.set_cons_zero, List.set_cons_succ]
  refine wpAnyH_take (i := 12) (v := ?_) rfl (by as_aux_lemma => kernel_rfl) (by as_aux_lemma => kernel_rfl) (by as_aux_lemma => kernel_rfl) (fun _ _ _ h => h) (Or.inl ⟨by rfl, ?_⟩) hHeld0 ?_
  rotate_left
  · intro w hSw
    (try dsimp only at hSw)
    go_simp
    try (first | (with_reducible rfl) | rfl)
  try simp only [List.getElem_toArray, List.getElem_cons_zero, List.getElem_cons_succ, Act.put, List.setIfInBounds_toArray, List.set_cons_zero, List.set_cons_succ]
  refine wpAnyH_take (i := 14) (v := ?_) rfl (by as_aux_lemma => kernel_rfl) (by as_aux_lemma => kernel_rfl) (by as_aux_lemma => kernel_rfl) (fun _ _ _ h => h) (Or.inl ⟨by rfl, ?_⟩) hHeld0 ?_
  rotate_left
  · intro w hSw
    (try dsimp only at hSw)
    go_simp
    try (first | (with_reducible rfl) | rfl)
  try simp only [List.getElem_toArray, List.getElem_cons_zero, List.getElem_cons_succ, Act.put, List.setIfInBounds_toArray, List.set_cons_zero, List.set_cons_succ]
  refine wpAnyH_take (i := 15) (v := ?_) rfl (by as_aux_lemma => kernel_rfl) (by as_aux_lemma => kernel_rfl) (by as_aux_lemma => kernel_rfl) (fun _ _ _ h => h) (Or.inl ⟨by rfl, ?_⟩) hHeld0 ?_
  rotate_left
  · intro w hSw
    (try dsimp only at hSw)
    go_simp
    try (first | (with_reducible rfl) | rfl)
  try simp only [List.getElem_toArray, List.getElem_cons_zero, List.getElem_cons_succ, Act.put, List.setIfInBounds_toArray, List.set_cons_zero, List.set_cons_succ]
  refine wpAnyH_ready (rs := [13]) (by as_aux_lemma => kernel_rfl) (by simp) ?_
  refine AllReadyH.cons rfl (fun K hK => ?_) ?_
  · go_simp
    refine hK.out _ _ ?_ (fun hHeld15_13 => ?_)
    · first | exact HCS.out _ (bl_alloc HB4.out _) | exact HCS.out _ HB4.out | exact HCS.out _ (bl_alloc (bl_alloc (bl_drew (bl_refl _)) _) _) | exact HCS.out _ (bl_alloc (bl_drew (bl_refl _)) _) | exact HCS.out _ (bl_drew (bl_refl _))
    clear hK K
    try simp only [List.getElem_toArray, List.getElem_cons_zero, List.getElem_cons_succ, Act.put, List.setIfInBounds_toArray, List.set_cons_zero, List.set_cons_succ]
    refine wpAnyH_ready (rs := [16]) (by as_aux_lemma => kernel_rfl) (by simp) ?_
    refine AllReadyH.cons rfl (fun K hK => ?_) ?_
    · refine step_append_zero (by rfl) _ _ _ (by rfl) 23 i0 Try.underlying33 hi0 _ A c (by rfl) (by rfl) ?_
      refine hK.out _ _ ?_ (fun hHeld16_16 => ?_)
      · first | exact HCS.out _ (bl_alloc HB4.out _) | exact HCS.out _ HB4.out | exact HCS.out _ (bl_alloc (bl_alloc (bl_drew (bl_refl _)) _) _) | exact HCS.out _ (bl_alloc (bl_drew (bl_refl _)) _) | exact HCS.out _ (bl_drew (bl_refl _))
      clear hK K
      try simp only [List.getElem_toArray, List.getElem_cons_zero, List.getElem_cons_succ, Act.put, List.setIfInBounds_toArray, List.set_cons_zero, List.set_cons_succ]
      refine wpAnyH_take (i := 17) (v := ?_) rfl (by as_aux_lemma => kernel_rfl) (by as_aux_lemma => kernel_rfl) (by as_aux_lemma => kernel_rfl) (fun _ _ _ h => h) (Or.inl ⟨by rfl, ?_⟩) hHeld16_16 ?_
      rotate_left
      · intro w hSw
        (try dsimp only at hSw)
        go_simp
        try (first | (with_reducible rfl) | rfl)
      try simp only [List.getElem_toArray, List.getElem_cons_zero, List.getElem_cons_succ, Act.put, List.setIfInBounds_toArray, List.set_cons_zero, List.set_cons_succ]
      refine wpAnyH_ready (rs := [18]) (by as_aux_lemma => kernel_rfl) (by simp) ?_
      refine AllReadyH.cons rfl (fun K hK => ?_) ?_
      · go_simp
        refine hK.out _ _ ?_ (fun hHeld18_18 => ?_)
        · first | exact HCS.out _ (bl_alloc HB4.out _) | exact HCS.out _ HB4.out | exact HCS.out _ (bl_alloc (bl_alloc (bl_drew (bl_refl _)) _) _) | exact HCS.out _ (bl_alloc (bl_drew (bl_refl _)) _) | exact HCS.out _ (bl_drew (bl_refl _))
        clear hK K
        try simp only [List.getElem_toArray, List.getElem_cons_zero, List.getElem_cons_succ, Act.put, List.setIfInBounds_toArray, List.set_cons_zero, List.set_cons_succ]
        refine wpAnyH_take (i := 19) (v := ?_) rfl (by as_aux_lemma => kernel_rfl) (by as_aux_lemma => kernel_rfl) (by as_aux_lemma => kernel_rfl) (fun _ _ _ h => h) (Or.inl ⟨by rfl, ?_⟩) hHeld18_18 ?_
        rotate_left
        · intro w hSw
          (try dsimp only at hSw)
          go_simp
          try (first | (with_reducible rfl) | rfl)
        try simp only [List.getElem_toArray, List.getElem_cons_zero, List.getElem_cons_succ, Act.put, List.setIfInBounds_toArray, List.set_cons_zero, List.set_cons_succ]
        refine wpAnyH_done (by as_aux_lemma => kernel_rfl) ?_ _
        go_wp2_with (go_at_call 73; refine (agive_new n s h t budget i A 0 c l (H.out.below (bl_drew (bl_alloc (bl_alloc (bl_refl W) _) _))) (HR.out.kept (bl_drew (bl_alloc (bl_alloc (bl_refl W) _) _))) HN.out (by decide)).mono ?_; rintro e w6 ⟨p, rfl, h⟩; (have H7 := Lib.hid h); clear h q0 q1 q2 q3 j0 j1 j2 j3 lt0 lt1 lt2; (have hp2 := H7.out.cells 1 rfl); obtain ⟨k0, k1, k2⟩ := cells3a hp2; (have f0 := free_of hp2 0); (have f1 := free_of hp2 1); (have f2 := free_of hp2 2); (have lp := lt_of_heap hp2); clear hp2)
        have h9 := ((H7.out.setAt 1 rfl 0 (.pointer none)).setAt 1 rfl 1 (.pointer (some ⟨p, 0, none⟩))).setAt 1 rfl 2 (.pointer (some ⟨W.heap.size + 1, 0, none⟩))
        generalize ((w6.setCell ⟨b2, 0, none⟩ (.pointer none)).setCell ⟨b2, 1, none⟩ (.pointer (some ⟨p, 0, none⟩))).setCell ⟨b2, 2, none⟩ (.pointer (some ⟨W.heap.size + 1, 0, none⟩)) = W9 at *
        have H9 := Lib.hid h9
        clear k0 k1 k2
        obtain ⟨k0, k1, k2⟩ := cells3a (h9.cells 1 rfl)
        clear h9
        refine bodyPost_ret (by simp [results, Try.results43, go_sem, k0, k1, k2]; try rfl) rfl ?_
        exact ⟨p, _, rfl, (show St w0 (arA p (newAG n s h t budget l i) :: boxA b2 _ _ :: boxA b1 _ _ :: boxA b0 _ _ :: L) _ from H9.out).re 4 [0]⟩
      exact AllReadyH.nil
    exact AllReadyH.nil
  exact AllReadyH.nil
set_option maxRecDepth 100000 in
set_option maxHeartbeats 8000000 in
theorem made8_g {w0 w : World} {L : List Asn} (n s h t budget I i : Int) (A : Option Addr) (m c : Nat) (l : List Int) (hS : St w0 L w) (hr : Rd32 w A l) (hn : l.length = m) (hm0 : 0 < m) (hm : m ≤ 1000000000000) (hi : I % 4294967296 = i) :
    Calls Try.prog 43 #[.agg #[.int .i64 n, .int .i64 s, .int .i64 h, .int .u32 t], .agg #[.bool true, .int .i64 budget, .int .i64 I, .slice A m c]] w fun e w' => ∃ p rb, e = .returned (.agg #[.pointer none, .pointer (some ⟨p, 0, none⟩), .pointer (some rb)]) ∧ St w0 (arA p (newAG n s h t budget l i) :: L) w' := by
  have hi0 : 0 ≤ i := by omega
  have hi1 : i < 4294967296 := by omega
  have hW : IntKind.u32.wrap I = i := by rw [IntKind.wrap_u32]; exact hi
  obtain ⟨i0, hi0, hz0, hz1, hz2⟩ := info_parts info32
  have h1 := ((hS.alloc #[.int .i64 n, .int .i64 s, .int .i64 h, .int .u32 t] 26).alloc #[.bool true, .int .i64 budget, .int .i64 I, .slice A m c] 87).alloc #[.pointer none, .pointer none, .pointer none] 84
  have hb3 : Below w.heap.size w (((w.alloc (.cells #[.int .i64 n, .int .i64 s, .int .i64 h, .int .u32 t] 26)).alloc (.cells #[.bool true, .int .i64 budget, .int .i64 I, .slice A m c] 87)).alloc (.cells #[.pointer none, .pointer none, .pointer none] 84)) := bl_alloc (bl_alloc (bl_alloc (bl_refl _) _) _) _
  have hr3 := hr.kept hb3
  have HN := Lib.hid hn
  clear hS hr hn hb3
  go_enter Try.func43, Try.ntmps43
  go_wp2
  simp only [World.size_alloc] at h1 ⊢
  obtain ⟨b0, hb0⟩ : ∃ b0, w.heap.size = b0 := ⟨_, rfl⟩
  obtain ⟨b1, hb1⟩ : ∃ b1, b0 + 1 = b1 := ⟨_, rfl⟩
  obtain ⟨b2, hb2⟩ : ∃ b2, b1 + 1 = b2 := ⟨_, rfl⟩
  simp only [hb0, hb1, hb2] at h1 ⊢
  generalize ((w.alloc (.cells #[.int .i64 n, .int .i64 s, .int .i64 h, .int .u32 t] 26)).alloc (.cells #[.bool true, .int .i64 budget, .int .i64 I, .slice A m c] 87)).alloc (.cells #[.pointer none, .pointer none, .pointer none] 84) = W at *
  have H := Lib.hid h1
  have HR := Lib.hid hr3
  obtain ⟨q0, q1, q2, q3⟩ := cells4j (h1.cells 2 rfl)
  obtain ⟨j0, j1, j2, j3⟩ := cells4j (h1.cells 1 rfl)
  have lt0 := lt_of_heap (h1.cells 2 rfl)
  have lt1 := lt_of_heap (h1.cells 1 rfl)
  have lt2 := lt_of_heap (h1.cells 0 rfl)
  clear h1 hr3
  obtain ⟨ad, rfl, hcc⟩ := HR.out.2 (by rw [HN.out]; exact hm0)
  have HCC : Hid (∀ j u, (l.map u32V)[j]? = some u → (W.drew.alloc (.cells #[] 23)).cell? (ad.add j) = some u) := Lib.hid fun j u hu => by
    have h2 := hcc j u hu
    exact ((bl_alloc (bl_drew (bl_refl W)) _).cell (World.block_lt_of_cell? _ _ h2)).trans h2
  clear hcc
  have HCS : Hid (∀ w', Below W.heap.size W w' → w'.cell? ⟨b0, 0, none⟩ = some (.int .i64 n) ∧ w'.cell? ⟨b0, 1, none⟩ = some (.int .i64 s) ∧ w'.cell? ⟨b0, 2, none⟩ = some (.int .i64 h) ∧ w'.cell? ⟨b0, 3, none⟩ = some (.int .u32 t) ∧ w'.cell? ⟨b1, 0, none⟩ = some (.bool true) ∧ w'.cell? ⟨b1, 1, none⟩ = some (.int .i64 budget) ∧ w'.cell? ⟨b1, 2, none⟩ = some (.int .i64 I) ∧ w'.cell? ⟨b1, 3, none⟩ = some (.slice (some ad) m c)) := Lib.hid fun w' hb => by
    have h5 := H.out.below hb
    obtain ⟨a0, a1, a2, a3⟩ := cells4j (h5.cells 2 rfl)
    obtain ⟨d0, d1, d2, d3⟩ := cells4j (h5.cells 1 rfl)
    exact ⟨a0, a1, a2, a3, d0, d1, d2, d3⟩
  refine wp_region_held_drew (S := (fun w' => w'.cell? ⟨b0, 0, none⟩ = some (.int .i64 n) ∧ w'.cell? ⟨b0, 1, none⟩ = some (.int .i64 s) ∧ w'.cell? ⟨b0, 2, none⟩ = some (.int .i64 h) ∧ w'.cell? ⟨b0, 3, none⟩ = some (.int .u32 t) ∧ w'.cell? ⟨b1, 0, none⟩ = some (.bool true) ∧ w'.cell? ⟨b1, 1, none⟩ = some (.int .i64 budget) ∧ w'.cell? ⟨b1, 2, none⟩ = some (.int .i64 I) ∧ w'.cell? ⟨b1, 3, none⟩ = some (.slice (some ad) m c))) (by as_aux_lemma => kernel_rfl) ?_ (fun hHeld0 => ?_)
  · first | exact HCS.out _ (bl_alloc HB4.out _) | exact HCS.out _ HB4.out | exact HCS.out _ (bl_alloc (bl_alloc (bl_drew (bl_refl _)) _) _) | exact HCS.out _ (bl_alloc (bl_drew (bl_refl _)) _) | exact HCS.out _ (bl_drew (bl_refl _))
  refine wpAnyH_take (i := 0) (v := ?_) rfl (by as_aux_lemma => kernel_rfl) (by as_aux_lemma => kernel_rfl) (by as_aux_lemma => kernel_rfl) (fun _ _ _ h => h) (Or.inl ⟨by rfl, ?_⟩) hHeld0 ?_
  rotate_left
  · intro w hSw
    (try dsimp only at hSw)
    go_simp
    try (first | (with_reducible rfl) | rfl)
  try simp only [List.getElem_toArray, List.getElem_cons_zero, List.getElem_cons_succ, Act.put, List.setIfInBounds_toArray, List.set_cons_zero, List.set_cons_succ]
  refine wpAnyH_take (i := 1) (v := ?_) rfl (by as_aux_lemma => kernel_rfl) (by as_aux_lemma => kernel_rfl) (by as_aux_lemma => kernel_rfl) (fun _ _ _ h => h) (Or.inl ⟨by rfl, ?_⟩) hHeld0 ?_
  rotate_left
  · intro w hSw
    (try dsimp only at hSw)
    go_simp
    try (first | (with_reducible rfl) | rfl)
  try simp only [List.getElem_toArray, List.getElem_cons_zero, List.getElem_cons_succ, Act.put, List.setIfInBounds_toArray, List.set_cons_zero, List.set_cons_succ]
  refine wpAnyH_take (i := 2) (v := ?_) rfl (by as_aux_lemma => kernel_rfl) (by as_aux_lemma => kernel_rfl) (by as_aux_lemma => kernel_rfl) (fun _ _ _ h => h) (Or.inl ⟨by rfl, ?_⟩) hHeld0 ?_
  rotate_left
  · intro w hSw
    (try dsimp only at hSw)
    go_simp
    try (first | (with_reducible rfl) | rfl)
  try simp only [List.getElem_toArray, List.getElem_cons_zero, List.getElem_cons_succ, Act.put, List.setIfInBounds_toArray, List.set_cons_zero, List.set_cons_succ]
  refine wpAnyH_take (i := 3) (v := ?_) rfl (by as_aux_lemma => kernel_rfl) (by as_aux_lemma => kernel_rfl) (by as_aux_lemma => kernel_rfl) (fun _ _ _ h => h) (Or.inl ⟨by rfl, ?_⟩) hHeld0 ?_
  rotate_left
  · intro w hSw
    (try dsimp only at hSw)
    go_simp
    try (first | (with_reducible rfl) | rfl)
  try simp only [List.getElem_toArray, List.getElem_cons_zero, List.getElem_cons_succ, Act.put, List.setIfInBounds_toArray, List.set_cons_zero, List.set_cons_succ]
  refine wpAnyH_take (i := 4) (v := ?_) rfl (by as_aux_lemma => kernel_rfl) (by as_aux_lemma => kernel_rfl) (by as_aux_lemma => kernel_rfl) (fun _ _ _ h => h) (Or.inl ⟨by rfl, ?_⟩) hHeld0 ?_
  rotate_left
  · intro w hSw
    (try dsimp only at hSw)
    go_simp
    try (first | (with_reducible rfl) | rfl)
  try simp only [List.getElem_toArray, List.getElem_cons_zero, List.getElem_cons_succ, Act.put, List.setIfInBounds_toArray, List.set_cons_zero, List.set_cons_succ]
  refine wpAnyH_take (i := 5) (v := ?_) rfl (by as_aux_lemma => kernel_rfl) (by as_aux_lemma => kernel_rfl) (by as_aux_lemma => kernel_rfl) (fun _ _ _ h => h) (Or.inl ⟨by rfl, ?_⟩) hHeld0 ?_
  rotate_left
  · intro w hSw
    (try dsimp only at hSw)
    go_simp
    try (first | (with_reducible rfl) | rfl)
  try simp only [List.getElem_toArray, List.getElem_cons_zero, List.getElem_cons_succ, Act.put, List.setIfInBounds_toArray, List.set_cons_zero, List.set_cons_succ]
  refine wpAnyH_take (i := 6) (v := ?_) rfl (by as_aux_lemma => kernel_rfl) (by as_aux_lemma => kernel_rfl) (by as_aux_lemma => kernel_rfl) (fun _ _ _ h => h) (Or.inl ⟨by rfl, ?_⟩) hHeld0 ?_
  rotate_left
  · intro w hSw
    (try dsimp only at hSw)
    go_simp
    try (first | (with_reducible rfl) | rfl)
  try simp only [List.getElem_toArray, List.getElem_cons_zero, List.getElem_cons_succ, Act.put, List.setIfInBounds_toArray, List.set_cons_zero, List.set_cons_succ]
  refine wpAnyH_take (i := 7) (v := ?_) rfl (by as_aux_lemma => kernel_rfl) (by as_aux_lemma => kernel_rfl) (by as_aux_lemma => kernel_rfl) (fun _ _ _ h => h) (Or.inl ⟨by rfl, ?_⟩) hHeld0 ?_
  rotate_left
  · intro w hSw
    (try dsimp only at hSw)
    go_simp
    try (first | (with_reducible rfl) | rfl)
  try simp only [List.getElem_toArray, List.getElem_cons_zero, List.getElem_cons_succ, Act.put, List.setIfInBounds_toArray, List.set_cons_zero, List.set_cons_succ]
  refine wpAnyH_take (i := 8) (v := ?_) rfl (by as_aux_lemma => kernel_rfl) (by as_aux_lemma => kernel_rfl) (by as_aux_lemma => kernel_rfl) (fun _ _ _ h => h) (Or.inl ⟨by rfl, ?_⟩) hHeld0 ?_
  rotate_left
  · intro w hSw
    (try dsimp only at hSw)
    go_simp
    try (first | (with_reducible rfl) | rfl)
  try simp only [List.getElem_toArray, List.getElem_cons_zero, List.getElem_cons_succ, Act.put, List.setIfInBounds_toArray, List.set_cons_zero, List.set_cons_succ]
  refine wpAnyH_take (i := 9) (v := ?_) rfl (by as_aux_lemma => kernel_rfl) (by as_aux_lemma => kernel_rfl) (by as_aux_lemma => kernel_rfl) (fun _ _ _ h => h) (Or.inl ⟨by rfl, ?_⟩) hHeld0 ?_
  rotate_left
  · intro w hSw
    (try dsimp only at hSw)
    go_simp
    try (first | (with_reducible rfl) | rfl)
  try simp only [List.getElem_toArray, List.getElem_cons_zero, List.getElem_cons_succ, Act.put, List.setIfInBounds_toArray, List.set_cons_zero, List.set_cons_succ]
  refine wpAnyH_take (i := 10) (v := ?_) rfl (by as_aux_lemma => kernel_rfl) (by as_aux_lemma => kernel_rfl) (by as_aux_lemma => kernel_rfl) (fun _ _ _ h => h) (Or.inl ⟨by rfl, ?_⟩) hHeld0 ?_
  rotate_left
  · intro w hSw
    (try dsimp only at hSw)
    go_simp
    try (first | (with_reducible rfl) | rfl)
  try simp only [List.getElem_toArray, List.getElem_cons_zero, List.getElem_cons_succ, Act.put, List.setIfInBounds_toArray, List.set_cons_zero, List.set_cons_succ]
  refine wpAnyH_take (i := 11) (v := ?_) rfl (by as_aux_lemma => kernel_rfl) (by as_aux_lemma => kernel_rfl) (by as_aux_lemma => kernel_rfl) (fun _ _ _ h => h) (Or.inl ⟨by rfl, ?_⟩) hHeld0 ?_
  rotate_left
  · intro w hSw
    (try dsimp only at hSw)
    go_simp
    try (first | (with_reducible rfl) | rfl)
  try simp only [List.getElem_toArray, List.getElem_cons_zero, List.getElem_cons_succ, Act.put, List.setIfInBounds_toArray, List.set_cons_zero, List.set_cons_succ]
  refine wpAnyH_take (i := 12) (v := ?_) rfl (by as_aux_lemma => kernel_rfl) (by as_aux_lemma => kernel_rfl) (by as_aux_lemma => kernel_rfl) (fun _ _ _ h => h) (Or.inl ⟨by rfl, ?_⟩) hHeld0 ?_
  rotate_left
  · intro w hSw
    (try dsimp only at hSw)
    go_simp
    try (first | (with_reducible rfl) | rfl)
  try simp only [List.getElem_toArray, List.getElem_cons_zero, List.getElem_cons_succ, Act.put, List.setIfInBounds_toArray, List.set_cons_zero, List.set_cons_succ]
  refine wpAnyH_take (i := 14) (v := ?_) rfl (by as_aux_lemma => kernel_rfl) (by as_aux_lemma => kernel_rfl) (by as_aux_lemma => kernel_rfl) (fun _ _ _ h => h) (Or.inl ⟨by rfl, ?_⟩) hHeld0 ?_
  rotate_left
  · intro w hSw
    (try dsimp only at hSw)
    go_simp
    try (first | (with_reducible rfl) | rfl)
  try simp only [List.getElem_toArray, List.getElem_cons_zero, List.getElem_cons_succ, Act.put, List.setIfInBounds_toArray, List.set_cons_zero, List.set_cons_succ]
  refine wpAnyH_take (i := 15) (v := ?_) rfl (by as_aux_lemma => kernel_rfl) (by as_aux_lemma => kernel_rfl) (by as_aux_lemma => kernel_rfl) (fun _ _ _ h => h) (Or.inl ⟨by rfl, ?_⟩) hHeld0 ?_
  rotate_left
  · intro w hSw
    (try dsimp only at hSw)
    go_simp
    try (first | (with_reducible rfl) | rfl)
  try simp only [List.getElem_toArray, List.getElem_cons_zero, List.getElem_cons_succ, Act.put, List.setIfInBounds_toArray, List.set_cons_zero, List.set_cons_succ]
  refine wpAnyH_ready (rs := [13]) (by as_aux_lemma => kernel_rfl) (by simp) ?_
  refine AllReadyH.cons rfl (fun K hK => ?_) ?_
  · go_simp
    refine hK.out _ _ ?_ (fun hHeld15_13 => ?_)
    · first | exact HCS.out _ (bl_alloc HB4.out _) | exact HCS.out _ HB4.out | exact HCS.out _ (bl_alloc (bl_alloc (bl_drew (bl_refl _)) _) _) | exact HCS.out _ (bl_alloc (bl_drew (bl_refl _)) _) | exact HCS.out _ (bl_drew (bl_refl _))
    clear hK K
    try simp only [List.getElem_toArray, List.getElem_cons_zero, List.getElem_cons_succ, Act.put, List.setIfInBounds_toArray, List.set_cons_zero, List.set_cons_succ]
    refine wpAnyH_ready (rs := [16]) (by as_aux_lemma => kernel_rfl) (by simp) ?_
    refine AllReadyH.cons rfl (fun K hK => ?_) ?_
    · (refine step_append_lies _ (by rfl) _ _ _ (by rfl) W.heap.size 23 i0 _ 1 4 Try.underlying33 hi0 hz0 hz1 hz2 rfl (by decide) (.slice (some ⟨W.heap.size, 0, none⟩) 0 0) 0 [] (by rfl) (by exact World.ownsRow_made _ #[] 0 (Nat.le_refl _) (Nat.zero_le _) rfl) ad m c (l.map u32V) (by rfl) (by simp [HN.out]) HCC.out (fun u hu => by obtain ⟨x, _, rfl⟩ := List.mem_map.1 hu; rfl) hm0 (by unfold maxLen; omega) (by omega) (by simp) _ rfl ?_); intro g cp w4 hown hgrow hat hlt; have HB4 := Lib.hid ((bl_alloc (bl_drew (bl_refl W)) _).grown hgrow (by simp) (fun k e => by cases e; exact Nat.le_refl _)); clear hown hgrow hat hlt
      refine hK.out _ _ ?_ (fun hHeld16_16 => ?_)
      · first | exact HCS.out _ (bl_alloc HB4.out _) | exact HCS.out _ HB4.out | exact HCS.out _ (bl_alloc (bl_alloc (bl_drew (bl_refl _)) _) _) | exact HCS.out _ (bl_alloc (bl_drew (bl_refl _)) _) | exact HCS.out _ (bl_drew (bl_refl _))
      clear hK K
      try simp only [List.getElem_toArray, List.getElem_cons_zero, List.getElem_cons_succ, Act.put, List.setIfInBounds_toArray, List.set_cons_zero, List.set_cons_succ]
      refine wpAnyH_take (i := 17) (v := ?_) rfl (by as_aux_lemma => kernel_rfl) (by as_aux_lemma => kernel_rfl) (by as_aux_lemma => kernel_rfl) (fun _ _ _ h => h) (Or.inl ⟨by rfl, ?_⟩) hHeld16_16 ?_
      rotate_left
      · intro w hSw
        (try dsimp only at hSw)
        go_simp
        try (first | (with_reducible rfl) | rfl)
      try simp only [List.getElem_toArray, List.getElem_cons_zero, List.getElem_cons_succ, Act.put, List.setIfInBounds_toArray, List.set_cons_zero, List.set_cons_succ]
      refine wpAnyH_ready (rs := [18]) (by as_aux_lemma => kernel_rfl) (by simp) ?_
      refine AllReadyH.cons rfl (fun K hK => ?_) ?_
      · go_simp
        refine hK.out _ _ ?_ (fun hHeld18_18 => ?_)
        · first | exact HCS.out _ (bl_alloc HB4.out _) | exact HCS.out _ HB4.out | exact HCS.out _ (bl_alloc (bl_alloc (bl_drew (bl_refl _)) _) _) | exact HCS.out _ (bl_alloc (bl_drew (bl_refl _)) _) | exact HCS.out _ (bl_drew (bl_refl _))
        clear hK K
        try simp only [List.getElem_toArray, List.getElem_cons_zero, List.getElem_cons_succ, Act.put, List.setIfInBounds_toArray, List.set_cons_zero, List.set_cons_succ]
        refine wpAnyH_take (i := 19) (v := ?_) rfl (by as_aux_lemma => kernel_rfl) (by as_aux_lemma => kernel_rfl) (by as_aux_lemma => kernel_rfl) (fun _ _ _ h => h) (Or.inl ⟨by rfl, ?_⟩) hHeld18_18 ?_
        rotate_left
        · intro w hSw
          (try dsimp only at hSw)
          go_simp
          try (first | (with_reducible rfl) | rfl)
        try simp only [List.getElem_toArray, List.getElem_cons_zero, List.getElem_cons_succ, Act.put, List.setIfInBounds_toArray, List.set_cons_zero, List.set_cons_succ]
        refine wpAnyH_done (by as_aux_lemma => kernel_rfl) ?_ _
        have h4 := H.out.below HB4.out
        clear q0 q1 q2 q3 j0 j1 j2 j3 lt0 lt1 lt2
        obtain ⟨q0, q1, q2, q3⟩ := cells4j (h4.cells 2 rfl)
        obtain ⟨j0, j1, j2, j3⟩ := cells4j (h4.cells 1 rfl)
        have lt0 := lt_of_heap (h4.cells 2 rfl)
        have lt1 := lt_of_heap (h4.cells 1 rfl)
        have lt2 := lt_of_heap (h4.cells 0 rfl)
        clear h4
        go_wp2_with (go_at_call 73; refine (agive_new n s h t budget i (some ad) m c l (H.out.below (bl_alloc HB4.out _)) (HR.out.kept (bl_alloc HB4.out _)) HN.out hm).mono ?_; rintro e w6 ⟨p, rfl, h⟩; (have H7 := Lib.hid h); clear h q0 q1 q2 q3 j0 j1 j2 j3 lt0 lt1 lt2; (have hp2 := H7.out.cells 1 rfl); obtain ⟨k0, k1, k2⟩ := cells3a hp2; (have f0 := free_of hp2 0); (have f1 := free_of hp2 1); (have f2 := free_of hp2 2); (have lp := lt_of_heap hp2); clear hp2)
        have h9 := ((H7.out.setAt 1 rfl 0 (.pointer none)).setAt 1 rfl 1 (.pointer (some ⟨p, 0, none⟩))).setAt 1 rfl 2 (.pointer (some ⟨w4.heap.size, 0, none⟩))
        generalize ((w6.setCell ⟨b2, 0, none⟩ (.pointer none)).setCell ⟨b2, 1, none⟩ (.pointer (some ⟨p, 0, none⟩))).setCell ⟨b2, 2, none⟩ (.pointer (some ⟨w4.heap.size, 0, none⟩)) = W9 at *
        have H9 := Lib.hid h9
        clear k0 k1 k2
        obtain ⟨k0, k1, k2⟩ := cells3a (h9.cells 1 rfl)
        clear h9
        refine bodyPost_ret (by simp [results, Try.results43, go_sem, k0, k1, k2]; try rfl) rfl ?_
        exact ⟨p, _, rfl, (show St w0 (arA p (newAG n s h t budget l i) :: boxA b2 _ _ :: boxA b1 _ _ :: boxA b0 _ _ :: L) _ from H9.out).re 4 [0]⟩
      exact AllReadyH.nil
    exact AllReadyH.nil
  exact AllReadyH.nil
end Go.Proofs.Ytndigbkhaajjoaa
