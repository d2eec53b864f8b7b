/-
  The document's machine of chapter 7: a step.
-/
import Derived.Test.YtndigbkhaajjoaaR7B
namespace Go.Proofs.Ytndigbkhaajjoaa
open Go.RowKit
set_option linter.unusedVariables false
set_option linter.unusedSimpArgs false

set_option maxRecDepth 20000 in
set_option maxHeartbeats 8000000 in
theorem rt_step_over {w0 w : World} {y p : Nat} {ws : List Int} {ns : List Note} {L : List Asn} {n s h t a i pc x nx st : Int} {g : Bool} (hS : St w0 (refA y ws ns :: rtB p n s h t a g i pc x nx st :: L) w) (i0 : 0 ≤ i) (i1 : i < 4294967296) (hst : st ≠ 0) (z : Int) (hz : (if st = 1 then i else 0) = z) :
    Calls Try.prog 31 #[.pointer (some ⟨p, 0, none⟩), .pointer (some ⟨y, 0, none⟩)] w fun e w' => e = .returned (.tuple #[.int .i64 st, .int .u32 z]) ∧ St w0 (refA y ws ns :: rtB p n s h t a g i pc x nx st :: L) w' := by
  have H := Lib.hid hS
  have sb : (st != 0) = true := by simp; exact hst
  have HZ := Lib.hid hz
  obtain ⟨⟨q0, q1, q2, q3, q4, q5, q6, q7, q8, q9, q10⟩, ⟨f6, f7, f8, f9, f10⟩, lp⟩ := cells11 (H.out.cells 1 rfl)
  clear hS
  go_enter Try.func31, Try.ntmps31
  go_wp2_with (go_at_call 58; refine (rt_end st z HZ.out (H.out)).mono ?_; rintro e we ⟨rfl, h⟩; (have HE := Lib.hid h); clear h)
  go_ret2
  exact ⟨rfl, HE.out⟩
set_option maxHeartbeats 8000000 in
theorem rt_step_first {w0 w : World} {y p : Nat} {ws : List Int} {ns : List Note} {L : List Asn} {n s h t a i pc x nx st : Int} {g : Bool} (r z : Int) (R : World → Prop) (hS : St w0 (refA y ws ns :: rtB p n s h t a g i 0 x nx 0 :: L) w) (hc : ∀ W, St w0 (refA y ws ns :: rtB p n s h t a g i 1 x nx 0 :: L) W → Calls Try.prog 59 #[.pointer (some ⟨p, 0, none⟩), .pointer (some ⟨y, 0, none⟩)] W fun e w' => e = .returned (.tuple #[.int .i64 r, .int .u32 z]) ∧ R w') :
    Calls Try.prog 31 #[.pointer (some ⟨p, 0, none⟩), .pointer (some ⟨y, 0, none⟩)] w fun e w' => e = .returned (.tuple #[.int .i64 r, .int .u32 z]) ∧ R w' := by
  have H := Lib.hid hS
  have HC := Lib.hid hc
  obtain ⟨⟨q0, q1, q2, q3, q4, q5, q6, q7, q8, q9, q10⟩, ⟨f6, f7, f8, f9, f10⟩, lp⟩ := cells11 (H.out.cells 1 rfl)
  clear hS hc
  go_enter Try.func31, Try.ntmps31
  go_wp2_with (go_at_call 59; refine (HC.out _ (H.out.setAt 1 rfl 7 (.int .i64 1))).mono ?_; rintro e we ⟨rfl, h⟩; (have HE := Lib.hid h); clear h)
  go_ret2
  exact ⟨rfl, HE.out⟩
set_option maxRecDepth 20000 in
set_option maxHeartbeats 8000000 in
theorem rt_step_g_in {w0 w : World} {y p : Nat} {ws : List Int} {ns : List Note} {L : List Asn} {n s h t a i pc x nx st : Int} (hS : St w0 (refA y ws ns :: rtB p n s h t a true i 1 x nx 0 :: L) w) (i0 : 0 ≤ i) (i1 : i < 4294967296) {j : Nat} {y0 k0 v : Int} (hv : atI n s h 0 (2 * (i - 1)) = v) (hvj : v = (j : Int)) (hjl : j < ws.length) (hy : rdW ws j = y0) (hj : x % 4294967296 = k0) (x0 : 0 ≤ x) (x1 : x < 18446744073709551616) (hk : ns.length ≤ 1000000000000) :
    Calls Try.prog 31 #[.pointer (some ⟨p, 0, none⟩), .pointer (some ⟨y, 0, none⟩)] w fun e w' => e = .returned (.tuple #[.int .i64 0, .int .u32 0]) ∧ St w0 (refA y (ws.set j k0) (ns ++ [stN j y0 k0]) :: rtB p n s h t a true i 2 x i 0 :: L) w' := by
  have H := Lib.hid hS
  have HV := Lib.hid hv
  subst hvj
  have HY := Lib.hid hy
  have HJ := Lib.hid hj
  have k00 : 0 ≤ k0 := by omega
  have k01 : k0 < 18446744073709551616 := by omega
  have k02 : IntKind.u64.wrap k0 = k0 := by rw [IntKind.wrap_u64]; omega
  obtain ⟨⟨q0, q1, q2, q3, q4, q5, q6, q7, q8, q9, q10⟩, ⟨f6, f7, f8, f9, f10⟩, lp⟩ := cells11 (H.out.cells 1 rfl)
  clear hS
  go_enter Try.func31, Try.ntmps31
  go_wp2
  have h5 := H.out.setAt 1 rfl 7 (.int .i64 2)
  generalize w.setCell ⟨p, 7, none⟩ (.int .i64 2) = W at *
  have H5 : Hid (St w0 (refA y ws ns :: rtB p n s h t a true i 2 x nx 0 :: L) W) := Lib.hid h5
  clear h5
  have HCS : Hid (∀ m X w', St w0 (m :: rtB p n s h t a true i 2 x nx 0 :: X) w' → w'.cell? ⟨p, 0, none⟩ = some (.int .i64 n) ∧ w'.cell? ⟨p, 1, none⟩ = some (.int .i64 s) ∧ w'.cell? ⟨p, 2, none⟩ = some (.int .i64 h) ∧ w'.cell? ⟨p, 3, none⟩ = some (.int .u32 t) ∧ w'.cell? ⟨p, 6, none⟩ = some (.int .u32 i) ∧ w'.cell? ⟨p, 8, none⟩ = some (.int .u64 x)) := Lib.hid fun m X w' h => by
    obtain ⟨⟨q0, q1, q2, q3, q4, q5, q6, q7, q8, q9, q10⟩, ⟨f6, f7, f8, f9, f10⟩, lp⟩ := cells11 (h.cells 1 rfl)
    exact ⟨q0, q1, q2, q3, q6, q8⟩
  clear q0 q1 q2 q3 q4 q5 q6 q7 q8 q9 q10 f6 f7 f8 f9 f10 lp
  refine wp_region_held_drew (S := (fun w' => w'.cell? ⟨p, 0, none⟩ = some (.int .i64 n) ∧ w'.cell? ⟨p, 1, none⟩ = some (.int .i64 s) ∧ w'.cell? ⟨p, 2, none⟩ = some (.int .i64 h) ∧ w'.cell? ⟨p, 3, none⟩ = some (.int .u32 t) ∧ w'.cell? ⟨p, 6, none⟩ = some (.int .u32 i) ∧ w'.cell? ⟨p, 8, none⟩ = some (.int .u64 x))) (by as_aux_lemma => kernel_rfl) ?_ (fun hHeld0 => ?_)
  · first | exact HCS.out _ _ _ HN2.out | exact HCS.out _ _ _ HN1.out | exact HCS.out _ _ _ H5.out.drew
  refine wpAnyH_take (i := 0) (v := ?_) rfl (by as_aux_lemma => kernel_rfl) (by as_aux_lemma => kernel_rfl) (by as_aux_lemma => kernel_rfl) (fun _ _ _ h => h) (Or.inl ⟨by rfl, ?_⟩) hHeld0 ?_
  rotate_left
  · intro w hSw
    (try dsimp only at hSw)
    go_simp
    try (first | (with_reducible rfl) | rfl)
  try simp only [List.getElem_toArray, List.getElem_cons_zero, List.getElem_cons_succ, Act.put, List.setIfInBounds_toArray, List.set_cons_zero, List.set_cons_succ]
  refine wpAnyH_take (i := 1) (v := ?_) rfl (by as_aux_lemma => kernel_rfl) (by as_aux_lemma => kernel_rfl) (by as_aux_lemma => kernel_rfl) (fun _ _ _ h => h) (Or.inl ⟨by rfl, ?_⟩) hHeld0 ?_
  rotate_left
  · intro w hSw
    (try dsimp only at hSw)
    go_simp
    try (first | (with_reducible rfl) | rfl)
  try simp only [List.getElem_toArray, List.getElem_cons_zero, List.getElem_cons_succ, Act.put, List.setIfInBounds_toArray, List.set_cons_zero, List.set_cons_succ]
  refine wpAnyH_take (i := 2) (v := ?_) rfl (by as_aux_lemma => kernel_rfl) (by as_aux_lemma => kernel_rfl) (by as_aux_lemma => kernel_rfl) (fun _ _ _ h => h) (Or.inl ⟨by rfl, ?_⟩) hHeld0 ?_
  rotate_left
  · intro w hSw
    (try dsimp only at hSw)
    go_simp
    try (first | (with_reducible rfl) | rfl)
  try simp only [List.getElem_toArray, List.getElem_cons_zero, List.getElem_cons_succ, Act.put, List.setIfInBounds_toArray, List.set_cons_zero, List.set_cons_succ]
  refine wpAnyH_take (i := 3) (v := ?_) rfl (by as_aux_lemma => kernel_rfl) (by as_aux_lemma => kernel_rfl) (by as_aux_lemma => kernel_rfl) (fun _ _ _ h => h) (Or.inl ⟨by rfl, ?_⟩) hHeld0 ?_
  rotate_left
  · intro w hSw
    (try dsimp only at hSw)
    go_simp
    try (first | (with_reducible rfl) | rfl)
  try simp only [List.getElem_toArray, List.getElem_cons_zero, List.getElem_cons_succ, Act.put, List.setIfInBounds_toArray, List.set_cons_zero, List.set_cons_succ]
  refine wpAnyH_take (i := 4) (v := ?_) rfl (by as_aux_lemma => kernel_rfl) (by as_aux_lemma => kernel_rfl) (by as_aux_lemma => kernel_rfl) (fun _ _ _ h => h) (Or.inl ⟨by rfl, ?_⟩) hHeld0 ?_
  rotate_left
  · intro w hSw
    (try dsimp only at hSw)
    go_simp
    try (first | (with_reducible rfl) | rfl)
  try simp only [List.getElem_toArray, List.getElem_cons_zero, List.getElem_cons_succ, Act.put, List.setIfInBounds_toArray, List.set_cons_zero, List.set_cons_succ]
  refine wpAnyH_take (i := 5) (v := ?_) rfl (by as_aux_lemma => kernel_rfl) (by as_aux_lemma => kernel_rfl) (by as_aux_lemma => kernel_rfl) (fun _ _ _ h => h) (Or.inl ⟨by rfl, ?_⟩) hHeld0 ?_
  rotate_left
  · intro w hSw
    (try dsimp only at hSw)
    go_simp
    try (first | (with_reducible rfl) | rfl)
  try simp only [List.getElem_toArray, List.getElem_cons_zero, List.getElem_cons_succ, Act.put, List.setIfInBounds_toArray, List.set_cons_zero, List.set_cons_succ]
  refine wpAnyH_take (i := 6) (v := ?_) rfl (by as_aux_lemma => kernel_rfl) (by as_aux_lemma => kernel_rfl) (by as_aux_lemma => kernel_rfl) (fun _ _ _ h => h) (Or.inl ⟨by rfl, ?_⟩) hHeld0 ?_
  rotate_left
  · intro w hSw
    (try dsimp only at hSw)
    go_simp
    try (first | (with_reducible rfl) | rfl)
  try simp only [List.getElem_toArray, List.getElem_cons_zero, List.getElem_cons_succ, Act.put, List.setIfInBounds_toArray, List.set_cons_zero, List.set_cons_succ]
  refine wpAnyH_take (i := 7) (v := ?_) rfl (by as_aux_lemma => kernel_rfl) (by as_aux_lemma => kernel_rfl) (by as_aux_lemma => kernel_rfl) (fun _ _ _ h => h) (Or.inl ⟨by rfl, ?_⟩) hHeld0 ?_
  rotate_left
  · intro w hSw
    (try dsimp only at hSw)
    go_simp
    try (first | (with_reducible rfl) | rfl)
  try simp only [List.getElem_toArray, List.getElem_cons_zero, List.getElem_cons_succ, Act.put, List.setIfInBounds_toArray, List.set_cons_zero, List.set_cons_succ]
  refine wpAnyH_take (i := 8) (v := ?_) rfl (by as_aux_lemma => kernel_rfl) (by as_aux_lemma => kernel_rfl) (by as_aux_lemma => kernel_rfl) (fun _ _ _ h => h) (Or.inl ⟨by rfl, ?_⟩) hHeld0 ?_
  rotate_left
  · intro w hSw
    (try dsimp only at hSw)
    go_simp
    try (first | (with_reducible rfl) | rfl)
  try simp only [List.getElem_toArray, List.getElem_cons_zero, List.getElem_cons_succ, Act.put, List.setIfInBounds_toArray, List.set_cons_zero, List.set_cons_succ]
  refine wpAnyH_take (i := 10) (v := ?_) rfl (by as_aux_lemma => kernel_rfl) (by as_aux_lemma => kernel_rfl) (by as_aux_lemma => kernel_rfl) (fun _ _ _ h => h) (Or.inl ⟨by rfl, ?_⟩) hHeld0 ?_
  rotate_left
  · intro w hSw
    (try dsimp only at hSw)
    go_simp
    try (first | (with_reducible rfl) | rfl)
  try simp only [List.getElem_toArray, List.getElem_cons_zero, List.getElem_cons_succ, Act.put, List.setIfInBounds_toArray, List.set_cons_zero, List.set_cons_succ]
  refine wpAnyH_take (i := 11) (v := ?_) rfl (by as_aux_lemma => kernel_rfl) (by as_aux_lemma => kernel_rfl) (by as_aux_lemma => kernel_rfl) (fun _ _ _ h => h) (Or.inl ⟨by rfl, ?_⟩) hHeld0 ?_
  rotate_left
  · intro w hSw
    (try dsimp only at hSw)
    go_simp
    try (first | (with_reducible rfl) | rfl)
  try simp only [List.getElem_toArray, List.getElem_cons_zero, List.getElem_cons_succ, Act.put, List.setIfInBounds_toArray, List.set_cons_zero, List.set_cons_succ]
  refine wpAnyH_take (i := 12) (v := ?_) rfl (by as_aux_lemma => kernel_rfl) (by as_aux_lemma => kernel_rfl) (by as_aux_lemma => kernel_rfl) (fun _ _ _ h => h) (Or.inl ⟨by rfl, ?_⟩) hHeld0 ?_
  rotate_left
  · intro w hSw
    (try dsimp only at hSw)
    go_simp
    try (first | (with_reducible rfl) | rfl)
  try simp only [List.getElem_toArray, List.getElem_cons_zero, List.getElem_cons_succ, Act.put, List.setIfInBounds_toArray, List.set_cons_zero, List.set_cons_succ]
  refine wpAnyH_take (i := 13) (v := ?_) rfl (by as_aux_lemma => kernel_rfl) (by as_aux_lemma => kernel_rfl) (by as_aux_lemma => kernel_rfl) (fun _ _ _ h => h) (Or.inl ⟨by rfl, ?_⟩) hHeld0 ?_
  rotate_left
  · intro w hSw
    (try dsimp only at hSw)
    go_simp
    try (first | (with_reducible rfl) | rfl)
  try simp only [List.getElem_toArray, List.getElem_cons_zero, List.getElem_cons_succ, Act.put, List.setIfInBounds_toArray, List.set_cons_zero, List.set_cons_succ]
  refine wpAnyH_ready (rs := [9]) (by as_aux_lemma => kernel_rfl) (by simp) ?_
  refine AllReadyH.cons rfl (fun K hK => ?_) ?_
  · go_simp
    go_at_call 61; refine (rnx_is n s h t i (j : Int) _ i0 i1 HV.out).mono ?_; rintro e wn ⟨rfl, hb⟩; (have HN1 := Lib.hid (H5.out.drew.below hb)); clear hb
    go_wp2_with fail
    refine hK.out _ _ ?_ (fun hHeld13_9 => ?_)
    · first | exact HCS.out _ _ _ HN2.out | exact HCS.out _ _ _ HN1.out | exact HCS.out _ _ _ H5.out.drew
    clear hK K
    try simp only [List.getElem_toArray, List.getElem_cons_zero, List.getElem_cons_succ, Act.put, List.setIfInBounds_toArray, List.set_cons_zero, List.set_cons_succ]
    refine wpAnyH_ready (rs := [14]) (by as_aux_lemma => kernel_rfl) (by simp) ?_
    refine AllReadyH.cons rfl (fun K hK => ?_) ?_
    · go_simp
      go_at_call 62; refine (rindex_is x k0 _ x0 x1 HJ.out).mono ?_; rintro e w5 ⟨rfl, rfl⟩
      go_wp2_with fail
      refine hK.out _ _ ?_ (fun hHeld14_14 => ?_)
      · first | exact HCS.out _ _ _ HN2.out | exact HCS.out _ _ _ HN1.out | exact HCS.out _ _ _ H5.out.drew
      clear hK K
      try simp only [List.getElem_toArray, List.getElem_cons_zero, List.getElem_cons_succ, Act.put, List.setIfInBounds_toArray, List.set_cons_zero, List.set_cons_succ]
      refine wpAnyH_take (i := 15) (v := ?_) rfl (by as_aux_lemma => kernel_rfl) (by as_aux_lemma => kernel_rfl) (by as_aux_lemma => kernel_rfl) (fun _ _ _ h => h) (Or.inl ⟨by rfl, ?_⟩) hHeld14_14 ?_
      rotate_left
      · intro w hSw
        (try dsimp only at hSw)
        go_simp
        try (first | (with_reducible rfl) | rfl)
      try simp only [List.getElem_toArray, List.getElem_cons_zero, List.getElem_cons_succ, Act.put, List.setIfInBounds_toArray, List.set_cons_zero, List.set_cons_succ]
      refine wpAnyH_ready (rs := [16]) (by as_aux_lemma => kernel_rfl) (by simp) ?_
      refine AllReadyH.cons rfl (fun K hK => ?_) ?_
      · go_simp
        go_at_call 60; refine (rstore_st HN1.out j y0 k0 HY.out hjl hk k00 k01).mono ?_; rintro e w6 ⟨rfl, hq⟩; (have HN2 := Lib.hid (show St w0 (refA y (ws.set j k0) (ns ++ [stN j y0 k0]) :: rtB p n s h t a true i 2 x nx 0 :: L) w6 from hq)); clear hq
        go_wp2_with fail
        refine hK.out _ _ ?_ (fun hHeld16_16 => ?_)
        · first | exact HCS.out _ _ _ HN2.out | exact HCS.out _ _ _ HN1.out | exact HCS.out _ _ _ H5.out.drew
        clear hK K
        try simp only [List.getElem_toArray, List.getElem_cons_zero, List.getElem_cons_succ, Act.put, List.setIfInBounds_toArray, List.set_cons_zero, List.set_cons_succ]
        refine wpAnyH_take (i := 17) (v := ?_) rfl (by as_aux_lemma => kernel_rfl) (by as_aux_lemma => kernel_rfl) (by as_aux_lemma => kernel_rfl) (fun _ _ _ h => h) (Or.inl ⟨by rfl, ?_⟩) hHeld16_16 ?_
        rotate_left
        · intro w hSw
          (try dsimp only at hSw)
          go_simp
          try (first | (with_reducible rfl) | rfl)
        try simp only [List.getElem_toArray, List.getElem_cons_zero, List.getElem_cons_succ, Act.put, List.setIfInBounds_toArray, List.set_cons_zero, List.set_cons_succ]
        refine wpAnyH_done (by as_aux_lemma => kernel_rfl) ?_ _
        obtain ⟨⟨q0, q1, q2, q3, q4, q5, q6, q7, q8, q9, q10⟩, ⟨f6, f7, f8, f9, f10⟩, lp⟩ := cells11 (HN2.out.cells 1 rfl)
        go_wp2
        go_ret2
        exact ⟨rfl, HN2.out.setAt 1 rfl 9 (.int .u32 i)⟩
      exact AllReadyH.nil
    exact AllReadyH.nil
  exact AllReadyH.nil
set_option maxRecDepth 20000 in
set_option maxHeartbeats 8000000 in
theorem rt_step_g_out {w0 w : World} {y p : Nat} {ws : List Int} {ns : List Note} {L : List Asn} {n s h t a i pc x nx st : Int} (hS : St w0 (refA y ws ns :: rtB p n s h t a true i 1 x nx 0 :: L) w) (i0 : 0 ≤ i) (i1 : i < 4294967296) {k0 v : Int} (hv : atI n s h 0 (2 * (i - 1)) = v) (hjl : (ws.length : Int) ≤ v) (hj : x % 4294967296 = k0) (x0 : 0 ≤ x) (x1 : x < 18446744073709551616) (hk : ns.length ≤ 1000000000000) :
    Calls Try.prog 31 #[.pointer (some ⟨p, 0, none⟩), .pointer (some ⟨y, 0, none⟩)] w fun e w' => e = .returned (.tuple #[.int .i64 5, .int .u32 0]) ∧ St w0 (refA y ws ns :: rtB p n s h t a true i 2 x i 5 :: L) w' := by
  have H := Lib.hid hS
  have HV := Lib.hid hv
  have HJ := Lib.hid hj
  have k00 : 0 ≤ k0 := by omega
  have k01 : k0 < 18446744073709551616 := by omega
  have k02 : IntKind.u64.wrap k0 = k0 := by rw [IntKind.wrap_u64]; omega
  obtain ⟨⟨q0, q1, q2, q3, q4, q5, q6, q7, q8, q9, q10⟩, ⟨f6, f7, f8, f9, f10⟩, lp⟩ := cells11 (H.out.cells 1 rfl)
  clear hS
  go_enter Try.func31, Try.ntmps31
  go_wp2
  have h5 := H.out.setAt 1 rfl 7 (.int .i64 2)
  generalize w.setCell ⟨p, 7, none⟩ (.int .i64 2) = W at *
  have H5 : Hid (St w0 (refA y ws ns :: rtB p n s h t a true i 2 x nx 0 :: L) W) := Lib.hid h5
  clear h5
  have HCS : Hid (∀ m X w', St w0 (m :: rtB p n s h t a true i 2 x nx 0 :: X) w' → w'.cell? ⟨p, 0, none⟩ = some (.int .i64 n) ∧ w'.cell? ⟨p, 1, none⟩ = some (.int .i64 s) ∧ w'.cell? ⟨p, 2, none⟩ = some (.int .i64 h) ∧ w'.cell? ⟨p, 3, none⟩ = some (.int .u32 t) ∧ w'.cell? ⟨p, 6, none⟩ = some (.int .u32 i) ∧ w'.cell? ⟨p, 8, none⟩ = some (.int .u64 x)) := Lib.hid fun m X w' h => by
    obtain ⟨⟨q0, q1, q2, q3, q4, q5, q6, q7, q8, q9, q10⟩, ⟨f6, f7, f8, f9, f10⟩, lp⟩ := cells11 (h.cells 1 rfl)
    exact ⟨q0, q1, q2, q3, q6, q8⟩
  clear q0 q1 q2 q3 q4 q5 q6 q7 q8 q9 q10 f6 f7 f8 f9 f10 lp
  refine wp_region_held_drew (S := (fun w' => w'.cell? ⟨p, 0, none⟩ = some (.int .i64 n) ∧ w'.cell? ⟨p, 1, none⟩ = some (.int .i64 s) ∧ w'.cell? ⟨p, 2, none⟩ = some (.int .i64 h) ∧ w'.cell? ⟨p, 3, none⟩ = some (.int .u32 t) ∧ w'.cell? ⟨p, 6, none⟩ = some (.int .u32 i) ∧ w'.cell? ⟨p, 8, none⟩ = some (.int .u64 x))) (by as_aux_lemma => kernel_rfl) ?_ (fun hHeld0 => ?_)
  · first | exact HCS.out _ _ _ HN2.out | exact HCS.out _ _ _ HN1.out | exact HCS.out _ _ _ H5.out.drew
  refine wpAnyH_take (i := 0) (v := ?_) rfl (by as_aux_lemma => kernel_rfl) (by as_aux_lemma => kernel_rfl) (by as_aux_lemma => kernel_rfl) (fun _ _ _ h => h) (Or.inl ⟨by rfl, ?_⟩) hHeld0 ?_
  rotate_left
  · intro w hSw
    (try dsimp only at hSw)
    go_simp
    try (first | (with_reducible rfl) | rfl)
  try simp only [List.getElem_toArray, List.getElem_cons_zero, List.getElem_cons_succ, Act.put, List.setIfInBounds_toArray, List.set_cons_zero, List.set_cons_succ]
  refine wpAnyH_take (i := 1) (v := ?_) rfl (by as_aux_lemma => kernel_rfl) (by as_aux_lemma => kernel_rfl) (by as_aux_lemma => kernel_rfl) (fun _ _ _ h => h) (Or.inl ⟨by rfl, ?_⟩) hHeld0 ?_
  rotate_left
  · intro w hSw
    (try dsimp only at hSw)
    go_simp
    try (first | (with_reducible rfl) | rfl)
  try simp only [List.getElem_toArray, List.getElem_cons_zero, List.getElem_cons_succ, Act.put, List.setIfInBounds_toArray, List.set_cons_zero, List.set_cons_succ]
  refine wpAnyH_take (i := 2) (v := ?_) rfl (by as_aux_lemma => kernel_rfl) (by as_aux_lemma => kernel_rfl) (by as_aux_lemma => kernel_rfl) (fun _ _ _ h => h) (Or.inl ⟨by rfl, ?_⟩) hHeld0 ?_
  rotate_left
  · intro w hSw
    (try dsimp only at hSw)
    go_simp
    try (first | (with_reducible rfl) | rfl)
  try simp only [List.getElem_toArray, List.getElem_cons_zero, List.getElem_cons_succ, Act.put, List.setIfInBounds_toArray, List.set_cons_zero, List.set_cons_succ]
  refine wpAnyH_take (i := 3) (v := ?_) rfl (by as_aux_lemma => kernel_rfl) (by as_aux_lemma => kernel_rfl) (by as_aux_lemma => kernel_rfl) (fun _ _ _ h => h) (Or.inl ⟨by rfl, ?_⟩) hHeld0 ?_
  rotate_left
  · intro w hSw
    (try dsimp only at hSw)
    go_simp
    try (first | (with_reducible rfl) | rfl)
  try simp only [List.getElem_toArray, List.getElem_cons_zero, List.getElem_cons_succ, Act.put, List.setIfInBounds_toArray, List.set_cons_zero, List.set_cons_succ]
  refine wpAnyH_take (i := 4) (v := ?_) rfl (by as_aux_lemma => kernel_rfl) (by as_aux_lemma => kernel_rfl) (by as_aux_lemma => kernel_rfl) (fun _ _ _ h => h) (Or.inl ⟨by rfl, ?_⟩) hHeld0 ?_
  rotate_left
  · intro w hSw
    (try dsimp only at hSw)
    go_simp
    try (first | (with_reducible rfl) | rfl)
  try simp only [List.getElem_toArray, List.getElem_cons_zero, List.getElem_cons_succ, Act.put, List.setIfInBounds_toArray, List.set_cons_zero, List.set_cons_succ]
  refine wpAnyH_take (i := 5) (v := ?_) rfl (by as_aux_lemma => kernel_rfl) (by as_aux_lemma => kernel_rfl) (by as_aux_lemma => kernel_rfl) (fun _ _ _ h => h) (Or.inl ⟨by rfl, ?_⟩) hHeld0 ?_
  rotate_left
  · intro w hSw
    (try dsimp only at hSw)
    go_simp
    try (first | (with_reducible rfl) | rfl)
  try simp only [List.getElem_toArray, List.getElem_cons_zero, List.getElem_cons_succ, Act.put, List.setIfInBounds_toArray, List.set_cons_zero, List.set_cons_succ]
  refine wpAnyH_take (i := 6) (v := ?_) rfl (by as_aux_lemma => kernel_rfl) (by as_aux_lemma => kernel_rfl) (by as_aux_lemma => kernel_rfl) (fun _ _ _ h => h) (Or.inl ⟨by rfl, ?_⟩) hHeld0 ?_
  rotate_left
  · intro w hSw
    (try dsimp only at hSw)
    go_simp
    try (first | (with_reducible rfl) | rfl)
  try simp only [List.getElem_toArray, List.getElem_cons_zero, List.getElem_cons_succ, Act.put, List.setIfInBounds_toArray, List.set_cons_zero, List.set_cons_succ]
  refine wpAnyH_take (i := 7) (v := ?_) rfl (by as_aux_lemma => kernel_rfl) (by as_aux_lemma => kernel_rfl) (by as_aux_lemma => kernel_rfl) (fun _ _ _ h => h) (Or.inl ⟨by rfl, ?_⟩) hHeld0 ?_
  rotate_left
  · intro w hSw
    (try dsimp only at hSw)
    go_simp
    try (first | (with_reducible rfl) | rfl)
  try simp only [List.getElem_toArray, List.getElem_cons_zero, List.getElem_cons_succ, Act.put, List.setIfInBounds_toArray, List.set_cons_zero, List.set_cons_succ]
  refine wpAnyH_take (i := 8) (v := ?_) rfl (by as_aux_lemma => kernel_rfl) (by as_aux_lemma => kernel_rfl) (by as_aux_lemma => kernel_rfl) (fun _ _ _ h => h) (Or.inl ⟨by rfl, ?_⟩) hHeld0 ?_
  rotate_left
  · intro w hSw
    (try dsimp only at hSw)
    go_simp
    try (first | (with_reducible rfl) | rfl)
  try simp only [List.getElem_toArray, List.getElem_cons_zero, List.getElem_cons_succ, Act.put, List.setIfInBounds_toArray, List.set_cons_zero, List.set_cons_succ]
  refine wpAnyH_take (i := 10) (v := ?_) rfl (by as_aux_lemma => kernel_rfl) (by as_aux_lemma => kernel_rfl) (by as_aux_lemma => kernel_rfl) (fun _ _ _ h => h) (Or.inl ⟨by rfl, ?_⟩) hHeld0 ?_
  rotate_left
  · intro w hSw
    (try dsimp only at hSw)
    go_simp
    try (first | (with_reducible rfl) | rfl)
  try simp only [List.getElem_toArray, List.getElem_cons_zero, List.getElem_cons_succ, Act.put, List.setIfInBounds_toArray, List.set_cons_zero, List.set_cons_succ]
  refine wpAnyH_take (i := 11) (v := ?_) rfl (by as_aux_lemma => kernel_rfl) (by as_aux_lemma => kernel_rfl) (by as_aux_lemma => kernel_rfl) (fun _ _ _ h => h) (Or.inl ⟨by rfl, ?_⟩) hHeld0 ?_
  rotate_left
  · intro w hSw
    (try dsimp only at hSw)
    go_simp
    try (first | (with_reducible rfl) | rfl)
  try simp only [List.getElem_toArray, List.getElem_cons_zero, List.getElem_cons_succ, Act.put, List.setIfInBounds_toArray, List.set_cons_zero, List.set_cons_succ]
  refine wpAnyH_take (i := 12) (v := ?_) rfl (by as_aux_lemma => kernel_rfl) (by as_aux_lemma => kernel_rfl) (by as_aux_lemma => kernel_rfl) (fun _ _ _ h => h) (Or.inl ⟨by rfl, ?_⟩) hHeld0 ?_
  rotate_left
  · intro w hSw
    (try dsimp only at hSw)
    go_simp
    try (first | (with_reducible rfl) | rfl)
  try simp only [List.getElem_toArray, List.getElem_cons_zero, List.getElem_cons_succ, Act.put, List.setIfInBounds_toArray, List.set_cons_zero, List.set_cons_succ]
  refine wpAnyH_take (i := 13) (v := ?_) rfl (by as_aux_lemma => kernel_rfl) (by as_aux_lemma => kernel_rfl) (by as_aux_lemma => kernel_rfl) (fun _ _ _ h => h) (Or.inl ⟨by rfl, ?_⟩) hHeld0 ?_
  rotate_left
  · intro w hSw
    (try dsimp only at hSw)
    go_simp
    try (first | (with_reducible rfl) | rfl)
  try simp only [List.getElem_toArray, List.getElem_cons_zero, List.getElem_cons_succ, Act.put, List.setIfInBounds_toArray, List.set_cons_zero, List.set_cons_succ]
  refine wpAnyH_ready (rs := [9]) (by as_aux_lemma => kernel_rfl) (by simp) ?_
  refine AllReadyH.cons rfl (fun K hK => ?_) ?_
  · go_simp
    go_at_call 61; refine (rnx_is n s h t i v _ i0 i1 HV.out).mono ?_; rintro e wn ⟨rfl, hb⟩; (have HN1 := Lib.hid (H5.out.drew.below hb)); clear hb
    go_wp2_with fail
    refine hK.out _ _ ?_ (fun hHeld13_9 => ?_)
    · first | exact HCS.out _ _ _ HN2.out | exact HCS.out _ _ _ HN1.out | exact HCS.out _ _ _ H5.out.drew
    clear hK K
    try simp only [List.getElem_toArray, List.getElem_cons_zero, List.getElem_cons_succ, Act.put, List.setIfInBounds_toArray, List.set_cons_zero, List.set_cons_succ]
    refine wpAnyH_ready (rs := [14]) (by as_aux_lemma => kernel_rfl) (by simp) ?_
    refine AllReadyH.cons rfl (fun K hK => ?_) ?_
    · go_simp
      go_at_call 62; refine (rindex_is x k0 _ x0 x1 HJ.out).mono ?_; rintro e w5 ⟨rfl, rfl⟩
      go_wp2_with fail
      refine hK.out _ _ ?_ (fun hHeld14_14 => ?_)
      · first | exact HCS.out _ _ _ HN2.out | exact HCS.out _ _ _ HN1.out | exact HCS.out _ _ _ H5.out.drew
      clear hK K
      try simp only [List.getElem_toArray, List.getElem_cons_zero, List.getElem_cons_succ, Act.put, List.setIfInBounds_toArray, List.set_cons_zero, List.set_cons_succ]
      refine wpAnyH_take (i := 15) (v := ?_) rfl (by as_aux_lemma => kernel_rfl) (by as_aux_lemma => kernel_rfl) (by as_aux_lemma => kernel_rfl) (fun _ _ _ h => h) (Or.inl ⟨by rfl, ?_⟩) hHeld14_14 ?_
      rotate_left
      · intro w hSw
        (try dsimp only at hSw)
        go_simp
        try (first | (with_reducible rfl) | rfl)
      try simp only [List.getElem_toArray, List.getElem_cons_zero, List.getElem_cons_succ, Act.put, List.setIfInBounds_toArray, List.set_cons_zero, List.set_cons_succ]
      refine wpAnyH_ready (rs := [16]) (by as_aux_lemma => kernel_rfl) (by simp) ?_
      refine AllReadyH.cons rfl (fun K hK => ?_) ?_
      · go_simp
        go_at_call 60; refine (rstore_no HN1.out v k0 (.inr hjl)).mono ?_; rintro e w6 ⟨rfl, h⟩; (have HN2 := Lib.hid h); clear h
        go_wp2_with fail
        refine hK.out _ _ ?_ (fun hHeld16_16 => ?_)
        · first | exact HCS.out _ _ _ HN2.out | exact HCS.out _ _ _ HN1.out | exact HCS.out _ _ _ H5.out.drew
        clear hK K
        try simp only [List.getElem_toArray, List.getElem_cons_zero, List.getElem_cons_succ, Act.put, List.setIfInBounds_toArray, List.set_cons_zero, List.set_cons_succ]
        refine wpAnyH_take (i := 17) (v := ?_) rfl (by as_aux_lemma => kernel_rfl) (by as_aux_lemma => kernel_rfl) (by as_aux_lemma => kernel_rfl) (fun _ _ _ h => h) (Or.inl ⟨by rfl, ?_⟩) hHeld16_16 ?_
        rotate_left
        · intro w hSw
          (try dsimp only at hSw)
          go_simp
          try (first | (with_reducible rfl) | rfl)
        try simp only [List.getElem_toArray, List.getElem_cons_zero, List.getElem_cons_succ, Act.put, List.setIfInBounds_toArray, List.set_cons_zero, List.set_cons_succ]
        refine wpAnyH_done (by as_aux_lemma => kernel_rfl) ?_ _
        obtain ⟨⟨q0, q1, q2, q3, q4, q5, q6, q7, q8, q9, q10⟩, ⟨f6, f7, f8, f9, f10⟩, lp⟩ := cells11 (HN2.out.cells 1 rfl)
        go_wp2_with (go_at_call 58; refine (rt_end 5 0 (if_neg (by decide)) (HN2.out.setAt 1 rfl 9 (.int .u32 i))).mono ?_; rintro e we ⟨rfl, h⟩; (have HE := Lib.hid h); clear h)
        go_ret2
        exact ⟨rfl, HE.out⟩
      exact AllReadyH.nil
    exact AllReadyH.nil
  exact AllReadyH.nil
set_option maxRecDepth 20000 in
set_option maxHeartbeats 8000000 in
theorem rt_step_t_in {w0 w : World} {y p : Nat} {ws : List Int} {ns : List Note} {L : List Asn} {n s h t a i pc x nx st : Int} (hS : St w0 (refA y ws ns :: rtB p n s h t a false i 1 x nx 0 :: L) w) (i0 : 0 ≤ i) (i1 : i < 4294967296) {j : Nat} {y0 k0 v : Int} (hv : atI n s h 0 (2 * (i - 1)) = v) (hvj : v = (j : Int)) (hjl : j < ws.length) (hy : rdW ws j = y0) (hj : y0 % 4294967296 = k0) (y00 : 0 ≤ y0) (y01 : y0 < 18446744073709551616) (x0 : 0 ≤ x) (x1 : x < 18446744073709551616) (hk : ns.length ≤ 1000000000000) :
    Calls Try.prog 31 #[.pointer (some ⟨p, 0, none⟩), .pointer (some ⟨y, 0, none⟩)] w fun e w' => e = .returned (.tuple #[.int .i64 0, .int .u32 0]) ∧ St w0 (refA y ws (ns ++ [ldN j y0]) :: rtB p n s h t a false i 2 x k0 0 :: L) w' := by
  have H := Lib.hid hS
  have HV := Lib.hid hv
  subst hvj
  have HY := Lib.hid hy
  have HJ := Lib.hid hj
  obtain ⟨⟨q0, q1, q2, q3, q4, q5, q6, q7, q8, q9, q10⟩, ⟨f6, f7, f8, f9, f10⟩, lp⟩ := cells11 (H.out.cells 1 rfl)
  clear hS
  go_enter Try.func31, Try.ntmps31
  go_wp2
  have h5 := H.out.setAt 1 rfl 7 (.int .i64 2)
  generalize w.setCell ⟨p, 7, none⟩ (.int .i64 2) = W at *
  have H5 : Hid (St w0 (refA y ws ns :: rtB p n s h t a false i 2 x nx 0 :: L) W) := Lib.hid h5
  clear h5
  have HCS : Hid (∀ m X w', St w0 (m :: rtB p n s h t a false i 2 x nx 0 :: X) w' → w'.cell? ⟨p, 0, none⟩ = some (.int .i64 n) ∧ w'.cell? ⟨p, 1, none⟩ = some (.int .i64 s) ∧ w'.cell? ⟨p, 2, none⟩ = some (.int .i64 h) ∧ w'.cell? ⟨p, 3, none⟩ = some (.int .u32 t) ∧ w'.cell? ⟨p, 6, none⟩ = some (.int .u32 i) ∧ w'.cell? ⟨p, 8, none⟩ = some (.int .u64 x)) := Lib.hid fun m X w' h => by
    obtain ⟨⟨q0, q1, q2, q3, q4, q5, q6, q7, q8, q9, q10⟩, ⟨f6, f7, f8, f9, f10⟩, lp⟩ := cells11 (h.cells 1 rfl)
    exact ⟨q0, q1, q2, q3, q6, q8⟩
  clear q0 q1 q2 q3 q4 q5 q6 q7 q8 q9 q10 f6 f7 f8 f9 f10 lp
  refine wp_region_held_drew (S := (fun w' => w'.cell? ⟨p, 0, none⟩ = some (.int .i64 n) ∧ w'.cell? ⟨p, 1, none⟩ = some (.int .i64 s) ∧ w'.cell? ⟨p, 2, none⟩ = some (.int .i64 h) ∧ w'.cell? ⟨p, 3, none⟩ = some (.int .u32 t) ∧ w'.cell? ⟨p, 6, none⟩ = some (.int .u32 i) ∧ w'.cell? ⟨p, 8, none⟩ = some (.int .u64 x))) (by as_aux_lemma => kernel_rfl) ?_ (fun hHeld0 => ?_)
  · first | exact HCS.out _ _ _ HN2.out | exact HCS.out _ _ _ HN1.out | exact HCS.out _ _ _ H5.out.drew
  refine wpAnyH_take (i := 0) (v := ?_) rfl (by as_aux_lemma => kernel_rfl) (by as_aux_lemma => kernel_rfl) (by as_aux_lemma => kernel_rfl) (fun _ _ _ h => h) (Or.inl ⟨by rfl, ?_⟩) hHeld0 ?_
  rotate_left
  · intro w hSw
    (try dsimp only at hSw)
    go_simp
    try (first | (with_reducible rfl) | rfl)
  try simp only [List.getElem_toArray, List.getElem_cons_zero, List.getElem_cons_succ, Act.put, List.setIfInBounds_toArray, List.set_cons_zero, List.set_cons_succ]
  refine wpAnyH_take (i := 1) (v := ?_) rfl (by as_aux_lemma => kernel_rfl) (by as_aux_lemma => kernel_rfl) (by as_aux_lemma => kernel_rfl) (fun _ _ _ h => h) (Or.inl ⟨by rfl, ?_⟩) hHeld0 ?_
  rotate_left
  · intro w hSw
    (try dsimp only at hSw)
    go_simp
    try (first | (with_reducible rfl) | rfl)
  try simp only [List.getElem_toArray, List.getElem_cons_zero, List.getElem_cons_succ, Act.put, List.setIfInBounds_toArray, List.set_cons_zero, List.set_cons_succ]
  refine wpAnyH_take (i := 2) (v := ?_) rfl (by as_aux_lemma => kernel_rfl) (by as_aux_lemma => kernel_rfl) (by as_aux_lemma => kernel_rfl) (fun _ _ _ h => h) (Or.inl ⟨by rfl, ?_⟩) hHeld0 ?_
  rotate_left
  · intro w hSw
    (try dsimp only at hSw)
    go_simp
    try (first | (with_reducible rfl) | rfl)
  try simp only [List.getElem_toArray, List.getElem_cons_zero, List.getElem_cons_succ, Act.put, List.setIfInBounds_toArray, List.set_cons_zero, List.set_cons_succ]
  refine wpAnyH_take (i := 3) (v := ?_) rfl (by as_aux_lemma => kernel_rfl) (by as_aux_lemma => kernel_rfl) (by as_aux_lemma => kernel_rfl) (fun _ _ _ h => h) (Or.inl ⟨by rfl, ?_⟩) hHeld0 ?_
  rotate_left
  · intro w hSw
    (try dsimp only at hSw)
    go_simp
    try (first | (with_reducible rfl) | rfl)
  try simp only [List.getElem_toArray, List.getElem_cons_zero, List.getElem_cons_succ, Act.put, List.setIfInBounds_toArray, List.set_cons_zero, List.set_cons_succ]
  refine wpAnyH_take (i := 4) (v := ?_) rfl (by as_aux_lemma => kernel_rfl) (by as_aux_lemma => kernel_rfl) (by as_aux_lemma => kernel_rfl) (fun _ _ _ h => h) (Or.inl ⟨by rfl, ?_⟩) hHeld0 ?_
  rotate_left
  · intro w hSw
    (try dsimp only at hSw)
    go_simp
    try (first | (with_reducible rfl) | rfl)
  try simp only [List.getElem_toArray, List.getElem_cons_zero, List.getElem_cons_succ, Act.put, List.setIfInBounds_toArray, List.set_cons_zero, List.set_cons_succ]
  refine wpAnyH_take (i := 5) (v := ?_) rfl (by as_aux_lemma => kernel_rfl) (by as_aux_lemma => kernel_rfl) (by as_aux_lemma => kernel_rfl) (fun _ _ _ h => h) (Or.inl ⟨by rfl, ?_⟩) hHeld0 ?_
  rotate_left
  · intro w hSw
    (try dsimp only at hSw)
    go_simp
    try (first | (with_reducible rfl) | rfl)
  try simp only [List.getElem_toArray, List.getElem_cons_zero, List.getElem_cons_succ, Act.put, List.setIfInBounds_toArray, List.set_cons_zero, List.set_cons_succ]
  refine wpAnyH_take (i := 6) (v := ?_) rfl (by as_aux_lemma => kernel_rfl) (by as_aux_lemma => kernel_rfl) (by as_aux_lemma => kernel_rfl) (fun _ _ _ h => h) (Or.inl ⟨by rfl, ?_⟩) hHeld0 ?_
  rotate_left
  · intro w hSw
    (try dsimp only at hSw)
    go_simp
    try (first | (with_reducible rfl) | rfl)
  try simp only [List.getElem_toArray, List.getElem_cons_zero, List.getElem_cons_succ, Act.put, List.setIfInBounds_toArray, List.set_cons_zero, List.set_cons_succ]
  refine wpAnyH_take (i := 7) (v := ?_) rfl (by as_aux_lemma => kernel_rfl) (by as_aux_lemma => kernel_rfl) (by as_aux_lemma => kernel_rfl) (fun _ _ _ h => h) (Or.inl ⟨by rfl, ?_⟩) hHeld0 ?_
  rotate_left
  · intro w hSw
    (try dsimp only at hSw)
    go_simp
    try (first | (with_reducible rfl) | rfl)
  try simp only [List.getElem_toArray, List.getElem_cons_zero, List.getElem_cons_succ, Act.put, List.setIfInBounds_toArray, List.set_cons_zero, List.set_cons_succ]
  refine wpAnyH_take (i := 8) (v := ?_) rfl (by as_aux_lemma => kernel_rfl) (by as_aux_lemma => kernel_rfl) (by as_aux_lemma => kernel_rfl) (fun _ _ _ h => h) (Or.inl ⟨by rfl, ?_⟩) hHeld0 ?_
  rotate_left
  · intro w hSw
    (try dsimp only at hSw)
    go_simp
    try (first | (with_reducible rfl) | rfl)
  try simp only [List.getElem_toArray, List.getElem_cons_zero, List.getElem_cons_succ, Act.put, List.setIfInBounds_toArray, List.set_cons_zero, List.set_cons_succ]
  refine wpAnyH_ready (rs := [9]) (by as_aux_lemma => kernel_rfl) (by simp) ?_
  refine AllReadyH.cons rfl (fun K hK => ?_) ?_
  · go_simp
    go_at_call 61; refine (rnx_is n s h t i (j : Int) _ i0 i1 HV.out).mono ?_; rintro e wn ⟨rfl, hb⟩; (have HN1 := Lib.hid (H5.out.drew.below hb)); clear hb
    go_wp2_with fail
    refine hK.out _ _ ?_ (fun hHeld9_9 => ?_)
    · first | exact HCS.out _ _ _ HN2.out | exact HCS.out _ _ _ HN1.out | exact HCS.out _ _ _ H5.out.drew
    clear hK K
    try simp only [List.getElem_toArray, List.getElem_cons_zero, List.getElem_cons_succ, Act.put, List.setIfInBounds_toArray, List.set_cons_zero, List.set_cons_succ]
    refine wpAnyH_ready (rs := [10]) (by as_aux_lemma => kernel_rfl) (by simp) ?_
    refine AllReadyH.cons rfl (fun K hK => ?_) ?_
    · go_simp
      go_at_call 63; refine (rload_st HN1.out j y0 HY.out hjl hk).mono ?_; rintro e w6 ⟨rfl, hq⟩; (have HN2 := Lib.hid (show St w0 (refA y ws (ns ++ [ldN j y0]) :: rtB p n s h t a false i 2 x nx 0 :: L) w6 from hq)); clear hq
      go_wp2_with fail
      refine hK.out _ _ ?_ (fun hHeld10_10 => ?_)
      · first | exact HCS.out _ _ _ HN2.out | exact HCS.out _ _ _ HN1.out | exact HCS.out _ _ _ H5.out.drew
      clear hK K
      try simp only [List.getElem_toArray, List.getElem_cons_zero, List.getElem_cons_succ, Act.put, List.setIfInBounds_toArray, List.set_cons_zero, List.set_cons_succ]
      refine wpAnyH_take (i := 11) (v := ?_) rfl (by as_aux_lemma => kernel_rfl) (by as_aux_lemma => kernel_rfl) (by as_aux_lemma => kernel_rfl) (fun _ _ _ h => h) (Or.inl ⟨by rfl, ?_⟩) hHeld10_10 ?_
      rotate_left
      · intro w hSw
        (try dsimp only at hSw)
        go_simp
        try (first | (with_reducible rfl) | rfl)
      try simp only [List.getElem_toArray, List.getElem_cons_zero, List.getElem_cons_succ, Act.put, List.setIfInBounds_toArray, List.set_cons_zero, List.set_cons_succ]
      refine wpAnyH_take (i := 12) (v := ?_) rfl (by as_aux_lemma => kernel_rfl) (by as_aux_lemma => kernel_rfl) (by as_aux_lemma => kernel_rfl) (fun _ _ _ h => h) (Or.inl ⟨by rfl, ?_⟩) hHeld10_10 ?_
      rotate_left
      · intro w hSw
        (try dsimp only at hSw)
        go_simp
        try (first | (with_reducible rfl) | rfl)
      try simp only [List.getElem_toArray, List.getElem_cons_zero, List.getElem_cons_succ, Act.put, List.setIfInBounds_toArray, List.set_cons_zero, List.set_cons_succ]
      refine wpAnyH_take (i := 13) (v := ?_) rfl (by as_aux_lemma => kernel_rfl) (by as_aux_lemma => kernel_rfl) (by as_aux_lemma => kernel_rfl) (fun _ _ _ h => h) (Or.inl ⟨by rfl, ?_⟩) hHeld10_10 ?_
      rotate_left
      · intro w hSw
        (try dsimp only at hSw)
        go_simp
        try (first | (with_reducible rfl) | rfl)
      try simp only [List.getElem_toArray, List.getElem_cons_zero, List.getElem_cons_succ, Act.put, List.setIfInBounds_toArray, List.set_cons_zero, List.set_cons_succ]
      refine wpAnyH_take (i := 14) (v := ?_) rfl (by as_aux_lemma => kernel_rfl) (by as_aux_lemma => kernel_rfl) (by as_aux_lemma => kernel_rfl) (fun _ _ _ h => h) (Or.inl ⟨by rfl, ?_⟩) hHeld10_10 ?_
      rotate_left
      · intro w hSw
        (try dsimp only at hSw)
        go_simp
        try (first | (with_reducible rfl) | rfl)
      try simp only [List.getElem_toArray, List.getElem_cons_zero, List.getElem_cons_succ, Act.put, List.setIfInBounds_toArray, List.set_cons_zero, List.set_cons_succ]
      refine wpAnyH_take (i := 15) (v := ?_) rfl (by as_aux_lemma => kernel_rfl) (by as_aux_lemma => kernel_rfl) (by as_aux_lemma => kernel_rfl) (fun _ _ _ h => h) (Or.inl ⟨by rfl, ?_⟩) hHeld10_10 ?_
      rotate_left
      · intro w hSw
        (try dsimp only at hSw)
        go_simp
        try (first | (with_reducible rfl) | rfl)
      try simp only [List.getElem_toArray, List.getElem_cons_zero, List.getElem_cons_succ, Act.put, List.setIfInBounds_toArray, List.set_cons_zero, List.set_cons_succ]
      refine wpAnyH_done (by as_aux_lemma => kernel_rfl) ?_ _
      obtain ⟨⟨q0, q1, q2, q3, q4, q5, q6, q7, q8, q9, q10⟩, ⟨f6, f7, f8, f9, f10⟩, lp⟩ := cells11 (HN2.out.cells 1 rfl)
      go_wp2_with (go_at_call 62; refine (rindex_is y0 k0 _ y00 y01 HJ.out).mono ?_; rintro e w5 ⟨rfl, rfl⟩)
      go_ret2
      exact ⟨rfl, HN2.out.setAt 1 rfl 9 (.int .u32 k0)⟩
    exact AllReadyH.nil
  exact AllReadyH.nil
set_option maxRecDepth 20000 in
set_option maxHeartbeats 8000000 in
theorem rt_step_t_out {w0 w : World} {y p : Nat} {ws : List Int} {ns : List Note} {L : List Asn} {n s h t a i pc x nx st : Int} (hS : St w0 (refA y ws ns :: rtB p n s h t a false i 1 x nx 0 :: L) w) (i0 : 0 ≤ i) (i1 : i < 4294967296) {v : Int} (hv : atI n s h 0 (2 * (i - 1)) = v) (hjl : (ws.length : Int) ≤ v) (x0 : 0 ≤ x) (x1 : x < 18446744073709551616) (hk : ns.length ≤ 1000000000000) :
    Calls Try.prog 31 #[.pointer (some ⟨p, 0, none⟩), .pointer (some ⟨y, 0, none⟩)] w fun e w' => e = .returned (.tuple #[.int .i64 5, .int .u32 0]) ∧ St w0 (refA y ws ns :: rtB p n s h t a false i 2 x 0 5 :: L) w' := by
  have H := Lib.hid hS
  have HV := Lib.hid hv
  obtain ⟨⟨q0, q1, q2, q3, q4, q5, q6, q7, q8, q9, q10⟩, ⟨f6, f7, f8, f9, f10⟩, lp⟩ := cells11 (H.out.cells 1 rfl)
  clear hS
  go_enter Try.func31, Try.ntmps31
  go_wp2
  have h5 := H.out.setAt 1 rfl 7 (.int .i64 2)
  generalize w.setCell ⟨p, 7, none⟩ (.int .i64 2) = W at *
  have H5 : Hid (St w0 (refA y ws ns :: rtB p n s h t a false i 2 x nx 0 :: L) W) := Lib.hid h5
  clear h5
  have HCS : Hid (∀ m X w', St w0 (m :: rtB p n s h t a false i 2 x nx 0 :: X) w' → w'.cell? ⟨p, 0, none⟩ = some (.int .i64 n) ∧ w'.cell? ⟨p, 1, none⟩ = some (.int .i64 s) ∧ w'.cell? ⟨p, 2, none⟩ = some (.int .i64 h) ∧ w'.cell? ⟨p, 3, none⟩ = some (.int .u32 t) ∧ w'.cell? ⟨p, 6, none⟩ = some (.int .u32 i) ∧ w'.cell? ⟨p, 8, none⟩ = some (.int .u64 x)) := Lib.hid fun m X w' h => by
    obtain ⟨⟨q0, q1, q2, q3, q4, q5, q6, q7, q8, q9, q10⟩, ⟨f6, f7, f8, f9, f10⟩, lp⟩ := cells11 (h.cells 1 rfl)
    exact ⟨q0, q1, q2, q3, q6, q8⟩
  clear q0 q1 q2 q3 q4 q5 q6 q7 q8 q9 q10 f6 f7 f8 f9 f10 lp
  refine wp_region_held_drew (S := (fun w' => w'.cell? ⟨p, 0, none⟩ = some (.int .i64 n) ∧ w'.cell? ⟨p, 1, none⟩ = some (.int .i64 s) ∧ w'.cell? ⟨p, 2, none⟩ = some (.int .i64 h) ∧ w'.cell? ⟨p, 3, none⟩ = some (.int .u32 t) ∧ w'.cell? ⟨p, 6, none⟩ = some (.int .u32 i) ∧ w'.cell? ⟨p, 8, none⟩ = some (.int .u64 x))) (by as_aux_lemma => kernel_rfl) ?_ (fun hHeld0 => ?_)
  · first | exact HCS.out _ _ _ HN2.out | exact HCS.out _ _ _ HN1.out | exact HCS.out _ _ _ H5.out.drew
  refine wpAnyH_take (i := 0) (v := ?_) rfl (by as_aux_lemma => kernel_rfl) (by as_aux_lemma => kernel_rfl) (by as_aux_lemma => kernel_rfl) (fun _ _ _ h => h) (Or.inl ⟨by rfl, ?_⟩) hHeld0 ?_
  rotate_left
  · intro w hSw
    (try dsimp only at hSw)
    go_simp
    try (first | (with_reducible rfl) | rfl)
  try simp only [List.getElem_toArray, List.getElem_cons_zero, List.getElem_cons_succ, Act.put, List.setIfInBounds_toArray, List.set_cons_zero, List.set_cons_succ]
  refine wpAnyH_take (i := 1) (v := ?_) rfl (by as_aux_lemma => kernel_rfl) (by as_aux_lemma => kernel_rfl) (by as_aux_lemma => kernel_rfl) (fun _ _ _ h => h) (Or.inl ⟨by rfl, ?_⟩) hHeld0 ?_
  rotate_left
  · intro w hSw
    (try dsimp only at hSw)
    go_simp
    try (first | (with_reducible rfl) | rfl)
  try simp only [List.getElem_toArray, List.getElem_cons_zero, List.getElem_cons_succ, Act.put, List.setIfInBounds_toArray, List.set_cons_zero, List.set_cons_succ]
  refine wpAnyH_take (i := 2) (v := ?_) rfl (by as_aux_lemma => kernel_rfl) (by as_aux_lemma => kernel_rfl) (by as_aux_lemma => kernel_rfl) (fun _ _ _ h => h) (Or.inl ⟨by rfl, ?_⟩) hHeld0 ?_
  rotate_left
  · intro w hSw
    (try dsimp only at hSw)
    go_simp
    try (first | (with_reducible rfl) | rfl)
  try simp only [List.getElem_toArray, List.getElem_cons_zero, List.getElem_cons_succ, Act.put, List.setIfInBounds_toArray, List.set_cons_zero, List.set_cons_succ]
  refine wpAnyH_take (i := 3) (v := ?_) rfl (by as_aux_lemma => kernel_rfl) (by as_aux_lemma => kernel_rfl) (by as_aux_lemma => kernel_rfl) (fun _ _ _ h => h) (Or.inl ⟨by rfl, ?_⟩) hHeld0 ?_
  rotate_left
  · intro w hSw
    (try dsimp only at hSw)
    go_simp
    try (first | (with_reducible rfl) | rfl)
  try simp only [List.getElem_toArray, List.getElem_cons_zero, List.getElem_cons_succ, Act.put, List.setIfInBounds_toArray, List.set_cons_zero, List.set_cons_succ]
  refine wpAnyH_take (i := 4) (v := ?_) rfl (by as_aux_lemma => kernel_rfl) (by as_aux_lemma => kernel_rfl) (by as_aux_lemma => kernel_rfl) (fun _ _ _ h => h) (Or.inl ⟨by rfl, ?_⟩) hHeld0 ?_
  rotate_left
  · intro w hSw
    (try dsimp only at hSw)
    go_simp
    try (first | (with_reducible rfl) | rfl)
  try simp only [List.getElem_toArray, List.getElem_cons_zero, List.getElem_cons_succ, Act.put, List.setIfInBounds_toArray, List.set_cons_zero, List.set_cons_succ]
  refine wpAnyH_take (i := 5) (v := ?_) rfl (by as_aux_lemma => kernel_rfl) (by as_aux_lemma => kernel_rfl) (by as_aux_lemma => kernel_rfl) (fun _ _ _ h => h) (Or.inl ⟨by rfl, ?_⟩) hHeld0 ?_
  rotate_left
  · intro w hSw
    (try dsimp only at hSw)
    go_simp
    try (first | (with_reducible rfl) | rfl)
  try simp only [List.getElem_toArray, List.getElem_cons_zero, List.getElem_cons_succ, Act.put, List.setIfInBounds_toArray, List.set_cons_zero, List.set_cons_succ]
  refine wpAnyH_take (i := 6) (v := ?_) rfl (by as_aux_lemma => kernel_rfl) (by as_aux_lemma => kernel_rfl) (by as_aux_lemma => kernel_rfl) (fun _ _ _ h => h) (Or.inl ⟨by rfl, ?_⟩) hHeld0 ?_
  rotate_left
  · intro w hSw
    (try dsimp only at hSw)
    go_simp
    try (first | (with_reducible rfl) | rfl)
  try simp only [List.getElem_toArray, List.getElem_cons_zero, List.getElem_cons_succ, Act.put, List.setIfInBounds_toArray, List.set_cons_zero, List.set_cons_succ]
  refine wpAnyH_take (i := 7) (v := ?_) rfl (by as_aux_lemma => kernel_rfl) (by as_aux_lemma => kernel_rfl) (by as_aux_lemma => kernel_rfl) (fun _ _ _ h => h) (Or.inl ⟨by rfl, ?_⟩) hHeld0 ?_
  rotate_left
  · intro w hSw
    (try dsimp only at hSw)
    go_simp
    try (first | (with_reducible rfl) | rfl)
  try simp only [List.getElem_toArray, List.getElem_cons_zero, List.getElem_cons_succ, Act.put, List.setIfInBounds_toArray, List.set_cons_zero, List.set_cons_succ]
  refine wpAnyH_take (i := 8) (v := ?_) rfl (by as_aux_lemma => kernel_rfl) (by as_aux_lemma => kernel_rfl) (by as_aux_lemma => kernel_rfl) (fun _ _ _ h => h) (Or.inl ⟨by rfl, ?_⟩) hHeld0 ?_
  rotate_left
  · intro w hSw
    (try dsimp only at hSw)
    go_simp
    try (first | (with_reducible rfl) | rfl)
  try simp only [List.getElem_toArray, List.getElem_cons_zero, List.getElem_cons_succ, Act.put, List.setIfInBounds_toArray, List.set_cons_zero, List.set_cons_succ]
  refine wpAnyH_ready (rs := [9]) (by as_aux_lemma => kernel_rfl) (by simp) ?_
  refine AllReadyH.cons rfl (fun K hK => ?_) ?_
  · go_simp
    go_at_call 61; refine (rnx_is n s h t i v _ i0 i1 HV.out).mono ?_; rintro e wn ⟨rfl, hb⟩; (have HN1 := Lib.hid (H5.out.drew.below hb)); clear hb
    go_wp2_with fail
    refine hK.out _ _ ?_ (fun hHeld9_9 => ?_)
    · first | exact HCS.out _ _ _ HN2.out | exact HCS.out _ _ _ HN1.out | exact HCS.out _ _ _ H5.out.drew
    clear hK K
    try simp only [List.getElem_toArray, List.getElem_cons_zero, List.getElem_cons_succ, Act.put, List.setIfInBounds_toArray, List.set_cons_zero, List.set_cons_succ]
    refine wpAnyH_ready (rs := [10]) (by as_aux_lemma => kernel_rfl) (by simp) ?_
    refine AllReadyH.cons rfl (fun K hK => ?_) ?_
    · go_simp
      go_at_call 63; refine (rload_no HN1.out v (.inr hjl)).mono ?_; rintro e w6 ⟨rfl, h⟩; (have HN2 := Lib.hid h); clear h
      go_wp2_with fail
      refine hK.out _ _ ?_ (fun hHeld10_10 => ?_)
      · first | exact HCS.out _ _ _ HN2.out | exact HCS.out _ _ _ HN1.out | exact HCS.out _ _ _ H5.out.drew
      clear hK K
      try simp only [List.getElem_toArray, List.getElem_cons_zero, List.getElem_cons_succ, Act.put, List.setIfInBounds_toArray, List.set_cons_zero, List.set_cons_succ]
      refine wpAnyH_take (i := 11) (v := ?_) rfl (by as_aux_lemma => kernel_rfl) (by as_aux_lemma => kernel_rfl) (by as_aux_lemma => kernel_rfl) (fun _ _ _ h => h) (Or.inl ⟨by rfl, ?_⟩) hHeld10_10 ?_
      rotate_left
      · intro w hSw
        (try dsimp only at hSw)
        go_simp
        try (first | (with_reducible rfl) | rfl)
      try simp only [List.getElem_toArray, List.getElem_cons_zero, List.getElem_cons_succ, Act.put, List.setIfInBounds_toArray, List.set_cons_zero, List.set_cons_succ]
      refine wpAnyH_take (i := 12) (v := ?_) rfl (by as_aux_lemma => kernel_rfl) (by as_aux_lemma => kernel_rfl) (by as_aux_lemma => kernel_rfl) (fun _ _ _ h => h) (Or.inl ⟨by rfl, ?_⟩) hHeld10_10 ?_
      rotate_left
      · intro w hSw
        (try dsimp only at hSw)
        go_simp
        try (first | (with_reducible rfl) | rfl)
      try simp only [List.getElem_toArray, List.getElem_cons_zero, List.getElem_cons_succ, Act.put, List.setIfInBounds_toArray, List.set_cons_zero, List.set_cons_succ]
      refine wpAnyH_take (i := 13) (v := ?_) rfl (by as_aux_lemma => kernel_rfl) (by as_aux_lemma => kernel_rfl) (by as_aux_lemma => kernel_rfl) (fun _ _ _ h => h) (Or.inl ⟨by rfl, ?_⟩) hHeld10_10 ?_
      rotate_left
      · intro w hSw
        (try dsimp only at hSw)
        go_simp
        try (first | (with_reducible rfl) | rfl)
      try simp only [List.getElem_toArray, List.getElem_cons_zero, List.getElem_cons_succ, Act.put, List.setIfInBounds_toArray, List.set_cons_zero, List.set_cons_succ]
      refine wpAnyH_take (i := 14) (v := ?_) rfl (by as_aux_lemma => kernel_rfl) (by as_aux_lemma => kernel_rfl) (by as_aux_lemma => kernel_rfl) (fun _ _ _ h => h) (Or.inl ⟨by rfl, ?_⟩) hHeld10_10 ?_
      rotate_left
      · intro w hSw
        (try dsimp only at hSw)
        go_simp
        try (first | (with_reducible rfl) | rfl)
      try simp only [List.getElem_toArray, List.getElem_cons_zero, List.getElem_cons_succ, Act.put, List.setIfInBounds_toArray, List.set_cons_zero, List.set_cons_succ]
      refine wpAnyH_take (i := 15) (v := ?_) rfl (by as_aux_lemma => kernel_rfl) (by as_aux_lemma => kernel_rfl) (by as_aux_lemma => kernel_rfl) (fun _ _ _ h => h) (Or.inl ⟨by rfl, ?_⟩) hHeld10_10 ?_
      rotate_left
      · intro w hSw
        (try dsimp only at hSw)
        go_simp
        try (first | (with_reducible rfl) | rfl)
      try simp only [List.getElem_toArray, List.getElem_cons_zero, List.getElem_cons_succ, Act.put, List.setIfInBounds_toArray, List.set_cons_zero, List.set_cons_succ]
      refine wpAnyH_done (by as_aux_lemma => kernel_rfl) ?_ _
      obtain ⟨⟨q0, q1, q2, q3, q4, q5, q6, q7, q8, q9, q10⟩, ⟨f6, f7, f8, f9, f10⟩, lp⟩ := cells11 (HN2.out.cells 1 rfl)
      go_wp2_with (first | ((have _h := AI); go_at_call 58; refine (rt_end 5 0 (if_neg (by decide)) (HN2.out.setAt 1 rfl 9 (.int .u32 0))).mono ?_; rintro e we ⟨rfl, h⟩; (have HE := Lib.hid h); clear h; clear _h) | (go_at_call 62; refine (rindex_is 0 0 _ (by decide) (by decide) (by decide)).mono ?_; rintro e w5 ⟨rfl, rfl⟩; (have AI : True := trivial)))
      go_ret2
      exact ⟨rfl, HE.out⟩
    exact AllReadyH.nil
  exact AllReadyH.nil
set_option maxRecDepth 20000 in
set_option maxHeartbeats 8000000 in
theorem rt_step_hit {w0 w : World} {y p : Nat} {ws : List Int} {ns : List Note} {L : List Asn} {n s h t a i pc x nx st : Int} {g : Bool} (hS : St w0 (refA y ws ns :: rtB p n s h t a g i 2 x nx 0 :: L) w) (i0 : 0 ≤ i) (i1 : i < 4294967296) {a0 : Nat} {y0 v0 : Int} (haa : a = (a0 : Int)) (ha : a0 < ws.length) (hy : rdW ws a0 = y0) (hnw : nextW x nx = v0) (n0 : 0 ≤ nx) (n1 : nx < 4294967296) (x0 : 0 ≤ x) (x1 : x < 18446744073709551616) (hk : ns.length ≤ 1000000000000) (he : x = y0) :
    Calls Try.prog 31 #[.pointer (some ⟨p, 0, none⟩), .pointer (some ⟨y, 0, none⟩)] w fun e w' => e = .returned (.tuple #[.int .i64 1, .int .u32 i]) ∧ St w0 (refA y (ws.set a0 v0) (ns ++ [swN a0 x v0]) :: rtB p n s h t a g i 3 x nx 1 :: L) w' := by
  have H := Lib.hid hS
  subst haa
  subst he
  have HY := Lib.hid hy
  have HNW := Lib.hid hnw
  have v00 : 0 ≤ v0 ∧ v0 < 18446744073709551616 := by rw [← hnw]; unfold nextW; omega
  obtain ⟨v00, v01⟩ := v00
  obtain ⟨⟨q0, q1, q2, q3, q4, q5, q6, q7, q8, q9, q10⟩, ⟨f6, f7, f8, f9, f10⟩, lp⟩ := cells11 (H.out.cells 1 rfl)
  clear hS
  go_enter Try.func31, Try.ntmps31
  go_wp2
  have h5 := H.out.setAt 1 rfl 7 (.int .i64 3)
  generalize w.setCell ⟨p, 7, none⟩ (.int .i64 3) = W at *
  have H5 : Hid (St w0 (refA y ws ns :: rtB p n s h t a0 g i 3 x nx 0 :: L) W) := Lib.hid h5
  clear h5
  have HCS : Hid (∀ m X w', St w0 (m :: rtB p n s h t a0 g i 3 x nx 0 :: X) w' → w'.cell? ⟨p, 4, none⟩ = some (.int .i64 a0) ∧ w'.cell? ⟨p, 6, none⟩ = some (.int .u32 i) ∧ w'.cell? ⟨p, 8, none⟩ = some (.int .u64 x) ∧ w'.cell? ⟨p, 9, none⟩ = some (.int .u32 nx)) := Lib.hid fun m X w' h => by
    obtain ⟨⟨q0, q1, q2, q3, q4, q5, q6, q7, q8, q9, q10⟩, ⟨f6, f7, f8, f9, f10⟩, lp⟩ := cells11 (h.cells 1 rfl)
    exact ⟨q4, q6, q8, q9⟩
  clear q0 q1 q2 q3 q4 q5 q6 q7 q8 q9 q10 f6 f7 f8 f9 f10 lp
  refine wp_region_held_drew (S := (fun w' => w'.cell? ⟨p, 4, none⟩ = some (.int .i64 a0) ∧ w'.cell? ⟨p, 6, none⟩ = some (.int .u32 i) ∧ w'.cell? ⟨p, 8, none⟩ = some (.int .u64 x) ∧ w'.cell? ⟨p, 9, none⟩ = some (.int .u32 nx))) (by as_aux_lemma => kernel_rfl) ?_ (fun hHeld0 => ?_)
  · first | exact HCS.out _ _ _ HN2.out | exact HCS.out _ _ _ H5.out.drew
  refine wpAnyH_take (i := 0) (v := ?_) rfl (by as_aux_lemma => kernel_rfl) (by as_aux_lemma => kernel_rfl) (by as_aux_lemma => kernel_rfl) (fun _ _ _ h => h) (Or.inl ⟨by rfl, ?_⟩) hHeld0 ?_
  rotate_left
  · intro w hSw
    (try dsimp only at hSw)
    go_simp
    try (first | (with_reducible rfl) | rfl)
  try simp only [List.getElem_toArray, List.getElem_cons_zero, List.getElem_cons_succ, Act.put, List.setIfInBounds_toArray, List.set_cons_zero, List.set_cons_succ]
  refine wpAnyH_take (i := 1) (v := ?_) rfl (by as_aux_lemma => kernel_rfl) (by as_aux_lemma => kernel_rfl) (by as_aux_lemma => kernel_rfl) (fun _ _ _ h => h) (Or.inl ⟨by rfl, ?_⟩) hHeld0 ?_
  rotate_left
  · intro w hSw
    (try dsimp only at hSw)
    go_simp
    try (first | (with_reducible rfl) | rfl)
  try simp only [List.getElem_toArray, List.getElem_cons_zero, List.getElem_cons_succ, Act.put, List.setIfInBounds_toArray, List.set_cons_zero, List.set_cons_succ]
  refine wpAnyH_take (i := 2) (v := ?_) rfl (by as_aux_lemma => kernel_rfl) (by as_aux_lemma => kernel_rfl) (by as_aux_lemma => kernel_rfl) (fun _ _ _ h => h) (Or.inl ⟨by rfl, ?_⟩) hHeld0 ?_
  rotate_left
  · intro w hSw
    (try dsimp only at hSw)
    go_simp
    try (first | (with_reducible rfl) | rfl)
  try simp only [List.getElem_toArray, List.getElem_cons_zero, List.getElem_cons_succ, Act.put, List.setIfInBounds_toArray, List.set_cons_zero, List.set_cons_succ]
  refine wpAnyH_take (i := 3) (v := ?_) rfl (by as_aux_lemma => kernel_rfl) (by as_aux_lemma => kernel_rfl) (by as_aux_lemma => kernel_rfl) (fun _ _ _ h => h) (Or.inl ⟨by rfl, ?_⟩) hHeld0 ?_
  rotate_left
  · intro w hSw
    (try dsimp only at hSw)
    go_simp
    try (first | (with_reducible rfl) | rfl)
  try simp only [List.getElem_toArray, List.getElem_cons_zero, List.getElem_cons_succ, Act.put, List.setIfInBounds_toArray, List.set_cons_zero, List.set_cons_succ]
  refine wpAnyH_take (i := 4) (v := ?_) rfl (by as_aux_lemma => kernel_rfl) (by as_aux_lemma => kernel_rfl) (by as_aux_lemma => kernel_rfl) (fun _ _ _ h => h) (Or.inl ⟨by rfl, ?_⟩) hHeld0 ?_
  rotate_left
  · intro w hSw
    (try dsimp only at hSw)
    go_simp
    try (first | (with_reducible rfl) | rfl)
  try simp only [List.getElem_toArray, List.getElem_cons_zero, List.getElem_cons_succ, Act.put, List.setIfInBounds_toArray, List.set_cons_zero, List.set_cons_succ]
  refine wpAnyH_take (i := 5) (v := ?_) rfl (by as_aux_lemma => kernel_rfl) (by as_aux_lemma => kernel_rfl) (by as_aux_lemma => kernel_rfl) (fun _ _ _ h => h) (Or.inl ⟨by rfl, ?_⟩) hHeld0 ?_
  rotate_left
  · intro w hSw
    (try dsimp only at hSw)
    go_simp
    try (first | (with_reducible rfl) | rfl)
  try simp only [List.getElem_toArray, List.getElem_cons_zero, List.getElem_cons_succ, Act.put, List.setIfInBounds_toArray, List.set_cons_zero, List.set_cons_succ]
  refine wpAnyH_take (i := 6) (v := ?_) rfl (by as_aux_lemma => kernel_rfl) (by as_aux_lemma => kernel_rfl) (by as_aux_lemma => kernel_rfl) (fun _ _ _ h => h) (Or.inl ⟨by rfl, ?_⟩) hHeld0 ?_
  rotate_left
  · intro w hSw
    (try dsimp only at hSw)
    go_simp
    try (first | (with_reducible rfl) | rfl)
  try simp only [List.getElem_toArray, List.getElem_cons_zero, List.getElem_cons_succ, Act.put, List.setIfInBounds_toArray, List.set_cons_zero, List.set_cons_succ]
  refine wpAnyH_take (i := 7) (v := ?_) rfl (by as_aux_lemma => kernel_rfl) (by as_aux_lemma => kernel_rfl) (by as_aux_lemma => kernel_rfl) (fun _ _ _ h => h) (Or.inl ⟨by rfl, ?_⟩) hHeld0 ?_
  rotate_left
  · intro w hSw
    (try dsimp only at hSw)
    go_simp
    try (first | (with_reducible rfl) | rfl)
  try simp only [List.getElem_toArray, List.getElem_cons_zero, List.getElem_cons_succ, Act.put, List.setIfInBounds_toArray, List.set_cons_zero, List.set_cons_succ]
  refine wpAnyH_take (i := 8) (v := ?_) rfl (by as_aux_lemma => kernel_rfl) (by as_aux_lemma => kernel_rfl) (by as_aux_lemma => kernel_rfl) (fun _ _ _ h => h) (Or.inl ⟨by rfl, ?_⟩) hHeld0 ?_
  rotate_left
  · intro w hSw
    (try dsimp only at hSw)
    go_simp
    try (first | (with_reducible rfl) | rfl)
  try simp only [List.getElem_toArray, List.getElem_cons_zero, List.getElem_cons_succ, Act.put, List.setIfInBounds_toArray, List.set_cons_zero, List.set_cons_succ]
  refine wpAnyH_take (i := 9) (v := ?_) rfl (by as_aux_lemma => kernel_rfl) (by as_aux_lemma => kernel_rfl) (by as_aux_lemma => kernel_rfl) (fun _ _ _ h => h) (Or.inl ⟨by rfl, ?_⟩) hHeld0 ?_
  rotate_left
  · intro w hSw
    (try dsimp only at hSw)
    go_simp
    try (first | (with_reducible rfl) | rfl)
  try simp only [List.getElem_toArray, List.getElem_cons_zero, List.getElem_cons_succ, Act.put, List.setIfInBounds_toArray, List.set_cons_zero, List.set_cons_succ]
  refine wpAnyH_take (i := 10) (v := ?_) rfl (by as_aux_lemma => kernel_rfl) (by as_aux_lemma => kernel_rfl) (by as_aux_lemma => kernel_rfl) (fun _ _ _ h => h) (Or.inl ⟨by rfl, ?_⟩) hHeld0 ?_
  rotate_left
  · intro w hSw
    (try dsimp only at hSw)
    go_simp
    try (first | (with_reducible rfl) | rfl)
  try simp only [List.getElem_toArray, List.getElem_cons_zero, List.getElem_cons_succ, Act.put, List.setIfInBounds_toArray, List.set_cons_zero, List.set_cons_succ]
  refine wpAnyH_take (i := 11) (v := ?_) rfl (by as_aux_lemma => kernel_rfl) (by as_aux_lemma => kernel_rfl) (by as_aux_lemma => kernel_rfl) (fun _ _ _ h => h) (Or.inl ⟨by rfl, ?_⟩) hHeld0 ?_
  rotate_left
  · intro w hSw
    (try dsimp only at hSw)
    go_simp
    try (first | (with_reducible rfl) | rfl)
  try simp only [List.getElem_toArray, List.getElem_cons_zero, List.getElem_cons_succ, Act.put, List.setIfInBounds_toArray, List.set_cons_zero, List.set_cons_succ]
  refine wpAnyH_take (i := 12) (v := ?_) rfl (by as_aux_lemma => kernel_rfl) (by as_aux_lemma => kernel_rfl) (by as_aux_lemma => kernel_rfl) (fun _ _ _ h => h) (Or.inl ⟨by rfl, ?_⟩) hHeld0 ?_
  rotate_left
  · intro w hSw
    (try dsimp only at hSw)
    go_simp
    try (first | (with_reducible rfl) | rfl)
  try simp only [List.getElem_toArray, List.getElem_cons_zero, List.getElem_cons_succ, Act.put, List.setIfInBounds_toArray, List.set_cons_zero, List.set_cons_succ]
  refine wpAnyH_take (i := 13) (v := ?_) rfl (by as_aux_lemma => kernel_rfl) (by as_aux_lemma => kernel_rfl) (by as_aux_lemma => kernel_rfl) (fun _ _ _ h => h) (Or.inl ⟨by rfl, ?_⟩) hHeld0 ?_
  rotate_left
  · intro w hSw
    (try dsimp only at hSw)
    go_simp
    try (first | (with_reducible rfl) | rfl)
  try simp only [List.getElem_toArray, List.getElem_cons_zero, List.getElem_cons_succ, Act.put, List.setIfInBounds_toArray, List.set_cons_zero, List.set_cons_succ]
  refine wpAnyH_take (i := 14) (v := ?_) rfl (by as_aux_lemma => kernel_rfl) (by as_aux_lemma => kernel_rfl) (by as_aux_lemma => kernel_rfl) (fun _ _ _ h => h) (Or.inl ⟨by rfl, ?_⟩) hHeld0 ?_
  rotate_left
  · intro w hSw
    (try dsimp only at hSw)
    go_simp
    try (first | (with_reducible rfl) | rfl)
  try simp only [List.getElem_toArray, List.getElem_cons_zero, List.getElem_cons_succ, Act.put, List.setIfInBounds_toArray, List.set_cons_zero, List.set_cons_succ]
  refine wpAnyH_take (i := 15) (v := ?_) rfl (by as_aux_lemma => kernel_rfl) (by as_aux_lemma => kernel_rfl) (by as_aux_lemma => kernel_rfl) (fun _ _ _ h => h) (Or.inl ⟨by rfl, ?_⟩) hHeld0 ?_
  rotate_left
  · intro w hSw
    (try dsimp only at hSw)
    go_simp
    try (first | (with_reducible rfl) | rfl)
  try simp only [List.getElem_toArray, List.getElem_cons_zero, List.getElem_cons_succ, Act.put, List.setIfInBounds_toArray, List.set_cons_zero, List.set_cons_succ]
  refine wpAnyH_take (i := 16) (v := ?_) rfl (by as_aux_lemma => kernel_rfl) (by as_aux_lemma => kernel_rfl) (by as_aux_lemma => kernel_rfl) (fun _ _ _ h => h) (Or.inl ⟨by rfl, ?_⟩) hHeld0 ?_
  rotate_left
  · intro w hSw
    (try dsimp only at hSw)
    go_simp
    try (first | (with_reducible rfl) | rfl)
  try simp only [List.getElem_toArray, List.getElem_cons_zero, List.getElem_cons_succ, Act.put, List.setIfInBounds_toArray, List.set_cons_zero, List.set_cons_succ]
  refine wpAnyH_ready (rs := [17]) (by as_aux_lemma => kernel_rfl) (by simp) ?_
  refine AllReadyH.cons rfl (fun K hK => ?_) ?_
  · go_simp
    go_at_call 65; refine (rnextw_is x nx v0 _ x0 x1 n0 n1 HNW.out).mono ?_; rintro e w5 ⟨rfl, rfl⟩
    go_wp2_with fail
    refine hK.out _ _ ?_ (fun hHeld17_17 => ?_)
    · first | exact HCS.out _ _ _ HN2.out | exact HCS.out _ _ _ H5.out.drew
    clear hK K
    try simp only [List.getElem_toArray, List.getElem_cons_zero, List.getElem_cons_succ, Act.put, List.setIfInBounds_toArray, List.set_cons_zero, List.set_cons_succ]
    refine wpAnyH_ready (rs := [18]) (by as_aux_lemma => kernel_rfl) (by simp) ?_
    refine AllReadyH.cons rfl (fun K hK => ?_) ?_
    · go_simp
      go_at_call 64; refine (rswap_st H5.out.drew a0 x v0 HY.out ha hk v00 v01).mono ?_; rintro e w6 ⟨rfl, hq⟩; (have HN2 := Lib.hid (show St w0 (refA y (ws.set a0 v0) (ns ++ [swN a0 x v0]) :: rtB p n s h t a0 g i 3 x nx 0 :: L) w6 from hq)); clear hq
      go_wp2_with fail
      refine hK.out _ _ ?_ (fun hHeld18_18 => ?_)
      · first | exact HCS.out _ _ _ HN2.out | exact HCS.out _ _ _ H5.out.drew
      clear hK K
      try simp only [List.getElem_toArray, List.getElem_cons_zero, List.getElem_cons_succ, Act.put, List.setIfInBounds_toArray, List.set_cons_zero, List.set_cons_succ]
      refine wpAnyH_take (i := 19) (v := ?_) rfl (by as_aux_lemma => kernel_rfl) (by as_aux_lemma => kernel_rfl) (by as_aux_lemma => kernel_rfl) (fun _ _ _ h => h) (Or.inl ⟨by rfl, ?_⟩) hHeld18_18 ?_
      rotate_left
      · intro w hSw
        (try dsimp only at hSw)
        go_simp
        try (first | (with_reducible rfl) | rfl)
      try simp only [List.getElem_toArray, List.getElem_cons_zero, List.getElem_cons_succ, Act.put, List.setIfInBounds_toArray, List.set_cons_zero, List.set_cons_succ]
      refine wpAnyH_take (i := 20) (v := ?_) rfl (by as_aux_lemma => kernel_rfl) (by as_aux_lemma => kernel_rfl) (by as_aux_lemma => kernel_rfl) (fun _ _ _ h => h) (Or.inl ⟨by rfl, ?_⟩) hHeld18_18 ?_
      rotate_left
      · intro w hSw
        (try dsimp only at hSw)
        go_simp
        try (first | (with_reducible rfl) | rfl)
      try simp only [List.getElem_toArray, List.getElem_cons_zero, List.getElem_cons_succ, Act.put, List.setIfInBounds_toArray, List.set_cons_zero, List.set_cons_succ]
      refine wpAnyH_take (i := 21) (v := ?_) rfl (by as_aux_lemma => kernel_rfl) (by as_aux_lemma => kernel_rfl) (by as_aux_lemma => kernel_rfl) (fun _ _ _ h => h) (Or.inl ⟨by rfl, ?_⟩) hHeld18_18 ?_
      rotate_left
      · intro w hSw
        (try dsimp only at hSw)
        go_simp
        try (first | (with_reducible rfl) | rfl)
      try simp only [List.getElem_toArray, List.getElem_cons_zero, List.getElem_cons_succ, Act.put, List.setIfInBounds_toArray, List.set_cons_zero, List.set_cons_succ]
      refine wpAnyH_take (i := 22) (v := ?_) rfl (by as_aux_lemma => kernel_rfl) (by as_aux_lemma => kernel_rfl) (by as_aux_lemma => kernel_rfl) (fun _ _ _ h => h) (Or.inl ⟨by rfl, ?_⟩) hHeld18_18 ?_
      rotate_left
      · intro w hSw
        (try dsimp only at hSw)
        go_simp
        try (first | (with_reducible rfl) | rfl)
      try simp only [List.getElem_toArray, List.getElem_cons_zero, List.getElem_cons_succ, Act.put, List.setIfInBounds_toArray, List.set_cons_zero, List.set_cons_succ]
      refine wpAnyH_take (i := 23) (v := ?_) rfl (by as_aux_lemma => kernel_rfl) (by as_aux_lemma => kernel_rfl) (by as_aux_lemma => kernel_rfl) (fun _ _ _ h => h) (Or.inl ⟨by rfl, ?_⟩) hHeld18_18 ?_
      rotate_left
      · intro w hSw
        (try dsimp only at hSw)
        go_simp
        try (first | (with_reducible rfl) | rfl)
      try simp only [List.getElem_toArray, List.getElem_cons_zero, List.getElem_cons_succ, Act.put, List.setIfInBounds_toArray, List.set_cons_zero, List.set_cons_succ]
      refine wpAnyH_done (by as_aux_lemma => kernel_rfl) ?_ _
      obtain ⟨⟨q0, q1, q2, q3, q4, q5, q6, q7, q8, q9, q10⟩, ⟨f6, f7, f8, f9, f10⟩, lp⟩ := cells11 (HN2.out.cells 1 rfl)
      go_wp2_with (go_at_call 58; refine (rt_end 1 i (if_pos rfl) (HN2.out)).mono ?_; rintro e we ⟨rfl, h⟩; (have HE := Lib.hid h); clear h)
      go_ret2
      exact ⟨rfl, HE.out⟩
    exact AllReadyH.nil
  exact AllReadyH.nil
set_option maxRecDepth 20000 in
set_option maxHeartbeats 8000000 in
theorem rt_step_lost {w0 w : World} {y p : Nat} {ws : List Int} {ns : List Note} {L : List Asn} {n s h t a i pc x nx st : Int} {g : Bool} (hS : St w0 (refA y ws ns :: rtB p n s h t a g i 2 x nx 0 :: L) w) (i0 : 0 ≤ i) (i1 : i < 4294967296) {a0 : Nat} {y0 v0 : Int} (haa : a = (a0 : Int)) (ha : a0 < ws.length) (hy : rdW ws a0 = y0) (hnw : nextW x nx = v0) (n0 : 0 ≤ nx) (n1 : nx < 4294967296) (x0 : 0 ≤ x) (x1 : x < 18446744073709551616) (hk : ns.length ≤ 1000000000000) (hne : (y0 == x) = false) :
    Calls Try.prog 31 #[.pointer (some ⟨p, 0, none⟩), .pointer (some ⟨y, 0, none⟩)] w fun e w' => e = .returned (.tuple #[.int .i64 3, .int .u32 0]) ∧ St w0 (refA y ws (ns ++ [noN a0 y0]) :: rtB p n s h t a g i 3 x nx 3 :: L) w' := by
  have H := Lib.hid hS
  subst haa
  have HY := Lib.hid hy
  have HNW := Lib.hid hnw
  have v00 : 0 ≤ v0 ∧ v0 < 18446744073709551616 := by rw [← hnw]; unfold nextW; omega
  obtain ⟨v00, v01⟩ := v00
  obtain ⟨⟨q0, q1, q2, q3, q4, q5, q6, q7, q8, q9, q10⟩, ⟨f6, f7, f8, f9, f10⟩, lp⟩ := cells11 (H.out.cells 1 rfl)
  clear hS
  go_enter Try.func31, Try.ntmps31
  go_wp2
  have h5 := H.out.setAt 1 rfl 7 (.int .i64 3)
  generalize w.setCell ⟨p, 7, none⟩ (.int .i64 3) = W at *
  have H5 : Hid (St w0 (refA y ws ns :: rtB p n s h t a0 g i 3 x nx 0 :: L) W) := Lib.hid h5
  clear h5
  have HCS : Hid (∀ m X w', St w0 (m :: rtB p n s h t a0 g i 3 x nx 0 :: X) w' → w'.cell? ⟨p, 4, none⟩ = some (.int .i64 a0) ∧ w'.cell? ⟨p, 6, none⟩ = some (.int .u32 i) ∧ w'.cell? ⟨p, 8, none⟩ = some (.int .u64 x) ∧ w'.cell? ⟨p, 9, none⟩ = some (.int .u32 nx)) := Lib.hid fun m X w' h => by
    obtain ⟨⟨q0, q1, q2, q3, q4, q5, q6, q7, q8, q9, q10⟩, ⟨f6, f7, f8, f9, f10⟩, lp⟩ := cells11 (h.cells 1 rfl)
    exact ⟨q4, q6, q8, q9⟩
  clear q0 q1 q2 q3 q4 q5 q6 q7 q8 q9 q10 f6 f7 f8 f9 f10 lp
  refine wp_region_held_drew (S := (fun w' => w'.cell? ⟨p, 4, none⟩ = some (.int .i64 a0) ∧ w'.cell? ⟨p, 6, none⟩ = some (.int .u32 i) ∧ w'.cell? ⟨p, 8, none⟩ = some (.int .u64 x) ∧ w'.cell? ⟨p, 9, none⟩ = some (.int .u32 nx))) (by as_aux_lemma => kernel_rfl) ?_ (fun hHeld0 => ?_)
  · first | exact HCS.out _ _ _ HN2.out | exact HCS.out _ _ _ H5.out.drew
  refine wpAnyH_take (i := 0) (v := ?_) rfl (by as_aux_lemma => kernel_rfl) (by as_aux_lemma => kernel_rfl) (by as_aux_lemma => kernel_rfl) (fun _ _ _ h => h) (Or.inl ⟨by rfl, ?_⟩) hHeld0 ?_
  rotate_left
  · intro w hSw
    (try dsimp only at hSw)
    go_simp
    try (first | (with_reducible rfl) | rfl)
  try simp only [List.getElem_toArray, List.getElem_cons_zero, List.getElem_cons_succ, Act.put, List.setIfInBounds_toArray, List.set_cons_zero, List.set_cons_succ]
  refine wpAnyH_take (i := 1) (v := ?_) rfl (by as_aux_lemma => kernel_rfl) (by as_aux_lemma => kernel_rfl) (by as_aux_lemma => kernel_rfl) (fun _ _ _ h => h) (Or.inl ⟨by rfl, ?_⟩) hHeld0 ?_
  rotate_left
  · intro w hSw
    (try dsimp only at hSw)
    go_simp
    try (first | (with_reducible rfl) | rfl)
  try simp only [List.getElem_toArray, List.getElem_cons_zero, List.getElem_cons_succ, Act.put, List.setIfInBounds_toArray, List.set_cons_zero, List.set_cons_succ]
  refine wpAnyH_take (i := 2) (v := ?_) rfl (by as_aux_lemma => kernel_rfl) (by as_aux_lemma => kernel_rfl) (by as_aux_lemma => kernel_rfl) (fun _ _ _ h => h) (Or.inl ⟨by rfl, ?_⟩) hHeld0 ?_
  rotate_left
  · intro w hSw
    (try dsimp only at hSw)
    go_simp
    try (first | (with_reducible rfl) | rfl)
  try simp only [List.getElem_toArray, List.getElem_cons_zero, List.getElem_cons_succ, Act.put, List.setIfInBounds_toArray, List.set_cons_zero, List.set_cons_succ]
  refine wpAnyH_take (i := 3) (v := ?_) rfl (by as_aux_lemma => kernel_rfl) (by as_aux_lemma => kernel_rfl) (by as_aux_lemma => kernel_rfl) (fun _ _ _ h => h) (Or.inl ⟨by rfl, ?_⟩) hHeld0 ?_
  rotate_left
  · intro w hSw
    (try dsimp only at hSw)
    go_simp
    try (first | (with_reducible rfl) | rfl)
  try simp only [List.getElem_toArray, List.getElem_cons_zero, List.getElem_cons_succ, Act.put, List.setIfInBounds_toArray, List.set_cons_zero, List.set_cons_succ]
  refine wpAnyH_take (i := 4) (v := ?_) rfl (by as_aux_lemma => kernel_rfl) (by as_aux_lemma => kernel_rfl) (by as_aux_lemma => kernel_rfl) (fun _ _ _ h => h) (Or.inl ⟨by rfl, ?_⟩) hHeld0 ?_
  rotate_left
  · intro w hSw
    (try dsimp only at hSw)
    go_simp
    try (first | (with_reducible rfl) | rfl)
  try simp only [List.getElem_toArray, List.getElem_cons_zero, List.getElem_cons_succ, Act.put, List.setIfInBounds_toArray, List.set_cons_zero, List.set_cons_succ]
  refine wpAnyH_take (i := 5) (v := ?_) rfl (by as_aux_lemma => kernel_rfl) (by as_aux_lemma => kernel_rfl) (by as_aux_lemma => kernel_rfl) (fun _ _ _ h => h) (Or.inl ⟨by rfl, ?_⟩) hHeld0 ?_
  rotate_left
  · intro w hSw
    (try dsimp only at hSw)
    go_simp
    try (first | (with_reducible rfl) | rfl)
  try simp only [List.getElem_toArray, List.getElem_cons_zero, List.getElem_cons_succ, Act.put, List.setIfInBounds_toArray, List.set_cons_zero, List.set_cons_succ]
  refine wpAnyH_take (i := 6) (v := ?_) rfl (by as_aux_lemma => kernel_rfl) (by as_aux_lemma => kernel_rfl) (by as_aux_lemma => kernel_rfl) (fun _ _ _ h => h) (Or.inl ⟨by rfl, ?_⟩) hHeld0 ?_
  rotate_left
  · intro w hSw
    (try dsimp only at hSw)
    go_simp
    try (first | (with_reducible rfl) | rfl)
  try simp only [List.getElem_toArray, List.getElem_cons_zero, List.getElem_cons_succ, Act.put, List.setIfInBounds_toArray, List.set_cons_zero, List.set_cons_succ]
  refine wpAnyH_take (i := 7) (v := ?_) rfl (by as_aux_lemma => kernel_rfl) (by as_aux_lemma => kernel_rfl) (by as_aux_lemma => kernel_rfl) (fun _ _ _ h => h) (Or.inl ⟨by rfl, ?_⟩) hHeld0 ?_
  rotate_left
  · intro w hSw
    (try dsimp only at hSw)
    go_simp
    try (first | (with_reducible rfl) | rfl)
  try simp only [List.getElem_toArray, List.getElem_cons_zero, List.getElem_cons_succ, Act.put, List.setIfInBounds_toArray, List.set_cons_zero, List.set_cons_succ]
  refine wpAnyH_take (i := 8) (v := ?_) rfl (by as_aux_lemma => kernel_rfl) (by as_aux_lemma => kernel_rfl) (by as_aux_lemma => kernel_rfl) (fun _ _ _ h => h) (Or.inl ⟨by rfl, ?_⟩) hHeld0 ?_
  rotate_left
  · intro w hSw
    (try dsimp only at hSw)
    go_simp
    try (first | (with_reducible rfl) | rfl)
  try simp only [List.getElem_toArray, List.getElem_cons_zero, List.getElem_cons_succ, Act.put, List.setIfInBounds_toArray, List.set_cons_zero, List.set_cons_succ]
  refine wpAnyH_take (i := 9) (v := ?_) rfl (by as_aux_lemma => kernel_rfl) (by as_aux_lemma => kernel_rfl) (by as_aux_lemma => kernel_rfl) (fun _ _ _ h => h) (Or.inl ⟨by rfl, ?_⟩) hHeld0 ?_
  rotate_left
  · intro w hSw
    (try dsimp only at hSw)
    go_simp
    try (first | (with_reducible rfl) | rfl)
  try simp only [List.getElem_toArray, List.getElem_cons_zero, List.getElem_cons_succ, Act.put, List.setIfInBounds_toArray, List.set_cons_zero, List.set_cons_succ]
  refine wpAnyH_take (i := 10) (v := ?_) rfl (by as_aux_lemma => kernel_rfl) (by as_aux_lemma => kernel_rfl) (by as_aux_lemma => kernel_rfl) (fun _ _ _ h => h) (Or.inl ⟨by rfl, ?_⟩) hHeld0 ?_
  rotate_left
  · intro w hSw
    (try dsimp only at hSw)
    go_simp
    try (first | (with_reducible rfl) | rfl)
  try simp only [List.getElem_toArray, List.getElem_cons_zero, List.getElem_cons_succ, Act.put, List.setIfInBounds_toArray, List.set_cons_zero, List.set_cons_succ]
  refine wpAnyH_take (i := 11) (v := ?_) rfl (by as_aux_lemma => kernel_rfl) (by as_aux_lemma => kernel_rfl) (by as_aux_lemma => kernel_rfl) (fun _ _ _ h => h) (Or.inl ⟨by rfl, ?_⟩) hHeld0 ?_
  rotate_left
  · intro w hSw
    (try dsimp only at hSw)
    go_simp
    try (first | (with_reducible rfl) | rfl)
  try simp only [List.getElem_toArray, List.getElem_cons_zero, List.getElem_cons_succ, Act.put, List.setIfInBounds_toArray, List.set_cons_zero, List.set_cons_succ]
  refine wpAnyH_take (i := 12) (v := ?_) rfl (by as_aux_lemma => kernel_rfl) (by as_aux_lemma => kernel_rfl) (by as_aux_lemma => kernel_rfl) (fun _ _ _ h => h) (Or.inl ⟨by rfl, ?_⟩) hHeld0 ?_
  rotate_left
  · intro w hSw
    (try dsimp only at hSw)
    go_simp
    try (first | (with_reducible rfl) | rfl)
  try simp only [List.getElem_toArray, List.getElem_cons_zero, List.getElem_cons_succ, Act.put, List.setIfInBounds_toArray, List.set_cons_zero, List.set_cons_succ]
  refine wpAnyH_take (i := 13) (v := ?_) rfl (by as_aux_lemma => kernel_rfl) (by as_aux_lemma => kernel_rfl) (by as_aux_lemma => kernel_rfl) (fun _ _ _ h => h) (Or.inl ⟨by rfl, ?_⟩) hHeld0 ?_
  rotate_left
  · intro w hSw
    (try dsimp only at hSw)
    go_simp
    try (first | (with_reducible rfl) | rfl)
  try simp only [List.getElem_toArray, List.getElem_cons_zero, List.getElem_cons_succ, Act.put, List.setIfInBounds_toArray, List.set_cons_zero, List.set_cons_succ]
  refine wpAnyH_take (i := 14) (v := ?_) rfl (by as_aux_lemma => kernel_rfl) (by as_aux_lemma => kernel_rfl) (by as_aux_lemma => kernel_rfl) (fun _ _ _ h => h) (Or.inl ⟨by rfl, ?_⟩) hHeld0 ?_
  rotate_left
  · intro w hSw
    (try dsimp only at hSw)
    go_simp
    try (first | (with_reducible rfl) | rfl)
  try simp only [List.getElem_toArray, List.getElem_cons_zero, List.getElem_cons_succ, Act.put, List.setIfInBounds_toArray, List.set_cons_zero, List.set_cons_succ]
  refine wpAnyH_take (i := 15) (v := ?_) rfl (by as_aux_lemma => kernel_rfl) (by as_aux_lemma => kernel_rfl) (by as_aux_lemma => kernel_rfl) (fun _ _ _ h => h) (Or.inl ⟨by rfl, ?_⟩) hHeld0 ?_
  rotate_left
  · intro w hSw
    (try dsimp only at hSw)
    go_simp
    try (first | (with_reducible rfl) | rfl)
  try simp only [List.getElem_toArray, List.getElem_cons_zero, List.getElem_cons_succ, Act.put, List.setIfInBounds_toArray, List.set_cons_zero, List.set_cons_succ]
  refine wpAnyH_take (i := 16) (v := ?_) rfl (by as_aux_lemma => kernel_rfl) (by as_aux_lemma => kernel_rfl) (by as_aux_lemma => kernel_rfl) (fun _ _ _ h => h) (Or.inl ⟨by rfl, ?_⟩) hHeld0 ?_
  rotate_left
  · intro w hSw
    (try dsimp only at hSw)
    go_simp
    try (first | (with_reducible rfl) | rfl)
  try simp only [List.getElem_toArray, List.getElem_cons_zero, List.getElem_cons_succ, Act.put, List.setIfInBounds_toArray, List.set_cons_zero, List.set_cons_succ]
  refine wpAnyH_ready (rs := [17]) (by as_aux_lemma => kernel_rfl) (by simp) ?_
  refine AllReadyH.cons rfl (fun K hK => ?_) ?_
  · go_simp
    go_at_call 65; refine (rnextw_is x nx v0 _ x0 x1 n0 n1 HNW.out).mono ?_; rintro e w5 ⟨rfl, rfl⟩
    go_wp2_with fail
    refine hK.out _ _ ?_ (fun hHeld17_17 => ?_)
    · first | exact HCS.out _ _ _ HN2.out | exact HCS.out _ _ _ H5.out.drew
    clear hK K
    try simp only [List.getElem_toArray, List.getElem_cons_zero, List.getElem_cons_succ, Act.put, List.setIfInBounds_toArray, List.set_cons_zero, List.set_cons_succ]
    refine wpAnyH_ready (rs := [18]) (by as_aux_lemma => kernel_rfl) (by simp) ?_
    refine AllReadyH.cons rfl (fun K hK => ?_) ?_
    · go_simp
      go_at_call 64; refine (rswap_lost H5.out.drew a0 y0 x v0 HY.out ha hk hne).mono ?_; rintro e w6 ⟨rfl, hq⟩; (have HN2 := Lib.hid (show St w0 (refA y ws (ns ++ [noN a0 y0]) :: rtB p n s h t a0 g i 3 x nx 0 :: L) w6 from hq)); clear hq
      go_wp2_with fail
      refine hK.out _ _ ?_ (fun hHeld18_18 => ?_)
      · first | exact HCS.out _ _ _ HN2.out | exact HCS.out _ _ _ H5.out.drew
      clear hK K
      try simp only [List.getElem_toArray, List.getElem_cons_zero, List.getElem_cons_succ, Act.put, List.setIfInBounds_toArray, List.set_cons_zero, List.set_cons_succ]
      refine wpAnyH_take (i := 19) (v := ?_) rfl (by as_aux_lemma => kernel_rfl) (by as_aux_lemma => kernel_rfl) (by as_aux_lemma => kernel_rfl) (fun _ _ _ h => h) (Or.inl ⟨by rfl, ?_⟩) hHeld18_18 ?_
      rotate_left
      · intro w hSw
        (try dsimp only at hSw)
        go_simp
        try (first | (with_reducible rfl) | rfl)
      try simp only [List.getElem_toArray, List.getElem_cons_zero, List.getElem_cons_succ, Act.put, List.setIfInBounds_toArray, List.set_cons_zero, List.set_cons_succ]
      refine wpAnyH_take (i := 20) (v := ?_) rfl (by as_aux_lemma => kernel_rfl) (by as_aux_lemma => kernel_rfl) (by as_aux_lemma => kernel_rfl) (fun _ _ _ h => h) (Or.inl ⟨by rfl, ?_⟩) hHeld18_18 ?_
      rotate_left
      · intro w hSw
        (try dsimp only at hSw)
        go_simp
        try (first | (with_reducible rfl) | rfl)
      try simp only [List.getElem_toArray, List.getElem_cons_zero, List.getElem_cons_succ, Act.put, List.setIfInBounds_toArray, List.set_cons_zero, List.set_cons_succ]
      refine wpAnyH_take (i := 21) (v := ?_) rfl (by as_aux_lemma => kernel_rfl) (by as_aux_lemma => kernel_rfl) (by as_aux_lemma => kernel_rfl) (fun _ _ _ h => h) (Or.inl ⟨by rfl, ?_⟩) hHeld18_18 ?_
      rotate_left
      · intro w hSw
        (try dsimp only at hSw)
        go_simp
        try (first | (with_reducible rfl) | rfl)
      try simp only [List.getElem_toArray, List.getElem_cons_zero, List.getElem_cons_succ, Act.put, List.setIfInBounds_toArray, List.set_cons_zero, List.set_cons_succ]
      refine wpAnyH_take (i := 22) (v := ?_) rfl (by as_aux_lemma => kernel_rfl) (by as_aux_lemma => kernel_rfl) (by as_aux_lemma => kernel_rfl) (fun _ _ _ h => h) (Or.inl ⟨by rfl, ?_⟩) hHeld18_18 ?_
      rotate_left
      · intro w hSw
        (try dsimp only at hSw)
        go_simp
        try (first | (with_reducible rfl) | rfl)
      try simp only [List.getElem_toArray, List.getElem_cons_zero, List.getElem_cons_succ, Act.put, List.setIfInBounds_toArray, List.set_cons_zero, List.set_cons_succ]
      refine wpAnyH_take (i := 23) (v := ?_) rfl (by as_aux_lemma => kernel_rfl) (by as_aux_lemma => kernel_rfl) (by as_aux_lemma => kernel_rfl) (fun _ _ _ h => h) (Or.inl ⟨by rfl, ?_⟩) hHeld18_18 ?_
      rotate_left
      · intro w hSw
        (try dsimp only at hSw)
        go_simp
        try (first | (with_reducible rfl) | rfl)
      try simp only [List.getElem_toArray, List.getElem_cons_zero, List.getElem_cons_succ, Act.put, List.setIfInBounds_toArray, List.set_cons_zero, List.set_cons_succ]
      refine wpAnyH_done (by as_aux_lemma => kernel_rfl) ?_ _
      obtain ⟨⟨q0, q1, q2, q3, q4, q5, q6, q7, q8, q9, q10⟩, ⟨f6, f7, f8, f9, f10⟩, lp⟩ := cells11 (HN2.out.cells 1 rfl)
      go_wp2_with (go_at_call 58; refine (rt_end 3 0 (if_neg (by decide)) (HN2.out)).mono ?_; rintro e we ⟨rfl, h⟩; (have HE := Lib.hid h); clear h)
      go_ret2
      exact ⟨rfl, HE.out⟩
    exact AllReadyH.nil
  exact AllReadyH.nil
end Go.Proofs.Ytndigbkhaajjoaa
