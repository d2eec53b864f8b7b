/-
  The document's machine of chapter 7: its end, its first step.
-/
import Derived.Test.YtndigbkhaajjoaaR7
import Derived.Deep.DeepCutAuto
namespace Go.Proofs.Ytndigbkhaajjoaa
open Go.RowKit
set_option linter.unusedVariables false
set_option linter.unusedSimpArgs false

set_option maxHeartbeats 4000000 in
theorem rt_end0 {w0 w : World} {y p : Nat} {ws : List Int} {ns : List Note} {L : List Asn} {n s h t a i pc x nx st : Int} {g : Bool} (r : Int) (hr : r ≠ 1) (hS : St w0 (refA y ws ns :: rtB p n s h t a g i pc x nx st :: L) w) :
    Calls Try.prog 58 #[.pointer (some ⟨p, 0, none⟩), .int .i64 r] w fun e w' => e = .returned (.tuple #[.int .i64 r, .int .u32 0]) ∧ St w0 (refA y ws ns :: rtB p n s h t a g i pc x nx r :: L) w' := by
  have H := Lib.hid hS
  have hb : (r == 1) = false := by simp; exact hr
  obtain ⟨⟨q0, q1, q2, q3, q4, q5, q6, q7, q8, q9, q10⟩, ⟨f6, f7, f8, f9, f10⟩, lp⟩ := cells11 (hS.cells 1 rfl)
  clear hS
  go_enter Try.func58, Try.ntmps58
  go_wp2
  go_ret2
  exact ⟨rfl, H.out.setAt 1 rfl 10 (.int .i64 r)⟩
set_option maxHeartbeats 4000000 in
theorem rt_end1 {w0 w : World} {y p : Nat} {ws : List Int} {ns : List Note} {L : List Asn} {n s h t a i pc x nx st : Int} {g : Bool} (hS : St w0 (refA y ws ns :: rtB p n s h t a g i pc x nx st :: L) w) :
    Calls Try.prog 58 #[.pointer (some ⟨p, 0, none⟩), .int .i64 1] w fun e w' => e = .returned (.tuple #[.int .i64 1, .int .u32 i]) ∧ St w0 (refA y ws ns :: rtB p n s h t a g i pc x nx 1 :: L) w' := by
  have h5 := hS.setAt 1 rfl 10 (.int .i64 1)
  obtain ⟨⟨q0, q1, q2, q3, q4, q5, q6, q7, q8, q9, q10⟩, ⟨f6, f7, f8, f9, f10⟩, lp⟩ := cells11 (hS.cells 1 rfl)
  go_enter Try.func58, Try.ntmps58
  go_wp2
  generalize w.setCell ⟨p, 10, none⟩ (.int .i64 1) = W at *
  have H5 := Lib.hid h5
  clear q0 q1 q2 q3 q4 q5 q6 q7 q8 q9 q10 f6 f7 f8 f9 f10 lp
  clear hS
  obtain ⟨⟨q0, q1, q2, q3, q4, q5, q6, q7, q8, q9, q10⟩, ⟨f6, f7, f8, f9, f10⟩, lp⟩ := cells11 (h5.cells 1 rfl)
  clear h5
  go_quiet (fail)
  go_wp2
  go_ret2
  exact ⟨rfl, H5.out.drewN nq⟩
theorem rt_end {w0 w : World} {y p : Nat} {ws : List Int} {ns : List Note} {L : List Asn} {n s h t a i pc x nx st : Int} {g : Bool} (r z : Int) (hz : (if r = 1 then i else 0) = z) (hS : St w0 (refA y ws ns :: rtB p n s h t a g i pc x nx st :: L) w) :
    Calls Try.prog 58 #[.pointer (some ⟨p, 0, none⟩), .int .i64 r] w fun e w' => e = .returned (.tuple #[.int .i64 r, .int .u32 z]) ∧ St w0 (refA y ws ns :: rtB p n s h t a g i pc x nx r :: L) w' := by
  by_cases c : r = 1
  · subst c
    rw [if_pos rfl] at hz
    subst hz
    exact rt_end1 hS
  · rw [if_neg c] at hz
    subst hz
    exact rt_end0 r c hS
set_option maxRecDepth 20000 in
set_option maxHeartbeats 8000000 in
theorem rt_first_g1 {w0 w : World} {y p : Nat} {ws : List Int} {ns : List Note} {L : List Asn} {n s h t a i pc x nx st : Int} {v : Int} (hS : St w0 (refA y ws ns :: rtB p n s h t a true i pc x nx st :: L) w) (i0 : 0 ≤ i) (i1 : i < 4294967296) (hv : atI n s h 0 (2 * (i - 1)) = v) (hv0 : v < 0) :
    Calls Try.prog 59 #[.pointer (some ⟨p, 0, none⟩), .pointer (some ⟨y, 0, none⟩)] w fun e w' => e = .returned (.tuple #[.int .i64 5, .int .u32 0]) ∧ St w0 (refA y ws ns :: rtB p n s h t a true i pc x nx 5 :: L) w' := by
  have H := Lib.hid hS
  have HV := Lib.hid hv
  have d0 : decide (v < 0) = true := decide_eq_true hv0
  obtain ⟨⟨q0, q1, q2, q3, q4, q5, q6, q7, q8, q9, q10⟩, ⟨f6, f7, f8, f9, f10⟩, lp⟩ := cells11 (H.out.cells 1 rfl)
  clear hS
  go_enter Try.func59, Try.ntmps59
  have HCS : Hid (∀ m X w', St w0 (m :: rtB p n s h t a true i pc x nx st :: X) w' → w'.cell? ⟨p, 0, none⟩ = some (.int .i64 n) ∧ w'.cell? ⟨p, 1, none⟩ = some (.int .i64 s) ∧ w'.cell? ⟨p, 2, none⟩ = some (.int .i64 h) ∧ w'.cell? ⟨p, 3, none⟩ = some (.int .u32 t) ∧ w'.cell? ⟨p, 5, none⟩ = some (.bool true) ∧ w'.cell? ⟨p, 6, none⟩ = some (.int .u32 i) ∧ w'.cell? ⟨p, 8, none⟩ = some (.int .u64 x) ∧ w'.cell? ⟨p, 9, none⟩ = some (.int .u32 nx)) := Lib.hid fun m X w' h => by
    obtain ⟨⟨q0, q1, q2, q3, q4, q5, q6, q7, q8, q9, q10⟩, ⟨f6, f7, f8, f9, f10⟩, lp⟩ := cells11 (h.cells 1 rfl)
    exact ⟨q0, q1, q2, q3, q5, q6, q8, q9⟩
  go_wp2
  clear q0 q1 q2 q3 q4 q5 q6 q7 q8 q9 q10 f6 f7 f8 f9 f10 lp
  refine wp_region_held_drew (S := (fun w' => w'.cell? ⟨p, 0, none⟩ = some (.int .i64 n) ∧ w'.cell? ⟨p, 1, none⟩ = some (.int .i64 s) ∧ w'.cell? ⟨p, 2, none⟩ = some (.int .i64 h) ∧ w'.cell? ⟨p, 3, none⟩ = some (.int .u32 t) ∧ w'.cell? ⟨p, 5, none⟩ = some (.bool true) ∧ w'.cell? ⟨p, 6, none⟩ = some (.int .u32 i) ∧ w'.cell? ⟨p, 8, none⟩ = some (.int .u64 x) ∧ w'.cell? ⟨p, 9, none⟩ = some (.int .u32 nx))) (by as_aux_lemma => kernel_rfl) ?_ (fun hHeld0 => ?_)
  · first | exact HCS.out _ _ _ H1.out | exact HCS.out _ _ _ H.out.drew
  refine wpAnyH_take (i := 0) (v := ?_) rfl (by as_aux_lemma => kernel_rfl) (by as_aux_lemma => kernel_rfl) (by as_aux_lemma => kernel_rfl) (fun _ _ _ h => h) (Or.inl ⟨by rfl, ?_⟩) hHeld0 ?_
  rotate_left
  · intro w hSw
    (try dsimp only at hSw)
    go_simp
    try (first | (with_reducible rfl) | rfl)
  try simp only [List.getElem_toArray, List.getElem_cons_zero, List.getElem_cons_succ, Act.put, List.setIfInBounds_toArray, List.set_cons_zero, List.set_cons_succ]
  refine wpAnyH_take (i := 1) (v := ?_) rfl (by as_aux_lemma => kernel_rfl) (by as_aux_lemma => kernel_rfl) (by as_aux_lemma => kernel_rfl) (fun _ _ _ h => h) (Or.inl ⟨by rfl, ?_⟩) hHeld0 ?_
  rotate_left
  · intro w hSw
    (try dsimp only at hSw)
    go_simp
    try (first | (with_reducible rfl) | rfl)
  try simp only [List.getElem_toArray, List.getElem_cons_zero, List.getElem_cons_succ, Act.put, List.setIfInBounds_toArray, List.set_cons_zero, List.set_cons_succ]
  refine wpAnyH_take (i := 2) (v := ?_) rfl (by as_aux_lemma => kernel_rfl) (by as_aux_lemma => kernel_rfl) (by as_aux_lemma => kernel_rfl) (fun _ _ _ h => h) (Or.inl ⟨by rfl, ?_⟩) hHeld0 ?_
  rotate_left
  · intro w hSw
    (try dsimp only at hSw)
    go_simp
    try (first | (with_reducible rfl) | rfl)
  try simp only [List.getElem_toArray, List.getElem_cons_zero, List.getElem_cons_succ, Act.put, List.setIfInBounds_toArray, List.set_cons_zero, List.set_cons_succ]
  refine wpAnyH_take (i := 3) (v := ?_) rfl (by as_aux_lemma => kernel_rfl) (by as_aux_lemma => kernel_rfl) (by as_aux_lemma => kernel_rfl) (fun _ _ _ h => h) (Or.inl ⟨by rfl, ?_⟩) hHeld0 ?_
  rotate_left
  · intro w hSw
    (try dsimp only at hSw)
    go_simp
    try (first | (with_reducible rfl) | rfl)
  try simp only [List.getElem_toArray, List.getElem_cons_zero, List.getElem_cons_succ, Act.put, List.setIfInBounds_toArray, List.set_cons_zero, List.set_cons_succ]
  refine wpAnyH_take (i := 4) (v := ?_) rfl (by as_aux_lemma => kernel_rfl) (by as_aux_lemma => kernel_rfl) (by as_aux_lemma => kernel_rfl) (fun _ _ _ h => h) (Or.inl ⟨by rfl, ?_⟩) hHeld0 ?_
  rotate_left
  · intro w hSw
    (try dsimp only at hSw)
    go_simp
    try (first | (with_reducible rfl) | rfl)
  try simp only [List.getElem_toArray, List.getElem_cons_zero, List.getElem_cons_succ, Act.put, List.setIfInBounds_toArray, List.set_cons_zero, List.set_cons_succ]
  refine wpAnyH_take (i := 5) (v := ?_) rfl (by as_aux_lemma => kernel_rfl) (by as_aux_lemma => kernel_rfl) (by as_aux_lemma => kernel_rfl) (fun _ _ _ h => h) (Or.inl ⟨by rfl, ?_⟩) hHeld0 ?_
  rotate_left
  · intro w hSw
    (try dsimp only at hSw)
    go_simp
    try (first | (with_reducible rfl) | rfl)
  try simp only [List.getElem_toArray, List.getElem_cons_zero, List.getElem_cons_succ, Act.put, List.setIfInBounds_toArray, List.set_cons_zero, List.set_cons_succ]
  refine wpAnyH_take (i := 6) (v := ?_) rfl (by as_aux_lemma => kernel_rfl) (by as_aux_lemma => kernel_rfl) (by as_aux_lemma => kernel_rfl) (fun _ _ _ h => h) (Or.inl ⟨by rfl, ?_⟩) hHeld0 ?_
  rotate_left
  · intro w hSw
    (try dsimp only at hSw)
    go_simp
    try (first | (with_reducible rfl) | rfl)
  try simp only [List.getElem_toArray, List.getElem_cons_zero, List.getElem_cons_succ, Act.put, List.setIfInBounds_toArray, List.set_cons_zero, List.set_cons_succ]
  refine wpAnyH_take (i := 7) (v := ?_) rfl (by as_aux_lemma => kernel_rfl) (by as_aux_lemma => kernel_rfl) (by as_aux_lemma => kernel_rfl) (fun _ _ _ h => h) (Or.inl ⟨by rfl, ?_⟩) hHeld0 ?_
  rotate_left
  · intro w hSw
    (try dsimp only at hSw)
    go_simp
    try (first | (with_reducible rfl) | rfl)
  try simp only [List.getElem_toArray, List.getElem_cons_zero, List.getElem_cons_succ, Act.put, List.setIfInBounds_toArray, List.set_cons_zero, List.set_cons_succ]
  refine wpAnyH_take (i := 8) (v := ?_) rfl (by as_aux_lemma => kernel_rfl) (by as_aux_lemma => kernel_rfl) (by as_aux_lemma => kernel_rfl) (fun _ _ _ h => h) (Or.inl ⟨by rfl, ?_⟩) hHeld0 ?_
  rotate_left
  · intro w hSw
    (try dsimp only at hSw)
    go_simp
    try (first | (with_reducible rfl) | rfl)
  try simp only [List.getElem_toArray, List.getElem_cons_zero, List.getElem_cons_succ, Act.put, List.setIfInBounds_toArray, List.set_cons_zero, List.set_cons_succ]
  refine wpAnyH_take (i := 9) (v := ?_) rfl (by as_aux_lemma => kernel_rfl) (by as_aux_lemma => kernel_rfl) (by as_aux_lemma => kernel_rfl) (fun _ _ _ h => h) (Or.inl ⟨by rfl, ?_⟩) hHeld0 ?_
  rotate_left
  · intro w hSw
    (try dsimp only at hSw)
    go_simp
    try (first | (with_reducible rfl) | rfl)
  try simp only [List.getElem_toArray, List.getElem_cons_zero, List.getElem_cons_succ, Act.put, List.setIfInBounds_toArray, List.set_cons_zero, List.set_cons_succ]
  refine wpAnyH_take (i := 10) (v := ?_) rfl (by as_aux_lemma => kernel_rfl) (by as_aux_lemma => kernel_rfl) (by as_aux_lemma => kernel_rfl) (fun _ _ _ h => h) (Or.inl ⟨by rfl, ?_⟩) hHeld0 ?_
  rotate_left
  · intro w hSw
    (try dsimp only at hSw)
    go_simp
    try (first | (with_reducible rfl) | rfl)
  try simp only [List.getElem_toArray, List.getElem_cons_zero, List.getElem_cons_succ, Act.put, List.setIfInBounds_toArray, List.set_cons_zero, List.set_cons_succ]
  refine wpAnyH_take (i := 11) (v := ?_) rfl (by as_aux_lemma => kernel_rfl) (by as_aux_lemma => kernel_rfl) (by as_aux_lemma => kernel_rfl) (fun _ _ _ h => h) (Or.inl ⟨by rfl, ?_⟩) hHeld0 ?_
  rotate_left
  · intro w hSw
    (try dsimp only at hSw)
    go_simp
    try (first | (with_reducible rfl) | rfl)
  try simp only [List.getElem_toArray, List.getElem_cons_zero, List.getElem_cons_succ, Act.put, List.setIfInBounds_toArray, List.set_cons_zero, List.set_cons_succ]
  refine wpAnyH_take (i := 12) (v := ?_) rfl (by as_aux_lemma => kernel_rfl) (by as_aux_lemma => kernel_rfl) (by as_aux_lemma => kernel_rfl) (fun _ _ _ h => h) (Or.inl ⟨by rfl, ?_⟩) hHeld0 ?_
  rotate_left
  · intro w hSw
    (try dsimp only at hSw)
    go_simp
    try (first | (with_reducible rfl) | rfl)
  try simp only [List.getElem_toArray, List.getElem_cons_zero, List.getElem_cons_succ, Act.put, List.setIfInBounds_toArray, List.set_cons_zero, List.set_cons_succ]
  refine wpAnyH_ready (rs := [13]) (by as_aux_lemma => kernel_rfl) (by simp) ?_
  refine AllReadyH.cons rfl (fun K hK => ?_) ?_
  · go_simp
    go_at_call 61; refine (rnx_is n s h t i v _ i0 i1 HV.out).mono ?_; rintro e wn ⟨rfl, hb⟩; (have H1 := Lib.hid (H.out.drew.below hb)); clear hb
    go_wp2_with fail
    refine hK.out _ _ ?_ (fun hHeld13_13 => ?_)
    · first | exact HCS.out _ _ _ H1.out | exact HCS.out _ _ _ H.out.drew
    clear hK K
    try simp only [List.getElem_toArray, List.getElem_cons_zero, List.getElem_cons_succ, Act.put, List.setIfInBounds_toArray, List.set_cons_zero, List.set_cons_succ]
    refine wpAnyH_take (i := 14) (v := ?_) rfl (by as_aux_lemma => kernel_rfl) (by as_aux_lemma => kernel_rfl) (by as_aux_lemma => kernel_rfl) (fun _ _ _ h => h) (Or.inl ⟨by rfl, ?_⟩) hHeld13_13 ?_
    rotate_left
    · intro w hSw
      (try dsimp only at hSw)
      go_simp
      try (first | (with_reducible rfl) | rfl)
    try simp only [List.getElem_toArray, List.getElem_cons_zero, List.getElem_cons_succ, Act.put, List.setIfInBounds_toArray, List.set_cons_zero, List.set_cons_succ]
    refine wpAnyH_take (i := 15) (v := ?_) rfl (by as_aux_lemma => kernel_rfl) (by as_aux_lemma => kernel_rfl) (by as_aux_lemma => kernel_rfl) (fun _ _ _ h => h) (Or.inl ⟨by rfl, ?_⟩) hHeld13_13 ?_
    rotate_left
    · intro w hSw
      (try dsimp only at hSw)
      go_simp
      try (first | (with_reducible rfl) | rfl)
    try simp only [List.getElem_toArray, List.getElem_cons_zero, List.getElem_cons_succ, Act.put, List.setIfInBounds_toArray, List.set_cons_zero, List.set_cons_succ]
    refine wpAnyH_done (by as_aux_lemma => kernel_rfl) ?_ _
    obtain ⟨⟨q0, q1, q2, q3, q4, q5, q6, q7, q8, q9, q10⟩, ⟨f6, f7, f8, f9, f10⟩, lp⟩ := cells11 (H1.out.cells 1 rfl)
    go_wp2_with (go_at_call 58; refine (rt_end 5 0 (if_neg (by decide)) (H1.out)).mono ?_; rintro e we ⟨rfl, h⟩; (have HE := Lib.hid h); clear h)
    go_ret2
    exact ⟨rfl, HE.out⟩
  exact AllReadyH.nil
set_option maxRecDepth 20000 in
set_option maxHeartbeats 8000000 in
theorem rt_first_g2 {w0 w : World} {y p : Nat} {ws : List Int} {ns : List Note} {L : List Asn} {n s h t a i pc x nx st : Int} {v : Int} (hS : St w0 (refA y ws ns :: rtB p n s h t a true i pc x nx st :: L) w) (i0 : 0 ≤ i) (i1 : i < 4294967296) (hv : atI n s h 0 (2 * (i - 1)) = v) (hv0 : 0 ≤ v) (ha : a < 0 ∨ (ws.length : Int) ≤ a) :
    Calls Try.prog 59 #[.pointer (some ⟨p, 0, none⟩), .pointer (some ⟨y, 0, none⟩)] w fun e w' => e = .returned (.tuple #[.int .i64 5, .int .u32 0]) ∧ St w0 (refA y ws ns :: rtB p n s h t a true i pc 0 nx 5 :: L) w' := by
  have H := Lib.hid hS
  have HV := Lib.hid hv
  have d0 : decide (v < 0) = false := decide_eq_false (by omega)
  obtain ⟨⟨q0, q1, q2, q3, q4, q5, q6, q7, q8, q9, q10⟩, ⟨f6, f7, f8, f9, f10⟩, lp⟩ := cells11 (H.out.cells 1 rfl)
  clear hS
  go_enter Try.func59, Try.ntmps59
  have HCS : Hid (∀ m X w', St w0 (m :: rtB p n s h t a true i pc x nx st :: X) w' → w'.cell? ⟨p, 0, none⟩ = some (.int .i64 n) ∧ w'.cell? ⟨p, 1, none⟩ = some (.int .i64 s) ∧ w'.cell? ⟨p, 2, none⟩ = some (.int .i64 h) ∧ w'.cell? ⟨p, 3, none⟩ = some (.int .u32 t) ∧ w'.cell? ⟨p, 5, none⟩ = some (.bool true) ∧ w'.cell? ⟨p, 6, none⟩ = some (.int .u32 i) ∧ w'.cell? ⟨p, 8, none⟩ = some (.int .u64 x) ∧ w'.cell? ⟨p, 9, none⟩ = some (.int .u32 nx)) := Lib.hid fun m X w' h => by
    obtain ⟨⟨q0, q1, q2, q3, q4, q5, q6, q7, q8, q9, q10⟩, ⟨f6, f7, f8, f9, f10⟩, lp⟩ := cells11 (h.cells 1 rfl)
    exact ⟨q0, q1, q2, q3, q5, q6, q8, q9⟩
  go_wp2
  clear q0 q1 q2 q3 q4 q5 q6 q7 q8 q9 q10 f6 f7 f8 f9 f10 lp
  refine wp_region_held_drew (S := (fun w' => w'.cell? ⟨p, 0, none⟩ = some (.int .i64 n) ∧ w'.cell? ⟨p, 1, none⟩ = some (.int .i64 s) ∧ w'.cell? ⟨p, 2, none⟩ = some (.int .i64 h) ∧ w'.cell? ⟨p, 3, none⟩ = some (.int .u32 t) ∧ w'.cell? ⟨p, 5, none⟩ = some (.bool true) ∧ w'.cell? ⟨p, 6, none⟩ = some (.int .u32 i) ∧ w'.cell? ⟨p, 8, none⟩ = some (.int .u64 x) ∧ w'.cell? ⟨p, 9, none⟩ = some (.int .u32 nx))) (by as_aux_lemma => kernel_rfl) ?_ (fun hHeld0 => ?_)
  · first | exact HCS.out _ _ _ H1.out | exact HCS.out _ _ _ H.out.drew
  refine wpAnyH_take (i := 0) (v := ?_) rfl (by as_aux_lemma => kernel_rfl) (by as_aux_lemma => kernel_rfl) (by as_aux_lemma => kernel_rfl) (fun _ _ _ h => h) (Or.inl ⟨by rfl, ?_⟩) hHeld0 ?_
  rotate_left
  · intro w hSw
    (try dsimp only at hSw)
    go_simp
    try (first | (with_reducible rfl) | rfl)
  try simp only [List.getElem_toArray, List.getElem_cons_zero, List.getElem_cons_succ, Act.put, List.setIfInBounds_toArray, List.set_cons_zero, List.set_cons_succ]
  refine wpAnyH_take (i := 1) (v := ?_) rfl (by as_aux_lemma => kernel_rfl) (by as_aux_lemma => kernel_rfl) (by as_aux_lemma => kernel_rfl) (fun _ _ _ h => h) (Or.inl ⟨by rfl, ?_⟩) hHeld0 ?_
  rotate_left
  · intro w hSw
    (try dsimp only at hSw)
    go_simp
    try (first | (with_reducible rfl) | rfl)
  try simp only [List.getElem_toArray, List.getElem_cons_zero, List.getElem_cons_succ, Act.put, List.setIfInBounds_toArray, List.set_cons_zero, List.set_cons_succ]
  refine wpAnyH_take (i := 2) (v := ?_) rfl (by as_aux_lemma => kernel_rfl) (by as_aux_lemma => kernel_rfl) (by as_aux_lemma => kernel_rfl) (fun _ _ _ h => h) (Or.inl ⟨by rfl, ?_⟩) hHeld0 ?_
  rotate_left
  · intro w hSw
    (try dsimp only at hSw)
    go_simp
    try (first | (with_reducible rfl) | rfl)
  try simp only [List.getElem_toArray, List.getElem_cons_zero, List.getElem_cons_succ, Act.put, List.setIfInBounds_toArray, List.set_cons_zero, List.set_cons_succ]
  refine wpAnyH_take (i := 3) (v := ?_) rfl (by as_aux_lemma => kernel_rfl) (by as_aux_lemma => kernel_rfl) (by as_aux_lemma => kernel_rfl) (fun _ _ _ h => h) (Or.inl ⟨by rfl, ?_⟩) hHeld0 ?_
  rotate_left
  · intro w hSw
    (try dsimp only at hSw)
    go_simp
    try (first | (with_reducible rfl) | rfl)
  try simp only [List.getElem_toArray, List.getElem_cons_zero, List.getElem_cons_succ, Act.put, List.setIfInBounds_toArray, List.set_cons_zero, List.set_cons_succ]
  refine wpAnyH_take (i := 4) (v := ?_) rfl (by as_aux_lemma => kernel_rfl) (by as_aux_lemma => kernel_rfl) (by as_aux_lemma => kernel_rfl) (fun _ _ _ h => h) (Or.inl ⟨by rfl, ?_⟩) hHeld0 ?_
  rotate_left
  · intro w hSw
    (try dsimp only at hSw)
    go_simp
    try (first | (with_reducible rfl) | rfl)
  try simp only [List.getElem_toArray, List.getElem_cons_zero, List.getElem_cons_succ, Act.put, List.setIfInBounds_toArray, List.set_cons_zero, List.set_cons_succ]
  refine wpAnyH_take (i := 5) (v := ?_) rfl (by as_aux_lemma => kernel_rfl) (by as_aux_lemma => kernel_rfl) (by as_aux_lemma => kernel_rfl) (fun _ _ _ h => h) (Or.inl ⟨by rfl, ?_⟩) hHeld0 ?_
  rotate_left
  · intro w hSw
    (try dsimp only at hSw)
    go_simp
    try (first | (with_reducible rfl) | rfl)
  try simp only [List.getElem_toArray, List.getElem_cons_zero, List.getElem_cons_succ, Act.put, List.setIfInBounds_toArray, List.set_cons_zero, List.set_cons_succ]
  refine wpAnyH_take (i := 6) (v := ?_) rfl (by as_aux_lemma => kernel_rfl) (by as_aux_lemma => kernel_rfl) (by as_aux_lemma => kernel_rfl) (fun _ _ _ h => h) (Or.inl ⟨by rfl, ?_⟩) hHeld0 ?_
  rotate_left
  · intro w hSw
    (try dsimp only at hSw)
    go_simp
    try (first | (with_reducible rfl) | rfl)
  try simp only [List.getElem_toArray, List.getElem_cons_zero, List.getElem_cons_succ, Act.put, List.setIfInBounds_toArray, List.set_cons_zero, List.set_cons_succ]
  refine wpAnyH_take (i := 7) (v := ?_) rfl (by as_aux_lemma => kernel_rfl) (by as_aux_lemma => kernel_rfl) (by as_aux_lemma => kernel_rfl) (fun _ _ _ h => h) (Or.inl ⟨by rfl, ?_⟩) hHeld0 ?_
  rotate_left
  · intro w hSw
    (try dsimp only at hSw)
    go_simp
    try (first | (with_reducible rfl) | rfl)
  try simp only [List.getElem_toArray, List.getElem_cons_zero, List.getElem_cons_succ, Act.put, List.setIfInBounds_toArray, List.set_cons_zero, List.set_cons_succ]
  refine wpAnyH_take (i := 8) (v := ?_) rfl (by as_aux_lemma => kernel_rfl) (by as_aux_lemma => kernel_rfl) (by as_aux_lemma => kernel_rfl) (fun _ _ _ h => h) (Or.inl ⟨by rfl, ?_⟩) hHeld0 ?_
  rotate_left
  · intro w hSw
    (try dsimp only at hSw)
    go_simp
    try (first | (with_reducible rfl) | rfl)
  try simp only [List.getElem_toArray, List.getElem_cons_zero, List.getElem_cons_succ, Act.put, List.setIfInBounds_toArray, List.set_cons_zero, List.set_cons_succ]
  refine wpAnyH_take (i := 9) (v := ?_) rfl (by as_aux_lemma => kernel_rfl) (by as_aux_lemma => kernel_rfl) (by as_aux_lemma => kernel_rfl) (fun _ _ _ h => h) (Or.inl ⟨by rfl, ?_⟩) hHeld0 ?_
  rotate_left
  · intro w hSw
    (try dsimp only at hSw)
    go_simp
    try (first | (with_reducible rfl) | rfl)
  try simp only [List.getElem_toArray, List.getElem_cons_zero, List.getElem_cons_succ, Act.put, List.setIfInBounds_toArray, List.set_cons_zero, List.set_cons_succ]
  refine wpAnyH_take (i := 10) (v := ?_) rfl (by as_aux_lemma => kernel_rfl) (by as_aux_lemma => kernel_rfl) (by as_aux_lemma => kernel_rfl) (fun _ _ _ h => h) (Or.inl ⟨by rfl, ?_⟩) hHeld0 ?_
  rotate_left
  · intro w hSw
    (try dsimp only at hSw)
    go_simp
    try (first | (with_reducible rfl) | rfl)
  try simp only [List.getElem_toArray, List.getElem_cons_zero, List.getElem_cons_succ, Act.put, List.setIfInBounds_toArray, List.set_cons_zero, List.set_cons_succ]
  refine wpAnyH_take (i := 11) (v := ?_) rfl (by as_aux_lemma => kernel_rfl) (by as_aux_lemma => kernel_rfl) (by as_aux_lemma => kernel_rfl) (fun _ _ _ h => h) (Or.inl ⟨by rfl, ?_⟩) hHeld0 ?_
  rotate_left
  · intro w hSw
    (try dsimp only at hSw)
    go_simp
    try (first | (with_reducible rfl) | rfl)
  try simp only [List.getElem_toArray, List.getElem_cons_zero, List.getElem_cons_succ, Act.put, List.setIfInBounds_toArray, List.set_cons_zero, List.set_cons_succ]
  refine wpAnyH_take (i := 12) (v := ?_) rfl (by as_aux_lemma => kernel_rfl) (by as_aux_lemma => kernel_rfl) (by as_aux_lemma => kernel_rfl) (fun _ _ _ h => h) (Or.inl ⟨by rfl, ?_⟩) hHeld0 ?_
  rotate_left
  · intro w hSw
    (try dsimp only at hSw)
    go_simp
    try (first | (with_reducible rfl) | rfl)
  try simp only [List.getElem_toArray, List.getElem_cons_zero, List.getElem_cons_succ, Act.put, List.setIfInBounds_toArray, List.set_cons_zero, List.set_cons_succ]
  refine wpAnyH_ready (rs := [13]) (by as_aux_lemma => kernel_rfl) (by simp) ?_
  refine AllReadyH.cons rfl (fun K hK => ?_) ?_
  · go_simp
    go_at_call 61; refine (rnx_is n s h t i v _ i0 i1 HV.out).mono ?_; rintro e wn ⟨rfl, hb⟩; (have H1 := Lib.hid (H.out.drew.below hb)); clear hb
    go_wp2_with fail
    refine hK.out _ _ ?_ (fun hHeld13_13 => ?_)
    · first | exact HCS.out _ _ _ H1.out | exact HCS.out _ _ _ H.out.drew
    clear hK K
    try simp only [List.getElem_toArray, List.getElem_cons_zero, List.getElem_cons_succ, Act.put, List.setIfInBounds_toArray, List.set_cons_zero, List.set_cons_succ]
    refine wpAnyH_take (i := 14) (v := ?_) rfl (by as_aux_lemma => kernel_rfl) (by as_aux_lemma => kernel_rfl) (by as_aux_lemma => kernel_rfl) (fun _ _ _ h => h) (Or.inl ⟨by rfl, ?_⟩) hHeld13_13 ?_
    rotate_left
    · intro w hSw
      (try dsimp only at hSw)
      go_simp
      try (first | (with_reducible rfl) | rfl)
    try simp only [List.getElem_toArray, List.getElem_cons_zero, List.getElem_cons_succ, Act.put, List.setIfInBounds_toArray, List.set_cons_zero, List.set_cons_succ]
    refine wpAnyH_take (i := 15) (v := ?_) rfl (by as_aux_lemma => kernel_rfl) (by as_aux_lemma => kernel_rfl) (by as_aux_lemma => kernel_rfl) (fun _ _ _ h => h) (Or.inl ⟨by rfl, ?_⟩) hHeld13_13 ?_
    rotate_left
    · intro w hSw
      (try dsimp only at hSw)
      go_simp
      try (first | (with_reducible rfl) | rfl)
    try simp only [List.getElem_toArray, List.getElem_cons_zero, List.getElem_cons_succ, Act.put, List.setIfInBounds_toArray, List.set_cons_zero, List.set_cons_succ]
    refine wpAnyH_done (by as_aux_lemma => kernel_rfl) ?_ _
    obtain ⟨⟨q0, q1, q2, q3, q4, q5, q6, q7, q8, q9, q10⟩, ⟨f6, f7, f8, f9, f10⟩, lp⟩ := cells11 (H1.out.cells 1 rfl)
    go_wp2_with (first | ((have _h := HL); go_at_call 58; refine (rt_end 5 0 (if_neg (by decide)) (HL.out.setAt 1 rfl 8 (.int .u64 0))).mono ?_; rintro e we ⟨rfl, h⟩; (have HE := Lib.hid h); clear h; clear _h) | (go_at_call 63; refine (rload_no H1.out a ha).mono ?_; rintro e wl ⟨rfl, h⟩; (have HL := Lib.hid h); clear h; clear q0 q1 q2 q3 q4 q5 q6 q7 q8 q9 q10 f6 f7 f8 f9 f10 lp; obtain ⟨⟨q0, q1, q2, q3, q4, q5, q6, q7, q8, q9, q10⟩, ⟨f6, f7, f8, f9, f10⟩, lp⟩ := cells11 (HL.out.cells 1 rfl)))
    go_ret2
    exact ⟨rfl, HE.out⟩
  exact AllReadyH.nil
set_option maxRecDepth 20000 in
set_option maxHeartbeats 8000000 in
theorem rt_first_g3 {w0 w : World} {y p : Nat} {ws : List Int} {ns : List Note} {L : List Asn} {n s h t a i pc x nx st : Int} {v : Int} {a0 : Nat} {y0 : Int} (hS : St w0 (refA y ws ns :: rtB p n s h t a true i pc x nx st :: L) w) (i0 : 0 ≤ i) (i1 : i < 4294967296) (hv : atI n s h 0 (2 * (i - 1)) = v) (hv0 : 0 ≤ v) (haa : a = (a0 : Int)) (ha : a0 < ws.length) (hy : rdW ws a0 = y0) (hk : ns.length ≤ 1000000000000) :
    Calls Try.prog 59 #[.pointer (some ⟨p, 0, none⟩), .pointer (some ⟨y, 0, none⟩)] w fun e w' => e = .returned (.tuple #[.int .i64 0, .int .u32 0]) ∧ St w0 (refA y ws (ns ++ [ldN a0 y0]) :: rtB p n s h t a true i pc y0 nx st :: L) w' := by
  have H := Lib.hid hS
  have HV := Lib.hid hv
  subst haa
  have HY := Lib.hid hy
  have d0 : decide (v < 0) = false := decide_eq_false (by omega)
  obtain ⟨⟨q0, q1, q2, q3, q4, q5, q6, q7, q8, q9, q10⟩, ⟨f6, f7, f8, f9, f10⟩, lp⟩ := cells11 (H.out.cells 1 rfl)
  clear hS
  go_enter Try.func59, Try.ntmps59
  have HCS : Hid (∀ m X w', St w0 (m :: rtB p n s h t a0 true i pc x nx st :: X) w' → w'.cell? ⟨p, 0, none⟩ = some (.int .i64 n) ∧ w'.cell? ⟨p, 1, none⟩ = some (.int .i64 s) ∧ w'.cell? ⟨p, 2, none⟩ = some (.int .i64 h) ∧ w'.cell? ⟨p, 3, none⟩ = some (.int .u32 t) ∧ w'.cell? ⟨p, 5, none⟩ = some (.bool true) ∧ w'.cell? ⟨p, 6, none⟩ = some (.int .u32 i) ∧ w'.cell? ⟨p, 8, none⟩ = some (.int .u64 x) ∧ w'.cell? ⟨p, 9, none⟩ = some (.int .u32 nx)) := Lib.hid fun m X w' h => by
    obtain ⟨⟨q0, q1, q2, q3, q4, q5, q6, q7, q8, q9, q10⟩, ⟨f6, f7, f8, f9, f10⟩, lp⟩ := cells11 (h.cells 1 rfl)
    exact ⟨q0, q1, q2, q3, q5, q6, q8, q9⟩
  go_wp2
  clear q0 q1 q2 q3 q4 q5 q6 q7 q8 q9 q10 f6 f7 f8 f9 f10 lp
  refine wp_region_held_drew (S := (fun w' => w'.cell? ⟨p, 0, none⟩ = some (.int .i64 n) ∧ w'.cell? ⟨p, 1, none⟩ = some (.int .i64 s) ∧ w'.cell? ⟨p, 2, none⟩ = some (.int .i64 h) ∧ w'.cell? ⟨p, 3, none⟩ = some (.int .u32 t) ∧ w'.cell? ⟨p, 5, none⟩ = some (.bool true) ∧ w'.cell? ⟨p, 6, none⟩ = some (.int .u32 i) ∧ w'.cell? ⟨p, 8, none⟩ = some (.int .u64 x) ∧ w'.cell? ⟨p, 9, none⟩ = some (.int .u32 nx))) (by as_aux_lemma => kernel_rfl) ?_ (fun hHeld0 => ?_)
  · first | exact HCS.out _ _ _ H1.out | exact HCS.out _ _ _ H.out.drew
  refine wpAnyH_take (i := 0) (v := ?_) rfl (by as_aux_lemma => kernel_rfl) (by as_aux_lemma => kernel_rfl) (by as_aux_lemma => kernel_rfl) (fun _ _ _ h => h) (Or.inl ⟨by rfl, ?_⟩) hHeld0 ?_
  rotate_left
  · intro w hSw
    (try dsimp only at hSw)
    go_simp
    try (first | (with_reducible rfl) | rfl)
  try simp only [List.getElem_toArray, List.getElem_cons_zero, List.getElem_cons_succ, Act.put, List.setIfInBounds_toArray, List.set_cons_zero, List.set_cons_succ]
  refine wpAnyH_take (i := 1) (v := ?_) rfl (by as_aux_lemma => kernel_rfl) (by as_aux_lemma => kernel_rfl) (by as_aux_lemma => kernel_rfl) (fun _ _ _ h => h) (Or.inl ⟨by rfl, ?_⟩) hHeld0 ?_
  rotate_left
  · intro w hSw
    (try dsimp only at hSw)
    go_simp
    try (first | (with_reducible rfl) | rfl)
  try simp only [List.getElem_toArray, List.getElem_cons_zero, List.getElem_cons_succ, Act.put, List.setIfInBounds_toArray, List.set_cons_zero, List.set_cons_succ]
  refine wpAnyH_take (i := 2) (v := ?_) rfl (by as_aux_lemma => kernel_rfl) (by as_aux_lemma => kernel_rfl) (by as_aux_lemma => kernel_rfl) (fun _ _ _ h => h) (Or.inl ⟨by rfl, ?_⟩) hHeld0 ?_
  rotate_left
  · intro w hSw
    (try dsimp only at hSw)
    go_simp
    try (first | (with_reducible rfl) | rfl)
  try simp only [List.getElem_toArray, List.getElem_cons_zero, List.getElem_cons_succ, Act.put, List.setIfInBounds_toArray, List.set_cons_zero, List.set_cons_succ]
  refine wpAnyH_take (i := 3) (v := ?_) rfl (by as_aux_lemma => kernel_rfl) (by as_aux_lemma => kernel_rfl) (by as_aux_lemma => kernel_rfl) (fun _ _ _ h => h) (Or.inl ⟨by rfl, ?_⟩) hHeld0 ?_
  rotate_left
  · intro w hSw
    (try dsimp only at hSw)
    go_simp
    try (first | (with_reducible rfl) | rfl)
  try simp only [List.getElem_toArray, List.getElem_cons_zero, List.getElem_cons_succ, Act.put, List.setIfInBounds_toArray, List.set_cons_zero, List.set_cons_succ]
  refine wpAnyH_take (i := 4) (v := ?_) rfl (by as_aux_lemma => kernel_rfl) (by as_aux_lemma => kernel_rfl) (by as_aux_lemma => kernel_rfl) (fun _ _ _ h => h) (Or.inl ⟨by rfl, ?_⟩) hHeld0 ?_
  rotate_left
  · intro w hSw
    (try dsimp only at hSw)
    go_simp
    try (first | (with_reducible rfl) | rfl)
  try simp only [List.getElem_toArray, List.getElem_cons_zero, List.getElem_cons_succ, Act.put, List.setIfInBounds_toArray, List.set_cons_zero, List.set_cons_succ]
  refine wpAnyH_take (i := 5) (v := ?_) rfl (by as_aux_lemma => kernel_rfl) (by as_aux_lemma => kernel_rfl) (by as_aux_lemma => kernel_rfl) (fun _ _ _ h => h) (Or.inl ⟨by rfl, ?_⟩) hHeld0 ?_
  rotate_left
  · intro w hSw
    (try dsimp only at hSw)
    go_simp
    try (first | (with_reducible rfl) | rfl)
  try simp only [List.getElem_toArray, List.getElem_cons_zero, List.getElem_cons_succ, Act.put, List.setIfInBounds_toArray, List.set_cons_zero, List.set_cons_succ]
  refine wpAnyH_take (i := 6) (v := ?_) rfl (by as_aux_lemma => kernel_rfl) (by as_aux_lemma => kernel_rfl) (by as_aux_lemma => kernel_rfl) (fun _ _ _ h => h) (Or.inl ⟨by rfl, ?_⟩) hHeld0 ?_
  rotate_left
  · intro w hSw
    (try dsimp only at hSw)
    go_simp
    try (first | (with_reducible rfl) | rfl)
  try simp only [List.getElem_toArray, List.getElem_cons_zero, List.getElem_cons_succ, Act.put, List.setIfInBounds_toArray, List.set_cons_zero, List.set_cons_succ]
  refine wpAnyH_take (i := 7) (v := ?_) rfl (by as_aux_lemma => kernel_rfl) (by as_aux_lemma => kernel_rfl) (by as_aux_lemma => kernel_rfl) (fun _ _ _ h => h) (Or.inl ⟨by rfl, ?_⟩) hHeld0 ?_
  rotate_left
  · intro w hSw
    (try dsimp only at hSw)
    go_simp
    try (first | (with_reducible rfl) | rfl)
  try simp only [List.getElem_toArray, List.getElem_cons_zero, List.getElem_cons_succ, Act.put, List.setIfInBounds_toArray, List.set_cons_zero, List.set_cons_succ]
  refine wpAnyH_take (i := 8) (v := ?_) rfl (by as_aux_lemma => kernel_rfl) (by as_aux_lemma => kernel_rfl) (by as_aux_lemma => kernel_rfl) (fun _ _ _ h => h) (Or.inl ⟨by rfl, ?_⟩) hHeld0 ?_
  rotate_left
  · intro w hSw
    (try dsimp only at hSw)
    go_simp
    try (first | (with_reducible rfl) | rfl)
  try simp only [List.getElem_toArray, List.getElem_cons_zero, List.getElem_cons_succ, Act.put, List.setIfInBounds_toArray, List.set_cons_zero, List.set_cons_succ]
  refine wpAnyH_take (i := 9) (v := ?_) rfl (by as_aux_lemma => kernel_rfl) (by as_aux_lemma => kernel_rfl) (by as_aux_lemma => kernel_rfl) (fun _ _ _ h => h) (Or.inl ⟨by rfl, ?_⟩) hHeld0 ?_
  rotate_left
  · intro w hSw
    (try dsimp only at hSw)
    go_simp
    try (first | (with_reducible rfl) | rfl)
  try simp only [List.getElem_toArray, List.getElem_cons_zero, List.getElem_cons_succ, Act.put, List.setIfInBounds_toArray, List.set_cons_zero, List.set_cons_succ]
  refine wpAnyH_take (i := 10) (v := ?_) rfl (by as_aux_lemma => kernel_rfl) (by as_aux_lemma => kernel_rfl) (by as_aux_lemma => kernel_rfl) (fun _ _ _ h => h) (Or.inl ⟨by rfl, ?_⟩) hHeld0 ?_
  rotate_left
  · intro w hSw
    (try dsimp only at hSw)
    go_simp
    try (first | (with_reducible rfl) | rfl)
  try simp only [List.getElem_toArray, List.getElem_cons_zero, List.getElem_cons_succ, Act.put, List.setIfInBounds_toArray, List.set_cons_zero, List.set_cons_succ]
  refine wpAnyH_take (i := 11) (v := ?_) rfl (by as_aux_lemma => kernel_rfl) (by as_aux_lemma => kernel_rfl) (by as_aux_lemma => kernel_rfl) (fun _ _ _ h => h) (Or.inl ⟨by rfl, ?_⟩) hHeld0 ?_
  rotate_left
  · intro w hSw
    (try dsimp only at hSw)
    go_simp
    try (first | (with_reducible rfl) | rfl)
  try simp only [List.getElem_toArray, List.getElem_cons_zero, List.getElem_cons_succ, Act.put, List.setIfInBounds_toArray, List.set_cons_zero, List.set_cons_succ]
  refine wpAnyH_take (i := 12) (v := ?_) rfl (by as_aux_lemma => kernel_rfl) (by as_aux_lemma => kernel_rfl) (by as_aux_lemma => kernel_rfl) (fun _ _ _ h => h) (Or.inl ⟨by rfl, ?_⟩) hHeld0 ?_
  rotate_left
  · intro w hSw
    (try dsimp only at hSw)
    go_simp
    try (first | (with_reducible rfl) | rfl)
  try simp only [List.getElem_toArray, List.getElem_cons_zero, List.getElem_cons_succ, Act.put, List.setIfInBounds_toArray, List.set_cons_zero, List.set_cons_succ]
  refine wpAnyH_ready (rs := [13]) (by as_aux_lemma => kernel_rfl) (by simp) ?_
  refine AllReadyH.cons rfl (fun K hK => ?_) ?_
  · go_simp
    go_at_call 61; refine (rnx_is n s h t i v _ i0 i1 HV.out).mono ?_; rintro e wn ⟨rfl, hb⟩; (have H1 := Lib.hid (H.out.drew.below hb)); clear hb
    go_wp2_with fail
    refine hK.out _ _ ?_ (fun hHeld13_13 => ?_)
    · first | exact HCS.out _ _ _ H1.out | exact HCS.out _ _ _ H.out.drew
    clear hK K
    try simp only [List.getElem_toArray, List.getElem_cons_zero, List.getElem_cons_succ, Act.put, List.setIfInBounds_toArray, List.set_cons_zero, List.set_cons_succ]
    refine wpAnyH_take (i := 14) (v := ?_) rfl (by as_aux_lemma => kernel_rfl) (by as_aux_lemma => kernel_rfl) (by as_aux_lemma => kernel_rfl) (fun _ _ _ h => h) (Or.inl ⟨by rfl, ?_⟩) hHeld13_13 ?_
    rotate_left
    · intro w hSw
      (try dsimp only at hSw)
      go_simp
      try (first | (with_reducible rfl) | rfl)
    try simp only [List.getElem_toArray, List.getElem_cons_zero, List.getElem_cons_succ, Act.put, List.setIfInBounds_toArray, List.set_cons_zero, List.set_cons_succ]
    refine wpAnyH_take (i := 15) (v := ?_) rfl (by as_aux_lemma => kernel_rfl) (by as_aux_lemma => kernel_rfl) (by as_aux_lemma => kernel_rfl) (fun _ _ _ h => h) (Or.inl ⟨by rfl, ?_⟩) hHeld13_13 ?_
    rotate_left
    · intro w hSw
      (try dsimp only at hSw)
      go_simp
      try (first | (with_reducible rfl) | rfl)
    try simp only [List.getElem_toArray, List.getElem_cons_zero, List.getElem_cons_succ, Act.put, List.setIfInBounds_toArray, List.set_cons_zero, List.set_cons_succ]
    refine wpAnyH_done (by as_aux_lemma => kernel_rfl) ?_ _
    obtain ⟨⟨q0, q1, q2, q3, q4, q5, q6, q7, q8, q9, q10⟩, ⟨f6, f7, f8, f9, f10⟩, lp⟩ := cells11 (H1.out.cells 1 rfl)
    go_wp2_with (go_at_call 63; refine (rload_st H1.out a0 y0 HY.out ha hk).mono ?_; rintro e wl ⟨rfl, h⟩; (have HL := Lib.hid (show St w0 (refA y ws (ns ++ [ldN a0 y0]) :: _ :: L) wl from h)); clear h; clear q0 q1 q2 q3 q4 q5 q6 q7 q8 q9 q10 f6 f7 f8 f9 f10 lp; obtain ⟨⟨q0, q1, q2, q3, q4, q5, q6, q7, q8, q9, q10⟩, ⟨f6, f7, f8, f9, f10⟩, lp⟩ := cells11 (HL.out.cells 1 rfl))
    go_ret2
    exact ⟨rfl, HL.out.setAt 1 rfl 8 (.int .u64 y0)⟩
  exact AllReadyH.nil
set_option maxRecDepth 20000 in
set_option maxHeartbeats 8000000 in
theorem rt_first_t4 {w0 w : World} {y p : Nat} {ws : List Int} {ns : List Note} {L : List Asn} {n s h t a i pc x nx st : Int} (hS : St w0 (refA y ws ns :: rtB p n s h t a false i pc x nx st :: L) w) (i0 : 0 ≤ i) (i1 : i < 4294967296) (ha : a < 0 ∨ (ws.length : Int) ≤ a) :
    Calls Try.prog 59 #[.pointer (some ⟨p, 0, none⟩), .pointer (some ⟨y, 0, none⟩)] w fun e w' => e = .returned (.tuple #[.int .i64 5, .int .u32 0]) ∧ St w0 (refA y ws ns :: rtB p n s h t a false i pc 0 nx 5 :: L) w' := by
  have H := Lib.hid hS
  obtain ⟨⟨q0, q1, q2, q3, q4, q5, q6, q7, q8, q9, q10⟩, ⟨f6, f7, f8, f9, f10⟩, lp⟩ := cells11 (H.out.cells 1 rfl)
  clear hS
  go_enter Try.func59, Try.ntmps59
  go_wp2
  go_quiet (fail)
  have H1 := Lib.hid (H.out.drewN nq)
  clear q0 q1 q2 q3 q4 q5 q6 q7 q8 q9 q10 f6 f7 f8 f9 f10 lp
  obtain ⟨⟨q0, q1, q2, q3, q4, q5, q6, q7, q8, q9, q10⟩, ⟨f6, f7, f8, f9, f10⟩, lp⟩ := cells11 (H1.out.cells 1 rfl)
  go_wp2_with (first | ((have _h := HL); go_at_call 58; refine (rt_end 5 0 (if_neg (by decide)) (HL.out.setAt 1 rfl 8 (.int .u64 0))).mono ?_; rintro e we ⟨rfl, h⟩; (have HE := Lib.hid h); clear h; clear _h) | (go_at_call 63; refine (rload_no H1.out a ha).mono ?_; rintro e wl ⟨rfl, h⟩; (have HL := Lib.hid h); clear h; clear q0 q1 q2 q3 q4 q5 q6 q7 q8 q9 q10 f6 f7 f8 f9 f10 lp; obtain ⟨⟨q0, q1, q2, q3, q4, q5, q6, q7, q8, q9, q10⟩, ⟨f6, f7, f8, f9, f10⟩, lp⟩ := cells11 (HL.out.cells 1 rfl)))
  go_ret2
  exact ⟨rfl, HE.out⟩
set_option maxRecDepth 20000 in
set_option maxHeartbeats 8000000 in
theorem rt_first_t5 {w0 w : World} {y p : Nat} {ws : List Int} {ns : List Note} {L : List Asn} {n s h t a i pc x nx st : Int} {a0 : Nat} {y0 : Int} {j0 : Int} (hS : St w0 (refA y ws ns :: rtB p n s h t a false i pc x nx st :: L) w) (i0 : 0 ≤ i) (i1 : i < 4294967296) (haa : a = (a0 : Int)) (ha : a0 < ws.length) (hy : rdW ws a0 = y0) (hk : ns.length ≤ 1000000000000) (hj : y0 % 4294967296 = j0) (y00 : 0 ≤ y0) (y01 : y0 < 18446744073709551616) (hz : j0 = 0) :
    Calls Try.prog 59 #[.pointer (some ⟨p, 0, none⟩), .pointer (some ⟨y, 0, none⟩)] w fun e w' => e = .returned (.tuple #[.int .i64 2, .int .u32 0]) ∧ St w0 (refA y ws (ns ++ [ldN a0 y0]) :: rtB p n s h t a false 0 pc y0 nx 2 :: L) w' := by
  have H := Lib.hid hS
  subst haa
  have HY := Lib.hid hy
  have HJ := Lib.hid hj
  subst hz
  obtain ⟨⟨q0, q1, q2, q3, q4, q5, q6, q7, q8, q9, q10⟩, ⟨f6, f7, f8, f9, f10⟩, lp⟩ := cells11 (H.out.cells 1 rfl)
  clear hS
  go_enter Try.func59, Try.ntmps59
  go_wp2
  go_quiet (fail)
  have H1 := Lib.hid (H.out.drewN nq)
  clear q0 q1 q2 q3 q4 q5 q6 q7 q8 q9 q10 f6 f7 f8 f9 f10 lp
  obtain ⟨⟨q0, q1, q2, q3, q4, q5, q6, q7, q8, q9, q10⟩, ⟨f6, f7, f8, f9, f10⟩, lp⟩ := cells11 (H1.out.cells 1 rfl)
  go_wp2_with (first | ((have _h := AI); go_at_call 58; refine (rt_end 2 0 (if_neg (by decide)) ((HL.out.setAt 1 rfl 8 (.int .u64 y0)).setAt 1 rfl 6 (.int .u32 0))).mono ?_; rintro e we ⟨rfl, h⟩; (have HE := Lib.hid h); clear h; clear _h) | ((have _h := HL); go_at_call 62; refine (rindex_is y0 0 _ y00 y01 HJ.out).mono ?_; rintro e w5 ⟨rfl, rfl⟩; (have AI : True := trivial); clear _h) | (go_at_call 63; refine (rload_st H1.out a0 y0 HY.out ha hk).mono ?_; rintro e wl ⟨rfl, h⟩; (have HL := Lib.hid (show St w0 (refA y ws (ns ++ [ldN a0 y0]) :: _ :: L) wl from h)); clear h; clear q0 q1 q2 q3 q4 q5 q6 q7 q8 q9 q10 f6 f7 f8 f9 f10 lp; obtain ⟨⟨q0, q1, q2, q3, q4, q5, q6, q7, q8, q9, q10⟩, ⟨f6, f7, f8, f9, f10⟩, lp⟩ := cells11 (HL.out.cells 1 rfl)))
  go_ret2
  exact ⟨rfl, HE.out⟩
set_option maxRecDepth 20000 in
set_option maxHeartbeats 8000000 in
theorem rt_first_t6 {w0 w : World} {y p : Nat} {ws : List Int} {ns : List Note} {L : List Asn} {n s h t a i pc x nx st : Int} {a0 : Nat} {y0 : Int} {j0 : Int} {v : Int} (hS : St w0 (refA y ws ns :: rtB p n s h t a false i pc x nx st :: L) w) (i0 : 0 ≤ i) (i1 : i < 4294967296) (haa : a = (a0 : Int)) (ha : a0 < ws.length) (hy : rdW ws a0 = y0) (hk : ns.length ≤ 1000000000000) (hj : y0 % 4294967296 = j0) (y00 : 0 ≤ y0) (y01 : y0 < 18446744073709551616) (hz : j0 ≠ 0) (hv : atI n s h 0 (2 * (j0 - 1)) = v) (hv0 : v < 0) :
    Calls Try.prog 59 #[.pointer (some ⟨p, 0, none⟩), .pointer (some ⟨y, 0, none⟩)] w fun e w' => e = .returned (.tuple #[.int .i64 5, .int .u32 0]) ∧ St w0 (refA y ws (ns ++ [ldN a0 y0]) :: rtB p n s h t a false j0 pc y0 nx 5 :: L) w' := by
  have H := Lib.hid hS
  subst haa
  have HY := Lib.hid hy
  have HJ := Lib.hid hj
  have HV := Lib.hid hv
  have j00 : 0 ≤ j0 := by omega
  have j01 : j0 < 4294967296 := by omega
  have jb : (j0 == 0) = false := by simp; omega
  have d0 : decide (v < 0) = true := decide_eq_true hv0
  obtain ⟨⟨q0, q1, q2, q3, q4, q5, q6, q7, q8, q9, q10⟩, ⟨f6, f7, f8, f9, f10⟩, lp⟩ := cells11 (H.out.cells 1 rfl)
  clear hS
  go_enter Try.func59, Try.ntmps59
  go_wp2
  go_quiet (fail)
  have H1 := Lib.hid (H.out.drewN nq)
  clear q0 q1 q2 q3 q4 q5 q6 q7 q8 q9 q10 f6 f7 f8 f9 f10 lp
  obtain ⟨⟨q0, q1, q2, q3, q4, q5, q6, q7, q8, q9, q10⟩, ⟨f6, f7, f8, f9, f10⟩, lp⟩ := cells11 (H1.out.cells 1 rfl)
  go_wp2_with (first | ((have _h := HL); go_at_call 62; refine (rindex_is y0 j0 _ y00 y01 HJ.out).mono ?_; rintro e w5 ⟨rfl, rfl⟩; (have AI : True := trivial); clear _h) | (go_at_call 63; refine (rload_st H1.out a0 y0 HY.out ha hk).mono ?_; rintro e wl ⟨rfl, h⟩; (have HL := Lib.hid (show St w0 (refA y ws (ns ++ [ldN a0 y0]) :: _ :: L) wl from h)); clear h; clear q0 q1 q2 q3 q4 q5 q6 q7 q8 q9 q10 f6 f7 f8 f9 f10 lp; obtain ⟨⟨q0, q1, q2, q3, q4, q5, q6, q7, q8, q9, q10⟩, ⟨f6, f7, f8, f9, f10⟩, lp⟩ := cells11 (HL.out.cells 1 rfl)))
  have h9 := (HL.out.setAt 1 rfl 8 (.int .u64 y0)).setAt 1 rfl 6 (.int .u32 j0)
  have H9 := Lib.hid (show St w0 (refA y ws (ns ++ [ldN a0 y0]) :: rtB p n s h t a0 false j0 pc y0 nx st :: L) _ from h9)
  clear h9
  have HCT : Hid (∀ m X w', St w0 (m :: rtB p n s h t a0 false j0 pc y0 nx st :: X) w' → w'.cell? ⟨p, 0, none⟩ = some (.int .i64 n) ∧ w'.cell? ⟨p, 1, none⟩ = some (.int .i64 s) ∧ w'.cell? ⟨p, 2, none⟩ = some (.int .i64 h) ∧ w'.cell? ⟨p, 3, none⟩ = some (.int .u32 t) ∧ w'.cell? ⟨p, 5, none⟩ = some (.bool false) ∧ w'.cell? ⟨p, 6, none⟩ = some (.int .u32 j0) ∧ w'.cell? ⟨p, 8, none⟩ = some (.int .u64 y0) ∧ w'.cell? ⟨p, 9, none⟩ = some (.int .u32 nx)) := Lib.hid fun m X w' h => by
    obtain ⟨⟨q0, q1, q2, q3, q4, q5, q6, q7, q8, q9, q10⟩, ⟨f6, f7, f8, f9, f10⟩, lp⟩ := cells11 (h.cells 1 rfl)
    exact ⟨q0, q1, q2, q3, q5, q6, q8, q9⟩
  clear q0 q1 q2 q3 q4 q5 q6 q7 q8 q9 q10 f6 f7 f8 f9 f10 lp
  refine wp_region_held_drew (S := (fun w' => w'.cell? ⟨p, 0, none⟩ = some (.int .i64 n) ∧ w'.cell? ⟨p, 1, none⟩ = some (.int .i64 s) ∧ w'.cell? ⟨p, 2, none⟩ = some (.int .i64 h) ∧ w'.cell? ⟨p, 3, none⟩ = some (.int .u32 t) ∧ w'.cell? ⟨p, 5, none⟩ = some (.bool false) ∧ w'.cell? ⟨p, 6, none⟩ = some (.int .u32 j0) ∧ w'.cell? ⟨p, 8, none⟩ = some (.int .u64 y0) ∧ w'.cell? ⟨p, 9, none⟩ = some (.int .u32 nx))) (by as_aux_lemma => kernel_rfl) ?_ (fun hHeld0 => ?_)
  · first | exact HCT.out _ _ _ H2.out | exact HCT.out _ _ _ H9.out.drew
  refine wpAnyH_take (i := 0) (v := ?_) rfl (by as_aux_lemma => kernel_rfl) (by as_aux_lemma => kernel_rfl) (by as_aux_lemma => kernel_rfl) (fun _ _ _ h => h) (Or.inl ⟨by rfl, ?_⟩) hHeld0 ?_
  rotate_left
  · intro w hSw
    (try dsimp only at hSw)
    go_simp
    try (first | (with_reducible rfl) | rfl)
  try simp only [List.getElem_toArray, List.getElem_cons_zero, List.getElem_cons_succ, Act.put, List.setIfInBounds_toArray, List.set_cons_zero, List.set_cons_succ]
  refine wpAnyH_take (i := 1) (v := ?_) rfl (by as_aux_lemma => kernel_rfl) (by as_aux_lemma => kernel_rfl) (by as_aux_lemma => kernel_rfl) (fun _ _ _ h => h) (Or.inl ⟨by rfl, ?_⟩) hHeld0 ?_
  rotate_left
  · intro w hSw
    (try dsimp only at hSw)
    go_simp
    try (first | (with_reducible rfl) | rfl)
  try simp only [List.getElem_toArray, List.getElem_cons_zero, List.getElem_cons_succ, Act.put, List.setIfInBounds_toArray, List.set_cons_zero, List.set_cons_succ]
  refine wpAnyH_take (i := 2) (v := ?_) rfl (by as_aux_lemma => kernel_rfl) (by as_aux_lemma => kernel_rfl) (by as_aux_lemma => kernel_rfl) (fun _ _ _ h => h) (Or.inl ⟨by rfl, ?_⟩) hHeld0 ?_
  rotate_left
  · intro w hSw
    (try dsimp only at hSw)
    go_simp
    try (first | (with_reducible rfl) | rfl)
  try simp only [List.getElem_toArray, List.getElem_cons_zero, List.getElem_cons_succ, Act.put, List.setIfInBounds_toArray, List.set_cons_zero, List.set_cons_succ]
  refine wpAnyH_take (i := 3) (v := ?_) rfl (by as_aux_lemma => kernel_rfl) (by as_aux_lemma => kernel_rfl) (by as_aux_lemma => kernel_rfl) (fun _ _ _ h => h) (Or.inl ⟨by rfl, ?_⟩) hHeld0 ?_
  rotate_left
  · intro w hSw
    (try dsimp only at hSw)
    go_simp
    try (first | (with_reducible rfl) | rfl)
  try simp only [List.getElem_toArray, List.getElem_cons_zero, List.getElem_cons_succ, Act.put, List.setIfInBounds_toArray, List.set_cons_zero, List.set_cons_succ]
  refine wpAnyH_take (i := 4) (v := ?_) rfl (by as_aux_lemma => kernel_rfl) (by as_aux_lemma => kernel_rfl) (by as_aux_lemma => kernel_rfl) (fun _ _ _ h => h) (Or.inl ⟨by rfl, ?_⟩) hHeld0 ?_
  rotate_left
  · intro w hSw
    (try dsimp only at hSw)
    go_simp
    try (first | (with_reducible rfl) | rfl)
  try simp only [List.getElem_toArray, List.getElem_cons_zero, List.getElem_cons_succ, Act.put, List.setIfInBounds_toArray, List.set_cons_zero, List.set_cons_succ]
  refine wpAnyH_take (i := 5) (v := ?_) rfl (by as_aux_lemma => kernel_rfl) (by as_aux_lemma => kernel_rfl) (by as_aux_lemma => kernel_rfl) (fun _ _ _ h => h) (Or.inl ⟨by rfl, ?_⟩) hHeld0 ?_
  rotate_left
  · intro w hSw
    (try dsimp only at hSw)
    go_simp
    try (first | (with_reducible rfl) | rfl)
  try simp only [List.getElem_toArray, List.getElem_cons_zero, List.getElem_cons_succ, Act.put, List.setIfInBounds_toArray, List.set_cons_zero, List.set_cons_succ]
  refine wpAnyH_take (i := 6) (v := ?_) rfl (by as_aux_lemma => kernel_rfl) (by as_aux_lemma => kernel_rfl) (by as_aux_lemma => kernel_rfl) (fun _ _ _ h => h) (Or.inl ⟨by rfl, ?_⟩) hHeld0 ?_
  rotate_left
  · intro w hSw
    (try dsimp only at hSw)
    go_simp
    try (first | (with_reducible rfl) | rfl)
  try simp only [List.getElem_toArray, List.getElem_cons_zero, List.getElem_cons_succ, Act.put, List.setIfInBounds_toArray, List.set_cons_zero, List.set_cons_succ]
  refine wpAnyH_take (i := 7) (v := ?_) rfl (by as_aux_lemma => kernel_rfl) (by as_aux_lemma => kernel_rfl) (by as_aux_lemma => kernel_rfl) (fun _ _ _ h => h) (Or.inl ⟨by rfl, ?_⟩) hHeld0 ?_
  rotate_left
  · intro w hSw
    (try dsimp only at hSw)
    go_simp
    try (first | (with_reducible rfl) | rfl)
  try simp only [List.getElem_toArray, List.getElem_cons_zero, List.getElem_cons_succ, Act.put, List.setIfInBounds_toArray, List.set_cons_zero, List.set_cons_succ]
  refine wpAnyH_ready (rs := [8]) (by as_aux_lemma => kernel_rfl) (by simp) ?_
  refine AllReadyH.cons rfl (fun K hK => ?_) ?_
  · go_simp
    go_at_call 61; refine (rnx_is n s h t j0 v _ j00 j01 HV.out).mono ?_; rintro e wn ⟨rfl, hb⟩; (have H2 := Lib.hid (H9.out.drew.below hb)); clear hb
    go_wp2_with fail
    refine hK.out _ _ ?_ (fun hHeld8_8 => ?_)
    · first | exact HCT.out _ _ _ H2.out | exact HCT.out _ _ _ H9.out.drew
    clear hK K
    try simp only [List.getElem_toArray, List.getElem_cons_zero, List.getElem_cons_succ, Act.put, List.setIfInBounds_toArray, List.set_cons_zero, List.set_cons_succ]
    refine wpAnyH_take (i := 9) (v := ?_) rfl (by as_aux_lemma => kernel_rfl) (by as_aux_lemma => kernel_rfl) (by as_aux_lemma => kernel_rfl) (fun _ _ _ h => h) (Or.inl ⟨by rfl, ?_⟩) hHeld8_8 ?_
    rotate_left
    · intro w hSw
      (try dsimp only at hSw)
      go_simp
      try (first | (with_reducible rfl) | rfl)
    try simp only [List.getElem_toArray, List.getElem_cons_zero, List.getElem_cons_succ, Act.put, List.setIfInBounds_toArray, List.set_cons_zero, List.set_cons_succ]
    refine wpAnyH_done (by as_aux_lemma => kernel_rfl) ?_ _
    obtain ⟨⟨q0, q1, q2, q3, q4, q5, q6, q7, q8, q9, q10⟩, ⟨f6, f7, f8, f9, f10⟩, lp⟩ := cells11 (H2.out.cells 1 rfl)
    go_wp2_with (go_at_call 58; refine (rt_end 5 0 (if_neg (by decide)) (H2.out)).mono ?_; rintro e we ⟨rfl, h⟩; (have HE := Lib.hid h); clear h)
    go_ret2
    exact ⟨rfl, HE.out⟩
  exact AllReadyH.nil
set_option maxRecDepth 20000 in
set_option maxHeartbeats 8000000 in
theorem rt_first_t7 {w0 w : World} {y p : Nat} {ws : List Int} {ns : List Note} {L : List Asn} {n s h t a i pc x nx st : Int} {a0 : Nat} {y0 : Int} {j0 : Int} {v : Int} (hS : St w0 (refA y ws ns :: rtB p n s h t a false i pc x nx st :: L) w) (i0 : 0 ≤ i) (i1 : i < 4294967296) (haa : a = (a0 : Int)) (ha : a0 < ws.length) (hy : rdW ws a0 = y0) (hk : ns.length ≤ 1000000000000) (hj : y0 % 4294967296 = j0) (y00 : 0 ≤ y0) (y01 : y0 < 18446744073709551616) (hz : j0 ≠ 0) (hv : atI n s h 0 (2 * (j0 - 1)) = v) (hv0 : 0 ≤ v) :
    Calls Try.prog 59 #[.pointer (some ⟨p, 0, none⟩), .pointer (some ⟨y, 0, none⟩)] w fun e w' => e = .returned (.tuple #[.int .i64 0, .int .u32 0]) ∧ St w0 (refA y ws (ns ++ [ldN a0 y0]) :: rtB p n s h t a false j0 pc y0 nx st :: L) w' := by
  have H := Lib.hid hS
  subst haa
  have HY := Lib.hid hy
  have HJ := Lib.hid hj
  have HV := Lib.hid hv
  have j00 : 0 ≤ j0 := by omega
  have j01 : j0 < 4294967296 := by omega
  have jb : (j0 == 0) = false := by simp; omega
  have d0 : decide (v < 0) = false := decide_eq_false (by omega)
  obtain ⟨⟨q0, q1, q2, q3, q4, q5, q6, q7, q8, q9, q10⟩, ⟨f6, f7, f8, f9, f10⟩, lp⟩ := cells11 (H.out.cells 1 rfl)
  clear hS
  go_enter Try.func59, Try.ntmps59
  go_wp2
  go_quiet (fail)
  have H1 := Lib.hid (H.out.drewN nq)
  clear q0 q1 q2 q3 q4 q5 q6 q7 q8 q9 q10 f6 f7 f8 f9 f10 lp
  obtain ⟨⟨q0, q1, q2, q3, q4, q5, q6, q7, q8, q9, q10⟩, ⟨f6, f7, f8, f9, f10⟩, lp⟩ := cells11 (H1.out.cells 1 rfl)
  go_wp2_with (first | ((have _h := HL); go_at_call 62; refine (rindex_is y0 j0 _ y00 y01 HJ.out).mono ?_; rintro e w5 ⟨rfl, rfl⟩; (have AI : True := trivial); clear _h) | (go_at_call 63; refine (rload_st H1.out a0 y0 HY.out ha hk).mono ?_; rintro e wl ⟨rfl, h⟩; (have HL := Lib.hid (show St w0 (refA y ws (ns ++ [ldN a0 y0]) :: _ :: L) wl from h)); clear h; clear q0 q1 q2 q3 q4 q5 q6 q7 q8 q9 q10 f6 f7 f8 f9 f10 lp; obtain ⟨⟨q0, q1, q2, q3, q4, q5, q6, q7, q8, q9, q10⟩, ⟨f6, f7, f8, f9, f10⟩, lp⟩ := cells11 (HL.out.cells 1 rfl)))
  have h9 := (HL.out.setAt 1 rfl 8 (.int .u64 y0)).setAt 1 rfl 6 (.int .u32 j0)
  have H9 := Lib.hid (show St w0 (refA y ws (ns ++ [ldN a0 y0]) :: rtB p n s h t a0 false j0 pc y0 nx st :: L) _ from h9)
  clear h9
  have HCT : Hid (∀ m X w', St w0 (m :: rtB p n s h t a0 false j0 pc y0 nx st :: X) w' → w'.cell? ⟨p, 0, none⟩ = some (.int .i64 n) ∧ w'.cell? ⟨p, 1, none⟩ = some (.int .i64 s) ∧ w'.cell? ⟨p, 2, none⟩ = some (.int .i64 h) ∧ w'.cell? ⟨p, 3, none⟩ = some (.int .u32 t) ∧ w'.cell? ⟨p, 5, none⟩ = some (.bool false) ∧ w'.cell? ⟨p, 6, none⟩ = some (.int .u32 j0) ∧ w'.cell? ⟨p, 8, none⟩ = some (.int .u64 y0) ∧ w'.cell? ⟨p, 9, none⟩ = some (.int .u32 nx)) := Lib.hid fun m X w' h => by
    obtain ⟨⟨q0, q1, q2, q3, q4, q5, q6, q7, q8, q9, q10⟩, ⟨f6, f7, f8, f9, f10⟩, lp⟩ := cells11 (h.cells 1 rfl)
    exact ⟨q0, q1, q2, q3, q5, q6, q8, q9⟩
  clear q0 q1 q2 q3 q4 q5 q6 q7 q8 q9 q10 f6 f7 f8 f9 f10 lp
  refine wp_region_held_drew (S := (fun w' => w'.cell? ⟨p, 0, none⟩ = some (.int .i64 n) ∧ w'.cell? ⟨p, 1, none⟩ = some (.int .i64 s) ∧ w'.cell? ⟨p, 2, none⟩ = some (.int .i64 h) ∧ w'.cell? ⟨p, 3, none⟩ = some (.int .u32 t) ∧ w'.cell? ⟨p, 5, none⟩ = some (.bool false) ∧ w'.cell? ⟨p, 6, none⟩ = some (.int .u32 j0) ∧ w'.cell? ⟨p, 8, none⟩ = some (.int .u64 y0) ∧ w'.cell? ⟨p, 9, none⟩ = some (.int .u32 nx))) (by as_aux_lemma => kernel_rfl) ?_ (fun hHeld0 => ?_)
  · first | exact HCT.out _ _ _ H2.out | exact HCT.out _ _ _ H9.out.drew
  refine wpAnyH_take (i := 0) (v := ?_) rfl (by as_aux_lemma => kernel_rfl) (by as_aux_lemma => kernel_rfl) (by as_aux_lemma => kernel_rfl) (fun _ _ _ h => h) (Or.inl ⟨by rfl, ?_⟩) hHeld0 ?_
  rotate_left
  · intro w hSw
    (try dsimp only at hSw)
    go_simp
    try (first | (with_reducible rfl) | rfl)
  try simp only [List.getElem_toArray, List.getElem_cons_zero, List.getElem_cons_succ, Act.put, List.setIfInBounds_toArray, List.set_cons_zero, List.set_cons_succ]
  refine wpAnyH_take (i := 1) (v := ?_) rfl (by as_aux_lemma => kernel_rfl) (by as_aux_lemma => kernel_rfl) (by as_aux_lemma => kernel_rfl) (fun _ _ _ h => h) (Or.inl ⟨by rfl, ?_⟩) hHeld0 ?_
  rotate_left
  · intro w hSw
    (try dsimp only at hSw)
    go_simp
    try (first | (with_reducible rfl) | rfl)
  try simp only [List.getElem_toArray, List.getElem_cons_zero, List.getElem_cons_succ, Act.put, List.setIfInBounds_toArray, List.set_cons_zero, List.set_cons_succ]
  refine wpAnyH_take (i := 2) (v := ?_) rfl (by as_aux_lemma => kernel_rfl) (by as_aux_lemma => kernel_rfl) (by as_aux_lemma => kernel_rfl) (fun _ _ _ h => h) (Or.inl ⟨by rfl, ?_⟩) hHeld0 ?_
  rotate_left
  · intro w hSw
    (try dsimp only at hSw)
    go_simp
    try (first | (with_reducible rfl) | rfl)
  try simp only [List.getElem_toArray, List.getElem_cons_zero, List.getElem_cons_succ, Act.put, List.setIfInBounds_toArray, List.set_cons_zero, List.set_cons_succ]
  refine wpAnyH_take (i := 3) (v := ?_) rfl (by as_aux_lemma => kernel_rfl) (by as_aux_lemma => kernel_rfl) (by as_aux_lemma => kernel_rfl) (fun _ _ _ h => h) (Or.inl ⟨by rfl, ?_⟩) hHeld0 ?_
  rotate_left
  · intro w hSw
    (try dsimp only at hSw)
    go_simp
    try (first | (with_reducible rfl) | rfl)
  try simp only [List.getElem_toArray, List.getElem_cons_zero, List.getElem_cons_succ, Act.put, List.setIfInBounds_toArray, List.set_cons_zero, List.set_cons_succ]
  refine wpAnyH_take (i := 4) (v := ?_) rfl (by as_aux_lemma => kernel_rfl) (by as_aux_lemma => kernel_rfl) (by as_aux_lemma => kernel_rfl) (fun _ _ _ h => h) (Or.inl ⟨by rfl, ?_⟩) hHeld0 ?_
  rotate_left
  · intro w hSw
    (try dsimp only at hSw)
    go_simp
    try (first | (with_reducible rfl) | rfl)
  try simp only [List.getElem_toArray, List.getElem_cons_zero, List.getElem_cons_succ, Act.put, List.setIfInBounds_toArray, List.set_cons_zero, List.set_cons_succ]
  refine wpAnyH_take (i := 5) (v := ?_) rfl (by as_aux_lemma => kernel_rfl) (by as_aux_lemma => kernel_rfl) (by as_aux_lemma => kernel_rfl) (fun _ _ _ h => h) (Or.inl ⟨by rfl, ?_⟩) hHeld0 ?_
  rotate_left
  · intro w hSw
    (try dsimp only at hSw)
    go_simp
    try (first | (with_reducible rfl) | rfl)
  try simp only [List.getElem_toArray, List.getElem_cons_zero, List.getElem_cons_succ, Act.put, List.setIfInBounds_toArray, List.set_cons_zero, List.set_cons_succ]
  refine wpAnyH_take (i := 6) (v := ?_) rfl (by as_aux_lemma => kernel_rfl) (by as_aux_lemma => kernel_rfl) (by as_aux_lemma => kernel_rfl) (fun _ _ _ h => h) (Or.inl ⟨by rfl, ?_⟩) hHeld0 ?_
  rotate_left
  · intro w hSw
    (try dsimp only at hSw)
    go_simp
    try (first | (with_reducible rfl) | rfl)
  try simp only [List.getElem_toArray, List.getElem_cons_zero, List.getElem_cons_succ, Act.put, List.setIfInBounds_toArray, List.set_cons_zero, List.set_cons_succ]
  refine wpAnyH_take (i := 7) (v := ?_) rfl (by as_aux_lemma => kernel_rfl) (by as_aux_lemma => kernel_rfl) (by as_aux_lemma => kernel_rfl) (fun _ _ _ h => h) (Or.inl ⟨by rfl, ?_⟩) hHeld0 ?_
  rotate_left
  · intro w hSw
    (try dsimp only at hSw)
    go_simp
    try (first | (with_reducible rfl) | rfl)
  try simp only [List.getElem_toArray, List.getElem_cons_zero, List.getElem_cons_succ, Act.put, List.setIfInBounds_toArray, List.set_cons_zero, List.set_cons_succ]
  refine wpAnyH_ready (rs := [8]) (by as_aux_lemma => kernel_rfl) (by simp) ?_
  refine AllReadyH.cons rfl (fun K hK => ?_) ?_
  · go_simp
    go_at_call 61; refine (rnx_is n s h t j0 v _ j00 j01 HV.out).mono ?_; rintro e wn ⟨rfl, hb⟩; (have H2 := Lib.hid (H9.out.drew.below hb)); clear hb
    go_wp2_with fail
    refine hK.out _ _ ?_ (fun hHeld8_8 => ?_)
    · first | exact HCT.out _ _ _ H2.out | exact HCT.out _ _ _ H9.out.drew
    clear hK K
    try simp only [List.getElem_toArray, List.getElem_cons_zero, List.getElem_cons_succ, Act.put, List.setIfInBounds_toArray, List.set_cons_zero, List.set_cons_succ]
    refine wpAnyH_take (i := 9) (v := ?_) rfl (by as_aux_lemma => kernel_rfl) (by as_aux_lemma => kernel_rfl) (by as_aux_lemma => kernel_rfl) (fun _ _ _ h => h) (Or.inl ⟨by rfl, ?_⟩) hHeld8_8 ?_
    rotate_left
    · intro w hSw
      (try dsimp only at hSw)
      go_simp
      try (first | (with_reducible rfl) | rfl)
    try simp only [List.getElem_toArray, List.getElem_cons_zero, List.getElem_cons_succ, Act.put, List.setIfInBounds_toArray, List.set_cons_zero, List.set_cons_succ]
    refine wpAnyH_done (by as_aux_lemma => kernel_rfl) ?_ _
    go_wp2
    go_ret2
    exact ⟨rfl, H2.out⟩
  exact AllReadyH.nil
end Go.Proofs.Ytndigbkhaajjoaa
