/-
  The law ElimNone: the walk.
-/
import Derived.Test.YthnjeiandfdpgaaL12b
namespace Go.Proofs.Ythnjeiandfdpgaa
open Go.RowKit
set_option linter.unusedVariables false
set_option linter.unusedSimpArgs false

set_option maxRecDepth 20000 in
set_option maxHeartbeats 16000000 in
theorem none_0 (slots : Int) (R E : Int) (push : Bool) (n N : Nat) (w : World) (hk : pickI slots 17 = (n : Int)) (hn : n ≤ 16) (hN : N = 8 + n) (p0 : -9223372036854775808 ≤ slots) (p1 : slots < 9223372036854775808) (t0 : ¬ ((n : Int) > 0)) :
    Calls Try.prog 3 #[.int .i64 slots, polV R E, .bool push] w fun z w' => z = .returned (.bool true) ∧ Below w.heap.size w w' := by
  have d0 : decide (0 < (n : Int)) = false := decide_eq_false (by omega)
  have H := Lib.hid ((St.nil w).alloc #[.int .i64 R, .int .i64 E] 23)
  obtain ⟨s0, s1, s2, s3⟩ := cells2 (H.out.cells 0 rfl)
  have hq : ∀ w, (binOp .eql 23 (polV R E) (polV R E)).run Try.prog w = .ok (.bool true) w := fun w => by
    have := polEq R E R E w
    rwa [show (R == R && E == E) = true by simp] at this
  have HOK : Hid (okC ((3 : Nat) : Int) (n : Int) ((0 : Nat) : Int) = true) := Lib.hid (okC3 hn)
  have HN : Hid (N = 2 + 2 * 3 + n + 0) := Lib.hid (by omega)
  have HK := Lib.hid hk
  have hok0 : (newEM 3 n 0 0 R E push 1 3 2).ok N 0 := newEM_ok N 0 (by decide) (by decide) (by decide) (by decide) (by decide) (by decide)
  have HO0 : Hid ((newEM 3 n 0 0 R E push 1 3 2).ok (frL 0 3 3 n N).length ([] : List Note).length) := Lib.hid (by rw [frL_len]; exact hok0)
  have hfit : (newEM 3 n 0 0 R E push 1 3 2).fit = false := by
    rw [← Bool.not_eq_true]
    intro c
    obtain ⟨f1, f2, f3⟩ := EM.fit_iff.1 c
    obtain ⟨p1, p2, p3, p4, p5, p6⟩ := pOk_iff.1 f3
    simp only [newEM] at f2 p1 p2 p3 p4 p5 p6
    simp at f2
    omega
  have HE1 := Lib.hid (EM.refuses (S := newEM 3 n 0 0 R E push 1 3 2) (ws := frL 0 3 3 n N) (now := 0) (ds := [3]) rfl rfl hfit)
  have HO1 : Hid (({ newEM 3 n 0 0 R E push 1 3 2 with en := 2 } : EM).ok (frL 0 3 3 n N).length ([] : List Note).length) := Lib.hid (by
    have := EM.step_ok [3] (HO0.out) (now := 0) (by decide) (by decide) (rngOf (frL_rng (by decide) (by decide) (by decide)))
    rw [HE1.out] at this
    exact this)
  have HO2 : Hid (({ newEM 3 n 0 0 R E push 1 3 2 with en := 2 } : EM).ok N 0) := Lib.hid (by have := HO1.out; rw [frL_len] at this; exact this)
  have HE2 : Hid (({ newEM 3 n 0 0 R E push 1 3 2 with en := 2 } : EM).step (frL 0 3 3 n N) 0 [3] = ⟨2, 0, { newEM 3 n 0 0 R E push 1 3 2 with en := 2 }, frL 0 3 3 n N, [], [3]⟩) := Lib.hid (by simp [EM.step])
  clear hok0 hfit hk
  clear hN
  go_enter Try.func3, Try.ntmps3
  go_wp2_with (first | ((have _h := H7); go_at_call 15; refine (estep HE2.out rfl H7.out HO1.out (fun d hd => by obtain rfl := List.mem_singleton.1 hd; decide) (by decide) (by decide) (by simp)).mono ?_; rintro e w8 ⟨rfl, h⟩; (have H8 := Lib.hid (h)); clear h; clear q0 q1 q2 q3; (obtain ⟨q0, q1, q2, q3⟩ := cells4 (H8.out.cells 3 rfl)); clear s0 s1 s2 s3; (obtain ⟨s0, s1, s2, s3⟩ := cells2 (H8.out.cells 4 rfl)); clear _h) | ((have _h := H6); go_at_call 15; refine (estep HE1.out rfl H6.out HO0.out (fun d hd => by obtain rfl := List.mem_singleton.1 hd; decide) (by decide) (by decide) (by simp)).mono ?_; rintro e w7 ⟨rfl, h⟩; (have H7 := Lib.hid (h)); clear h; clear q0 q1 q2 q3; (obtain ⟨q0, q1, q2, q3⟩ := cells4 (H7.out.cells 3 rfl)); clear s0 s1 s2 s3; (obtain ⟨s0, s1, s2, s3⟩ := cells2 (H7.out.cells 4 rfl)); clear _h) | ((have _h := H5); go_at_call 14; refine (src_add 3 0 [3] (H5.out.front 1 rfl) (by decide) (by simp) rfl rfl).mono ?_; rintro e w6 ⟨rfl, h⟩; (have H6 := Lib.hid (h.front 1 rfl)); clear h; clear q0 q1 q2 q3; (obtain ⟨q0, q1, q2, q3⟩ := cells4 (H6.out.cells 3 rfl)); clear s0 s1 s2 s3; (obtain ⟨s0, s1, s2, s3⟩ := cells2 (H6.out.cells 4 rfl)); clear _h) | ((have _h := H4); go_at_call 13; refine (em_new 3 n 0 0 R E push 1 3 2 H4.out).mono ?_; rintro e w5 ⟨p, rfl, h⟩; (have H5 := Lib.hid (h)); clear h; clear q0 q1 q2 q3; (obtain ⟨q0, q1, q2, q3⟩ := cells4 (H5.out.cells 3 rfl)); clear s0 s1 s2 s3; (obtain ⟨s0, s1, s2, s3⟩ := cells2 (H5.out.cells 4 rfl)); clear _h) | ((have _h := H3); go_at_call 12; refine (src_new H3.out).mono ?_; rintro e w4 ⟨r, rfl, h⟩; (have H4 := Lib.hid (h.swap)); clear h; clear q0 q1 q2 q3; (obtain ⟨q0, q1, q2, q3⟩ := cells4 (H4.out.cells 2 rfl)); clear s0 s1 s2 s3; (obtain ⟨s0, s1, s2, s3⟩ := cells2 (H4.out.cells 3 rfl)); clear _h) | ((have _h := H2); go_at_call 11; refine (begun_ok 3 n 0 0 0 N (H2.out.alloc #[.int .i64 3, .int .i64 n, .int .i64 0, .int .u32 0] 28) HOK.out HN.out (by decide) (by decide) (by decide)).mono ?_; rintro e w3 ⟨q, rfl, h⟩; (have H3 := Lib.hid (h)); clear h s0 s1 s2 s3; (obtain ⟨q0, q1, q2, q3⟩ := cells4 (H3.out.cells 1 rfl)); (obtain ⟨s0, s1, s2, s3⟩ := cells2 (H3.out.cells 2 rfl)); clear _h) | ((have _h := H1); go_at_call 10; refine (pick_is slots 17 (n : Int) _ HK.out (by decide) (by decide) p0 p1).mono ?_; rintro e w2 ⟨rfl, rfl⟩; (have H2 := Lib.hid (H1.out)); clear s0 s1 s2 s3; (obtain ⟨s0, s1, s2, s3⟩ := cells2 (H2.out.cells 0 rfl)); clear _h) | ((have _h := H); go_at_call 9; refine (shown12 _).mono ?_; rintro e w1 ⟨rfl, hb⟩; (have H1 := Lib.hid (H.out.below hb)); clear hb; clear s0 s1 s2 s3; (obtain ⟨s0, s1, s2, s3⟩ := cells2 (H1.out.cells 0 rfl)); clear _h))
  have HBD := Lib.hid (Below.refl w8.heap.size w8).drew
  have HCS : Hid (∀ w', Below w8.heap.size w8 w' → w'.cell? ⟨w.heap.size, 0, none⟩ = some (.int .i64 R) ∧ w'.cell? ⟨w.heap.size, 1, none⟩ = some (.int .i64 E)) := Lib.hid (fun w' hb => by
    have h := cells2 ((H8.out.below hb).cells 4 rfl)
    exact ⟨h.1, h.2.1⟩)
  refine wp_region_held_drew (S := (fun w' => w'.cell? ⟨w.heap.size, 0, none⟩ = some (.int .i64 R) ∧ w'.cell? ⟨w.heap.size, 1, none⟩ = some (.int .i64 E))) (by kernel_rfl) ?_ (fun hHeld0 => ?_)
  · first | exact HCS.out _ HBD.out | exact HCS.out _ (Below.refl _ _)
  refine wpAnyH_take (i := 0) (v := ?_) rfl (by kernel_rfl) (by kernel_rfl) (by kernel_rfl) (fun _ _ _ h => h) (Or.inl ⟨by rfl, ?_⟩) hHeld0 ?_
  rotate_left
  · intro w hSw
    (try dsimp only at hSw)
    go_simp
    try (first | (with_reducible rfl) | rfl)
  try simp only [List.getElem_toArray, List.getElem_cons_zero, List.getElem_cons_succ, Act.put, List.setIfInBounds_toArray, List.set_cons_zero, List.set_cons_succ]
  refine wpAnyH_take (i := 1) (v := ?_) rfl (by kernel_rfl) (by kernel_rfl) (by kernel_rfl) (fun _ _ _ h => h) (Or.inl ⟨by rfl, ?_⟩) hHeld0 ?_
  rotate_left
  · intro w hSw
    (try dsimp only at hSw)
    go_simp
    try (first | (with_reducible rfl) | rfl)
  try simp only [List.getElem_toArray, List.getElem_cons_zero, List.getElem_cons_succ, Act.put, List.setIfInBounds_toArray, List.set_cons_zero, List.set_cons_succ]
  refine wpAnyH_take (i := 2) (v := ?_) rfl (by kernel_rfl) (by kernel_rfl) (by kernel_rfl) (fun _ _ _ h => h) (Or.inl ⟨by rfl, ?_⟩) hHeld0 ?_
  rotate_left
  · intro w hSw
    (try dsimp only at hSw)
    go_simp
    try (first | (with_reducible rfl) | rfl)
  try simp only [List.getElem_toArray, List.getElem_cons_zero, List.getElem_cons_succ, Act.put, List.setIfInBounds_toArray, List.set_cons_zero, List.set_cons_succ]
  refine wpAnyH_take (i := 3) (v := ?_) rfl (by kernel_rfl) (by kernel_rfl) (by kernel_rfl) (fun _ _ _ h => h) (Or.inl ⟨by rfl, ?_⟩) hHeld0 ?_
  rotate_left
  · intro w hSw
    (try dsimp only at hSw)
    go_simp
    try (first | (with_reducible rfl) | rfl)
  try simp only [List.getElem_toArray, List.getElem_cons_zero, List.getElem_cons_succ, Act.put, List.setIfInBounds_toArray, List.set_cons_zero, List.set_cons_succ]
  refine wpAnyH_take (i := 4) (v := ?_) rfl (by kernel_rfl) (by kernel_rfl) (by kernel_rfl) (fun _ _ _ h => h) (Or.inl ⟨by rfl, ?_⟩) hHeld0 ?_
  rotate_left
  · intro w hSw
    (try dsimp only at hSw)
    go_simp
    try (first | (with_reducible rfl) | rfl)
  try simp only [List.getElem_toArray, List.getElem_cons_zero, List.getElem_cons_succ, Act.put, List.setIfInBounds_toArray, List.set_cons_zero, List.set_cons_succ]
  refine wpAnyH_take (i := 5) (v := ?_) rfl (by kernel_rfl) (by kernel_rfl) (by kernel_rfl) (fun _ _ _ h => h) (Or.inl ⟨by rfl, ?_⟩) hHeld0 ?_
  rotate_left
  · intro w hSw
    (try dsimp only at hSw)
    go_simp
    try (first | (with_reducible rfl) | rfl)
  try simp only [List.getElem_toArray, List.getElem_cons_zero, List.getElem_cons_succ, Act.put, List.setIfInBounds_toArray, List.set_cons_zero, List.set_cons_succ]
  refine wpAnyH_take (i := 6) (v := ?_) rfl (by kernel_rfl) (by kernel_rfl) (by kernel_rfl) (fun _ _ _ h => h) (Or.inl ⟨by rfl, ?_⟩) hHeld0 ?_
  rotate_left
  · intro w hSw
    (try dsimp only at hSw)
    go_simp
    try (first | (with_reducible rfl) | rfl)
  try simp only [List.getElem_toArray, List.getElem_cons_zero, List.getElem_cons_succ, Act.put, List.setIfInBounds_toArray, List.set_cons_zero, List.set_cons_succ]
  refine wpAnyH_take (i := 7) (v := ?_) rfl (by kernel_rfl) (by kernel_rfl) (by kernel_rfl) (fun _ _ _ h => h) (Or.inl ⟨by rfl, ?_⟩) hHeld0 ?_
  rotate_left
  · intro w hSw
    (try dsimp only at hSw)
    go_simp
    try (first | (with_reducible rfl) | rfl)
  try simp only [List.getElem_toArray, List.getElem_cons_zero, List.getElem_cons_succ, Act.put, List.setIfInBounds_toArray, List.set_cons_zero, List.set_cons_succ]
  refine wpAnyH_take (i := 8) (v := ?_) rfl (by kernel_rfl) (by kernel_rfl) (by kernel_rfl) (fun _ _ _ h => h) (Or.inl ⟨by rfl, ?_⟩) hHeld0 ?_
  rotate_left
  · intro w hSw
    (try dsimp only at hSw)
    go_simp
    try (first | (with_reducible rfl) | rfl)
  try simp only [List.getElem_toArray, List.getElem_cons_zero, List.getElem_cons_succ, Act.put, List.setIfInBounds_toArray, List.set_cons_zero, List.set_cons_succ]
  refine wpAnyH_take (i := 9) (v := ?_) rfl (by kernel_rfl) (by kernel_rfl) (by kernel_rfl) (fun _ _ _ h => h) (Or.inl ⟨by rfl, ?_⟩) hHeld0 ?_
  rotate_left
  · intro w hSw
    (try dsimp only at hSw)
    go_simp
    try (first | (with_reducible rfl) | rfl)
  try simp only [List.getElem_toArray, List.getElem_cons_zero, List.getElem_cons_succ, Act.put, List.setIfInBounds_toArray, List.set_cons_zero, List.set_cons_succ]
  refine wpAnyH_take (i := 10) (v := ?_) rfl (by kernel_rfl) (by kernel_rfl) (by kernel_rfl) (fun _ _ _ h => h) (Or.inl ⟨by rfl, ?_⟩) hHeld0 ?_
  rotate_left
  · intro w hSw
    (try dsimp only at hSw)
    go_simp
    try (first | (with_reducible rfl) | rfl)
  try simp only [List.getElem_toArray, List.getElem_cons_zero, List.getElem_cons_succ, Act.put, List.setIfInBounds_toArray, List.set_cons_zero, List.set_cons_succ]
  refine wpAnyH_take (i := 11) (v := ?_) rfl (by kernel_rfl) (by kernel_rfl) (by kernel_rfl) (fun _ _ _ h => h) (Or.inl ⟨by rfl, ?_⟩) hHeld0 ?_
  rotate_left
  · intro w hSw
    (try dsimp only at hSw)
    go_simp
    try (first | (with_reducible rfl) | rfl)
  try simp only [List.getElem_toArray, List.getElem_cons_zero, List.getElem_cons_succ, Act.put, List.setIfInBounds_toArray, List.set_cons_zero, List.set_cons_succ]
  refine wpAnyH_ready (rs := [12]) (by kernel_rfl) (by simp) ?_
  refine AllReadyH.cons rfl (fun K hK => ?_) ?_
  · go_simp
    (go_at_call 16; refine (count_st (H8.out.below HBD.out) 0 rfl).mono ?_; rintro e w' ⟨rfl, rfl⟩)
    go_wp2_with fail
    refine hK.out _ _ ?_ (fun hHeld12_12 => ?_)
    · first | exact HCS.out _ HBD.out | exact HCS.out _ (Below.refl _ _)
    clear hK K
    try simp only [List.getElem_toArray, List.getElem_cons_zero, List.getElem_cons_succ, Act.put, List.setIfInBounds_toArray, List.set_cons_zero, List.set_cons_succ]
    refine wpAnyH_take (i := 13) (v := ?_) rfl (by kernel_rfl) (by kernel_rfl) (by kernel_rfl) (fun _ _ _ h => h) (Or.inl ⟨by rfl, ?_⟩) hHeld12_12 ?_
    rotate_left
    · intro w hSw
      (try dsimp only at hSw)
      go_simp
      try (first | (with_reducible rfl) | rfl)
    try simp only [List.getElem_toArray, List.getElem_cons_zero, List.getElem_cons_succ, Act.put, List.setIfInBounds_toArray, List.set_cons_zero, List.set_cons_succ]
    refine wpAnyH_take (i := 14) (v := ?_) rfl (by kernel_rfl) (by kernel_rfl) (by kernel_rfl) (fun _ _ _ h => h) (Or.inl ⟨by rfl, ?_⟩) hHeld12_12 ?_
    rotate_left
    · intro w hSw
      (try dsimp only at hSw)
      go_simp
      try (first | (with_reducible rfl) | rfl)
    try simp only [List.getElem_toArray, List.getElem_cons_zero, List.getElem_cons_succ, Act.put, List.setIfInBounds_toArray, List.set_cons_zero, List.set_cons_succ]
    refine wpAnyH_take (i := 15) (v := ?_) rfl (by kernel_rfl) (by kernel_rfl) (by kernel_rfl) (fun _ _ _ h => h) (Or.inl ⟨by rfl, ?_⟩) hHeld12_12 ?_
    rotate_left
    · intro w hSw
      (try dsimp only at hSw)
      go_simp
      try (first | (with_reducible rfl) | rfl)
    try simp only [List.getElem_toArray, List.getElem_cons_zero, List.getElem_cons_succ, Act.put, List.setIfInBounds_toArray, List.set_cons_zero, List.set_cons_succ]
    refine wpAnyH_take (i := 16) (v := ?_) rfl (by kernel_rfl) (by kernel_rfl) (by kernel_rfl) (fun _ _ _ h => h) (Or.inl ⟨by rfl, ?_⟩) hHeld12_12 ?_
    rotate_left
    · intro w hSw
      (try dsimp only at hSw)
      go_simp
      try (first | (with_reducible rfl) | rfl)
    try simp only [List.getElem_toArray, List.getElem_cons_zero, List.getElem_cons_succ, Act.put, List.setIfInBounds_toArray, List.set_cons_zero, List.set_cons_succ]
    refine wpAnyH_ready (rs := [17]) (by kernel_rfl) (by simp) ?_
    refine AllReadyH.cons rfl (fun K hK => ?_) ?_
    · go_simp
      (go_at_call 17; refine (src_left 1 ((H8.out.below HBD.out).front 1 rfl) rfl).mono ?_; rintro e w' ⟨rfl, rfl⟩)
      go_wp2_with fail
      refine hK.out _ _ ?_ (fun hHeld17_17 => ?_)
      · first | exact HCS.out _ HBD.out | exact HCS.out _ (Below.refl _ _)
      clear hK K
      try simp only [List.getElem_toArray, List.getElem_cons_zero, List.getElem_cons_succ, Act.put, List.setIfInBounds_toArray, List.set_cons_zero, List.set_cons_succ]
      refine wpAnyH_take (i := 18) (v := ?_) rfl (by kernel_rfl) (by kernel_rfl) (by kernel_rfl) (fun _ _ _ h => h) (Or.inl ⟨by rfl, ?_⟩) hHeld17_17 ?_
      rotate_left
      · intro w hSw
        (try dsimp only at hSw)
        go_simp
        try (first | (with_reducible rfl) | rfl)
      try simp only [List.getElem_toArray, List.getElem_cons_zero, List.getElem_cons_succ, Act.put, List.setIfInBounds_toArray, List.set_cons_zero, List.set_cons_succ]
      refine wpAnyH_take (i := 19) (v := ?_) rfl (by kernel_rfl) (by kernel_rfl) (by kernel_rfl) (fun _ _ _ h => h) (Or.inl ⟨by rfl, ?_⟩) hHeld17_17 ?_
      rotate_left
      · intro w hSw
        (try dsimp only at hSw)
        go_simp
        try (first | (with_reducible rfl) | rfl)
      try simp only [List.getElem_toArray, List.getElem_cons_zero, List.getElem_cons_succ, Act.put, List.setIfInBounds_toArray, List.set_cons_zero, List.set_cons_succ]
      refine wpAnyH_take (i := 20) (v := ?_) rfl (by kernel_rfl) (by kernel_rfl) (by kernel_rfl) (fun _ _ _ h => h) (Or.inl ⟨by rfl, ?_⟩) hHeld17_17 ?_
      rotate_left
      · intro w hSw
        (try dsimp only at hSw)
        go_simp
        try (first | (with_reducible rfl) | rfl)
      try simp only [List.getElem_toArray, List.getElem_cons_zero, List.getElem_cons_succ, Act.put, List.setIfInBounds_toArray, List.set_cons_zero, List.set_cons_succ]
      refine wpAnyH_take (i := 21) (v := ?_) rfl (by kernel_rfl) (by kernel_rfl) (by kernel_rfl) (fun _ _ _ h => h) (Or.inl ⟨by rfl, ?_⟩) hHeld17_17 ?_
      rotate_left
      · intro w hSw
        (try dsimp only at hSw)
        go_simp
        try (first | (with_reducible rfl) | rfl)
      try simp only [List.getElem_toArray, List.getElem_cons_zero, List.getElem_cons_succ, Act.put, List.setIfInBounds_toArray, List.set_cons_zero, List.set_cons_succ]
      refine wpAnyH_take (i := 23) (v := ?_) rfl (by kernel_rfl) (by kernel_rfl) (by kernel_rfl) (fun _ _ _ h => h) (Or.inl ⟨by rfl, ?_⟩) hHeld17_17 ?_
      rotate_left
      · intro w hSw
        (try dsimp only at hSw)
        go_simp
        try (first | (with_reducible rfl) | rfl)
      try simp only [List.getElem_toArray, List.getElem_cons_zero, List.getElem_cons_succ, Act.put, List.setIfInBounds_toArray, List.set_cons_zero, List.set_cons_succ]
      refine wpAnyH_ready (rs := [22]) (by kernel_rfl) (by simp) ?_
      refine AllReadyH.cons rfl (fun K hK => ?_) ?_
      · go_simp
        (go_at_call 18; refine (e_stateV (H8.out.below HBD.out) 2 rfl R E rfl rfl).mono ?_; rintro e w' ⟨rfl, hb⟩; (have HZ2 := Lib.hid (HBD.out.trans (hb.mono HBD.out.size))); clear hb HBD; (have HBD := HZ2); clear HZ2)
        go_wp2_with fail
        refine hK.out _ _ ?_ (fun hHeld23_22 => ?_)
        · first | exact HCS.out _ HBD.out | exact HCS.out _ (Below.refl _ _)
        clear hK K
        try simp only [List.getElem_toArray, List.getElem_cons_zero, List.getElem_cons_succ, Act.put, List.setIfInBounds_toArray, List.set_cons_zero, List.set_cons_succ]
        refine wpAnyH_take (i := 24) (v := ?_) rfl (by kernel_rfl) (by kernel_rfl) (by kernel_rfl) (fun _ _ _ h => h) (Or.inl ⟨by rfl, ?_⟩) hHeld23_22 ?_
        rotate_left
        · intro w hSw
          (try dsimp only at hSw)
          go_simp
          try (first | (with_reducible rfl) | rfl)
        try simp only [List.getElem_toArray, List.getElem_cons_zero, List.getElem_cons_succ, Act.put, List.setIfInBounds_toArray, List.set_cons_zero, List.set_cons_succ]
        refine wpAnyH_take (i := 25) (v := ?_) rfl (by kernel_rfl) (by kernel_rfl) (by kernel_rfl) (fun _ _ _ h => h) (Or.inl ⟨by rfl, ?_⟩) hHeld23_22 ?_
        rotate_left
        · intro w hSw
          (try dsimp only at hSw)
          go_simp
          try (first | (with_reducible rfl) | rfl)
        try simp only [List.getElem_toArray, List.getElem_cons_zero, List.getElem_cons_succ, Act.put, List.setIfInBounds_toArray, List.set_cons_zero, List.set_cons_succ]
        refine wpAnyH_take (i := 26) (v := ?_) rfl (by kernel_rfl) (by kernel_rfl) (by kernel_rfl) (fun _ _ _ h => h) (Or.inl ⟨by rfl, ?_⟩) hHeld23_22 ?_
        rotate_left
        · intro w hSw
          (try dsimp only at hSw)
          go_simp
          try (first | (with_reducible rfl) | rfl)
        try simp only [List.getElem_toArray, List.getElem_cons_zero, List.getElem_cons_succ, Act.put, List.setIfInBounds_toArray, List.set_cons_zero, List.set_cons_succ]
        refine wpAnyH_take (i := 27) (v := ?_) rfl (by kernel_rfl) (by kernel_rfl) (by kernel_rfl) (fun _ _ _ h => h) (Or.inl ⟨by rfl, ?_⟩) hHeld23_22 ?_
        rotate_left
        · intro w hSw
          (try dsimp only at hSw)
          go_simp
          try (first | (with_reducible rfl) | rfl)
        try simp only [List.getElem_toArray, List.getElem_cons_zero, List.getElem_cons_succ, Act.put, List.setIfInBounds_toArray, List.set_cons_zero, List.set_cons_succ]
        refine wpAnyH_ready (rs := [28]) (by kernel_rfl) (by simp) ?_
        refine AllReadyH.cons rfl (fun K hK => ?_) ?_
        · go_simp
          (go_at_call 19; refine (e_placeV (H8.out.below HBD.out) 2 rfl (-1) rfl).mono ?_; rintro e w' ⟨rfl, rfl⟩)
          go_wp2_with fail
          refine hK.out _ _ ?_ (fun hHeld28_28 => ?_)
          · first | exact HCS.out _ HBD.out | exact HCS.out _ (Below.refl _ _)
          clear hK K
          try simp only [List.getElem_toArray, List.getElem_cons_zero, List.getElem_cons_succ, Act.put, List.setIfInBounds_toArray, List.set_cons_zero, List.set_cons_succ]
          refine wpAnyH_take (i := 29) (v := ?_) rfl (by kernel_rfl) (by kernel_rfl) (by kernel_rfl) (fun _ _ _ h => h) (Or.inl ⟨by rfl, ?_⟩) hHeld28_28 ?_
          rotate_left
          · intro w hSw
            (try dsimp only at hSw)
            go_simp
            try (first | (with_reducible rfl) | rfl)
          try simp only [List.getElem_toArray, List.getElem_cons_zero, List.getElem_cons_succ, Act.put, List.setIfInBounds_toArray, List.set_cons_zero, List.set_cons_succ]
          refine wpAnyH_take (i := 30) (v := ?_) rfl (by kernel_rfl) (by kernel_rfl) (by kernel_rfl) (fun _ _ _ h => h) (Or.inl ⟨by rfl, ?_⟩) hHeld28_28 ?_
          rotate_left
          · intro w hSw
            (try dsimp only at hSw)
            go_simp
            try (first | (with_reducible rfl) | rfl)
          try simp only [List.getElem_toArray, List.getElem_cons_zero, List.getElem_cons_succ, Act.put, List.setIfInBounds_toArray, List.set_cons_zero, List.set_cons_succ]
          refine wpAnyH_take (i := 31) (v := ?_) rfl (by kernel_rfl) (by kernel_rfl) (by kernel_rfl) (fun _ _ _ h => h) (Or.inl ⟨by rfl, ?_⟩) hHeld28_28 ?_
          rotate_left
          · intro w hSw
            (try dsimp only at hSw)
            go_simp
            try (first | (with_reducible rfl) | rfl)
          try simp only [List.getElem_toArray, List.getElem_cons_zero, List.getElem_cons_succ, Act.put, List.setIfInBounds_toArray, List.set_cons_zero, List.set_cons_succ]
          refine wpAnyH_take (i := 32) (v := ?_) rfl (by kernel_rfl) (by kernel_rfl) (by kernel_rfl) (fun _ _ _ h => h) (Or.inl ⟨by rfl, ?_⟩) hHeld28_28 ?_
          rotate_left
          · intro w hSw
            (try dsimp only at hSw)
            go_simp
            try (first | (with_reducible rfl) | rfl)
          try simp only [List.getElem_toArray, List.getElem_cons_zero, List.getElem_cons_succ, Act.put, List.setIfInBounds_toArray, List.set_cons_zero, List.set_cons_succ]
          refine wpAnyH_take (i := 33) (v := ?_) rfl (by kernel_rfl) (by kernel_rfl) (by kernel_rfl) (fun _ _ _ h => h) (Or.inl ⟨by rfl, ?_⟩) hHeld28_28 ?_
          rotate_left
          · intro w hSw
            (try dsimp only at hSw)
            go_simp
            try (first | (with_reducible rfl) | rfl)
          try simp only [List.getElem_toArray, List.getElem_cons_zero, List.getElem_cons_succ, Act.put, List.setIfInBounds_toArray, List.set_cons_zero, List.set_cons_succ]
          refine wpAnyH_ready (rs := [34]) (by kernel_rfl) (by simp) ?_
          refine AllReadyH.cons rfl (fun K hK => ?_) ?_
          · go_simp
            (go_at_call 21; refine (words_st (H8.out.below HBD.out) N (frL_len _ _ _ _ _)).mono ?_; rintro e w4 ⟨al, c4', rfl, hrw, _, hb⟩; (have HZ2 := Lib.hid (HBD.out.trans (hb.mono HBD.out.size))); clear hb HBD; (have HBD := HZ2); clear HZ2; (have HRW := Lib.hid hrw); clear hrw)
            go_wp2_with fail
            refine hK.out _ _ ?_ (fun hHeld34_34 => ?_)
            · first | exact HCS.out _ HBD.out | exact HCS.out _ (Below.refl _ _)
            clear hK K
            try simp only [List.getElem_toArray, List.getElem_cons_zero, List.getElem_cons_succ, Act.put, List.setIfInBounds_toArray, List.set_cons_zero, List.set_cons_succ]
            refine wpAnyH_ready (rs := [35]) (by kernel_rfl) (by simp) ?_
            refine AllReadyH.cons rfl (fun K hK => ?_) ?_
            · go_simp
              (go_at_call 20; refine (e_met _ N _ N 0 (frL 0 3 3 n N) false (H8.out.below HBD.out) HO2.out HRW.out (frL_len _ _ _ _ _) rfl).mono ?_; rintro e w5 ⟨rfl, hb⟩; (have HZ2 := Lib.hid (HBD.out.trans (hb.mono HBD.out.size))); clear hb HBD; (have HBD := HZ2); clear HZ2)
              go_wp2_with fail
              refine hK.out _ _ ?_ (fun hHeld35_35 => ?_)
              · first | exact HCS.out _ HBD.out | exact HCS.out _ (Below.refl _ _)
              clear hK K
              try simp only [List.getElem_toArray, List.getElem_cons_zero, List.getElem_cons_succ, Act.put, List.setIfInBounds_toArray, List.set_cons_zero, List.set_cons_succ]
              refine wpAnyH_take (i := 36) (v := ?_) rfl (by kernel_rfl) (by kernel_rfl) (by kernel_rfl) (fun _ _ _ h => h) (Or.inl ⟨by rfl, ?_⟩) hHeld35_35 ?_
              rotate_left
              · intro w hSw
                (try dsimp only at hSw)
                go_simp
                try (first | (with_reducible rfl) | rfl)
              try simp only [List.getElem_toArray, List.getElem_cons_zero, List.getElem_cons_succ, Act.put, List.setIfInBounds_toArray, List.set_cons_zero, List.set_cons_succ]
              refine wpAnyH_take (i := 37) (v := ?_) rfl (by kernel_rfl) (by kernel_rfl) (by kernel_rfl) (fun _ _ _ h => h) (Or.inl ⟨by rfl, ?_⟩) hHeld35_35 ?_
              rotate_left
              · intro w hSw
                (try dsimp only at hSw)
                go_simp
                try (first | (with_reducible rfl) | rfl)
              try simp only [List.getElem_toArray, List.getElem_cons_zero, List.getElem_cons_succ, Act.put, List.setIfInBounds_toArray, List.set_cons_zero, List.set_cons_succ]
              refine wpAnyH_take (i := 38) (v := ?_) rfl (by kernel_rfl) (by kernel_rfl) (by kernel_rfl) (fun _ _ _ h => h) (Or.inl ⟨by rfl, ?_⟩) hHeld35_35 ?_
              rotate_left
              · intro w hSw
                (try dsimp only at hSw)
                go_simp
                try (first | (with_reducible rfl) | rfl)
              try simp only [List.getElem_toArray, List.getElem_cons_zero, List.getElem_cons_succ, Act.put, List.setIfInBounds_toArray, List.set_cons_zero, List.set_cons_succ]
              refine wpAnyH_done (by kernel_rfl) ?_ _
              go_wp2
              go_ret
              exact ⟨rfl, (H8.out.below HBD.out).bel⟩
            exact AllReadyH.nil
          exact AllReadyH.nil
        exact AllReadyH.nil
      exact AllReadyH.nil
    exact AllReadyH.nil
  exact AllReadyH.nil

set_option maxRecDepth 20000 in
set_option maxHeartbeats 16000000 in
theorem none_1 (slots : Int) (R E : Int) (push : Bool) (n N : Nat) (w : World) (hk : pickI slots 17 = (n : Int)) (hn : n ≤ 16) (hN : N = 8 + n) (p0 : -9223372036854775808 ≤ slots) (p1 : slots < 9223372036854775808) (t0 : (n : Int) > 0) (t1 : ¬ (1 ≤ R)) :
    Calls Try.prog 3 #[.int .i64 slots, polV R E, .bool push] w fun z w' => z = .returned (.bool true) ∧ Below w.heap.size w w' := by
  have d0 : decide (0 < (n : Int)) = true := decide_eq_true (by omega)
  have d1 : decide (1 ≤ R) = false := decide_eq_false (by omega)
  have H := Lib.hid ((St.nil w).alloc #[.int .i64 R, .int .i64 E] 23)
  obtain ⟨s0, s1, s2, s3⟩ := cells2 (H.out.cells 0 rfl)
  have hq : ∀ w, (binOp .eql 23 (polV R E) (polV R E)).run Try.prog w = .ok (.bool true) w := fun w => by
    have := polEq R E R E w
    rwa [show (R == R && E == E) = true by simp] at this
  have HOK : Hid (okC ((3 : Nat) : Int) (n : Int) ((0 : Nat) : Int) = true) := Lib.hid (okC3 hn)
  have HN : Hid (N = 2 + 2 * 3 + n + 0) := Lib.hid (by omega)
  have HK := Lib.hid hk
  have hok0 : (newEM 3 n 0 0 R E push 1 3 2).ok N 0 := newEM_ok N 0 (by decide) (by decide) (by decide) (by decide) (by decide) (by decide)
  have HO0 : Hid ((newEM 3 n 0 0 R E push 1 3 2).ok (frL 0 3 3 n N).length ([] : List Note).length) := Lib.hid (by rw [frL_len]; exact hok0)
  have hfit : (newEM 3 n 0 0 R E push 1 3 2).fit = false := by
    rw [← Bool.not_eq_true]
    intro c
    obtain ⟨f1, f2, f3⟩ := EM.fit_iff.1 c
    obtain ⟨p1, p2, p3, p4, p5, p6⟩ := pOk_iff.1 f3
    simp only [newEM] at f2 p1 p2 p3 p4 p5 p6
    simp at f2
    omega
  have HE1 := Lib.hid (EM.refuses (S := newEM 3 n 0 0 R E push 1 3 2) (ws := frL 0 3 3 n N) (now := 0) (ds := [3]) rfl rfl hfit)
  have HO1 : Hid (({ newEM 3 n 0 0 R E push 1 3 2 with en := 2 } : EM).ok (frL 0 3 3 n N).length ([] : List Note).length) := Lib.hid (by
    have := EM.step_ok [3] (HO0.out) (now := 0) (by decide) (by decide) (rngOf (frL_rng (by decide) (by decide) (by decide)))
    rw [HE1.out] at this
    exact this)
  have HO2 : Hid (({ newEM 3 n 0 0 R E push 1 3 2 with en := 2 } : EM).ok N 0) := Lib.hid (by have := HO1.out; rw [frL_len] at this; exact this)
  have HE2 : Hid (({ newEM 3 n 0 0 R E push 1 3 2 with en := 2 } : EM).step (frL 0 3 3 n N) 0 [3] = ⟨2, 0, { newEM 3 n 0 0 R E push 1 3 2 with en := 2 }, frL 0 3 3 n N, [], [3]⟩) := Lib.hid (by simp [EM.step])
  clear hok0 hfit hk
  clear hN
  go_enter Try.func3, Try.ntmps3
  go_wp2_with (first | ((have _h := H7); go_at_call 15; refine (estep HE2.out rfl H7.out HO1.out (fun d hd => by obtain rfl := List.mem_singleton.1 hd; decide) (by decide) (by decide) (by simp)).mono ?_; rintro e w8 ⟨rfl, h⟩; (have H8 := Lib.hid (h)); clear h; clear q0 q1 q2 q3; (obtain ⟨q0, q1, q2, q3⟩ := cells4 (H8.out.cells 3 rfl)); clear s0 s1 s2 s3; (obtain ⟨s0, s1, s2, s3⟩ := cells2 (H8.out.cells 4 rfl)); clear _h) | ((have _h := H6); go_at_call 15; refine (estep HE1.out rfl H6.out HO0.out (fun d hd => by obtain rfl := List.mem_singleton.1 hd; decide) (by decide) (by decide) (by simp)).mono ?_; rintro e w7 ⟨rfl, h⟩; (have H7 := Lib.hid (h)); clear h; clear q0 q1 q2 q3; (obtain ⟨q0, q1, q2, q3⟩ := cells4 (H7.out.cells 3 rfl)); clear s0 s1 s2 s3; (obtain ⟨s0, s1, s2, s3⟩ := cells2 (H7.out.cells 4 rfl)); clear _h) | ((have _h := H5); go_at_call 14; refine (src_add 3 0 [3] (H5.out.front 1 rfl) (by decide) (by simp) rfl rfl).mono ?_; rintro e w6 ⟨rfl, h⟩; (have H6 := Lib.hid (h.front 1 rfl)); clear h; clear q0 q1 q2 q3; (obtain ⟨q0, q1, q2, q3⟩ := cells4 (H6.out.cells 3 rfl)); clear s0 s1 s2 s3; (obtain ⟨s0, s1, s2, s3⟩ := cells2 (H6.out.cells 4 rfl)); clear _h) | ((have _h := H4); go_at_call 13; refine (em_new 3 n 0 0 R E push 1 3 2 H4.out).mono ?_; rintro e w5 ⟨p, rfl, h⟩; (have H5 := Lib.hid (h)); clear h; clear q0 q1 q2 q3; (obtain ⟨q0, q1, q2, q3⟩ := cells4 (H5.out.cells 3 rfl)); clear s0 s1 s2 s3; (obtain ⟨s0, s1, s2, s3⟩ := cells2 (H5.out.cells 4 rfl)); clear _h) | ((have _h := H3); go_at_call 12; refine (src_new H3.out).mono ?_; rintro e w4 ⟨r, rfl, h⟩; (have H4 := Lib.hid (h.swap)); clear h; clear q0 q1 q2 q3; (obtain ⟨q0, q1, q2, q3⟩ := cells4 (H4.out.cells 2 rfl)); clear s0 s1 s2 s3; (obtain ⟨s0, s1, s2, s3⟩ := cells2 (H4.out.cells 3 rfl)); clear _h) | ((have _h := H2); go_at_call 11; refine (begun_ok 3 n 0 0 0 N (H2.out.alloc #[.int .i64 3, .int .i64 n, .int .i64 0, .int .u32 0] 28) HOK.out HN.out (by decide) (by decide) (by decide)).mono ?_; rintro e w3 ⟨q, rfl, h⟩; (have H3 := Lib.hid (h)); clear h s0 s1 s2 s3; (obtain ⟨q0, q1, q2, q3⟩ := cells4 (H3.out.cells 1 rfl)); (obtain ⟨s0, s1, s2, s3⟩ := cells2 (H3.out.cells 2 rfl)); clear _h) | ((have _h := H1); go_at_call 10; refine (pick_is slots 17 (n : Int) _ HK.out (by decide) (by decide) p0 p1).mono ?_; rintro e w2 ⟨rfl, rfl⟩; (have H2 := Lib.hid (H1.out)); clear s0 s1 s2 s3; (obtain ⟨s0, s1, s2, s3⟩ := cells2 (H2.out.cells 0 rfl)); clear _h) | ((have _h := H); go_at_call 9; refine (shown12 _).mono ?_; rintro e w1 ⟨rfl, hb⟩; (have H1 := Lib.hid (H.out.below hb)); clear hb; clear s0 s1 s2 s3; (obtain ⟨s0, s1, s2, s3⟩ := cells2 (H1.out.cells 0 rfl)); clear _h))
  have HBD := Lib.hid (Below.refl w8.heap.size w8).drew
  have HCS : Hid (∀ w', Below w8.heap.size w8 w' → w'.cell? ⟨w.heap.size, 0, none⟩ = some (.int .i64 R) ∧ w'.cell? ⟨w.heap.size, 1, none⟩ = some (.int .i64 E)) := Lib.hid (fun w' hb => by
    have h := cells2 ((H8.out.below hb).cells 4 rfl)
    exact ⟨h.1, h.2.1⟩)
  refine wp_region_held_drew (S := (fun w' => w'.cell? ⟨w.heap.size, 0, none⟩ = some (.int .i64 R) ∧ w'.cell? ⟨w.heap.size, 1, none⟩ = some (.int .i64 E))) (by kernel_rfl) ?_ (fun hHeld0 => ?_)
  · first | exact HCS.out _ HBD.out | exact HCS.out _ (Below.refl _ _)
  refine wpAnyH_take (i := 0) (v := ?_) rfl (by kernel_rfl) (by kernel_rfl) (by kernel_rfl) (fun _ _ _ h => h) (Or.inl ⟨by rfl, ?_⟩) hHeld0 ?_
  rotate_left
  · intro w hSw
    (try dsimp only at hSw)
    go_simp
    try (first | (with_reducible rfl) | rfl)
  try simp only [List.getElem_toArray, List.getElem_cons_zero, List.getElem_cons_succ, Act.put, List.setIfInBounds_toArray, List.set_cons_zero, List.set_cons_succ]
  refine wpAnyH_take (i := 1) (v := ?_) rfl (by kernel_rfl) (by kernel_rfl) (by kernel_rfl) (fun _ _ _ h => h) (Or.inl ⟨by rfl, ?_⟩) hHeld0 ?_
  rotate_left
  · intro w hSw
    (try dsimp only at hSw)
    go_simp
    try (first | (with_reducible rfl) | rfl)
  try simp only [List.getElem_toArray, List.getElem_cons_zero, List.getElem_cons_succ, Act.put, List.setIfInBounds_toArray, List.set_cons_zero, List.set_cons_succ]
  refine wpAnyH_take (i := 2) (v := ?_) rfl (by kernel_rfl) (by kernel_rfl) (by kernel_rfl) (fun _ _ _ h => h) (Or.inl ⟨by rfl, ?_⟩) hHeld0 ?_
  rotate_left
  · intro w hSw
    (try dsimp only at hSw)
    go_simp
    try (first | (with_reducible rfl) | rfl)
  try simp only [List.getElem_toArray, List.getElem_cons_zero, List.getElem_cons_succ, Act.put, List.setIfInBounds_toArray, List.set_cons_zero, List.set_cons_succ]
  refine wpAnyH_take (i := 3) (v := ?_) rfl (by kernel_rfl) (by kernel_rfl) (by kernel_rfl) (fun _ _ _ h => h) (Or.inl ⟨by rfl, ?_⟩) hHeld0 ?_
  rotate_left
  · intro w hSw
    (try dsimp only at hSw)
    go_simp
    try (first | (with_reducible rfl) | rfl)
  try simp only [List.getElem_toArray, List.getElem_cons_zero, List.getElem_cons_succ, Act.put, List.setIfInBounds_toArray, List.set_cons_zero, List.set_cons_succ]
  refine wpAnyH_take (i := 4) (v := ?_) rfl (by kernel_rfl) (by kernel_rfl) (by kernel_rfl) (fun _ _ _ h => h) (Or.inl ⟨by rfl, ?_⟩) hHeld0 ?_
  rotate_left
  · intro w hSw
    (try dsimp only at hSw)
    go_simp
    try (first | (with_reducible rfl) | rfl)
  try simp only [List.getElem_toArray, List.getElem_cons_zero, List.getElem_cons_succ, Act.put, List.setIfInBounds_toArray, List.set_cons_zero, List.set_cons_succ]
  refine wpAnyH_take (i := 5) (v := ?_) rfl (by kernel_rfl) (by kernel_rfl) (by kernel_rfl) (fun _ _ _ h => h) (Or.inl ⟨by rfl, ?_⟩) hHeld0 ?_
  rotate_left
  · intro w hSw
    (try dsimp only at hSw)
    go_simp
    try (first | (with_reducible rfl) | rfl)
  try simp only [List.getElem_toArray, List.getElem_cons_zero, List.getElem_cons_succ, Act.put, List.setIfInBounds_toArray, List.set_cons_zero, List.set_cons_succ]
  refine wpAnyH_take (i := 6) (v := ?_) rfl (by kernel_rfl) (by kernel_rfl) (by kernel_rfl) (fun _ _ _ h => h) (Or.inl ⟨by rfl, ?_⟩) hHeld0 ?_
  rotate_left
  · intro w hSw
    (try dsimp only at hSw)
    go_simp
    try (first | (with_reducible rfl) | rfl)
  try simp only [List.getElem_toArray, List.getElem_cons_zero, List.getElem_cons_succ, Act.put, List.setIfInBounds_toArray, List.set_cons_zero, List.set_cons_succ]
  refine wpAnyH_take (i := 7) (v := ?_) rfl (by kernel_rfl) (by kernel_rfl) (by kernel_rfl) (fun _ _ _ h => h) (Or.inl ⟨by rfl, ?_⟩) hHeld0 ?_
  rotate_left
  · intro w hSw
    (try dsimp only at hSw)
    go_simp
    try (first | (with_reducible rfl) | rfl)
  try simp only [List.getElem_toArray, List.getElem_cons_zero, List.getElem_cons_succ, Act.put, List.setIfInBounds_toArray, List.set_cons_zero, List.set_cons_succ]
  refine wpAnyH_take (i := 8) (v := ?_) rfl (by kernel_rfl) (by kernel_rfl) (by kernel_rfl) (fun _ _ _ h => h) (Or.inl ⟨by rfl, ?_⟩) hHeld0 ?_
  rotate_left
  · intro w hSw
    (try dsimp only at hSw)
    go_simp
    try (first | (with_reducible rfl) | rfl)
  try simp only [List.getElem_toArray, List.getElem_cons_zero, List.getElem_cons_succ, Act.put, List.setIfInBounds_toArray, List.set_cons_zero, List.set_cons_succ]
  refine wpAnyH_take (i := 9) (v := ?_) rfl (by kernel_rfl) (by kernel_rfl) (by kernel_rfl) (fun _ _ _ h => h) (Or.inl ⟨by rfl, ?_⟩) hHeld0 ?_
  rotate_left
  · intro w hSw
    (try dsimp only at hSw)
    go_simp
    try (first | (with_reducible rfl) | rfl)
  try simp only [List.getElem_toArray, List.getElem_cons_zero, List.getElem_cons_succ, Act.put, List.setIfInBounds_toArray, List.set_cons_zero, List.set_cons_succ]
  refine wpAnyH_take (i := 10) (v := ?_) rfl (by kernel_rfl) (by kernel_rfl) (by kernel_rfl) (fun _ _ _ h => h) (Or.inl ⟨by rfl, ?_⟩) hHeld0 ?_
  rotate_left
  · intro w hSw
    (try dsimp only at hSw)
    go_simp
    try (first | (with_reducible rfl) | rfl)
  try simp only [List.getElem_toArray, List.getElem_cons_zero, List.getElem_cons_succ, Act.put, List.setIfInBounds_toArray, List.set_cons_zero, List.set_cons_succ]
  refine wpAnyH_take (i := 11) (v := ?_) rfl (by kernel_rfl) (by kernel_rfl) (by kernel_rfl) (fun _ _ _ h => h) (Or.inl ⟨by rfl, ?_⟩) hHeld0 ?_
  rotate_left
  · intro w hSw
    (try dsimp only at hSw)
    go_simp
    try (first | (with_reducible rfl) | rfl)
  try simp only [List.getElem_toArray, List.getElem_cons_zero, List.getElem_cons_succ, Act.put, List.setIfInBounds_toArray, List.set_cons_zero, List.set_cons_succ]
  refine wpAnyH_ready (rs := [12]) (by kernel_rfl) (by simp) ?_
  refine AllReadyH.cons rfl (fun K hK => ?_) ?_
  · go_simp
    (go_at_call 16; refine (count_st (H8.out.below HBD.out) 0 rfl).mono ?_; rintro e w' ⟨rfl, rfl⟩)
    go_wp2_with fail
    refine hK.out _ _ ?_ (fun hHeld12_12 => ?_)
    · first | exact HCS.out _ HBD.out | exact HCS.out _ (Below.refl _ _)
    clear hK K
    try simp only [List.getElem_toArray, List.getElem_cons_zero, List.getElem_cons_succ, Act.put, List.setIfInBounds_toArray, List.set_cons_zero, List.set_cons_succ]
    refine wpAnyH_take (i := 13) (v := ?_) rfl (by kernel_rfl) (by kernel_rfl) (by kernel_rfl) (fun _ _ _ h => h) (Or.inl ⟨by rfl, ?_⟩) hHeld12_12 ?_
    rotate_left
    · intro w hSw
      (try dsimp only at hSw)
      go_simp
      try (first | (with_reducible rfl) | rfl)
    try simp only [List.getElem_toArray, List.getElem_cons_zero, List.getElem_cons_succ, Act.put, List.setIfInBounds_toArray, List.set_cons_zero, List.set_cons_succ]
    refine wpAnyH_take (i := 14) (v := ?_) rfl (by kernel_rfl) (by kernel_rfl) (by kernel_rfl) (fun _ _ _ h => h) (Or.inl ⟨by rfl, ?_⟩) hHeld12_12 ?_
    rotate_left
    · intro w hSw
      (try dsimp only at hSw)
      go_simp
      try (first | (with_reducible rfl) | rfl)
    try simp only [List.getElem_toArray, List.getElem_cons_zero, List.getElem_cons_succ, Act.put, List.setIfInBounds_toArray, List.set_cons_zero, List.set_cons_succ]
    refine wpAnyH_take (i := 15) (v := ?_) rfl (by kernel_rfl) (by kernel_rfl) (by kernel_rfl) (fun _ _ _ h => h) (Or.inl ⟨by rfl, ?_⟩) hHeld12_12 ?_
    rotate_left
    · intro w hSw
      (try dsimp only at hSw)
      go_simp
      try (first | (with_reducible rfl) | rfl)
    try simp only [List.getElem_toArray, List.getElem_cons_zero, List.getElem_cons_succ, Act.put, List.setIfInBounds_toArray, List.set_cons_zero, List.set_cons_succ]
    refine wpAnyH_take (i := 16) (v := ?_) rfl (by kernel_rfl) (by kernel_rfl) (by kernel_rfl) (fun _ _ _ h => h) (Or.inl ⟨by rfl, ?_⟩) hHeld12_12 ?_
    rotate_left
    · intro w hSw
      (try dsimp only at hSw)
      go_simp
      try (first | (with_reducible rfl) | rfl)
    try simp only [List.getElem_toArray, List.getElem_cons_zero, List.getElem_cons_succ, Act.put, List.setIfInBounds_toArray, List.set_cons_zero, List.set_cons_succ]
    refine wpAnyH_ready (rs := [17]) (by kernel_rfl) (by simp) ?_
    refine AllReadyH.cons rfl (fun K hK => ?_) ?_
    · go_simp
      (go_at_call 17; refine (src_left 1 ((H8.out.below HBD.out).front 1 rfl) rfl).mono ?_; rintro e w' ⟨rfl, rfl⟩)
      go_wp2_with fail
      refine hK.out _ _ ?_ (fun hHeld17_17 => ?_)
      · first | exact HCS.out _ HBD.out | exact HCS.out _ (Below.refl _ _)
      clear hK K
      try simp only [List.getElem_toArray, List.getElem_cons_zero, List.getElem_cons_succ, Act.put, List.setIfInBounds_toArray, List.set_cons_zero, List.set_cons_succ]
      refine wpAnyH_take (i := 18) (v := ?_) rfl (by kernel_rfl) (by kernel_rfl) (by kernel_rfl) (fun _ _ _ h => h) (Or.inl ⟨by rfl, ?_⟩) hHeld17_17 ?_
      rotate_left
      · intro w hSw
        (try dsimp only at hSw)
        go_simp
        try (first | (with_reducible rfl) | rfl)
      try simp only [List.getElem_toArray, List.getElem_cons_zero, List.getElem_cons_succ, Act.put, List.setIfInBounds_toArray, List.set_cons_zero, List.set_cons_succ]
      refine wpAnyH_take (i := 19) (v := ?_) rfl (by kernel_rfl) (by kernel_rfl) (by kernel_rfl) (fun _ _ _ h => h) (Or.inl ⟨by rfl, ?_⟩) hHeld17_17 ?_
      rotate_left
      · intro w hSw
        (try dsimp only at hSw)
        go_simp
        try (first | (with_reducible rfl) | rfl)
      try simp only [List.getElem_toArray, List.getElem_cons_zero, List.getElem_cons_succ, Act.put, List.setIfInBounds_toArray, List.set_cons_zero, List.set_cons_succ]
      refine wpAnyH_take (i := 20) (v := ?_) rfl (by kernel_rfl) (by kernel_rfl) (by kernel_rfl) (fun _ _ _ h => h) (Or.inl ⟨by rfl, ?_⟩) hHeld17_17 ?_
      rotate_left
      · intro w hSw
        (try dsimp only at hSw)
        go_simp
        try (first | (with_reducible rfl) | rfl)
      try simp only [List.getElem_toArray, List.getElem_cons_zero, List.getElem_cons_succ, Act.put, List.setIfInBounds_toArray, List.set_cons_zero, List.set_cons_succ]
      refine wpAnyH_take (i := 21) (v := ?_) rfl (by kernel_rfl) (by kernel_rfl) (by kernel_rfl) (fun _ _ _ h => h) (Or.inl ⟨by rfl, ?_⟩) hHeld17_17 ?_
      rotate_left
      · intro w hSw
        (try dsimp only at hSw)
        go_simp
        try (first | (with_reducible rfl) | rfl)
      try simp only [List.getElem_toArray, List.getElem_cons_zero, List.getElem_cons_succ, Act.put, List.setIfInBounds_toArray, List.set_cons_zero, List.set_cons_succ]
      refine wpAnyH_take (i := 23) (v := ?_) rfl (by kernel_rfl) (by kernel_rfl) (by kernel_rfl) (fun _ _ _ h => h) (Or.inl ⟨by rfl, ?_⟩) hHeld17_17 ?_
      rotate_left
      · intro w hSw
        (try dsimp only at hSw)
        go_simp
        try (first | (with_reducible rfl) | rfl)
      try simp only [List.getElem_toArray, List.getElem_cons_zero, List.getElem_cons_succ, Act.put, List.setIfInBounds_toArray, List.set_cons_zero, List.set_cons_succ]
      refine wpAnyH_ready (rs := [22]) (by kernel_rfl) (by simp) ?_
      refine AllReadyH.cons rfl (fun K hK => ?_) ?_
      · go_simp
        (go_at_call 18; refine (e_stateV (H8.out.below HBD.out) 2 rfl R E rfl rfl).mono ?_; rintro e w' ⟨rfl, hb⟩; (have HZ2 := Lib.hid (HBD.out.trans (hb.mono HBD.out.size))); clear hb HBD; (have HBD := HZ2); clear HZ2)
        go_wp2_with fail
        refine hK.out _ _ ?_ (fun hHeld23_22 => ?_)
        · first | exact HCS.out _ HBD.out | exact HCS.out _ (Below.refl _ _)
        clear hK K
        try simp only [List.getElem_toArray, List.getElem_cons_zero, List.getElem_cons_succ, Act.put, List.setIfInBounds_toArray, List.set_cons_zero, List.set_cons_succ]
        refine wpAnyH_take (i := 24) (v := ?_) rfl (by kernel_rfl) (by kernel_rfl) (by kernel_rfl) (fun _ _ _ h => h) (Or.inl ⟨by rfl, ?_⟩) hHeld23_22 ?_
        rotate_left
        · intro w hSw
          (try dsimp only at hSw)
          go_simp
          try (first | (with_reducible rfl) | rfl)
        try simp only [List.getElem_toArray, List.getElem_cons_zero, List.getElem_cons_succ, Act.put, List.setIfInBounds_toArray, List.set_cons_zero, List.set_cons_succ]
        refine wpAnyH_take (i := 25) (v := ?_) rfl (by kernel_rfl) (by kernel_rfl) (by kernel_rfl) (fun _ _ _ h => h) (Or.inl ⟨by rfl, ?_⟩) hHeld23_22 ?_
        rotate_left
        · intro w hSw
          (try dsimp only at hSw)
          go_simp
          try (first | (with_reducible rfl) | rfl)
        try simp only [List.getElem_toArray, List.getElem_cons_zero, List.getElem_cons_succ, Act.put, List.setIfInBounds_toArray, List.set_cons_zero, List.set_cons_succ]
        refine wpAnyH_take (i := 26) (v := ?_) rfl (by kernel_rfl) (by kernel_rfl) (by kernel_rfl) (fun _ _ _ h => h) (Or.inl ⟨by rfl, ?_⟩) hHeld23_22 ?_
        rotate_left
        · intro w hSw
          (try dsimp only at hSw)
          go_simp
          try (first | (with_reducible rfl) | rfl)
        try simp only [List.getElem_toArray, List.getElem_cons_zero, List.getElem_cons_succ, Act.put, List.setIfInBounds_toArray, List.set_cons_zero, List.set_cons_succ]
        refine wpAnyH_take (i := 27) (v := ?_) rfl (by kernel_rfl) (by kernel_rfl) (by kernel_rfl) (fun _ _ _ h => h) (Or.inl ⟨by rfl, ?_⟩) hHeld23_22 ?_
        rotate_left
        · intro w hSw
          (try dsimp only at hSw)
          go_simp
          try (first | (with_reducible rfl) | rfl)
        try simp only [List.getElem_toArray, List.getElem_cons_zero, List.getElem_cons_succ, Act.put, List.setIfInBounds_toArray, List.set_cons_zero, List.set_cons_succ]
        refine wpAnyH_ready (rs := [28]) (by kernel_rfl) (by simp) ?_
        refine AllReadyH.cons rfl (fun K hK => ?_) ?_
        · go_simp
          (go_at_call 19; refine (e_placeV (H8.out.below HBD.out) 2 rfl (-1) rfl).mono ?_; rintro e w' ⟨rfl, rfl⟩)
          go_wp2_with fail
          refine hK.out _ _ ?_ (fun hHeld28_28 => ?_)
          · first | exact HCS.out _ HBD.out | exact HCS.out _ (Below.refl _ _)
          clear hK K
          try simp only [List.getElem_toArray, List.getElem_cons_zero, List.getElem_cons_succ, Act.put, List.setIfInBounds_toArray, List.set_cons_zero, List.set_cons_succ]
          refine wpAnyH_take (i := 29) (v := ?_) rfl (by kernel_rfl) (by kernel_rfl) (by kernel_rfl) (fun _ _ _ h => h) (Or.inl ⟨by rfl, ?_⟩) hHeld28_28 ?_
          rotate_left
          · intro w hSw
            (try dsimp only at hSw)
            go_simp
            try (first | (with_reducible rfl) | rfl)
          try simp only [List.getElem_toArray, List.getElem_cons_zero, List.getElem_cons_succ, Act.put, List.setIfInBounds_toArray, List.set_cons_zero, List.set_cons_succ]
          refine wpAnyH_take (i := 30) (v := ?_) rfl (by kernel_rfl) (by kernel_rfl) (by kernel_rfl) (fun _ _ _ h => h) (Or.inl ⟨by rfl, ?_⟩) hHeld28_28 ?_
          rotate_left
          · intro w hSw
            (try dsimp only at hSw)
            go_simp
            try (first | (with_reducible rfl) | rfl)
          try simp only [List.getElem_toArray, List.getElem_cons_zero, List.getElem_cons_succ, Act.put, List.setIfInBounds_toArray, List.set_cons_zero, List.set_cons_succ]
          refine wpAnyH_take (i := 31) (v := ?_) rfl (by kernel_rfl) (by kernel_rfl) (by kernel_rfl) (fun _ _ _ h => h) (Or.inl ⟨by rfl, ?_⟩) hHeld28_28 ?_
          rotate_left
          · intro w hSw
            (try dsimp only at hSw)
            go_simp
            try (first | (with_reducible rfl) | rfl)
          try simp only [List.getElem_toArray, List.getElem_cons_zero, List.getElem_cons_succ, Act.put, List.setIfInBounds_toArray, List.set_cons_zero, List.set_cons_succ]
          refine wpAnyH_take (i := 32) (v := ?_) rfl (by kernel_rfl) (by kernel_rfl) (by kernel_rfl) (fun _ _ _ h => h) (Or.inl ⟨by rfl, ?_⟩) hHeld28_28 ?_
          rotate_left
          · intro w hSw
            (try dsimp only at hSw)
            go_simp
            try (first | (with_reducible rfl) | rfl)
          try simp only [List.getElem_toArray, List.getElem_cons_zero, List.getElem_cons_succ, Act.put, List.setIfInBounds_toArray, List.set_cons_zero, List.set_cons_succ]
          refine wpAnyH_take (i := 33) (v := ?_) rfl (by kernel_rfl) (by kernel_rfl) (by kernel_rfl) (fun _ _ _ h => h) (Or.inl ⟨by rfl, ?_⟩) hHeld28_28 ?_
          rotate_left
          · intro w hSw
            (try dsimp only at hSw)
            go_simp
            try (first | (with_reducible rfl) | rfl)
          try simp only [List.getElem_toArray, List.getElem_cons_zero, List.getElem_cons_succ, Act.put, List.setIfInBounds_toArray, List.set_cons_zero, List.set_cons_succ]
          refine wpAnyH_ready (rs := [34]) (by kernel_rfl) (by simp) ?_
          refine AllReadyH.cons rfl (fun K hK => ?_) ?_
          · go_simp
            (go_at_call 21; refine (words_st (H8.out.below HBD.out) N (frL_len _ _ _ _ _)).mono ?_; rintro e w4 ⟨al, c4', rfl, hrw, _, hb⟩; (have HZ2 := Lib.hid (HBD.out.trans (hb.mono HBD.out.size))); clear hb HBD; (have HBD := HZ2); clear HZ2; (have HRW := Lib.hid hrw); clear hrw)
            go_wp2_with fail
            refine hK.out _ _ ?_ (fun hHeld34_34 => ?_)
            · first | exact HCS.out _ HBD.out | exact HCS.out _ (Below.refl _ _)
            clear hK K
            try simp only [List.getElem_toArray, List.getElem_cons_zero, List.getElem_cons_succ, Act.put, List.setIfInBounds_toArray, List.set_cons_zero, List.set_cons_succ]
            refine wpAnyH_ready (rs := [35]) (by kernel_rfl) (by simp) ?_
            refine AllReadyH.cons rfl (fun K hK => ?_) ?_
            · go_simp
              (go_at_call 20; refine (e_met _ N _ N 0 (frL 0 3 3 n N) false (H8.out.below HBD.out) HO2.out HRW.out (frL_len _ _ _ _ _) rfl).mono ?_; rintro e w5 ⟨rfl, hb⟩; (have HZ2 := Lib.hid (HBD.out.trans (hb.mono HBD.out.size))); clear hb HBD; (have HBD := HZ2); clear HZ2)
              go_wp2_with fail
              refine hK.out _ _ ?_ (fun hHeld35_35 => ?_)
              · first | exact HCS.out _ HBD.out | exact HCS.out _ (Below.refl _ _)
              clear hK K
              try simp only [List.getElem_toArray, List.getElem_cons_zero, List.getElem_cons_succ, Act.put, List.setIfInBounds_toArray, List.set_cons_zero, List.set_cons_succ]
              refine wpAnyH_take (i := 36) (v := ?_) rfl (by kernel_rfl) (by kernel_rfl) (by kernel_rfl) (fun _ _ _ h => h) (Or.inl ⟨by rfl, ?_⟩) hHeld35_35 ?_
              rotate_left
              · intro w hSw
                (try dsimp only at hSw)
                go_simp
                try (first | (with_reducible rfl) | rfl)
              try simp only [List.getElem_toArray, List.getElem_cons_zero, List.getElem_cons_succ, Act.put, List.setIfInBounds_toArray, List.set_cons_zero, List.set_cons_succ]
              refine wpAnyH_take (i := 37) (v := ?_) rfl (by kernel_rfl) (by kernel_rfl) (by kernel_rfl) (fun _ _ _ h => h) (Or.inl ⟨by rfl, ?_⟩) hHeld35_35 ?_
              rotate_left
              · intro w hSw
                (try dsimp only at hSw)
                go_simp
                try (first | (with_reducible rfl) | rfl)
              try simp only [List.getElem_toArray, List.getElem_cons_zero, List.getElem_cons_succ, Act.put, List.setIfInBounds_toArray, List.set_cons_zero, List.set_cons_succ]
              refine wpAnyH_take (i := 38) (v := ?_) rfl (by kernel_rfl) (by kernel_rfl) (by kernel_rfl) (fun _ _ _ h => h) (Or.inl ⟨by rfl, ?_⟩) hHeld35_35 ?_
              rotate_left
              · intro w hSw
                (try dsimp only at hSw)
                go_simp
                try (first | (with_reducible rfl) | rfl)
              try simp only [List.getElem_toArray, List.getElem_cons_zero, List.getElem_cons_succ, Act.put, List.setIfInBounds_toArray, List.set_cons_zero, List.set_cons_succ]
              refine wpAnyH_done (by kernel_rfl) ?_ _
              go_wp2
              go_ret
              exact ⟨rfl, (H8.out.below HBD.out).bel⟩
            exact AllReadyH.nil
          exact AllReadyH.nil
        exact AllReadyH.nil
      exact AllReadyH.nil
    exact AllReadyH.nil
  exact AllReadyH.nil

set_option maxRecDepth 20000 in
set_option maxHeartbeats 16000000 in
theorem none_2 (slots : Int) (R E : Int) (push : Bool) (n N : Nat) (w : World) (hk : pickI slots 17 = (n : Int)) (hn : n ≤ 16) (hN : N = 8 + n) (p0 : -9223372036854775808 ≤ slots) (p1 : slots < 9223372036854775808) (t0 : (n : Int) > 0) (t1 : 1 ≤ R) (t2 : ¬ (R ≤ n)) :
    Calls Try.prog 3 #[.int .i64 slots, polV R E, .bool push] w fun z w' => z = .returned (.bool true) ∧ Below w.heap.size w w' := by
  have d0 : decide (0 < (n : Int)) = true := decide_eq_true (by omega)
  have d1 : decide (1 ≤ R) = true := decide_eq_true (by omega)
  have d2 : decide (R ≤ (n : Int)) = false := decide_eq_false (by omega)
  have H := Lib.hid ((St.nil w).alloc #[.int .i64 R, .int .i64 E] 23)
  obtain ⟨s0, s1, s2, s3⟩ := cells2 (H.out.cells 0 rfl)
  have hq : ∀ w, (binOp .eql 23 (polV R E) (polV R E)).run Try.prog w = .ok (.bool true) w := fun w => by
    have := polEq R E R E w
    rwa [show (R == R && E == E) = true by simp] at this
  have HOK : Hid (okC ((3 : Nat) : Int) (n : Int) ((0 : Nat) : Int) = true) := Lib.hid (okC3 hn)
  have HN : Hid (N = 2 + 2 * 3 + n + 0) := Lib.hid (by omega)
  have HK := Lib.hid hk
  have hok0 : (newEM 3 n 0 0 R E push 1 3 2).ok N 0 := newEM_ok N 0 (by decide) (by decide) (by decide) (by decide) (by decide) (by decide)
  have HO0 : Hid ((newEM 3 n 0 0 R E push 1 3 2).ok (frL 0 3 3 n N).length ([] : List Note).length) := Lib.hid (by rw [frL_len]; exact hok0)
  have hfit : (newEM 3 n 0 0 R E push 1 3 2).fit = false := by
    rw [← Bool.not_eq_true]
    intro c
    obtain ⟨f1, f2, f3⟩ := EM.fit_iff.1 c
    obtain ⟨p1, p2, p3, p4, p5, p6⟩ := pOk_iff.1 f3
    simp only [newEM] at f2 p1 p2 p3 p4 p5 p6
    simp at f2
    omega
  have HE1 := Lib.hid (EM.refuses (S := newEM 3 n 0 0 R E push 1 3 2) (ws := frL 0 3 3 n N) (now := 0) (ds := [3]) rfl rfl hfit)
  have HO1 : Hid (({ newEM 3 n 0 0 R E push 1 3 2 with en := 2 } : EM).ok (frL 0 3 3 n N).length ([] : List Note).length) := Lib.hid (by
    have := EM.step_ok [3] (HO0.out) (now := 0) (by decide) (by decide) (rngOf (frL_rng (by decide) (by decide) (by decide)))
    rw [HE1.out] at this
    exact this)
  have HO2 : Hid (({ newEM 3 n 0 0 R E push 1 3 2 with en := 2 } : EM).ok N 0) := Lib.hid (by have := HO1.out; rw [frL_len] at this; exact this)
  have HE2 : Hid (({ newEM 3 n 0 0 R E push 1 3 2 with en := 2 } : EM).step (frL 0 3 3 n N) 0 [3] = ⟨2, 0, { newEM 3 n 0 0 R E push 1 3 2 with en := 2 }, frL 0 3 3 n N, [], [3]⟩) := Lib.hid (by simp [EM.step])
  clear hok0 hfit hk
  clear hN
  go_enter Try.func3, Try.ntmps3
  go_wp2_with (first | ((have _h := H7); go_at_call 15; refine (estep HE2.out rfl H7.out HO1.out (fun d hd => by obtain rfl := List.mem_singleton.1 hd; decide) (by decide) (by decide) (by simp)).mono ?_; rintro e w8 ⟨rfl, h⟩; (have H8 := Lib.hid (h)); clear h; clear q0 q1 q2 q3; (obtain ⟨q0, q1, q2, q3⟩ := cells4 (H8.out.cells 3 rfl)); clear s0 s1 s2 s3; (obtain ⟨s0, s1, s2, s3⟩ := cells2 (H8.out.cells 4 rfl)); clear _h) | ((have _h := H6); go_at_call 15; refine (estep HE1.out rfl H6.out HO0.out (fun d hd => by obtain rfl := List.mem_singleton.1 hd; decide) (by decide) (by decide) (by simp)).mono ?_; rintro e w7 ⟨rfl, h⟩; (have H7 := Lib.hid (h)); clear h; clear q0 q1 q2 q3; (obtain ⟨q0, q1, q2, q3⟩ := cells4 (H7.out.cells 3 rfl)); clear s0 s1 s2 s3; (obtain ⟨s0, s1, s2, s3⟩ := cells2 (H7.out.cells 4 rfl)); clear _h) | ((have _h := H5); go_at_call 14; refine (src_add 3 0 [3] (H5.out.front 1 rfl) (by decide) (by simp) rfl rfl).mono ?_; rintro e w6 ⟨rfl, h⟩; (have H6 := Lib.hid (h.front 1 rfl)); clear h; clear q0 q1 q2 q3; (obtain ⟨q0, q1, q2, q3⟩ := cells4 (H6.out.cells 3 rfl)); clear s0 s1 s2 s3; (obtain ⟨s0, s1, s2, s3⟩ := cells2 (H6.out.cells 4 rfl)); clear _h) | ((have _h := H4); go_at_call 13; refine (em_new 3 n 0 0 R E push 1 3 2 H4.out).mono ?_; rintro e w5 ⟨p, rfl, h⟩; (have H5 := Lib.hid (h)); clear h; clear q0 q1 q2 q3; (obtain ⟨q0, q1, q2, q3⟩ := cells4 (H5.out.cells 3 rfl)); clear s0 s1 s2 s3; (obtain ⟨s0, s1, s2, s3⟩ := cells2 (H5.out.cells 4 rfl)); clear _h) | ((have _h := H3); go_at_call 12; refine (src_new H3.out).mono ?_; rintro e w4 ⟨r, rfl, h⟩; (have H4 := Lib.hid (h.swap)); clear h; clear q0 q1 q2 q3; (obtain ⟨q0, q1, q2, q3⟩ := cells4 (H4.out.cells 2 rfl)); clear s0 s1 s2 s3; (obtain ⟨s0, s1, s2, s3⟩ := cells2 (H4.out.cells 3 rfl)); clear _h) | ((have _h := H2); go_at_call 11; refine (begun_ok 3 n 0 0 0 N (H2.out.alloc #[.int .i64 3, .int .i64 n, .int .i64 0, .int .u32 0] 28) HOK.out HN.out (by decide) (by decide) (by decide)).mono ?_; rintro e w3 ⟨q, rfl, h⟩; (have H3 := Lib.hid (h)); clear h s0 s1 s2 s3; (obtain ⟨q0, q1, q2, q3⟩ := cells4 (H3.out.cells 1 rfl)); (obtain ⟨s0, s1, s2, s3⟩ := cells2 (H3.out.cells 2 rfl)); clear _h) | ((have _h := H1); go_at_call 10; refine (pick_is slots 17 (n : Int) _ HK.out (by decide) (by decide) p0 p1).mono ?_; rintro e w2 ⟨rfl, rfl⟩; (have H2 := Lib.hid (H1.out)); clear s0 s1 s2 s3; (obtain ⟨s0, s1, s2, s3⟩ := cells2 (H2.out.cells 0 rfl)); clear _h) | ((have _h := H); go_at_call 9; refine (shown12 _).mono ?_; rintro e w1 ⟨rfl, hb⟩; (have H1 := Lib.hid (H.out.below hb)); clear hb; clear s0 s1 s2 s3; (obtain ⟨s0, s1, s2, s3⟩ := cells2 (H1.out.cells 0 rfl)); clear _h))
  have HBD := Lib.hid (Below.refl w8.heap.size w8).drew
  have HCS : Hid (∀ w', Below w8.heap.size w8 w' → w'.cell? ⟨w.heap.size, 0, none⟩ = some (.int .i64 R) ∧ w'.cell? ⟨w.heap.size, 1, none⟩ = some (.int .i64 E)) := Lib.hid (fun w' hb => by
    have h := cells2 ((H8.out.below hb).cells 4 rfl)
    exact ⟨h.1, h.2.1⟩)
  refine wp_region_held_drew (S := (fun w' => w'.cell? ⟨w.heap.size, 0, none⟩ = some (.int .i64 R) ∧ w'.cell? ⟨w.heap.size, 1, none⟩ = some (.int .i64 E))) (by kernel_rfl) ?_ (fun hHeld0 => ?_)
  · first | exact HCS.out _ HBD.out | exact HCS.out _ (Below.refl _ _)
  refine wpAnyH_take (i := 0) (v := ?_) rfl (by kernel_rfl) (by kernel_rfl) (by kernel_rfl) (fun _ _ _ h => h) (Or.inl ⟨by rfl, ?_⟩) hHeld0 ?_
  rotate_left
  · intro w hSw
    (try dsimp only at hSw)
    go_simp
    try (first | (with_reducible rfl) | rfl)
  try simp only [List.getElem_toArray, List.getElem_cons_zero, List.getElem_cons_succ, Act.put, List.setIfInBounds_toArray, List.set_cons_zero, List.set_cons_succ]
  refine wpAnyH_take (i := 1) (v := ?_) rfl (by kernel_rfl) (by kernel_rfl) (by kernel_rfl) (fun _ _ _ h => h) (Or.inl ⟨by rfl, ?_⟩) hHeld0 ?_
  rotate_left
  · intro w hSw
    (try dsimp only at hSw)
    go_simp
    try (first | (with_reducible rfl) | rfl)
  try simp only [List.getElem_toArray, List.getElem_cons_zero, List.getElem_cons_succ, Act.put, List.setIfInBounds_toArray, List.set_cons_zero, List.set_cons_succ]
  refine wpAnyH_take (i := 2) (v := ?_) rfl (by kernel_rfl) (by kernel_rfl) (by kernel_rfl) (fun _ _ _ h => h) (Or.inl ⟨by rfl, ?_⟩) hHeld0 ?_
  rotate_left
  · intro w hSw
    (try dsimp only at hSw)
    go_simp
    try (first | (with_reducible rfl) | rfl)
  try simp only [List.getElem_toArray, List.getElem_cons_zero, List.getElem_cons_succ, Act.put, List.setIfInBounds_toArray, List.set_cons_zero, List.set_cons_succ]
  refine wpAnyH_take (i := 3) (v := ?_) rfl (by kernel_rfl) (by kernel_rfl) (by kernel_rfl) (fun _ _ _ h => h) (Or.inl ⟨by rfl, ?_⟩) hHeld0 ?_
  rotate_left
  · intro w hSw
    (try dsimp only at hSw)
    go_simp
    try (first | (with_reducible rfl) | rfl)
  try simp only [List.getElem_toArray, List.getElem_cons_zero, List.getElem_cons_succ, Act.put, List.setIfInBounds_toArray, List.set_cons_zero, List.set_cons_succ]
  refine wpAnyH_take (i := 4) (v := ?_) rfl (by kernel_rfl) (by kernel_rfl) (by kernel_rfl) (fun _ _ _ h => h) (Or.inl ⟨by rfl, ?_⟩) hHeld0 ?_
  rotate_left
  · intro w hSw
    (try dsimp only at hSw)
    go_simp
    try (first | (with_reducible rfl) | rfl)
  try simp only [List.getElem_toArray, List.getElem_cons_zero, List.getElem_cons_succ, Act.put, List.setIfInBounds_toArray, List.set_cons_zero, List.set_cons_succ]
  refine wpAnyH_take (i := 5) (v := ?_) rfl (by kernel_rfl) (by kernel_rfl) (by kernel_rfl) (fun _ _ _ h => h) (Or.inl ⟨by rfl, ?_⟩) hHeld0 ?_
  rotate_left
  · intro w hSw
    (try dsimp only at hSw)
    go_simp
    try (first | (with_reducible rfl) | rfl)
  try simp only [List.getElem_toArray, List.getElem_cons_zero, List.getElem_cons_succ, Act.put, List.setIfInBounds_toArray, List.set_cons_zero, List.set_cons_succ]
  refine wpAnyH_take (i := 6) (v := ?_) rfl (by kernel_rfl) (by kernel_rfl) (by kernel_rfl) (fun _ _ _ h => h) (Or.inl ⟨by rfl, ?_⟩) hHeld0 ?_
  rotate_left
  · intro w hSw
    (try dsimp only at hSw)
    go_simp
    try (first | (with_reducible rfl) | rfl)
  try simp only [List.getElem_toArray, List.getElem_cons_zero, List.getElem_cons_succ, Act.put, List.setIfInBounds_toArray, List.set_cons_zero, List.set_cons_succ]
  refine wpAnyH_take (i := 7) (v := ?_) rfl (by kernel_rfl) (by kernel_rfl) (by kernel_rfl) (fun _ _ _ h => h) (Or.inl ⟨by rfl, ?_⟩) hHeld0 ?_
  rotate_left
  · intro w hSw
    (try dsimp only at hSw)
    go_simp
    try (first | (with_reducible rfl) | rfl)
  try simp only [List.getElem_toArray, List.getElem_cons_zero, List.getElem_cons_succ, Act.put, List.setIfInBounds_toArray, List.set_cons_zero, List.set_cons_succ]
  refine wpAnyH_take (i := 8) (v := ?_) rfl (by kernel_rfl) (by kernel_rfl) (by kernel_rfl) (fun _ _ _ h => h) (Or.inl ⟨by rfl, ?_⟩) hHeld0 ?_
  rotate_left
  · intro w hSw
    (try dsimp only at hSw)
    go_simp
    try (first | (with_reducible rfl) | rfl)
  try simp only [List.getElem_toArray, List.getElem_cons_zero, List.getElem_cons_succ, Act.put, List.setIfInBounds_toArray, List.set_cons_zero, List.set_cons_succ]
  refine wpAnyH_take (i := 9) (v := ?_) rfl (by kernel_rfl) (by kernel_rfl) (by kernel_rfl) (fun _ _ _ h => h) (Or.inl ⟨by rfl, ?_⟩) hHeld0 ?_
  rotate_left
  · intro w hSw
    (try dsimp only at hSw)
    go_simp
    try (first | (with_reducible rfl) | rfl)
  try simp only [List.getElem_toArray, List.getElem_cons_zero, List.getElem_cons_succ, Act.put, List.setIfInBounds_toArray, List.set_cons_zero, List.set_cons_succ]
  refine wpAnyH_take (i := 10) (v := ?_) rfl (by kernel_rfl) (by kernel_rfl) (by kernel_rfl) (fun _ _ _ h => h) (Or.inl ⟨by rfl, ?_⟩) hHeld0 ?_
  rotate_left
  · intro w hSw
    (try dsimp only at hSw)
    go_simp
    try (first | (with_reducible rfl) | rfl)
  try simp only [List.getElem_toArray, List.getElem_cons_zero, List.getElem_cons_succ, Act.put, List.setIfInBounds_toArray, List.set_cons_zero, List.set_cons_succ]
  refine wpAnyH_take (i := 11) (v := ?_) rfl (by kernel_rfl) (by kernel_rfl) (by kernel_rfl) (fun _ _ _ h => h) (Or.inl ⟨by rfl, ?_⟩) hHeld0 ?_
  rotate_left
  · intro w hSw
    (try dsimp only at hSw)
    go_simp
    try (first | (with_reducible rfl) | rfl)
  try simp only [List.getElem_toArray, List.getElem_cons_zero, List.getElem_cons_succ, Act.put, List.setIfInBounds_toArray, List.set_cons_zero, List.set_cons_succ]
  refine wpAnyH_ready (rs := [12]) (by kernel_rfl) (by simp) ?_
  refine AllReadyH.cons rfl (fun K hK => ?_) ?_
  · go_simp
    (go_at_call 16; refine (count_st (H8.out.below HBD.out) 0 rfl).mono ?_; rintro e w' ⟨rfl, rfl⟩)
    go_wp2_with fail
    refine hK.out _ _ ?_ (fun hHeld12_12 => ?_)
    · first | exact HCS.out _ HBD.out | exact HCS.out _ (Below.refl _ _)
    clear hK K
    try simp only [List.getElem_toArray, List.getElem_cons_zero, List.getElem_cons_succ, Act.put, List.setIfInBounds_toArray, List.set_cons_zero, List.set_cons_succ]
    refine wpAnyH_take (i := 13) (v := ?_) rfl (by kernel_rfl) (by kernel_rfl) (by kernel_rfl) (fun _ _ _ h => h) (Or.inl ⟨by rfl, ?_⟩) hHeld12_12 ?_
    rotate_left
    · intro w hSw
      (try dsimp only at hSw)
      go_simp
      try (first | (with_reducible rfl) | rfl)
    try simp only [List.getElem_toArray, List.getElem_cons_zero, List.getElem_cons_succ, Act.put, List.setIfInBounds_toArray, List.set_cons_zero, List.set_cons_succ]
    refine wpAnyH_take (i := 14) (v := ?_) rfl (by kernel_rfl) (by kernel_rfl) (by kernel_rfl) (fun _ _ _ h => h) (Or.inl ⟨by rfl, ?_⟩) hHeld12_12 ?_
    rotate_left
    · intro w hSw
      (try dsimp only at hSw)
      go_simp
      try (first | (with_reducible rfl) | rfl)
    try simp only [List.getElem_toArray, List.getElem_cons_zero, List.getElem_cons_succ, Act.put, List.setIfInBounds_toArray, List.set_cons_zero, List.set_cons_succ]
    refine wpAnyH_take (i := 15) (v := ?_) rfl (by kernel_rfl) (by kernel_rfl) (by kernel_rfl) (fun _ _ _ h => h) (Or.inl ⟨by rfl, ?_⟩) hHeld12_12 ?_
    rotate_left
    · intro w hSw
      (try dsimp only at hSw)
      go_simp
      try (first | (with_reducible rfl) | rfl)
    try simp only [List.getElem_toArray, List.getElem_cons_zero, List.getElem_cons_succ, Act.put, List.setIfInBounds_toArray, List.set_cons_zero, List.set_cons_succ]
    refine wpAnyH_take (i := 16) (v := ?_) rfl (by kernel_rfl) (by kernel_rfl) (by kernel_rfl) (fun _ _ _ h => h) (Or.inl ⟨by rfl, ?_⟩) hHeld12_12 ?_
    rotate_left
    · intro w hSw
      (try dsimp only at hSw)
      go_simp
      try (first | (with_reducible rfl) | rfl)
    try simp only [List.getElem_toArray, List.getElem_cons_zero, List.getElem_cons_succ, Act.put, List.setIfInBounds_toArray, List.set_cons_zero, List.set_cons_succ]
    refine wpAnyH_ready (rs := [17]) (by kernel_rfl) (by simp) ?_
    refine AllReadyH.cons rfl (fun K hK => ?_) ?_
    · go_simp
      (go_at_call 17; refine (src_left 1 ((H8.out.below HBD.out).front 1 rfl) rfl).mono ?_; rintro e w' ⟨rfl, rfl⟩)
      go_wp2_with fail
      refine hK.out _ _ ?_ (fun hHeld17_17 => ?_)
      · first | exact HCS.out _ HBD.out | exact HCS.out _ (Below.refl _ _)
      clear hK K
      try simp only [List.getElem_toArray, List.getElem_cons_zero, List.getElem_cons_succ, Act.put, List.setIfInBounds_toArray, List.set_cons_zero, List.set_cons_succ]
      refine wpAnyH_take (i := 18) (v := ?_) rfl (by kernel_rfl) (by kernel_rfl) (by kernel_rfl) (fun _ _ _ h => h) (Or.inl ⟨by rfl, ?_⟩) hHeld17_17 ?_
      rotate_left
      · intro w hSw
        (try dsimp only at hSw)
        go_simp
        try (first | (with_reducible rfl) | rfl)
      try simp only [List.getElem_toArray, List.getElem_cons_zero, List.getElem_cons_succ, Act.put, List.setIfInBounds_toArray, List.set_cons_zero, List.set_cons_succ]
      refine wpAnyH_take (i := 19) (v := ?_) rfl (by kernel_rfl) (by kernel_rfl) (by kernel_rfl) (fun _ _ _ h => h) (Or.inl ⟨by rfl, ?_⟩) hHeld17_17 ?_
      rotate_left
      · intro w hSw
        (try dsimp only at hSw)
        go_simp
        try (first | (with_reducible rfl) | rfl)
      try simp only [List.getElem_toArray, List.getElem_cons_zero, List.getElem_cons_succ, Act.put, List.setIfInBounds_toArray, List.set_cons_zero, List.set_cons_succ]
      refine wpAnyH_take (i := 20) (v := ?_) rfl (by kernel_rfl) (by kernel_rfl) (by kernel_rfl) (fun _ _ _ h => h) (Or.inl ⟨by rfl, ?_⟩) hHeld17_17 ?_
      rotate_left
      · intro w hSw
        (try dsimp only at hSw)
        go_simp
        try (first | (with_reducible rfl) | rfl)
      try simp only [List.getElem_toArray, List.getElem_cons_zero, List.getElem_cons_succ, Act.put, List.setIfInBounds_toArray, List.set_cons_zero, List.set_cons_succ]
      refine wpAnyH_take (i := 21) (v := ?_) rfl (by kernel_rfl) (by kernel_rfl) (by kernel_rfl) (fun _ _ _ h => h) (Or.inl ⟨by rfl, ?_⟩) hHeld17_17 ?_
      rotate_left
      · intro w hSw
        (try dsimp only at hSw)
        go_simp
        try (first | (with_reducible rfl) | rfl)
      try simp only [List.getElem_toArray, List.getElem_cons_zero, List.getElem_cons_succ, Act.put, List.setIfInBounds_toArray, List.set_cons_zero, List.set_cons_succ]
      refine wpAnyH_take (i := 23) (v := ?_) rfl (by kernel_rfl) (by kernel_rfl) (by kernel_rfl) (fun _ _ _ h => h) (Or.inl ⟨by rfl, ?_⟩) hHeld17_17 ?_
      rotate_left
      · intro w hSw
        (try dsimp only at hSw)
        go_simp
        try (first | (with_reducible rfl) | rfl)
      try simp only [List.getElem_toArray, List.getElem_cons_zero, List.getElem_cons_succ, Act.put, List.setIfInBounds_toArray, List.set_cons_zero, List.set_cons_succ]
      refine wpAnyH_ready (rs := [22]) (by kernel_rfl) (by simp) ?_
      refine AllReadyH.cons rfl (fun K hK => ?_) ?_
      · go_simp
        (go_at_call 18; refine (e_stateV (H8.out.below HBD.out) 2 rfl R E rfl rfl).mono ?_; rintro e w' ⟨rfl, hb⟩; (have HZ2 := Lib.hid (HBD.out.trans (hb.mono HBD.out.size))); clear hb HBD; (have HBD := HZ2); clear HZ2)
        go_wp2_with fail
        refine hK.out _ _ ?_ (fun hHeld23_22 => ?_)
        · first | exact HCS.out _ HBD.out | exact HCS.out _ (Below.refl _ _)
        clear hK K
        try simp only [List.getElem_toArray, List.getElem_cons_zero, List.getElem_cons_succ, Act.put, List.setIfInBounds_toArray, List.set_cons_zero, List.set_cons_succ]
        refine wpAnyH_take (i := 24) (v := ?_) rfl (by kernel_rfl) (by kernel_rfl) (by kernel_rfl) (fun _ _ _ h => h) (Or.inl ⟨by rfl, ?_⟩) hHeld23_22 ?_
        rotate_left
        · intro w hSw
          (try dsimp only at hSw)
          go_simp
          try (first | (with_reducible rfl) | rfl)
        try simp only [List.getElem_toArray, List.getElem_cons_zero, List.getElem_cons_succ, Act.put, List.setIfInBounds_toArray, List.set_cons_zero, List.set_cons_succ]
        refine wpAnyH_take (i := 25) (v := ?_) rfl (by kernel_rfl) (by kernel_rfl) (by kernel_rfl) (fun _ _ _ h => h) (Or.inl ⟨by rfl, ?_⟩) hHeld23_22 ?_
        rotate_left
        · intro w hSw
          (try dsimp only at hSw)
          go_simp
          try (first | (with_reducible rfl) | rfl)
        try simp only [List.getElem_toArray, List.getElem_cons_zero, List.getElem_cons_succ, Act.put, List.setIfInBounds_toArray, List.set_cons_zero, List.set_cons_succ]
        refine wpAnyH_take (i := 26) (v := ?_) rfl (by kernel_rfl) (by kernel_rfl) (by kernel_rfl) (fun _ _ _ h => h) (Or.inl ⟨by rfl, ?_⟩) hHeld23_22 ?_
        rotate_left
        · intro w hSw
          (try dsimp only at hSw)
          go_simp
          try (first | (with_reducible rfl) | rfl)
        try simp only [List.getElem_toArray, List.getElem_cons_zero, List.getElem_cons_succ, Act.put, List.setIfInBounds_toArray, List.set_cons_zero, List.set_cons_succ]
        refine wpAnyH_take (i := 27) (v := ?_) rfl (by kernel_rfl) (by kernel_rfl) (by kernel_rfl) (fun _ _ _ h => h) (Or.inl ⟨by rfl, ?_⟩) hHeld23_22 ?_
        rotate_left
        · intro w hSw
          (try dsimp only at hSw)
          go_simp
          try (first | (with_reducible rfl) | rfl)
        try simp only [List.getElem_toArray, List.getElem_cons_zero, List.getElem_cons_succ, Act.put, List.setIfInBounds_toArray, List.set_cons_zero, List.set_cons_succ]
        refine wpAnyH_ready (rs := [28]) (by kernel_rfl) (by simp) ?_
        refine AllReadyH.cons rfl (fun K hK => ?_) ?_
        · go_simp
          (go_at_call 19; refine (e_placeV (H8.out.below HBD.out) 2 rfl (-1) rfl).mono ?_; rintro e w' ⟨rfl, rfl⟩)
          go_wp2_with fail
          refine hK.out _ _ ?_ (fun hHeld28_28 => ?_)
          · first | exact HCS.out _ HBD.out | exact HCS.out _ (Below.refl _ _)
          clear hK K
          try simp only [List.getElem_toArray, List.getElem_cons_zero, List.getElem_cons_succ, Act.put, List.setIfInBounds_toArray, List.set_cons_zero, List.set_cons_succ]
          refine wpAnyH_take (i := 29) (v := ?_) rfl (by kernel_rfl) (by kernel_rfl) (by kernel_rfl) (fun _ _ _ h => h) (Or.inl ⟨by rfl, ?_⟩) hHeld28_28 ?_
          rotate_left
          · intro w hSw
            (try dsimp only at hSw)
            go_simp
            try (first | (with_reducible rfl) | rfl)
          try simp only [List.getElem_toArray, List.getElem_cons_zero, List.getElem_cons_succ, Act.put, List.setIfInBounds_toArray, List.set_cons_zero, List.set_cons_succ]
          refine wpAnyH_take (i := 30) (v := ?_) rfl (by kernel_rfl) (by kernel_rfl) (by kernel_rfl) (fun _ _ _ h => h) (Or.inl ⟨by rfl, ?_⟩) hHeld28_28 ?_
          rotate_left
          · intro w hSw
            (try dsimp only at hSw)
            go_simp
            try (first | (with_reducible rfl) | rfl)
          try simp only [List.getElem_toArray, List.getElem_cons_zero, List.getElem_cons_succ, Act.put, List.setIfInBounds_toArray, List.set_cons_zero, List.set_cons_succ]
          refine wpAnyH_take (i := 31) (v := ?_) rfl (by kernel_rfl) (by kernel_rfl) (by kernel_rfl) (fun _ _ _ h => h) (Or.inl ⟨by rfl, ?_⟩) hHeld28_28 ?_
          rotate_left
          · intro w hSw
            (try dsimp only at hSw)
            go_simp
            try (first | (with_reducible rfl) | rfl)
          try simp only [List.getElem_toArray, List.getElem_cons_zero, List.getElem_cons_succ, Act.put, List.setIfInBounds_toArray, List.set_cons_zero, List.set_cons_succ]
          refine wpAnyH_take (i := 32) (v := ?_) rfl (by kernel_rfl) (by kernel_rfl) (by kernel_rfl) (fun _ _ _ h => h) (Or.inl ⟨by rfl, ?_⟩) hHeld28_28 ?_
          rotate_left
          · intro w hSw
            (try dsimp only at hSw)
            go_simp
            try (first | (with_reducible rfl) | rfl)
          try simp only [List.getElem_toArray, List.getElem_cons_zero, List.getElem_cons_succ, Act.put, List.setIfInBounds_toArray, List.set_cons_zero, List.set_cons_succ]
          refine wpAnyH_take (i := 33) (v := ?_) rfl (by kernel_rfl) (by kernel_rfl) (by kernel_rfl) (fun _ _ _ h => h) (Or.inl ⟨by rfl, ?_⟩) hHeld28_28 ?_
          rotate_left
          · intro w hSw
            (try dsimp only at hSw)
            go_simp
            try (first | (with_reducible rfl) | rfl)
          try simp only [List.getElem_toArray, List.getElem_cons_zero, List.getElem_cons_succ, Act.put, List.setIfInBounds_toArray, List.set_cons_zero, List.set_cons_succ]
          refine wpAnyH_ready (rs := [34]) (by kernel_rfl) (by simp) ?_
          refine AllReadyH.cons rfl (fun K hK => ?_) ?_
          · go_simp
            (go_at_call 21; refine (words_st (H8.out.below HBD.out) N (frL_len _ _ _ _ _)).mono ?_; rintro e w4 ⟨al, c4', rfl, hrw, _, hb⟩; (have HZ2 := Lib.hid (HBD.out.trans (hb.mono HBD.out.size))); clear hb HBD; (have HBD := HZ2); clear HZ2; (have HRW := Lib.hid hrw); clear hrw)
            go_wp2_with fail
            refine hK.out _ _ ?_ (fun hHeld34_34 => ?_)
            · first | exact HCS.out _ HBD.out | exact HCS.out _ (Below.refl _ _)
            clear hK K
            try simp only [List.getElem_toArray, List.getElem_cons_zero, List.getElem_cons_succ, Act.put, List.setIfInBounds_toArray, List.set_cons_zero, List.set_cons_succ]
            refine wpAnyH_ready (rs := [35]) (by kernel_rfl) (by simp) ?_
            refine AllReadyH.cons rfl (fun K hK => ?_) ?_
            · go_simp
              (go_at_call 20; refine (e_met _ N _ N 0 (frL 0 3 3 n N) false (H8.out.below HBD.out) HO2.out HRW.out (frL_len _ _ _ _ _) rfl).mono ?_; rintro e w5 ⟨rfl, hb⟩; (have HZ2 := Lib.hid (HBD.out.trans (hb.mono HBD.out.size))); clear hb HBD; (have HBD := HZ2); clear HZ2)
              go_wp2_with fail
              refine hK.out _ _ ?_ (fun hHeld35_35 => ?_)
              · first | exact HCS.out _ HBD.out | exact HCS.out _ (Below.refl _ _)
              clear hK K
              try simp only [List.getElem_toArray, List.getElem_cons_zero, List.getElem_cons_succ, Act.put, List.setIfInBounds_toArray, List.set_cons_zero, List.set_cons_succ]
              refine wpAnyH_take (i := 36) (v := ?_) rfl (by kernel_rfl) (by kernel_rfl) (by kernel_rfl) (fun _ _ _ h => h) (Or.inl ⟨by rfl, ?_⟩) hHeld35_35 ?_
              rotate_left
              · intro w hSw
                (try dsimp only at hSw)
                go_simp
                try (first | (with_reducible rfl) | rfl)
              try simp only [List.getElem_toArray, List.getElem_cons_zero, List.getElem_cons_succ, Act.put, List.setIfInBounds_toArray, List.set_cons_zero, List.set_cons_succ]
              refine wpAnyH_take (i := 37) (v := ?_) rfl (by kernel_rfl) (by kernel_rfl) (by kernel_rfl) (fun _ _ _ h => h) (Or.inl ⟨by rfl, ?_⟩) hHeld35_35 ?_
              rotate_left
              · intro w hSw
                (try dsimp only at hSw)
                go_simp
                try (first | (with_reducible rfl) | rfl)
              try simp only [List.getElem_toArray, List.getElem_cons_zero, List.getElem_cons_succ, Act.put, List.setIfInBounds_toArray, List.set_cons_zero, List.set_cons_succ]
              refine wpAnyH_take (i := 38) (v := ?_) rfl (by kernel_rfl) (by kernel_rfl) (by kernel_rfl) (fun _ _ _ h => h) (Or.inl ⟨by rfl, ?_⟩) hHeld35_35 ?_
              rotate_left
              · intro w hSw
                (try dsimp only at hSw)
                go_simp
                try (first | (with_reducible rfl) | rfl)
              try simp only [List.getElem_toArray, List.getElem_cons_zero, List.getElem_cons_succ, Act.put, List.setIfInBounds_toArray, List.set_cons_zero, List.set_cons_succ]
              refine wpAnyH_done (by kernel_rfl) ?_ _
              go_wp2
              go_ret
              exact ⟨rfl, (H8.out.below HBD.out).bel⟩
            exact AllReadyH.nil
          exact AllReadyH.nil
        exact AllReadyH.nil
      exact AllReadyH.nil
    exact AllReadyH.nil
  exact AllReadyH.nil

set_option maxRecDepth 20000 in
set_option maxHeartbeats 16000000 in
theorem none_3 (slots : Int) (R E : Int) (push : Bool) (n N : Nat) (w : World) (hk : pickI slots 17 = (n : Int)) (hn : n ≤ 16) (hN : N = 8 + n) (p0 : -9223372036854775808 ≤ slots) (p1 : slots < 9223372036854775808) (t0 : (n : Int) > 0) (t1 : 1 ≤ R) (t2 : R ≤ n) (t3 : ¬ (0 ≤ E)) :
    Calls Try.prog 3 #[.int .i64 slots, polV R E, .bool push] w fun z w' => z = .returned (.bool true) ∧ Below w.heap.size w w' := by
  have d0 : decide (0 < (n : Int)) = true := decide_eq_true (by omega)
  have d1 : decide (1 ≤ R) = true := decide_eq_true (by omega)
  have d2 : decide (R ≤ (n : Int)) = true := decide_eq_true (by omega)
  have d3 : decide (0 ≤ E) = false := decide_eq_false (by omega)
  have H := Lib.hid ((St.nil w).alloc #[.int .i64 R, .int .i64 E] 23)
  obtain ⟨s0, s1, s2, s3⟩ := cells2 (H.out.cells 0 rfl)
  have hq : ∀ w, (binOp .eql 23 (polV R E) (polV R E)).run Try.prog w = .ok (.bool true) w := fun w => by
    have := polEq R E R E w
    rwa [show (R == R && E == E) = true by simp] at this
  have HOK : Hid (okC ((3 : Nat) : Int) (n : Int) ((0 : Nat) : Int) = true) := Lib.hid (okC3 hn)
  have HN : Hid (N = 2 + 2 * 3 + n + 0) := Lib.hid (by omega)
  have HK := Lib.hid hk
  have hok0 : (newEM 3 n 0 0 R E push 1 3 2).ok N 0 := newEM_ok N 0 (by decide) (by decide) (by decide) (by decide) (by decide) (by decide)
  have HO0 : Hid ((newEM 3 n 0 0 R E push 1 3 2).ok (frL 0 3 3 n N).length ([] : List Note).length) := Lib.hid (by rw [frL_len]; exact hok0)
  have hfit : (newEM 3 n 0 0 R E push 1 3 2).fit = false := by
    rw [← Bool.not_eq_true]
    intro c
    obtain ⟨f1, f2, f3⟩ := EM.fit_iff.1 c
    obtain ⟨p1, p2, p3, p4, p5, p6⟩ := pOk_iff.1 f3
    simp only [newEM] at f2 p1 p2 p3 p4 p5 p6
    simp at f2
    omega
  have HE1 := Lib.hid (EM.refuses (S := newEM 3 n 0 0 R E push 1 3 2) (ws := frL 0 3 3 n N) (now := 0) (ds := [3]) rfl rfl hfit)
  have HO1 : Hid (({ newEM 3 n 0 0 R E push 1 3 2 with en := 2 } : EM).ok (frL 0 3 3 n N).length ([] : List Note).length) := Lib.hid (by
    have := EM.step_ok [3] (HO0.out) (now := 0) (by decide) (by decide) (rngOf (frL_rng (by decide) (by decide) (by decide)))
    rw [HE1.out] at this
    exact this)
  have HO2 : Hid (({ newEM 3 n 0 0 R E push 1 3 2 with en := 2 } : EM).ok N 0) := Lib.hid (by have := HO1.out; rw [frL_len] at this; exact this)
  have HE2 : Hid (({ newEM 3 n 0 0 R E push 1 3 2 with en := 2 } : EM).step (frL 0 3 3 n N) 0 [3] = ⟨2, 0, { newEM 3 n 0 0 R E push 1 3 2 with en := 2 }, frL 0 3 3 n N, [], [3]⟩) := Lib.hid (by simp [EM.step])
  clear hok0 hfit hk
  clear hN
  go_enter Try.func3, Try.ntmps3
  go_wp2_with (first | ((have _h := H7); go_at_call 15; refine (estep HE2.out rfl H7.out HO1.out (fun d hd => by obtain rfl := List.mem_singleton.1 hd; decide) (by decide) (by decide) (by simp)).mono ?_; rintro e w8 ⟨rfl, h⟩; (have H8 := Lib.hid (h)); clear h; clear q0 q1 q2 q3; (obtain ⟨q0, q1, q2, q3⟩ := cells4 (H8.out.cells 3 rfl)); clear s0 s1 s2 s3; (obtain ⟨s0, s1, s2, s3⟩ := cells2 (H8.out.cells 4 rfl)); clear _h) | ((have _h := H6); go_at_call 15; refine (estep HE1.out rfl H6.out HO0.out (fun d hd => by obtain rfl := List.mem_singleton.1 hd; decide) (by decide) (by decide) (by simp)).mono ?_; rintro e w7 ⟨rfl, h⟩; (have H7 := Lib.hid (h)); clear h; clear q0 q1 q2 q3; (obtain ⟨q0, q1, q2, q3⟩ := cells4 (H7.out.cells 3 rfl)); clear s0 s1 s2 s3; (obtain ⟨s0, s1, s2, s3⟩ := cells2 (H7.out.cells 4 rfl)); clear _h) | ((have _h := H5); go_at_call 14; refine (src_add 3 0 [3] (H5.out.front 1 rfl) (by decide) (by simp) rfl rfl).mono ?_; rintro e w6 ⟨rfl, h⟩; (have H6 := Lib.hid (h.front 1 rfl)); clear h; clear q0 q1 q2 q3; (obtain ⟨q0, q1, q2, q3⟩ := cells4 (H6.out.cells 3 rfl)); clear s0 s1 s2 s3; (obtain ⟨s0, s1, s2, s3⟩ := cells2 (H6.out.cells 4 rfl)); clear _h) | ((have _h := H4); go_at_call 13; refine (em_new 3 n 0 0 R E push 1 3 2 H4.out).mono ?_; rintro e w5 ⟨p, rfl, h⟩; (have H5 := Lib.hid (h)); clear h; clear q0 q1 q2 q3; (obtain ⟨q0, q1, q2, q3⟩ := cells4 (H5.out.cells 3 rfl)); clear s0 s1 s2 s3; (obtain ⟨s0, s1, s2, s3⟩ := cells2 (H5.out.cells 4 rfl)); clear _h) | ((have _h := H3); go_at_call 12; refine (src_new H3.out).mono ?_; rintro e w4 ⟨r, rfl, h⟩; (have H4 := Lib.hid (h.swap)); clear h; clear q0 q1 q2 q3; (obtain ⟨q0, q1, q2, q3⟩ := cells4 (H4.out.cells 2 rfl)); clear s0 s1 s2 s3; (obtain ⟨s0, s1, s2, s3⟩ := cells2 (H4.out.cells 3 rfl)); clear _h) | ((have _h := H2); go_at_call 11; refine (begun_ok 3 n 0 0 0 N (H2.out.alloc #[.int .i64 3, .int .i64 n, .int .i64 0, .int .u32 0] 28) HOK.out HN.out (by decide) (by decide) (by decide)).mono ?_; rintro e w3 ⟨q, rfl, h⟩; (have H3 := Lib.hid (h)); clear h s0 s1 s2 s3; (obtain ⟨q0, q1, q2, q3⟩ := cells4 (H3.out.cells 1 rfl)); (obtain ⟨s0, s1, s2, s3⟩ := cells2 (H3.out.cells 2 rfl)); clear _h) | ((have _h := H1); go_at_call 10; refine (pick_is slots 17 (n : Int) _ HK.out (by decide) (by decide) p0 p1).mono ?_; rintro e w2 ⟨rfl, rfl⟩; (have H2 := Lib.hid (H1.out)); clear s0 s1 s2 s3; (obtain ⟨s0, s1, s2, s3⟩ := cells2 (H2.out.cells 0 rfl)); clear _h) | ((have _h := H); go_at_call 9; refine (shown12 _).mono ?_; rintro e w1 ⟨rfl, hb⟩; (have H1 := Lib.hid (H.out.below hb)); clear hb; clear s0 s1 s2 s3; (obtain ⟨s0, s1, s2, s3⟩ := cells2 (H1.out.cells 0 rfl)); clear _h))
  have HBD := Lib.hid (Below.refl w8.heap.size w8).drew
  have HCS : Hid (∀ w', Below w8.heap.size w8 w' → w'.cell? ⟨w.heap.size, 0, none⟩ = some (.int .i64 R) ∧ w'.cell? ⟨w.heap.size, 1, none⟩ = some (.int .i64 E)) := Lib.hid (fun w' hb => by
    have h := cells2 ((H8.out.below hb).cells 4 rfl)
    exact ⟨h.1, h.2.1⟩)
  refine wp_region_held_drew (S := (fun w' => w'.cell? ⟨w.heap.size, 0, none⟩ = some (.int .i64 R) ∧ w'.cell? ⟨w.heap.size, 1, none⟩ = some (.int .i64 E))) (by kernel_rfl) ?_ (fun hHeld0 => ?_)
  · first | exact HCS.out _ HBD.out | exact HCS.out _ (Below.refl _ _)
  refine wpAnyH_take (i := 0) (v := ?_) rfl (by kernel_rfl) (by kernel_rfl) (by kernel_rfl) (fun _ _ _ h => h) (Or.inl ⟨by rfl, ?_⟩) hHeld0 ?_
  rotate_left
  · intro w hSw
    (try dsimp only at hSw)
    go_simp
    try (first | (with_reducible rfl) | rfl)
  try simp only [List.getElem_toArray, List.getElem_cons_zero, List.getElem_cons_succ, Act.put, List.setIfInBounds_toArray, List.set_cons_zero, List.set_cons_succ]
  refine wpAnyH_take (i := 1) (v := ?_) rfl (by kernel_rfl) (by kernel_rfl) (by kernel_rfl) (fun _ _ _ h => h) (Or.inl ⟨by rfl, ?_⟩) hHeld0 ?_
  rotate_left
  · intro w hSw
    (try dsimp only at hSw)
    go_simp
    try (first | (with_reducible rfl) | rfl)
  try simp only [List.getElem_toArray, List.getElem_cons_zero, List.getElem_cons_succ, Act.put, List.setIfInBounds_toArray, List.set_cons_zero, List.set_cons_succ]
  refine wpAnyH_take (i := 2) (v := ?_) rfl (by kernel_rfl) (by kernel_rfl) (by kernel_rfl) (fun _ _ _ h => h) (Or.inl ⟨by rfl, ?_⟩) hHeld0 ?_
  rotate_left
  · intro w hSw
    (try dsimp only at hSw)
    go_simp
    try (first | (with_reducible rfl) | rfl)
  try simp only [List.getElem_toArray, List.getElem_cons_zero, List.getElem_cons_succ, Act.put, List.setIfInBounds_toArray, List.set_cons_zero, List.set_cons_succ]
  refine wpAnyH_take (i := 3) (v := ?_) rfl (by kernel_rfl) (by kernel_rfl) (by kernel_rfl) (fun _ _ _ h => h) (Or.inl ⟨by rfl, ?_⟩) hHeld0 ?_
  rotate_left
  · intro w hSw
    (try dsimp only at hSw)
    go_simp
    try (first | (with_reducible rfl) | rfl)
  try simp only [List.getElem_toArray, List.getElem_cons_zero, List.getElem_cons_succ, Act.put, List.setIfInBounds_toArray, List.set_cons_zero, List.set_cons_succ]
  refine wpAnyH_take (i := 4) (v := ?_) rfl (by kernel_rfl) (by kernel_rfl) (by kernel_rfl) (fun _ _ _ h => h) (Or.inl ⟨by rfl, ?_⟩) hHeld0 ?_
  rotate_left
  · intro w hSw
    (try dsimp only at hSw)
    go_simp
    try (first | (with_reducible rfl) | rfl)
  try simp only [List.getElem_toArray, List.getElem_cons_zero, List.getElem_cons_succ, Act.put, List.setIfInBounds_toArray, List.set_cons_zero, List.set_cons_succ]
  refine wpAnyH_take (i := 5) (v := ?_) rfl (by kernel_rfl) (by kernel_rfl) (by kernel_rfl) (fun _ _ _ h => h) (Or.inl ⟨by rfl, ?_⟩) hHeld0 ?_
  rotate_left
  · intro w hSw
    (try dsimp only at hSw)
    go_simp
    try (first | (with_reducible rfl) | rfl)
  try simp only [List.getElem_toArray, List.getElem_cons_zero, List.getElem_cons_succ, Act.put, List.setIfInBounds_toArray, List.set_cons_zero, List.set_cons_succ]
  refine wpAnyH_take (i := 6) (v := ?_) rfl (by kernel_rfl) (by kernel_rfl) (by kernel_rfl) (fun _ _ _ h => h) (Or.inl ⟨by rfl, ?_⟩) hHeld0 ?_
  rotate_left
  · intro w hSw
    (try dsimp only at hSw)
    go_simp
    try (first | (with_reducible rfl) | rfl)
  try simp only [List.getElem_toArray, List.getElem_cons_zero, List.getElem_cons_succ, Act.put, List.setIfInBounds_toArray, List.set_cons_zero, List.set_cons_succ]
  refine wpAnyH_take (i := 7) (v := ?_) rfl (by kernel_rfl) (by kernel_rfl) (by kernel_rfl) (fun _ _ _ h => h) (Or.inl ⟨by rfl, ?_⟩) hHeld0 ?_
  rotate_left
  · intro w hSw
    (try dsimp only at hSw)
    go_simp
    try (first | (with_reducible rfl) | rfl)
  try simp only [List.getElem_toArray, List.getElem_cons_zero, List.getElem_cons_succ, Act.put, List.setIfInBounds_toArray, List.set_cons_zero, List.set_cons_succ]
  refine wpAnyH_take (i := 8) (v := ?_) rfl (by kernel_rfl) (by kernel_rfl) (by kernel_rfl) (fun _ _ _ h => h) (Or.inl ⟨by rfl, ?_⟩) hHeld0 ?_
  rotate_left
  · intro w hSw
    (try dsimp only at hSw)
    go_simp
    try (first | (with_reducible rfl) | rfl)
  try simp only [List.getElem_toArray, List.getElem_cons_zero, List.getElem_cons_succ, Act.put, List.setIfInBounds_toArray, List.set_cons_zero, List.set_cons_succ]
  refine wpAnyH_take (i := 9) (v := ?_) rfl (by kernel_rfl) (by kernel_rfl) (by kernel_rfl) (fun _ _ _ h => h) (Or.inl ⟨by rfl, ?_⟩) hHeld0 ?_
  rotate_left
  · intro w hSw
    (try dsimp only at hSw)
    go_simp
    try (first | (with_reducible rfl) | rfl)
  try simp only [List.getElem_toArray, List.getElem_cons_zero, List.getElem_cons_succ, Act.put, List.setIfInBounds_toArray, List.set_cons_zero, List.set_cons_succ]
  refine wpAnyH_take (i := 10) (v := ?_) rfl (by kernel_rfl) (by kernel_rfl) (by kernel_rfl) (fun _ _ _ h => h) (Or.inl ⟨by rfl, ?_⟩) hHeld0 ?_
  rotate_left
  · intro w hSw
    (try dsimp only at hSw)
    go_simp
    try (first | (with_reducible rfl) | rfl)
  try simp only [List.getElem_toArray, List.getElem_cons_zero, List.getElem_cons_succ, Act.put, List.setIfInBounds_toArray, List.set_cons_zero, List.set_cons_succ]
  refine wpAnyH_take (i := 11) (v := ?_) rfl (by kernel_rfl) (by kernel_rfl) (by kernel_rfl) (fun _ _ _ h => h) (Or.inl ⟨by rfl, ?_⟩) hHeld0 ?_
  rotate_left
  · intro w hSw
    (try dsimp only at hSw)
    go_simp
    try (first | (with_reducible rfl) | rfl)
  try simp only [List.getElem_toArray, List.getElem_cons_zero, List.getElem_cons_succ, Act.put, List.setIfInBounds_toArray, List.set_cons_zero, List.set_cons_succ]
  refine wpAnyH_ready (rs := [12]) (by kernel_rfl) (by simp) ?_
  refine AllReadyH.cons rfl (fun K hK => ?_) ?_
  · go_simp
    (go_at_call 16; refine (count_st (H8.out.below HBD.out) 0 rfl).mono ?_; rintro e w' ⟨rfl, rfl⟩)
    go_wp2_with fail
    refine hK.out _ _ ?_ (fun hHeld12_12 => ?_)
    · first | exact HCS.out _ HBD.out | exact HCS.out _ (Below.refl _ _)
    clear hK K
    try simp only [List.getElem_toArray, List.getElem_cons_zero, List.getElem_cons_succ, Act.put, List.setIfInBounds_toArray, List.set_cons_zero, List.set_cons_succ]
    refine wpAnyH_take (i := 13) (v := ?_) rfl (by kernel_rfl) (by kernel_rfl) (by kernel_rfl) (fun _ _ _ h => h) (Or.inl ⟨by rfl, ?_⟩) hHeld12_12 ?_
    rotate_left
    · intro w hSw
      (try dsimp only at hSw)
      go_simp
      try (first | (with_reducible rfl) | rfl)
    try simp only [List.getElem_toArray, List.getElem_cons_zero, List.getElem_cons_succ, Act.put, List.setIfInBounds_toArray, List.set_cons_zero, List.set_cons_succ]
    refine wpAnyH_take (i := 14) (v := ?_) rfl (by kernel_rfl) (by kernel_rfl) (by kernel_rfl) (fun _ _ _ h => h) (Or.inl ⟨by rfl, ?_⟩) hHeld12_12 ?_
    rotate_left
    · intro w hSw
      (try dsimp only at hSw)
      go_simp
      try (first | (with_reducible rfl) | rfl)
    try simp only [List.getElem_toArray, List.getElem_cons_zero, List.getElem_cons_succ, Act.put, List.setIfInBounds_toArray, List.set_cons_zero, List.set_cons_succ]
    refine wpAnyH_take (i := 15) (v := ?_) rfl (by kernel_rfl) (by kernel_rfl) (by kernel_rfl) (fun _ _ _ h => h) (Or.inl ⟨by rfl, ?_⟩) hHeld12_12 ?_
    rotate_left
    · intro w hSw
      (try dsimp only at hSw)
      go_simp
      try (first | (with_reducible rfl) | rfl)
    try simp only [List.getElem_toArray, List.getElem_cons_zero, List.getElem_cons_succ, Act.put, List.setIfInBounds_toArray, List.set_cons_zero, List.set_cons_succ]
    refine wpAnyH_take (i := 16) (v := ?_) rfl (by kernel_rfl) (by kernel_rfl) (by kernel_rfl) (fun _ _ _ h => h) (Or.inl ⟨by rfl, ?_⟩) hHeld12_12 ?_
    rotate_left
    · intro w hSw
      (try dsimp only at hSw)
      go_simp
      try (first | (with_reducible rfl) | rfl)
    try simp only [List.getElem_toArray, List.getElem_cons_zero, List.getElem_cons_succ, Act.put, List.setIfInBounds_toArray, List.set_cons_zero, List.set_cons_succ]
    refine wpAnyH_ready (rs := [17]) (by kernel_rfl) (by simp) ?_
    refine AllReadyH.cons rfl (fun K hK => ?_) ?_
    · go_simp
      (go_at_call 17; refine (src_left 1 ((H8.out.below HBD.out).front 1 rfl) rfl).mono ?_; rintro e w' ⟨rfl, rfl⟩)
      go_wp2_with fail
      refine hK.out _ _ ?_ (fun hHeld17_17 => ?_)
      · first | exact HCS.out _ HBD.out | exact HCS.out _ (Below.refl _ _)
      clear hK K
      try simp only [List.getElem_toArray, List.getElem_cons_zero, List.getElem_cons_succ, Act.put, List.setIfInBounds_toArray, List.set_cons_zero, List.set_cons_succ]
      refine wpAnyH_take (i := 18) (v := ?_) rfl (by kernel_rfl) (by kernel_rfl) (by kernel_rfl) (fun _ _ _ h => h) (Or.inl ⟨by rfl, ?_⟩) hHeld17_17 ?_
      rotate_left
      · intro w hSw
        (try dsimp only at hSw)
        go_simp
        try (first | (with_reducible rfl) | rfl)
      try simp only [List.getElem_toArray, List.getElem_cons_zero, List.getElem_cons_succ, Act.put, List.setIfInBounds_toArray, List.set_cons_zero, List.set_cons_succ]
      refine wpAnyH_take (i := 19) (v := ?_) rfl (by kernel_rfl) (by kernel_rfl) (by kernel_rfl) (fun _ _ _ h => h) (Or.inl ⟨by rfl, ?_⟩) hHeld17_17 ?_
      rotate_left
      · intro w hSw
        (try dsimp only at hSw)
        go_simp
        try (first | (with_reducible rfl) | rfl)
      try simp only [List.getElem_toArray, List.getElem_cons_zero, List.getElem_cons_succ, Act.put, List.setIfInBounds_toArray, List.set_cons_zero, List.set_cons_succ]
      refine wpAnyH_take (i := 20) (v := ?_) rfl (by kernel_rfl) (by kernel_rfl) (by kernel_rfl) (fun _ _ _ h => h) (Or.inl ⟨by rfl, ?_⟩) hHeld17_17 ?_
      rotate_left
      · intro w hSw
        (try dsimp only at hSw)
        go_simp
        try (first | (with_reducible rfl) | rfl)
      try simp only [List.getElem_toArray, List.getElem_cons_zero, List.getElem_cons_succ, Act.put, List.setIfInBounds_toArray, List.set_cons_zero, List.set_cons_succ]
      refine wpAnyH_take (i := 21) (v := ?_) rfl (by kernel_rfl) (by kernel_rfl) (by kernel_rfl) (fun _ _ _ h => h) (Or.inl ⟨by rfl, ?_⟩) hHeld17_17 ?_
      rotate_left
      · intro w hSw
        (try dsimp only at hSw)
        go_simp
        try (first | (with_reducible rfl) | rfl)
      try simp only [List.getElem_toArray, List.getElem_cons_zero, List.getElem_cons_succ, Act.put, List.setIfInBounds_toArray, List.set_cons_zero, List.set_cons_succ]
      refine wpAnyH_take (i := 23) (v := ?_) rfl (by kernel_rfl) (by kernel_rfl) (by kernel_rfl) (fun _ _ _ h => h) (Or.inl ⟨by rfl, ?_⟩) hHeld17_17 ?_
      rotate_left
      · intro w hSw
        (try dsimp only at hSw)
        go_simp
        try (first | (with_reducible rfl) | rfl)
      try simp only [List.getElem_toArray, List.getElem_cons_zero, List.getElem_cons_succ, Act.put, List.setIfInBounds_toArray, List.set_cons_zero, List.set_cons_succ]
      refine wpAnyH_ready (rs := [22]) (by kernel_rfl) (by simp) ?_
      refine AllReadyH.cons rfl (fun K hK => ?_) ?_
      · go_simp
        (go_at_call 18; refine (e_stateV (H8.out.below HBD.out) 2 rfl R E rfl rfl).mono ?_; rintro e w' ⟨rfl, hb⟩; (have HZ2 := Lib.hid (HBD.out.trans (hb.mono HBD.out.size))); clear hb HBD; (have HBD := HZ2); clear HZ2)
        go_wp2_with fail
        refine hK.out _ _ ?_ (fun hHeld23_22 => ?_)
        · first | exact HCS.out _ HBD.out | exact HCS.out _ (Below.refl _ _)
        clear hK K
        try simp only [List.getElem_toArray, List.getElem_cons_zero, List.getElem_cons_succ, Act.put, List.setIfInBounds_toArray, List.set_cons_zero, List.set_cons_succ]
        refine wpAnyH_take (i := 24) (v := ?_) rfl (by kernel_rfl) (by kernel_rfl) (by kernel_rfl) (fun _ _ _ h => h) (Or.inl ⟨by rfl, ?_⟩) hHeld23_22 ?_
        rotate_left
        · intro w hSw
          (try dsimp only at hSw)
          go_simp
          try (first | (with_reducible rfl) | rfl)
        try simp only [List.getElem_toArray, List.getElem_cons_zero, List.getElem_cons_succ, Act.put, List.setIfInBounds_toArray, List.set_cons_zero, List.set_cons_succ]
        refine wpAnyH_take (i := 25) (v := ?_) rfl (by kernel_rfl) (by kernel_rfl) (by kernel_rfl) (fun _ _ _ h => h) (Or.inl ⟨by rfl, ?_⟩) hHeld23_22 ?_
        rotate_left
        · intro w hSw
          (try dsimp only at hSw)
          go_simp
          try (first | (with_reducible rfl) | rfl)
        try simp only [List.getElem_toArray, List.getElem_cons_zero, List.getElem_cons_succ, Act.put, List.setIfInBounds_toArray, List.set_cons_zero, List.set_cons_succ]
        refine wpAnyH_take (i := 26) (v := ?_) rfl (by kernel_rfl) (by kernel_rfl) (by kernel_rfl) (fun _ _ _ h => h) (Or.inl ⟨by rfl, ?_⟩) hHeld23_22 ?_
        rotate_left
        · intro w hSw
          (try dsimp only at hSw)
          go_simp
          try (first | (with_reducible rfl) | rfl)
        try simp only [List.getElem_toArray, List.getElem_cons_zero, List.getElem_cons_succ, Act.put, List.setIfInBounds_toArray, List.set_cons_zero, List.set_cons_succ]
        refine wpAnyH_take (i := 27) (v := ?_) rfl (by kernel_rfl) (by kernel_rfl) (by kernel_rfl) (fun _ _ _ h => h) (Or.inl ⟨by rfl, ?_⟩) hHeld23_22 ?_
        rotate_left
        · intro w hSw
          (try dsimp only at hSw)
          go_simp
          try (first | (with_reducible rfl) | rfl)
        try simp only [List.getElem_toArray, List.getElem_cons_zero, List.getElem_cons_succ, Act.put, List.setIfInBounds_toArray, List.set_cons_zero, List.set_cons_succ]
        refine wpAnyH_ready (rs := [28]) (by kernel_rfl) (by simp) ?_
        refine AllReadyH.cons rfl (fun K hK => ?_) ?_
        · go_simp
          (go_at_call 19; refine (e_placeV (H8.out.below HBD.out) 2 rfl (-1) rfl).mono ?_; rintro e w' ⟨rfl, rfl⟩)
          go_wp2_with fail
          refine hK.out _ _ ?_ (fun hHeld28_28 => ?_)
          · first | exact HCS.out _ HBD.out | exact HCS.out _ (Below.refl _ _)
          clear hK K
          try simp only [List.getElem_toArray, List.getElem_cons_zero, List.getElem_cons_succ, Act.put, List.setIfInBounds_toArray, List.set_cons_zero, List.set_cons_succ]
          refine wpAnyH_take (i := 29) (v := ?_) rfl (by kernel_rfl) (by kernel_rfl) (by kernel_rfl) (fun _ _ _ h => h) (Or.inl ⟨by rfl, ?_⟩) hHeld28_28 ?_
          rotate_left
          · intro w hSw
            (try dsimp only at hSw)
            go_simp
            try (first | (with_reducible rfl) | rfl)
          try simp only [List.getElem_toArray, List.getElem_cons_zero, List.getElem_cons_succ, Act.put, List.setIfInBounds_toArray, List.set_cons_zero, List.set_cons_succ]
          refine wpAnyH_take (i := 30) (v := ?_) rfl (by kernel_rfl) (by kernel_rfl) (by kernel_rfl) (fun _ _ _ h => h) (Or.inl ⟨by rfl, ?_⟩) hHeld28_28 ?_
          rotate_left
          · intro w hSw
            (try dsimp only at hSw)
            go_simp
            try (first | (with_reducible rfl) | rfl)
          try simp only [List.getElem_toArray, List.getElem_cons_zero, List.getElem_cons_succ, Act.put, List.setIfInBounds_toArray, List.set_cons_zero, List.set_cons_succ]
          refine wpAnyH_take (i := 31) (v := ?_) rfl (by kernel_rfl) (by kernel_rfl) (by kernel_rfl) (fun _ _ _ h => h) (Or.inl ⟨by rfl, ?_⟩) hHeld28_28 ?_
          rotate_left
          · intro w hSw
            (try dsimp only at hSw)
            go_simp
            try (first | (with_reducible rfl) | rfl)
          try simp only [List.getElem_toArray, List.getElem_cons_zero, List.getElem_cons_succ, Act.put, List.setIfInBounds_toArray, List.set_cons_zero, List.set_cons_succ]
          refine wpAnyH_take (i := 32) (v := ?_) rfl (by kernel_rfl) (by kernel_rfl) (by kernel_rfl) (fun _ _ _ h => h) (Or.inl ⟨by rfl, ?_⟩) hHeld28_28 ?_
          rotate_left
          · intro w hSw
            (try dsimp only at hSw)
            go_simp
            try (first | (with_reducible rfl) | rfl)
          try simp only [List.getElem_toArray, List.getElem_cons_zero, List.getElem_cons_succ, Act.put, List.setIfInBounds_toArray, List.set_cons_zero, List.set_cons_succ]
          refine wpAnyH_take (i := 33) (v := ?_) rfl (by kernel_rfl) (by kernel_rfl) (by kernel_rfl) (fun _ _ _ h => h) (Or.inl ⟨by rfl, ?_⟩) hHeld28_28 ?_
          rotate_left
          · intro w hSw
            (try dsimp only at hSw)
            go_simp
            try (first | (with_reducible rfl) | rfl)
          try simp only [List.getElem_toArray, List.getElem_cons_zero, List.getElem_cons_succ, Act.put, List.setIfInBounds_toArray, List.set_cons_zero, List.set_cons_succ]
          refine wpAnyH_ready (rs := [34]) (by kernel_rfl) (by simp) ?_
          refine AllReadyH.cons rfl (fun K hK => ?_) ?_
          · go_simp
            (go_at_call 21; refine (words_st (H8.out.below HBD.out) N (frL_len _ _ _ _ _)).mono ?_; rintro e w4 ⟨al, c4', rfl, hrw, _, hb⟩; (have HZ2 := Lib.hid (HBD.out.trans (hb.mono HBD.out.size))); clear hb HBD; (have HBD := HZ2); clear HZ2; (have HRW := Lib.hid hrw); clear hrw)
            go_wp2_with fail
            refine hK.out _ _ ?_ (fun hHeld34_34 => ?_)
            · first | exact HCS.out _ HBD.out | exact HCS.out _ (Below.refl _ _)
            clear hK K
            try simp only [List.getElem_toArray, List.getElem_cons_zero, List.getElem_cons_succ, Act.put, List.setIfInBounds_toArray, List.set_cons_zero, List.set_cons_succ]
            refine wpAnyH_ready (rs := [35]) (by kernel_rfl) (by simp) ?_
            refine AllReadyH.cons rfl (fun K hK => ?_) ?_
            · go_simp
              (go_at_call 20; refine (e_met _ N _ N 0 (frL 0 3 3 n N) false (H8.out.below HBD.out) HO2.out HRW.out (frL_len _ _ _ _ _) rfl).mono ?_; rintro e w5 ⟨rfl, hb⟩; (have HZ2 := Lib.hid (HBD.out.trans (hb.mono HBD.out.size))); clear hb HBD; (have HBD := HZ2); clear HZ2)
              go_wp2_with fail
              refine hK.out _ _ ?_ (fun hHeld35_35 => ?_)
              · first | exact HCS.out _ HBD.out | exact HCS.out _ (Below.refl _ _)
              clear hK K
              try simp only [List.getElem_toArray, List.getElem_cons_zero, List.getElem_cons_succ, Act.put, List.setIfInBounds_toArray, List.set_cons_zero, List.set_cons_succ]
              refine wpAnyH_take (i := 36) (v := ?_) rfl (by kernel_rfl) (by kernel_rfl) (by kernel_rfl) (fun _ _ _ h => h) (Or.inl ⟨by rfl, ?_⟩) hHeld35_35 ?_
              rotate_left
              · intro w hSw
                (try dsimp only at hSw)
                go_simp
                try (first | (with_reducible rfl) | rfl)
              try simp only [List.getElem_toArray, List.getElem_cons_zero, List.getElem_cons_succ, Act.put, List.setIfInBounds_toArray, List.set_cons_zero, List.set_cons_succ]
              refine wpAnyH_take (i := 37) (v := ?_) rfl (by kernel_rfl) (by kernel_rfl) (by kernel_rfl) (fun _ _ _ h => h) (Or.inl ⟨by rfl, ?_⟩) hHeld35_35 ?_
              rotate_left
              · intro w hSw
                (try dsimp only at hSw)
                go_simp
                try (first | (with_reducible rfl) | rfl)
              try simp only [List.getElem_toArray, List.getElem_cons_zero, List.getElem_cons_succ, Act.put, List.setIfInBounds_toArray, List.set_cons_zero, List.set_cons_succ]
              refine wpAnyH_take (i := 38) (v := ?_) rfl (by kernel_rfl) (by kernel_rfl) (by kernel_rfl) (fun _ _ _ h => h) (Or.inl ⟨by rfl, ?_⟩) hHeld35_35 ?_
              rotate_left
              · intro w hSw
                (try dsimp only at hSw)
                go_simp
                try (first | (with_reducible rfl) | rfl)
              try simp only [List.getElem_toArray, List.getElem_cons_zero, List.getElem_cons_succ, Act.put, List.setIfInBounds_toArray, List.set_cons_zero, List.set_cons_succ]
              refine wpAnyH_done (by kernel_rfl) ?_ _
              go_wp2
              go_ret
              exact ⟨rfl, (H8.out.below HBD.out).bel⟩
            exact AllReadyH.nil
          exact AllReadyH.nil
        exact AllReadyH.nil
      exact AllReadyH.nil
    exact AllReadyH.nil
  exact AllReadyH.nil

set_option maxRecDepth 20000 in
set_option maxHeartbeats 16000000 in
theorem none_4 (slots : Int) (R E : Int) (push : Bool) (n N : Nat) (w : World) (hk : pickI slots 17 = (n : Int)) (hn : n ≤ 16) (hN : N = 8 + n) (p0 : -9223372036854775808 ≤ slots) (p1 : slots < 9223372036854775808) (t0 : (n : Int) > 0) (t1 : 1 ≤ R) (t2 : R ≤ n) (t3 : 0 ≤ E) (t4 : ¬ (E ≤ 6)) :
    Calls Try.prog 3 #[.int .i64 slots, polV R E, .bool push] w fun z w' => z = .returned (.bool true) ∧ Below w.heap.size w w' := by
  have d0 : decide (0 < (n : Int)) = true := decide_eq_true (by omega)
  have d1 : decide (1 ≤ R) = true := decide_eq_true (by omega)
  have d2 : decide (R ≤ (n : Int)) = true := decide_eq_true (by omega)
  have d3 : decide (0 ≤ E) = true := decide_eq_true (by omega)
  have d4 : decide (E ≤ 6) = false := decide_eq_false (by omega)
  have H := Lib.hid ((St.nil w).alloc #[.int .i64 R, .int .i64 E] 23)
  obtain ⟨s0, s1, s2, s3⟩ := cells2 (H.out.cells 0 rfl)
  have hq : ∀ w, (binOp .eql 23 (polV R E) (polV R E)).run Try.prog w = .ok (.bool true) w := fun w => by
    have := polEq R E R E w
    rwa [show (R == R && E == E) = true by simp] at this
  have HOK : Hid (okC ((3 : Nat) : Int) (n : Int) ((0 : Nat) : Int) = true) := Lib.hid (okC3 hn)
  have HN : Hid (N = 2 + 2 * 3 + n + 0) := Lib.hid (by omega)
  have HK := Lib.hid hk
  have hok0 : (newEM 3 n 0 0 R E push 1 3 2).ok N 0 := newEM_ok N 0 (by decide) (by decide) (by decide) (by decide) (by decide) (by decide)
  have HO0 : Hid ((newEM 3 n 0 0 R E push 1 3 2).ok (frL 0 3 3 n N).length ([] : List Note).length) := Lib.hid (by rw [frL_len]; exact hok0)
  have hfit : (newEM 3 n 0 0 R E push 1 3 2).fit = false := by
    rw [← Bool.not_eq_true]
    intro c
    obtain ⟨f1, f2, f3⟩ := EM.fit_iff.1 c
    obtain ⟨p1, p2, p3, p4, p5, p6⟩ := pOk_iff.1 f3
    simp only [newEM] at f2 p1 p2 p3 p4 p5 p6
    simp at f2
    omega
  have HE1 := Lib.hid (EM.refuses (S := newEM 3 n 0 0 R E push 1 3 2) (ws := frL 0 3 3 n N) (now := 0) (ds := [3]) rfl rfl hfit)
  have HO1 : Hid (({ newEM 3 n 0 0 R E push 1 3 2 with en := 2 } : EM).ok (frL 0 3 3 n N).length ([] : List Note).length) := Lib.hid (by
    have := EM.step_ok [3] (HO0.out) (now := 0) (by decide) (by decide) (rngOf (frL_rng (by decide) (by decide) (by decide)))
    rw [HE1.out] at this
    exact this)
  have HO2 : Hid (({ newEM 3 n 0 0 R E push 1 3 2 with en := 2 } : EM).ok N 0) := Lib.hid (by have := HO1.out; rw [frL_len] at this; exact this)
  have HE2 : Hid (({ newEM 3 n 0 0 R E push 1 3 2 with en := 2 } : EM).step (frL 0 3 3 n N) 0 [3] = ⟨2, 0, { newEM 3 n 0 0 R E push 1 3 2 with en := 2 }, frL 0 3 3 n N, [], [3]⟩) := Lib.hid (by simp [EM.step])
  clear hok0 hfit hk
  clear hN
  go_enter Try.func3, Try.ntmps3
  go_wp2_with (first | ((have _h := H7); go_at_call 15; refine (estep HE2.out rfl H7.out HO1.out (fun d hd => by obtain rfl := List.mem_singleton.1 hd; decide) (by decide) (by decide) (by simp)).mono ?_; rintro e w8 ⟨rfl, h⟩; (have H8 := Lib.hid (h)); clear h; clear q0 q1 q2 q3; (obtain ⟨q0, q1, q2, q3⟩ := cells4 (H8.out.cells 3 rfl)); clear s0 s1 s2 s3; (obtain ⟨s0, s1, s2, s3⟩ := cells2 (H8.out.cells 4 rfl)); clear _h) | ((have _h := H6); go_at_call 15; refine (estep HE1.out rfl H6.out HO0.out (fun d hd => by obtain rfl := List.mem_singleton.1 hd; decide) (by decide) (by decide) (by simp)).mono ?_; rintro e w7 ⟨rfl, h⟩; (have H7 := Lib.hid (h)); clear h; clear q0 q1 q2 q3; (obtain ⟨q0, q1, q2, q3⟩ := cells4 (H7.out.cells 3 rfl)); clear s0 s1 s2 s3; (obtain ⟨s0, s1, s2, s3⟩ := cells2 (H7.out.cells 4 rfl)); clear _h) | ((have _h := H5); go_at_call 14; refine (src_add 3 0 [3] (H5.out.front 1 rfl) (by decide) (by simp) rfl rfl).mono ?_; rintro e w6 ⟨rfl, h⟩; (have H6 := Lib.hid (h.front 1 rfl)); clear h; clear q0 q1 q2 q3; (obtain ⟨q0, q1, q2, q3⟩ := cells4 (H6.out.cells 3 rfl)); clear s0 s1 s2 s3; (obtain ⟨s0, s1, s2, s3⟩ := cells2 (H6.out.cells 4 rfl)); clear _h) | ((have _h := H4); go_at_call 13; refine (em_new 3 n 0 0 R E push 1 3 2 H4.out).mono ?_; rintro e w5 ⟨p, rfl, h⟩; (have H5 := Lib.hid (h)); clear h; clear q0 q1 q2 q3; (obtain ⟨q0, q1, q2, q3⟩ := cells4 (H5.out.cells 3 rfl)); clear s0 s1 s2 s3; (obtain ⟨s0, s1, s2, s3⟩ := cells2 (H5.out.cells 4 rfl)); clear _h) | ((have _h := H3); go_at_call 12; refine (src_new H3.out).mono ?_; rintro e w4 ⟨r, rfl, h⟩; (have H4 := Lib.hid (h.swap)); clear h; clear q0 q1 q2 q3; (obtain ⟨q0, q1, q2, q3⟩ := cells4 (H4.out.cells 2 rfl)); clear s0 s1 s2 s3; (obtain ⟨s0, s1, s2, s3⟩ := cells2 (H4.out.cells 3 rfl)); clear _h) | ((have _h := H2); go_at_call 11; refine (begun_ok 3 n 0 0 0 N (H2.out.alloc #[.int .i64 3, .int .i64 n, .int .i64 0, .int .u32 0] 28) HOK.out HN.out (by decide) (by decide) (by decide)).mono ?_; rintro e w3 ⟨q, rfl, h⟩; (have H3 := Lib.hid (h)); clear h s0 s1 s2 s3; (obtain ⟨q0, q1, q2, q3⟩ := cells4 (H3.out.cells 1 rfl)); (obtain ⟨s0, s1, s2, s3⟩ := cells2 (H3.out.cells 2 rfl)); clear _h) | ((have _h := H1); go_at_call 10; refine (pick_is slots 17 (n : Int) _ HK.out (by decide) (by decide) p0 p1).mono ?_; rintro e w2 ⟨rfl, rfl⟩; (have H2 := Lib.hid (H1.out)); clear s0 s1 s2 s3; (obtain ⟨s0, s1, s2, s3⟩ := cells2 (H2.out.cells 0 rfl)); clear _h) | ((have _h := H); go_at_call 9; refine (shown12 _).mono ?_; rintro e w1 ⟨rfl, hb⟩; (have H1 := Lib.hid (H.out.below hb)); clear hb; clear s0 s1 s2 s3; (obtain ⟨s0, s1, s2, s3⟩ := cells2 (H1.out.cells 0 rfl)); clear _h))
  have HBD := Lib.hid (Below.refl w8.heap.size w8).drew
  have HCS : Hid (∀ w', Below w8.heap.size w8 w' → w'.cell? ⟨w.heap.size, 0, none⟩ = some (.int .i64 R) ∧ w'.cell? ⟨w.heap.size, 1, none⟩ = some (.int .i64 E)) := Lib.hid (fun w' hb => by
    have h := cells2 ((H8.out.below hb).cells 4 rfl)
    exact ⟨h.1, h.2.1⟩)
  refine wp_region_held_drew (S := (fun w' => w'.cell? ⟨w.heap.size, 0, none⟩ = some (.int .i64 R) ∧ w'.cell? ⟨w.heap.size, 1, none⟩ = some (.int .i64 E))) (by kernel_rfl) ?_ (fun hHeld0 => ?_)
  · first | exact HCS.out _ HBD.out | exact HCS.out _ (Below.refl _ _)
  refine wpAnyH_take (i := 0) (v := ?_) rfl (by kernel_rfl) (by kernel_rfl) (by kernel_rfl) (fun _ _ _ h => h) (Or.inl ⟨by rfl, ?_⟩) hHeld0 ?_
  rotate_left
  · intro w hSw
    (try dsimp only at hSw)
    go_simp
    try (first | (with_reducible rfl) | rfl)
  try simp only [List.getElem_toArray, List.getElem_cons_zero, List.getElem_cons_succ, Act.put, List.setIfInBounds_toArray, List.set_cons_zero, List.set_cons_succ]
  refine wpAnyH_take (i := 1) (v := ?_) rfl (by kernel_rfl) (by kernel_rfl) (by kernel_rfl) (fun _ _ _ h => h) (Or.inl ⟨by rfl, ?_⟩) hHeld0 ?_
  rotate_left
  · intro w hSw
    (try dsimp only at hSw)
    go_simp
    try (first | (with_reducible rfl) | rfl)
  try simp only [List.getElem_toArray, List.getElem_cons_zero, List.getElem_cons_succ, Act.put, List.setIfInBounds_toArray, List.set_cons_zero, List.set_cons_succ]
  refine wpAnyH_take (i := 2) (v := ?_) rfl (by kernel_rfl) (by kernel_rfl) (by kernel_rfl) (fun _ _ _ h => h) (Or.inl ⟨by rfl, ?_⟩) hHeld0 ?_
  rotate_left
  · intro w hSw
    (try dsimp only at hSw)
    go_simp
    try (first | (with_reducible rfl) | rfl)
  try simp only [List.getElem_toArray, List.getElem_cons_zero, List.getElem_cons_succ, Act.put, List.setIfInBounds_toArray, List.set_cons_zero, List.set_cons_succ]
  refine wpAnyH_take (i := 3) (v := ?_) rfl (by kernel_rfl) (by kernel_rfl) (by kernel_rfl) (fun _ _ _ h => h) (Or.inl ⟨by rfl, ?_⟩) hHeld0 ?_
  rotate_left
  · intro w hSw
    (try dsimp only at hSw)
    go_simp
    try (first | (with_reducible rfl) | rfl)
  try simp only [List.getElem_toArray, List.getElem_cons_zero, List.getElem_cons_succ, Act.put, List.setIfInBounds_toArray, List.set_cons_zero, List.set_cons_succ]
  refine wpAnyH_take (i := 4) (v := ?_) rfl (by kernel_rfl) (by kernel_rfl) (by kernel_rfl) (fun _ _ _ h => h) (Or.inl ⟨by rfl, ?_⟩) hHeld0 ?_
  rotate_left
  · intro w hSw
    (try dsimp only at hSw)
    go_simp
    try (first | (with_reducible rfl) | rfl)
  try simp only [List.getElem_toArray, List.getElem_cons_zero, List.getElem_cons_succ, Act.put, List.setIfInBounds_toArray, List.set_cons_zero, List.set_cons_succ]
  refine wpAnyH_take (i := 5) (v := ?_) rfl (by kernel_rfl) (by kernel_rfl) (by kernel_rfl) (fun _ _ _ h => h) (Or.inl ⟨by rfl, ?_⟩) hHeld0 ?_
  rotate_left
  · intro w hSw
    (try dsimp only at hSw)
    go_simp
    try (first | (with_reducible rfl) | rfl)
  try simp only [List.getElem_toArray, List.getElem_cons_zero, List.getElem_cons_succ, Act.put, List.setIfInBounds_toArray, List.set_cons_zero, List.set_cons_succ]
  refine wpAnyH_take (i := 6) (v := ?_) rfl (by kernel_rfl) (by kernel_rfl) (by kernel_rfl) (fun _ _ _ h => h) (Or.inl ⟨by rfl, ?_⟩) hHeld0 ?_
  rotate_left
  · intro w hSw
    (try dsimp only at hSw)
    go_simp
    try (first | (with_reducible rfl) | rfl)
  try simp only [List.getElem_toArray, List.getElem_cons_zero, List.getElem_cons_succ, Act.put, List.setIfInBounds_toArray, List.set_cons_zero, List.set_cons_succ]
  refine wpAnyH_take (i := 7) (v := ?_) rfl (by kernel_rfl) (by kernel_rfl) (by kernel_rfl) (fun _ _ _ h => h) (Or.inl ⟨by rfl, ?_⟩) hHeld0 ?_
  rotate_left
  · intro w hSw
    (try dsimp only at hSw)
    go_simp
    try (first | (with_reducible rfl) | rfl)
  try simp only [List.getElem_toArray, List.getElem_cons_zero, List.getElem_cons_succ, Act.put, List.setIfInBounds_toArray, List.set_cons_zero, List.set_cons_succ]
  refine wpAnyH_take (i := 8) (v := ?_) rfl (by kernel_rfl) (by kernel_rfl) (by kernel_rfl) (fun _ _ _ h => h) (Or.inl ⟨by rfl, ?_⟩) hHeld0 ?_
  rotate_left
  · intro w hSw
    (try dsimp only at hSw)
    go_simp
    try (first | (with_reducible rfl) | rfl)
  try simp only [List.getElem_toArray, List.getElem_cons_zero, List.getElem_cons_succ, Act.put, List.setIfInBounds_toArray, List.set_cons_zero, List.set_cons_succ]
  refine wpAnyH_take (i := 9) (v := ?_) rfl (by kernel_rfl) (by kernel_rfl) (by kernel_rfl) (fun _ _ _ h => h) (Or.inl ⟨by rfl, ?_⟩) hHeld0 ?_
  rotate_left
  · intro w hSw
    (try dsimp only at hSw)
    go_simp
    try (first | (with_reducible rfl) | rfl)
  try simp only [List.getElem_toArray, List.getElem_cons_zero, List.getElem_cons_succ, Act.put, List.setIfInBounds_toArray, List.set_cons_zero, List.set_cons_succ]
  refine wpAnyH_take (i := 10) (v := ?_) rfl (by kernel_rfl) (by kernel_rfl) (by kernel_rfl) (fun _ _ _ h => h) (Or.inl ⟨by rfl, ?_⟩) hHeld0 ?_
  rotate_left
  · intro w hSw
    (try dsimp only at hSw)
    go_simp
    try (first | (with_reducible rfl) | rfl)
  try simp only [List.getElem_toArray, List.getElem_cons_zero, List.getElem_cons_succ, Act.put, List.setIfInBounds_toArray, List.set_cons_zero, List.set_cons_succ]
  refine wpAnyH_take (i := 11) (v := ?_) rfl (by kernel_rfl) (by kernel_rfl) (by kernel_rfl) (fun _ _ _ h => h) (Or.inl ⟨by rfl, ?_⟩) hHeld0 ?_
  rotate_left
  · intro w hSw
    (try dsimp only at hSw)
    go_simp
    try (first | (with_reducible rfl) | rfl)
  try simp only [List.getElem_toArray, List.getElem_cons_zero, List.getElem_cons_succ, Act.put, List.setIfInBounds_toArray, List.set_cons_zero, List.set_cons_succ]
  refine wpAnyH_ready (rs := [12]) (by kernel_rfl) (by simp) ?_
  refine AllReadyH.cons rfl (fun K hK => ?_) ?_
  · go_simp
    (go_at_call 16; refine (count_st (H8.out.below HBD.out) 0 rfl).mono ?_; rintro e w' ⟨rfl, rfl⟩)
    go_wp2_with fail
    refine hK.out _ _ ?_ (fun hHeld12_12 => ?_)
    · first | exact HCS.out _ HBD.out | exact HCS.out _ (Below.refl _ _)
    clear hK K
    try simp only [List.getElem_toArray, List.getElem_cons_zero, List.getElem_cons_succ, Act.put, List.setIfInBounds_toArray, List.set_cons_zero, List.set_cons_succ]
    refine wpAnyH_take (i := 13) (v := ?_) rfl (by kernel_rfl) (by kernel_rfl) (by kernel_rfl) (fun _ _ _ h => h) (Or.inl ⟨by rfl, ?_⟩) hHeld12_12 ?_
    rotate_left
    · intro w hSw
      (try dsimp only at hSw)
      go_simp
      try (first | (with_reducible rfl) | rfl)
    try simp only [List.getElem_toArray, List.getElem_cons_zero, List.getElem_cons_succ, Act.put, List.setIfInBounds_toArray, List.set_cons_zero, List.set_cons_succ]
    refine wpAnyH_take (i := 14) (v := ?_) rfl (by kernel_rfl) (by kernel_rfl) (by kernel_rfl) (fun _ _ _ h => h) (Or.inl ⟨by rfl, ?_⟩) hHeld12_12 ?_
    rotate_left
    · intro w hSw
      (try dsimp only at hSw)
      go_simp
      try (first | (with_reducible rfl) | rfl)
    try simp only [List.getElem_toArray, List.getElem_cons_zero, List.getElem_cons_succ, Act.put, List.setIfInBounds_toArray, List.set_cons_zero, List.set_cons_succ]
    refine wpAnyH_take (i := 15) (v := ?_) rfl (by kernel_rfl) (by kernel_rfl) (by kernel_rfl) (fun _ _ _ h => h) (Or.inl ⟨by rfl, ?_⟩) hHeld12_12 ?_
    rotate_left
    · intro w hSw
      (try dsimp only at hSw)
      go_simp
      try (first | (with_reducible rfl) | rfl)
    try simp only [List.getElem_toArray, List.getElem_cons_zero, List.getElem_cons_succ, Act.put, List.setIfInBounds_toArray, List.set_cons_zero, List.set_cons_succ]
    refine wpAnyH_take (i := 16) (v := ?_) rfl (by kernel_rfl) (by kernel_rfl) (by kernel_rfl) (fun _ _ _ h => h) (Or.inl ⟨by rfl, ?_⟩) hHeld12_12 ?_
    rotate_left
    · intro w hSw
      (try dsimp only at hSw)
      go_simp
      try (first | (with_reducible rfl) | rfl)
    try simp only [List.getElem_toArray, List.getElem_cons_zero, List.getElem_cons_succ, Act.put, List.setIfInBounds_toArray, List.set_cons_zero, List.set_cons_succ]
    refine wpAnyH_ready (rs := [17]) (by kernel_rfl) (by simp) ?_
    refine AllReadyH.cons rfl (fun K hK => ?_) ?_
    · go_simp
      (go_at_call 17; refine (src_left 1 ((H8.out.below HBD.out).front 1 rfl) rfl).mono ?_; rintro e w' ⟨rfl, rfl⟩)
      go_wp2_with fail
      refine hK.out _ _ ?_ (fun hHeld17_17 => ?_)
      · first | exact HCS.out _ HBD.out | exact HCS.out _ (Below.refl _ _)
      clear hK K
      try simp only [List.getElem_toArray, List.getElem_cons_zero, List.getElem_cons_succ, Act.put, List.setIfInBounds_toArray, List.set_cons_zero, List.set_cons_succ]
      refine wpAnyH_take (i := 18) (v := ?_) rfl (by kernel_rfl) (by kernel_rfl) (by kernel_rfl) (fun _ _ _ h => h) (Or.inl ⟨by rfl, ?_⟩) hHeld17_17 ?_
      rotate_left
      · intro w hSw
        (try dsimp only at hSw)
        go_simp
        try (first | (with_reducible rfl) | rfl)
      try simp only [List.getElem_toArray, List.getElem_cons_zero, List.getElem_cons_succ, Act.put, List.setIfInBounds_toArray, List.set_cons_zero, List.set_cons_succ]
      refine wpAnyH_take (i := 19) (v := ?_) rfl (by kernel_rfl) (by kernel_rfl) (by kernel_rfl) (fun _ _ _ h => h) (Or.inl ⟨by rfl, ?_⟩) hHeld17_17 ?_
      rotate_left
      · intro w hSw
        (try dsimp only at hSw)
        go_simp
        try (first | (with_reducible rfl) | rfl)
      try simp only [List.getElem_toArray, List.getElem_cons_zero, List.getElem_cons_succ, Act.put, List.setIfInBounds_toArray, List.set_cons_zero, List.set_cons_succ]
      refine wpAnyH_take (i := 20) (v := ?_) rfl (by kernel_rfl) (by kernel_rfl) (by kernel_rfl) (fun _ _ _ h => h) (Or.inl ⟨by rfl, ?_⟩) hHeld17_17 ?_
      rotate_left
      · intro w hSw
        (try dsimp only at hSw)
        go_simp
        try (first | (with_reducible rfl) | rfl)
      try simp only [List.getElem_toArray, List.getElem_cons_zero, List.getElem_cons_succ, Act.put, List.setIfInBounds_toArray, List.set_cons_zero, List.set_cons_succ]
      refine wpAnyH_take (i := 21) (v := ?_) rfl (by kernel_rfl) (by kernel_rfl) (by kernel_rfl) (fun _ _ _ h => h) (Or.inl ⟨by rfl, ?_⟩) hHeld17_17 ?_
      rotate_left
      · intro w hSw
        (try dsimp only at hSw)
        go_simp
        try (first | (with_reducible rfl) | rfl)
      try simp only [List.getElem_toArray, List.getElem_cons_zero, List.getElem_cons_succ, Act.put, List.setIfInBounds_toArray, List.set_cons_zero, List.set_cons_succ]
      refine wpAnyH_take (i := 23) (v := ?_) rfl (by kernel_rfl) (by kernel_rfl) (by kernel_rfl) (fun _ _ _ h => h) (Or.inl ⟨by rfl, ?_⟩) hHeld17_17 ?_
      rotate_left
      · intro w hSw
        (try dsimp only at hSw)
        go_simp
        try (first | (with_reducible rfl) | rfl)
      try simp only [List.getElem_toArray, List.getElem_cons_zero, List.getElem_cons_succ, Act.put, List.setIfInBounds_toArray, List.set_cons_zero, List.set_cons_succ]
      refine wpAnyH_ready (rs := [22]) (by kernel_rfl) (by simp) ?_
      refine AllReadyH.cons rfl (fun K hK => ?_) ?_
      · go_simp
        (go_at_call 18; refine (e_stateV (H8.out.below HBD.out) 2 rfl R E rfl rfl).mono ?_; rintro e w' ⟨rfl, hb⟩; (have HZ2 := Lib.hid (HBD.out.trans (hb.mono HBD.out.size))); clear hb HBD; (have HBD := HZ2); clear HZ2)
        go_wp2_with fail
        refine hK.out _ _ ?_ (fun hHeld23_22 => ?_)
        · first | exact HCS.out _ HBD.out | exact HCS.out _ (Below.refl _ _)
        clear hK K
        try simp only [List.getElem_toArray, List.getElem_cons_zero, List.getElem_cons_succ, Act.put, List.setIfInBounds_toArray, List.set_cons_zero, List.set_cons_succ]
        refine wpAnyH_take (i := 24) (v := ?_) rfl (by kernel_rfl) (by kernel_rfl) (by kernel_rfl) (fun _ _ _ h => h) (Or.inl ⟨by rfl, ?_⟩) hHeld23_22 ?_
        rotate_left
        · intro w hSw
          (try dsimp only at hSw)
          go_simp
          try (first | (with_reducible rfl) | rfl)
        try simp only [List.getElem_toArray, List.getElem_cons_zero, List.getElem_cons_succ, Act.put, List.setIfInBounds_toArray, List.set_cons_zero, List.set_cons_succ]
        refine wpAnyH_take (i := 25) (v := ?_) rfl (by kernel_rfl) (by kernel_rfl) (by kernel_rfl) (fun _ _ _ h => h) (Or.inl ⟨by rfl, ?_⟩) hHeld23_22 ?_
        rotate_left
        · intro w hSw
          (try dsimp only at hSw)
          go_simp
          try (first | (with_reducible rfl) | rfl)
        try simp only [List.getElem_toArray, List.getElem_cons_zero, List.getElem_cons_succ, Act.put, List.setIfInBounds_toArray, List.set_cons_zero, List.set_cons_succ]
        refine wpAnyH_take (i := 26) (v := ?_) rfl (by kernel_rfl) (by kernel_rfl) (by kernel_rfl) (fun _ _ _ h => h) (Or.inl ⟨by rfl, ?_⟩) hHeld23_22 ?_
        rotate_left
        · intro w hSw
          (try dsimp only at hSw)
          go_simp
          try (first | (with_reducible rfl) | rfl)
        try simp only [List.getElem_toArray, List.getElem_cons_zero, List.getElem_cons_succ, Act.put, List.setIfInBounds_toArray, List.set_cons_zero, List.set_cons_succ]
        refine wpAnyH_take (i := 27) (v := ?_) rfl (by kernel_rfl) (by kernel_rfl) (by kernel_rfl) (fun _ _ _ h => h) (Or.inl ⟨by rfl, ?_⟩) hHeld23_22 ?_
        rotate_left
        · intro w hSw
          (try dsimp only at hSw)
          go_simp
          try (first | (with_reducible rfl) | rfl)
        try simp only [List.getElem_toArray, List.getElem_cons_zero, List.getElem_cons_succ, Act.put, List.setIfInBounds_toArray, List.set_cons_zero, List.set_cons_succ]
        refine wpAnyH_ready (rs := [28]) (by kernel_rfl) (by simp) ?_
        refine AllReadyH.cons rfl (fun K hK => ?_) ?_
        · go_simp
          (go_at_call 19; refine (e_placeV (H8.out.below HBD.out) 2 rfl (-1) rfl).mono ?_; rintro e w' ⟨rfl, rfl⟩)
          go_wp2_with fail
          refine hK.out _ _ ?_ (fun hHeld28_28 => ?_)
          · first | exact HCS.out _ HBD.out | exact HCS.out _ (Below.refl _ _)
          clear hK K
          try simp only [List.getElem_toArray, List.getElem_cons_zero, List.getElem_cons_succ, Act.put, List.setIfInBounds_toArray, List.set_cons_zero, List.set_cons_succ]
          refine wpAnyH_take (i := 29) (v := ?_) rfl (by kernel_rfl) (by kernel_rfl) (by kernel_rfl) (fun _ _ _ h => h) (Or.inl ⟨by rfl, ?_⟩) hHeld28_28 ?_
          rotate_left
          · intro w hSw
            (try dsimp only at hSw)
            go_simp
            try (first | (with_reducible rfl) | rfl)
          try simp only [List.getElem_toArray, List.getElem_cons_zero, List.getElem_cons_succ, Act.put, List.setIfInBounds_toArray, List.set_cons_zero, List.set_cons_succ]
          refine wpAnyH_take (i := 30) (v := ?_) rfl (by kernel_rfl) (by kernel_rfl) (by kernel_rfl) (fun _ _ _ h => h) (Or.inl ⟨by rfl, ?_⟩) hHeld28_28 ?_
          rotate_left
          · intro w hSw
            (try dsimp only at hSw)
            go_simp
            try (first | (with_reducible rfl) | rfl)
          try simp only [List.getElem_toArray, List.getElem_cons_zero, List.getElem_cons_succ, Act.put, List.setIfInBounds_toArray, List.set_cons_zero, List.set_cons_succ]
          refine wpAnyH_take (i := 31) (v := ?_) rfl (by kernel_rfl) (by kernel_rfl) (by kernel_rfl) (fun _ _ _ h => h) (Or.inl ⟨by rfl, ?_⟩) hHeld28_28 ?_
          rotate_left
          · intro w hSw
            (try dsimp only at hSw)
            go_simp
            try (first | (with_reducible rfl) | rfl)
          try simp only [List.getElem_toArray, List.getElem_cons_zero, List.getElem_cons_succ, Act.put, List.setIfInBounds_toArray, List.set_cons_zero, List.set_cons_succ]
          refine wpAnyH_take (i := 32) (v := ?_) rfl (by kernel_rfl) (by kernel_rfl) (by kernel_rfl) (fun _ _ _ h => h) (Or.inl ⟨by rfl, ?_⟩) hHeld28_28 ?_
          rotate_left
          · intro w hSw
            (try dsimp only at hSw)
            go_simp
            try (first | (with_reducible rfl) | rfl)
          try simp only [List.getElem_toArray, List.getElem_cons_zero, List.getElem_cons_succ, Act.put, List.setIfInBounds_toArray, List.set_cons_zero, List.set_cons_succ]
          refine wpAnyH_take (i := 33) (v := ?_) rfl (by kernel_rfl) (by kernel_rfl) (by kernel_rfl) (fun _ _ _ h => h) (Or.inl ⟨by rfl, ?_⟩) hHeld28_28 ?_
          rotate_left
          · intro w hSw
            (try dsimp only at hSw)
            go_simp
            try (first | (with_reducible rfl) | rfl)
          try simp only [List.getElem_toArray, List.getElem_cons_zero, List.getElem_cons_succ, Act.put, List.setIfInBounds_toArray, List.set_cons_zero, List.set_cons_succ]
          refine wpAnyH_ready (rs := [34]) (by kernel_rfl) (by simp) ?_
          refine AllReadyH.cons rfl (fun K hK => ?_) ?_
          · go_simp
            (go_at_call 21; refine (words_st (H8.out.below HBD.out) N (frL_len _ _ _ _ _)).mono ?_; rintro e w4 ⟨al, c4', rfl, hrw, _, hb⟩; (have HZ2 := Lib.hid (HBD.out.trans (hb.mono HBD.out.size))); clear hb HBD; (have HBD := HZ2); clear HZ2; (have HRW := Lib.hid hrw); clear hrw)
            go_wp2_with fail
            refine hK.out _ _ ?_ (fun hHeld34_34 => ?_)
            · first | exact HCS.out _ HBD.out | exact HCS.out _ (Below.refl _ _)
            clear hK K
            try simp only [List.getElem_toArray, List.getElem_cons_zero, List.getElem_cons_succ, Act.put, List.setIfInBounds_toArray, List.set_cons_zero, List.set_cons_succ]
            refine wpAnyH_ready (rs := [35]) (by kernel_rfl) (by simp) ?_
            refine AllReadyH.cons rfl (fun K hK => ?_) ?_
            · go_simp
              (go_at_call 20; refine (e_met _ N _ N 0 (frL 0 3 3 n N) false (H8.out.below HBD.out) HO2.out HRW.out (frL_len _ _ _ _ _) rfl).mono ?_; rintro e w5 ⟨rfl, hb⟩; (have HZ2 := Lib.hid (HBD.out.trans (hb.mono HBD.out.size))); clear hb HBD; (have HBD := HZ2); clear HZ2)
              go_wp2_with fail
              refine hK.out _ _ ?_ (fun hHeld35_35 => ?_)
              · first | exact HCS.out _ HBD.out | exact HCS.out _ (Below.refl _ _)
              clear hK K
              try simp only [List.getElem_toArray, List.getElem_cons_zero, List.getElem_cons_succ, Act.put, List.setIfInBounds_toArray, List.set_cons_zero, List.set_cons_succ]
              refine wpAnyH_take (i := 36) (v := ?_) rfl (by kernel_rfl) (by kernel_rfl) (by kernel_rfl) (fun _ _ _ h => h) (Or.inl ⟨by rfl, ?_⟩) hHeld35_35 ?_
              rotate_left
              · intro w hSw
                (try dsimp only at hSw)
                go_simp
                try (first | (with_reducible rfl) | rfl)
              try simp only [List.getElem_toArray, List.getElem_cons_zero, List.getElem_cons_succ, Act.put, List.setIfInBounds_toArray, List.set_cons_zero, List.set_cons_succ]
              refine wpAnyH_take (i := 37) (v := ?_) rfl (by kernel_rfl) (by kernel_rfl) (by kernel_rfl) (fun _ _ _ h => h) (Or.inl ⟨by rfl, ?_⟩) hHeld35_35 ?_
              rotate_left
              · intro w hSw
                (try dsimp only at hSw)
                go_simp
                try (first | (with_reducible rfl) | rfl)
              try simp only [List.getElem_toArray, List.getElem_cons_zero, List.getElem_cons_succ, Act.put, List.setIfInBounds_toArray, List.set_cons_zero, List.set_cons_succ]
              refine wpAnyH_take (i := 38) (v := ?_) rfl (by kernel_rfl) (by kernel_rfl) (by kernel_rfl) (fun _ _ _ h => h) (Or.inl ⟨by rfl, ?_⟩) hHeld35_35 ?_
              rotate_left
              · intro w hSw
                (try dsimp only at hSw)
                go_simp
                try (first | (with_reducible rfl) | rfl)
              try simp only [List.getElem_toArray, List.getElem_cons_zero, List.getElem_cons_succ, Act.put, List.setIfInBounds_toArray, List.set_cons_zero, List.set_cons_succ]
              refine wpAnyH_done (by kernel_rfl) ?_ _
              go_wp2
              go_ret
              exact ⟨rfl, (H8.out.below HBD.out).bel⟩
            exact AllReadyH.nil
          exact AllReadyH.nil
        exact AllReadyH.nil
      exact AllReadyH.nil
    exact AllReadyH.nil
  exact AllReadyH.nil

set_option maxRecDepth 20000 in
set_option maxHeartbeats 16000000 in
theorem none_5 (slots : Int) (R E : Int) (push : Bool) (n N : Nat) (w : World) (hk : pickI slots 17 = (n : Int)) (hn : n ≤ 16) (hN : N = 8 + n) (p0 : -9223372036854775808 ≤ slots) (p1 : slots < 9223372036854775808) (t0 : (n : Int) > 0) (t1 : 1 ≤ R) (t2 : R ≤ n) (t3 : 0 ≤ E) (t4 : E ≤ 6) :
    Calls Try.prog 3 #[.int .i64 slots, polV R E, .bool push] w fun z w' => z = .returned (.bool true) ∧ Below w.heap.size w w' := by
  have d0 : decide (0 < (n : Int)) = true := decide_eq_true (by omega)
  have d1 : decide (1 ≤ R) = true := decide_eq_true (by omega)
  have d2 : decide (R ≤ (n : Int)) = true := decide_eq_true (by omega)
  have d3 : decide (0 ≤ E) = true := decide_eq_true (by omega)
  have d4 : decide (E ≤ 6) = true := decide_eq_true (by omega)
  have H := Lib.hid ((St.nil w).alloc #[.int .i64 R, .int .i64 E] 23)
  obtain ⟨s0, s1, s2, s3⟩ := cells2 (H.out.cells 0 rfl)
  have hq : ∀ w, (binOp .eql 23 (polV R E) (polV R E)).run Try.prog w = .ok (.bool true) w := fun w => by
    have := polEq R E R E w
    rwa [show (R == R && E == E) = true by simp] at this
  have HOK : Hid (okC ((3 : Nat) : Int) (n : Int) ((0 : Nat) : Int) = true) := Lib.hid (okC3 hn)
  have HN : Hid (N = 2 + 2 * 3 + n + 0) := Lib.hid (by omega)
  have HK := Lib.hid hk
  have hok0 : (newEM 3 n 0 0 R E push 1 3 2).ok N 0 := newEM_ok N 0 (by decide) (by decide) (by decide) (by decide) (by decide) (by decide)
  have HO0 : Hid ((newEM 3 n 0 0 R E push 1 3 2).ok (frL 0 3 3 n N).length ([] : List Note).length) := Lib.hid (by rw [frL_len]; exact hok0)
  have hfit : (newEM 3 n 0 0 R E push 1 3 2).fit = true := EM.fit_iff.2 ⟨okC3 hn, by simp [newEM]; omega, pOk_iff.2 ⟨by simp [newEM], by simp [newEM]; omega, by simp only [newEM]; omega, by simp only [newEM]; omega, t3, t4⟩⟩
  obtain ⟨k, hkk⟩ := Int.eq_ofNat_of_zero_le (drawI_rng (ds := [3]) t1).1
  have hkn : k < n := by have := (drawI_rng (ds := [3]) t1).2; omega
  have hat : atI (3 : Int) n 0 1 (drawI [3] R) = ((8 + k : Nat) : Int) := by rw [hkk]; exact at3 hn hkn
  have hv := vm_first (ws := frL 0 3 3 n N) (a := 8 + k) (x := 0) (now := 0) (d := dlI 0 2) (k := pPolls E 3) (i := 1) (push := push) (fr_slot (by omega) hkn) (by rw [frL_len]; omega) (by decide)
  have HE1 := Lib.hid (EM.begins (S := newEM 3 n 0 0 R E push 1 3 2) (ws := frL 0 3 3 n N) (now := 0) (ds := [3]) rfl rfl hfit (by unfold EM.first; simp only [newEM]; rw [hat]; exact hv))
  have hd1 : drawR [3] (newEM 3 n 0 0 R E push 1 3 2).rg = [] := by unfold drawR; rw [if_neg (by simp only [newEM]; omega)]; rfl
  rw [hd1] at HE1
  clear hok0 hfit hkk hat hv hd1 hk hkn
  clear hN
  go_enter Try.func3, Try.ntmps3
  go_wp2_with (first | ((have _h := H8); go_at_call 17; refine (src_left 0 (H8.out.front 1 rfl) rfl).mono ?_; rintro e w9 ⟨rfl, rfl⟩; (have H9 := Lib.hid (H8.out)); clear q0 q1 q2 q3; (obtain ⟨q0, q1, q2, q3⟩ := cells4 (H9.out.cells 3 rfl)); clear s0 s1 s2 s3; (obtain ⟨s0, s1, s2, s3⟩ := cells2 (H9.out.cells 4 rfl)); clear _h) | ((have _h := H7); go_at_call 16; refine (count_st H7.out 1 rfl).mono ?_; rintro e w8 ⟨rfl, rfl⟩; (have H8 := Lib.hid (H7.out)); clear q0 q1 q2 q3; (obtain ⟨q0, q1, q2, q3⟩ := cells4 (H8.out.cells 3 rfl)); clear s0 s1 s2 s3; (obtain ⟨s0, s1, s2, s3⟩ := cells2 (H8.out.cells 4 rfl)); clear _h) | ((have _h := H6); go_at_call 15; refine (estep HE1.out rfl H6.out HO0.out (fun d hd => by obtain rfl := List.mem_singleton.1 hd; decide) (by decide) (by decide) (by simp)).mono ?_; rintro e w7 ⟨rfl, h⟩; (have H7 := Lib.hid (h)); clear h; clear q0 q1 q2 q3; (obtain ⟨q0, q1, q2, q3⟩ := cells4 (H7.out.cells 3 rfl)); clear s0 s1 s2 s3; (obtain ⟨s0, s1, s2, s3⟩ := cells2 (H7.out.cells 4 rfl)); clear _h) | ((have _h := H5); go_at_call 14; refine (src_add 3 0 [3] (H5.out.front 1 rfl) (by decide) (by simp) rfl rfl).mono ?_; rintro e w6 ⟨rfl, h⟩; (have H6 := Lib.hid (h.front 1 rfl)); clear h; clear q0 q1 q2 q3; (obtain ⟨q0, q1, q2, q3⟩ := cells4 (H6.out.cells 3 rfl)); clear s0 s1 s2 s3; (obtain ⟨s0, s1, s2, s3⟩ := cells2 (H6.out.cells 4 rfl)); clear _h) | ((have _h := H4); go_at_call 13; refine (em_new 3 n 0 0 R E push 1 3 2 H4.out).mono ?_; rintro e w5 ⟨p, rfl, h⟩; (have H5 := Lib.hid (h)); clear h; clear q0 q1 q2 q3; (obtain ⟨q0, q1, q2, q3⟩ := cells4 (H5.out.cells 3 rfl)); clear s0 s1 s2 s3; (obtain ⟨s0, s1, s2, s3⟩ := cells2 (H5.out.cells 4 rfl)); clear _h) | ((have _h := H3); go_at_call 12; refine (src_new H3.out).mono ?_; rintro e w4 ⟨r, rfl, h⟩; (have H4 := Lib.hid (h.swap)); clear h; clear q0 q1 q2 q3; (obtain ⟨q0, q1, q2, q3⟩ := cells4 (H4.out.cells 2 rfl)); clear s0 s1 s2 s3; (obtain ⟨s0, s1, s2, s3⟩ := cells2 (H4.out.cells 3 rfl)); clear _h) | ((have _h := H2); go_at_call 11; refine (begun_ok 3 n 0 0 0 N (H2.out.alloc #[.int .i64 3, .int .i64 n, .int .i64 0, .int .u32 0] 28) HOK.out HN.out (by decide) (by decide) (by decide)).mono ?_; rintro e w3 ⟨q, rfl, h⟩; (have H3 := Lib.hid (h)); clear h s0 s1 s2 s3; (obtain ⟨q0, q1, q2, q3⟩ := cells4 (H3.out.cells 1 rfl)); (obtain ⟨s0, s1, s2, s3⟩ := cells2 (H3.out.cells 2 rfl)); clear _h) | ((have _h := H1); go_at_call 10; refine (pick_is slots 17 (n : Int) _ HK.out (by decide) (by decide) p0 p1).mono ?_; rintro e w2 ⟨rfl, rfl⟩; (have H2 := Lib.hid (H1.out)); clear s0 s1 s2 s3; (obtain ⟨s0, s1, s2, s3⟩ := cells2 (H2.out.cells 0 rfl)); clear _h) | ((have _h := H); go_at_call 9; refine (shown12 _).mono ?_; rintro e w1 ⟨rfl, hb⟩; (have H1 := Lib.hid (H.out.below hb)); clear hb; clear s0 s1 s2 s3; (obtain ⟨s0, s1, s2, s3⟩ := cells2 (H1.out.cells 0 rfl)); clear _h))
  go_ret
  exact ⟨rfl, H9.out.bel⟩

theorem elimNone_walk (slots R E : Int) (push : Bool) (w : World) (h1 : (Lit.int .i64 slots).wf = true) :
    Calls Try.prog 3 #[.int .i64 slots, polV R E, .bool push] w fun z w' => z = .returned (.bool true) ∧ Below w.heap.size w w' := by
  obtain ⟨p0, p1⟩ := rngI64 h1
  obtain ⟨k0, k1⟩ := pickI_rng (c := slots) (n := 17) (by decide)
  obtain ⟨n, hk⟩ := Int.eq_ofNat_of_zero_le k0
  have hn : n ≤ 16 := by omega
  by_cases t0 : (n : Int) > 0
  · by_cases t1 : 1 ≤ R
    · by_cases t2 : R ≤ n
      · by_cases t3 : 0 ≤ E
        · by_cases t4 : E ≤ 6
          · exact none_5 slots R E push n _ w hk hn rfl p0 p1 t0 t1 t2 t3 t4
          · exact none_4 slots R E push n _ w hk hn rfl p0 p1 t0 t1 t2 t3 t4
        · exact none_3 slots R E push n _ w hk hn rfl p0 p1 t0 t1 t2 t3
      · exact none_2 slots R E push n _ w hk hn rfl p0 p1 t0 t1 t2
    · exact none_1 slots R E push n _ w hk hn rfl p0 p1 t0 t1
  · exact none_0 slots R E push n _ w hk hn rfl p0 p1 t0
end Go.Proofs.Ythnjeiandfdpgaa
