/-
  hatstandref10.Visit: the document's machine as it lies in the heap, and what each of its functions does.
-/
import Derived.Test.YthnjeiandfdpgaaRefSt
import Derived.Test.YthnjeiandfdpgaaSlot9
import Derived.Test.YthnjeiandfdpgaaVm
import Derived.Deep.QuietTactic
import Derived.Laws.EntriesVeiled
import Derived.Lib.MinMax
namespace Go.Proofs.Ythnjeiandfdpgaa
open Go.RowKit
set_option linter.unusedVariables false
set_option linter.unusedSimpArgs false

abbrev svB (Y : Nat → Value) (p : Nat) (a : Int) (push : Bool) (i d pl pc lk x fd st : Int) (off : Bool) : Asn := boxA p #[Y 0, Y 1, Y 2, Y 3, Y 4, Y 5, Y 6, Y 7, Y 8, Y 9, Y 10, Y 11, .int .i64 a, .bool push, .int .u32 i, .int .u64 d, .int .i64 pl, .int .i64 pc, .int .i64 lk, .int .u64 x, .int .u64 fd, .int .i64 st, .bool off, Y 12] 80
theorem cellsS {w : World} {b : Nat} {y0 y1 y2 y3 y4 y5 y6 y7 y8 y9 y10 y11 a0 a1 a2 a3 a4 a5 a6 a7 a8 a9 a10 y12 : Value} {e : TypeId} (h : w.heap[b]? = some (.cells #[y0, y1, y2, y3, y4, y5, y6, y7, y8, y9, y10, y11, a0, a1, a2, a3, a4, a5, a6, a7, a8, a9, a10, y12] e (0, 0))) :
    (w.cell? ⟨b, 12, none⟩ = some a0 ∧ w.cell? ⟨b, 13, none⟩ = some a1 ∧ w.cell? ⟨b, 14, none⟩ = some a2 ∧ w.cell? ⟨b, 15, none⟩ = some a3 ∧ w.cell? ⟨b, 16, none⟩ = some a4 ∧ w.cell? ⟨b, 17, none⟩ = some a5 ∧ w.cell? ⟨b, 18, none⟩ = some a6 ∧ w.cell? ⟨b, 19, none⟩ = some a7 ∧ w.cell? ⟨b, 20, none⟩ = some a8 ∧ w.cell? ⟨b, 21, none⟩ = some a9 ∧ w.cell? ⟨b, 22, none⟩ = some a10) ∧
    (w.frozen? ⟨b, 14, none⟩ = false ∧ w.frozen? ⟨b, 17, none⟩ = false ∧ w.frozen? ⟨b, 18, none⟩ = false ∧ w.frozen? ⟨b, 19, none⟩ = false ∧ w.frozen? ⟨b, 20, none⟩ = false ∧ w.frozen? ⟨b, 21, none⟩ = false ∧ w.frozen? ⟨b, 22, none⟩ = false) ∧ b < w.heap.size :=
  ⟨⟨cell_of h 12, cell_of h 13, cell_of h 14, cell_of h 15, cell_of h 16, cell_of h 17, cell_of h 18, cell_of h 19, cell_of h 20, cell_of h 21, cell_of h 22⟩, ⟨free_of h 14, free_of h 17, free_of h 18, free_of h 19, free_of h 20, free_of h 21, free_of h 22⟩, lt_of_heap h⟩
variable {Y : Nat → Value}


set_option maxHeartbeats 4000000 in
theorem sv_end {w0 w : World} {q p : Nat} {ws : List Int} {ns : List Note} {L : List Asn} (push : Bool) (a i d pl pc lk x fd st : Int) (off : Bool) (s z : Int) (h : St w0 (refA q ws ns :: svB Y p a push i d pl pc lk x fd st off :: L) w) (hz : z = if s = 1 ∧ push = false then i else 0) :
    Calls Try.prog 65 #[.pointer (some ⟨p, 12, none⟩), .int .i64 s] w fun e w' => e = .returned (.tuple #[.int .i64 s, .int .u32 z]) ∧ St w0 (refA q ws ns :: svB Y p a push i d pl 6 lk x fd s off :: L) w' := by
  have H := Lib.hid h
  obtain ⟨⟨c0, c1, c2, c3, c4, c5, c6, c7, c8, c9, c10⟩, ⟨z2, z5, z6, z7, z8, z9, z10⟩, lt0⟩ := cellsS (h.cells 1 rfl)
  clear h
  by_cases hr : s = 1
  · subst hr
    cases push
    · obtain rfl : z = i := by rw [hz]; simp
      clear hz
      go_enter Try.func65, Try.ntmps65
      go_wp2
      have h5 := (H.out.setAt 1 rfl 17 (.int .i64 6)).setAt 1 rfl 21 (.int .i64 1)
      generalize (w.setCell ⟨p, 17, none⟩ (.int .i64 6)).setCell ⟨p, 21, none⟩ (.int .i64 1) = W2 at *
      have H5 := Lib.hid h5
      clear c0 c1 c2 c3 c4 c5 c6 c7 c8 c9 c10 z2 z5 z6 z7 z8 z9 z10 lt0; obtain ⟨⟨c0, c1, c2, c3, c4, c5, c6, c7, c8, c9, c10⟩, ⟨z2, z5, z6, z7, z8, z9, z10⟩, lt0⟩ := cellsS (h5.cells 1 rfl)
      clear h5
      go_quiet (fail)
      go_wp2
      go_ret2
      exact ⟨rfl, H5.out.drewN nq⟩
    · obtain rfl : z = 0 := by rw [hz]; simp
      clear hz
      go_enter Try.func65, Try.ntmps65
      go_wp2
      go_ret2
      exact ⟨rfl, (H.out.setAt 1 rfl 17 (.int .i64 6)).setAt 1 rfl 21 _⟩
  · have e1 : (s == 1) = false := by simpa using hr
    obtain rfl : z = 0 := by rw [hz]; simp [hr]
    clear hz hr
    go_enter Try.func65, Try.ntmps65
    go_wp2
    go_ret2
    exact ⟨rfl, (H.out.setAt 1 rfl 17 (.int .i64 6)).setAt 1 rfl 21 _⟩

set_option maxHeartbeats 4000000 in
theorem sv_claimed_hit {w0 w : World} {q p : Nat} {ws : List Int} {ns : List Note} {L : List Asn} (push : Bool) (a i d pl pc lk x fd st : Int) (off : Bool) (v z : Int) (h : St w0 (refA q ws ns :: svB Y p a push i d pl pc lk x fd st off :: L) w) (v0 : 0 ≤ v) (v1 : v < 18446744073709551616) (hz : z = if push = false then sIx v else 0) :
    Calls Try.prog 70 #[.pointer (some ⟨p, 12, none⟩), .int .u64 v, .bool true, .int .i64 0] w fun e w' => e = .returned (.tuple #[.int .i64 1, .int .u32 z]) ∧ St w0 (refA q ws ns :: svB Y p a push (sIx v) d pl 6 lk x fd 1 off :: L) w' := by
  have H := Lib.hid h
  have HZ : Hid (z = if (1 : Int) = 1 ∧ push = false then sIx v else 0) := Lib.hid (by rw [hz]; simp)
  obtain ⟨⟨c0, c1, c2, c3, c4, c5, c6, c7, c8, c9, c10⟩, ⟨z2, z5, z6, z7, z8, z9, z10⟩, lt0⟩ := cellsS (h.cells 1 rfl)
  clear h hz
  go_enter Try.func70, Try.ntmps70
  go_wp2_with (first | (go_at_call 83; refine (r9_index v (sIx v) _ rfl v0 v1).mono ?_; rintro e w4 ⟨rfl, rfl⟩) | ((have h5 := H.out.setAt 1 rfl 14 (.int .u32 (sIx v))); (go_at_call 65; refine (sv_end push a (sIx v) d pl pc lk x fd st off 1 z h5 (by first | exact HZ.out | (rw [HZ.out]; simp))).mono ?_; rintro e w9 ⟨rfl, h9⟩; (have H9 := Lib.hid h9); clear c0 c1 c2 c3 c4 c5 c6 c7 c8 c9 c10 z2 z5 z6 z7 z8 z9 z10 lt0; obtain ⟨⟨c0, c1, c2, c3, c4, c5, c6, c7, c8, c9, c10⟩, ⟨z2, z5, z6, z7, z8, z9, z10⟩, lt0⟩ := cellsS (h9.cells 1 rfl); clear h9)))
  go_ret2
  exact ⟨rfl, H9.out⟩

set_option maxHeartbeats 4000000 in
theorem sv_claimed_lost {w0 w : World} {q p : Nat} {ws : List Int} {ns : List Note} {L : List Asn} (push : Bool) (a i d pl pc lk x fd st : Int) (off : Bool) (v : Int) (h : St w0 (refA q ws ns :: svB Y p a push i d pl pc lk x fd st off :: L) w) :
    Calls Try.prog 70 #[.pointer (some ⟨p, 12, none⟩), .int .u64 v, .bool false, .int .i64 0] w fun e w' => e = .returned (.tuple #[.int .i64 3, .int .u32 0]) ∧ St w0 (refA q ws ns :: svB Y p a push i d pl 6 lk x fd 3 off :: L) w' := by
  have H := Lib.hid h
  obtain ⟨⟨c0, c1, c2, c3, c4, c5, c6, c7, c8, c9, c10⟩, ⟨z2, z5, z6, z7, z8, z9, z10⟩, lt0⟩ := cellsS (h.cells 1 rfl)
  clear h
  go_enter Try.func70, Try.ntmps70
  go_wp2_with (go_at_call 65; refine (sv_end push a i d pl pc lk x fd st off 3 0 H.out (by simp)).mono ?_; rintro e w9 ⟨rfl, h9⟩; (have H9 := Lib.hid h9); clear c0 c1 c2 c3 c4 c5 c6 c7 c8 c9 c10 z2 z5 z6 z7 z8 z9 z10 lt0; obtain ⟨⟨c0, c1, c2, c3, c4, c5, c6, c7, c8, c9, c10⟩, ⟨z2, z5, z6, z7, z8, z9, z10⟩, lt0⟩ := cellsS (h9.cells 1 rfl); clear h9)
  go_ret2
  exact ⟨rfl, H9.out⟩

set_option maxHeartbeats 4000000 in
theorem sv_look_end {w0 w : World} {q p : Nat} {ws : List Int} {ns : List Note} {L : List Asn} (push : Bool) (i d pl lk x fd st : Int) (off : Bool) (a : Nat) (now : Int) (h : St w0 (refA q ws ns :: svB Y p a push i d pl 3 lk x fd st off :: L) w) (l0 : 0 ≤ lk) (l1 : lk < 1000000000001) (ha : a < ws.length) (hy : rdW ws a = x) (hk : ns.length ≤ 1000000000000) (hl : decide (max pl 1 ≤ lk + 1) = true) :
    Calls Try.prog 72 #[.pointer (some ⟨p, 12, none⟩), .pointer (some ⟨q, 0, none⟩), .int .u64 now] w fun e w' => e = .returned (.tuple #[.int .i64 0, .int .u32 0]) ∧ St w0 (refA q ws (ns ++ [⟨108, a, x, x, true⟩]) :: svB Y p a push i d pl 4 (lk + 1) x fd st off :: L) w' := by
  have H := Lib.hid h
  have HY := Lib.hid hy
  obtain ⟨⟨c0, c1, c2, c3, c4, c5, c6, c7, c8, c9, c10⟩, ⟨z2, z5, z6, z7, z8, z9, z10⟩, lt0⟩ := cellsS (h.cells 1 rfl)
  clear h hy

  go_enter Try.func72, Try.ntmps72
  go_wp2_with (go_at_call 64; refine (rload_st H.out a x HY.out ha hk).mono ?_; rintro e w2 ⟨rfl, h2⟩; (have H2 := Lib.hid h2); clear c0 c1 c2 c3 c4 c5 c6 c7 c8 c9 c10 z2 z5 z6 z7 z8 z9 z10 lt0; obtain ⟨⟨c0, c1, c2, c3, c4, c5, c6, c7, c8, c9, c10⟩, ⟨z2, z5, z6, z7, z8, z9, z10⟩, lt0⟩ := cellsS (h2.cells 1 rfl); clear h2)
  have h5 := H2.out.setAt 1 rfl 18 (.int .i64 (lk + 1))
  generalize World.setCell _ ⟨p, 18, none⟩ (.int .i64 (lk + 1)) = W2 at *
  have H5 := Lib.hid h5
  clear c0 c1 c2 c3 c4 c5 c6 c7 c8 c9 c10 z2 z5 z6 z7 z8 z9 z10 lt0; obtain ⟨⟨c0, c1, c2, c3, c4, c5, c6, c7, c8, c9, c10⟩, ⟨z2, z5, z6, z7, z8, z9, z10⟩, lt0⟩ := cellsS (h5.cells 1 rfl)
  clear h5
  go_wp2
  refine wp_region_held_drew (S := (fun w' => w'.cell? ⟨p, 18, none⟩ = some (.int .i64 (lk + 1)) ∧ w'.cell? ⟨p, 16, none⟩ = some (.int .i64 pl) ∧ w'.cell? ⟨p, 15, none⟩ = some (.int .u64 d))) (by kernel_rfl) ?_ (fun hHeld0 => ?_)
  · exact ⟨c6, c4, c3⟩
  refine wpAnyH_take (i := 0) (v := ?_) rfl (by kernel_rfl) (by kernel_rfl) (by kernel_rfl) (fun _ _ _ h => h) (Or.inl ⟨by rfl, ?_⟩) hHeld0 ?_
  rotate_left
  · intro w hSw
    (try dsimp only at hSw)
    go_simp
    try (first | (with_reducible rfl) | rfl)
  try simp only [List.getElem_toArray, List.getElem_cons_zero, List.getElem_cons_succ, Act.put, List.setIfInBounds_toArray, List.set_cons_zero, List.set_cons_succ]
  refine wpAnyH_take (i := 1) (v := ?_) rfl (by kernel_rfl) (by kernel_rfl) (by kernel_rfl) (fun _ _ _ h => h) (Or.inl ⟨by rfl, ?_⟩) hHeld0 ?_
  rotate_left
  · intro w hSw
    (try dsimp only at hSw)
    go_simp
    try (first | (with_reducible rfl) | rfl)
  try simp only [List.getElem_toArray, List.getElem_cons_zero, List.getElem_cons_succ, Act.put, List.setIfInBounds_toArray, List.set_cons_zero, List.set_cons_succ]
  refine wpAnyH_take (i := 2) (v := ?_) rfl (by kernel_rfl) (by kernel_rfl) (by kernel_rfl) (fun _ _ _ h => h) (Or.inl ⟨by rfl, ?_⟩) hHeld0 ?_
  rotate_left
  · intro w hSw
    (try dsimp only at hSw)
    go_simp
    try (first | (with_reducible rfl) | rfl)
  try simp only [List.getElem_toArray, List.getElem_cons_zero, List.getElem_cons_succ, Act.put, List.setIfInBounds_toArray, List.set_cons_zero, List.set_cons_succ]
  refine wpAnyH_take (i := 3) (v := ?_) rfl (by kernel_rfl) (by kernel_rfl) (by kernel_rfl) (fun _ _ _ h => h) (Or.inl ⟨by rfl, ?_⟩) hHeld0 ?_
  rotate_left
  · intro w hSw
    (try dsimp only at hSw)
    go_simp
    try (first | (with_reducible rfl) | rfl)
  try simp only [List.getElem_toArray, List.getElem_cons_zero, List.getElem_cons_succ, Act.put, List.setIfInBounds_toArray, List.set_cons_zero, List.set_cons_succ]
  refine wpAnyH_take (i := 4) (v := ?_) rfl (by kernel_rfl) (by kernel_rfl) (by kernel_rfl) (fun _ _ _ h => h) (Or.inl ⟨by rfl, ?_⟩) hHeld0 ?_
  rotate_left
  · intro w hSw
    (try dsimp only at hSw)
    go_simp
    try (first | (with_reducible rfl) | rfl)
  try simp only [List.getElem_toArray, List.getElem_cons_zero, List.getElem_cons_succ, Act.put, List.setIfInBounds_toArray, List.set_cons_zero, List.set_cons_succ]
  refine wpAnyH_take (i := 5) (v := ?_) rfl (by kernel_rfl) (by kernel_rfl) (by kernel_rfl) (fun _ _ _ h => h) (Or.inl ⟨by rfl, ?_⟩) hHeld0 ?_
  rotate_left
  · intro w hSw
    (try dsimp only at hSw)
    go_simp
    try (first | (with_reducible rfl) | rfl)
  try simp only [List.getElem_toArray, List.getElem_cons_zero, List.getElem_cons_succ, Act.put, List.setIfInBounds_toArray, List.set_cons_zero, List.set_cons_succ]
  refine wpAnyH_take (i := 6) (v := ?_) rfl (by kernel_rfl) (by kernel_rfl) (by kernel_rfl) (fun _ _ _ h => h) (Or.inl ⟨by rfl, ?_⟩) hHeld0 ?_
  rotate_left
  · intro w hSw
    (try dsimp only at hSw)
    go_simp
    try (first | (with_reducible rfl) | rfl)
  try simp only [List.getElem_toArray, List.getElem_cons_zero, List.getElem_cons_succ, Act.put, List.setIfInBounds_toArray, List.set_cons_zero, List.set_cons_succ]
  refine wpAnyH_take (i := 7) (v := ?_) rfl (by kernel_rfl) (by kernel_rfl) (by kernel_rfl) (fun _ _ _ h => h) (Or.inl ⟨by rfl, ?_⟩) hHeld0 ?_
  rotate_left
  · intro w hSw
    (try dsimp only at hSw)
    go_simp
    try (first | (with_reducible rfl) | rfl)
  try simp only [List.getElem_toArray, List.getElem_cons_zero, List.getElem_cons_succ, Act.put, List.setIfInBounds_toArray, List.set_cons_zero, List.set_cons_succ]
  refine wpAnyH_take (i := 8) (v := ?_) rfl (by kernel_rfl) (by kernel_rfl) (by kernel_rfl) (fun _ _ _ h => h) (Or.inl ⟨by rfl, ?_⟩) hHeld0 ?_
  rotate_left
  · intro w hSw
    (try dsimp only at hSw)
    go_simp
    try (first | (with_reducible rfl) | rfl)
  try simp only [List.getElem_toArray, List.getElem_cons_zero, List.getElem_cons_succ, Act.put, List.setIfInBounds_toArray, List.set_cons_zero, List.set_cons_succ]
  refine wpAnyH_take (i := 9) (v := ?_) rfl (by kernel_rfl) (by kernel_rfl) (by kernel_rfl) (fun _ _ _ h => h) (Or.inl ⟨by rfl, ?_⟩) hHeld0 ?_
  rotate_left
  · intro w hSw
    (try dsimp only at hSw)
    go_simp
    try (first | (with_reducible rfl) | rfl)
  try simp only [List.getElem_toArray, List.getElem_cons_zero, List.getElem_cons_succ, Act.put, List.setIfInBounds_toArray, List.set_cons_zero, List.set_cons_succ]
  refine wpAnyH_take (i := 10) (v := ?_) rfl (by kernel_rfl) (by kernel_rfl) (by kernel_rfl) (fun _ _ _ h => h) (Or.inl ⟨by rfl, ?_⟩) hHeld0 ?_
  rotate_left
  · intro w hSw
    (try dsimp only at hSw)
    go_simp
    try (first | (with_reducible rfl) | rfl)
  try simp only [List.getElem_toArray, List.getElem_cons_zero, List.getElem_cons_succ, Act.put, List.setIfInBounds_toArray, List.set_cons_zero, List.set_cons_succ]
  refine wpAnyH_take (i := 11) (v := undef) rfl (by kernel_rfl) (by kernel_rfl) (by kernel_rfl) (fun _ _ _ h => h) (Or.inr ⟨by rfl, rfl⟩) hHeld0 ?_
  try simp only [List.getElem_toArray, List.getElem_cons_zero, List.getElem_cons_succ, Act.put, List.setIfInBounds_toArray, List.set_cons_zero, List.set_cons_succ]
  refine wpAnyH_take (i := 12) (v := undef) rfl (by kernel_rfl) (by kernel_rfl) (by kernel_rfl) (fun _ _ _ h => h) (Or.inr ⟨by rfl, rfl⟩) hHeld0 ?_
  try simp only [List.getElem_toArray, List.getElem_cons_zero, List.getElem_cons_succ, Act.put, List.setIfInBounds_toArray, List.set_cons_zero, List.set_cons_succ]
  refine wpAnyH_take (i := 13) (v := undef) rfl (by kernel_rfl) (by kernel_rfl) (by kernel_rfl) (fun _ _ _ h => h) (Or.inr ⟨by rfl, rfl⟩) hHeld0 ?_
  try simp only [List.getElem_toArray, List.getElem_cons_zero, List.getElem_cons_succ, Act.put, List.setIfInBounds_toArray, List.set_cons_zero, List.set_cons_succ]
  refine wpAnyH_take (i := 14) (v := undef) rfl (by kernel_rfl) (by kernel_rfl) (by kernel_rfl) (fun _ _ _ h => h) (Or.inr ⟨by rfl, rfl⟩) hHeld0 ?_
  try simp only [List.getElem_toArray, List.getElem_cons_zero, List.getElem_cons_succ, Act.put, List.setIfInBounds_toArray, List.set_cons_zero, List.set_cons_succ]
  refine wpAnyH_take (i := 15) (v := undef) rfl (by kernel_rfl) (by kernel_rfl) (by kernel_rfl) (fun _ _ _ h => h) (Or.inr ⟨by rfl, rfl⟩) hHeld0 ?_
  try simp only [List.getElem_toArray, List.getElem_cons_zero, List.getElem_cons_succ, Act.put, List.setIfInBounds_toArray, List.set_cons_zero, List.set_cons_succ]
  refine wpAnyH_take (i := 16) (v := undef) rfl (by kernel_rfl) (by kernel_rfl) (by kernel_rfl) (fun _ _ _ h => h) (Or.inr ⟨by rfl, rfl⟩) hHeld0 ?_
  try simp only [List.getElem_toArray, List.getElem_cons_zero, List.getElem_cons_succ, Act.put, List.setIfInBounds_toArray, List.set_cons_zero, List.set_cons_succ]
  refine wpAnyH_take (i := 17) (v := ?_) rfl (by kernel_rfl) (by kernel_rfl) (by kernel_rfl) (fun _ _ _ h => h) (Or.inl ⟨by rfl, ?_⟩) hHeld0 ?_
  rotate_left
  · intro w hSw
    (try dsimp only at hSw)
    go_simp
    try (first | (with_reducible rfl) | rfl)
  try simp only [List.getElem_toArray, List.getElem_cons_zero, List.getElem_cons_succ, Act.put, List.setIfInBounds_toArray, List.set_cons_zero, List.set_cons_succ]
  refine wpAnyH_done (by kernel_rfl) ?_ _
  go_wp2
  go_ret2
  exact ⟨rfl, H5.out.drew.setAt 1 rfl 17 _⟩

set_option maxHeartbeats 4000000 in
theorem sv_look_late {w0 w : World} {q p : Nat} {ws : List Int} {ns : List Note} {L : List Asn} (push : Bool) (i d pl lk x fd st : Int) (off : Bool) (a : Nat) (now : Int) (h : St w0 (refA q ws ns :: svB Y p a push i d pl 3 lk x fd st off :: L) w) (l0 : 0 ≤ lk) (l1 : lk < 1000000000001) (ha : a < ws.length) (hy : rdW ws a = x) (hk : ns.length ≤ 1000000000000) (hl : decide (max pl 1 ≤ lk + 1) = false) (hd : decide (d ≤ now) = true) :
    Calls Try.prog 72 #[.pointer (some ⟨p, 12, none⟩), .pointer (some ⟨q, 0, none⟩), .int .u64 now] w fun e w' => e = .returned (.tuple #[.int .i64 0, .int .u32 0]) ∧ St w0 (refA q ws (ns ++ [⟨108, a, x, x, true⟩]) :: svB Y p a push i d pl 4 (lk + 1) x fd st off :: L) w' := by
  have H := Lib.hid h
  have HY := Lib.hid hy
  obtain ⟨⟨c0, c1, c2, c3, c4, c5, c6, c7, c8, c9, c10⟩, ⟨z2, z5, z6, z7, z8, z9, z10⟩, lt0⟩ := cellsS (h.cells 1 rfl)
  clear h hy

  go_enter Try.func72, Try.ntmps72
  go_wp2_with (go_at_call 64; refine (rload_st H.out a x HY.out ha hk).mono ?_; rintro e w2 ⟨rfl, h2⟩; (have H2 := Lib.hid h2); clear c0 c1 c2 c3 c4 c5 c6 c7 c8 c9 c10 z2 z5 z6 z7 z8 z9 z10 lt0; obtain ⟨⟨c0, c1, c2, c3, c4, c5, c6, c7, c8, c9, c10⟩, ⟨z2, z5, z6, z7, z8, z9, z10⟩, lt0⟩ := cellsS (h2.cells 1 rfl); clear h2)
  have h5 := H2.out.setAt 1 rfl 18 (.int .i64 (lk + 1))
  generalize World.setCell _ ⟨p, 18, none⟩ (.int .i64 (lk + 1)) = W2 at *
  have H5 := Lib.hid h5
  clear c0 c1 c2 c3 c4 c5 c6 c7 c8 c9 c10 z2 z5 z6 z7 z8 z9 z10 lt0; obtain ⟨⟨c0, c1, c2, c3, c4, c5, c6, c7, c8, c9, c10⟩, ⟨z2, z5, z6, z7, z8, z9, z10⟩, lt0⟩ := cellsS (h5.cells 1 rfl)
  clear h5
  go_region_held3 (fun w' => w'.cell? ⟨p, 18, none⟩ = some (.int .i64 (lk + 1)) ∧ w'.cell? ⟨p, 16, none⟩ = some (.int .i64 pl) ∧ w'.cell? ⟨p, 15, none⟩ = some (.int .u64 d)) (first | exact ⟨c6, c4, c3⟩) (fail)
  go_wp2
  go_ret2
  exact ⟨rfl, H5.out.drew.setAt 1 rfl 17 _⟩

set_option maxHeartbeats 4000000 in
theorem sv_look_on {w0 w : World} {q p : Nat} {ws : List Int} {ns : List Note} {L : List Asn} (push : Bool) (i d pl lk x fd st : Int) (off : Bool) (a : Nat) (now : Int) (h : St w0 (refA q ws ns :: svB Y p a push i d pl 3 lk x fd st off :: L) w) (l0 : 0 ≤ lk) (l1 : lk < 1000000000001) (ha : a < ws.length) (hy : rdW ws a = x) (hk : ns.length ≤ 1000000000000) (hl : decide (max pl 1 ≤ lk + 1) = false) (hd : decide (d ≤ now) = false) :
    Calls Try.prog 72 #[.pointer (some ⟨p, 12, none⟩), .pointer (some ⟨q, 0, none⟩), .int .u64 now] w fun e w' => e = .returned (.tuple #[.int .i64 0, .int .u32 0]) ∧ St w0 (refA q ws (ns ++ [⟨108, a, x, x, true⟩]) :: svB Y p a push i d pl 3 (lk + 1) x fd st off :: L) w' := by
  have H := Lib.hid h
  have HY := Lib.hid hy
  obtain ⟨⟨c0, c1, c2, c3, c4, c5, c6, c7, c8, c9, c10⟩, ⟨z2, z5, z6, z7, z8, z9, z10⟩, lt0⟩ := cellsS (h.cells 1 rfl)
  clear h hy

  go_enter Try.func72, Try.ntmps72
  go_wp2_with (go_at_call 64; refine (rload_st H.out a x HY.out ha hk).mono ?_; rintro e w2 ⟨rfl, h2⟩; (have H2 := Lib.hid h2); clear c0 c1 c2 c3 c4 c5 c6 c7 c8 c9 c10 z2 z5 z6 z7 z8 z9 z10 lt0; obtain ⟨⟨c0, c1, c2, c3, c4, c5, c6, c7, c8, c9, c10⟩, ⟨z2, z5, z6, z7, z8, z9, z10⟩, lt0⟩ := cellsS (h2.cells 1 rfl); clear h2)
  have h5 := H2.out.setAt 1 rfl 18 (.int .i64 (lk + 1))
  generalize World.setCell _ ⟨p, 18, none⟩ (.int .i64 (lk + 1)) = W2 at *
  have H5 := Lib.hid h5
  clear c0 c1 c2 c3 c4 c5 c6 c7 c8 c9 c10 z2 z5 z6 z7 z8 z9 z10 lt0; obtain ⟨⟨c0, c1, c2, c3, c4, c5, c6, c7, c8, c9, c10⟩, ⟨z2, z5, z6, z7, z8, z9, z10⟩, lt0⟩ := cellsS (h5.cells 1 rfl)
  clear h5
  go_region_held3 (fun w' => w'.cell? ⟨p, 18, none⟩ = some (.int .i64 (lk + 1)) ∧ w'.cell? ⟨p, 16, none⟩ = some (.int .i64 pl) ∧ w'.cell? ⟨p, 15, none⟩ = some (.int .u64 d)) (first | exact ⟨c6, c4, c3⟩) (fail)
  go_wp2
  go_ret2
  exact ⟨rfl, H5.out.drew⟩

set_option maxHeartbeats 4000000 in
theorem sv_look_not {w0 w : World} {q p : Nat} {ws : List Int} {ns : List Note} {L : List Asn} (push : Bool) (i d pl pc lk x fd st : Int) (off : Bool) (a : Nat) (y now : Int) (h : St w0 (refA q ws ns :: svB Y p a push i d pl pc lk x fd st off :: L) w) (x0 : 0 ≤ x) (x1 : x < 18446744073709551616) (ha : a < ws.length) (hy : rdW ws a = y) (hk : ns.length ≤ 1000000000000) (hne : (y == x) = false) (hs : (sSt y != 3) = true) :
    Calls Try.prog 72 #[.pointer (some ⟨p, 12, none⟩), .pointer (some ⟨q, 0, none⟩), .int .u64 now] w fun e w' => e = .returned (.tuple #[.int .i64 5, .int .u32 0]) ∧ St w0 (refA q ws (ns ++ [⟨108, a, y, y, true⟩]) :: svB Y p a push i d pl 6 lk x fd 5 off :: L) w' := by
  have hyr := h.rrng ha
  rw [hy] at hyr
  obtain ⟨y0, y1⟩ := hyr
  have H := Lib.hid h
  have HY := Lib.hid hy
  obtain ⟨⟨c0, c1, c2, c3, c4, c5, c6, c7, c8, c9, c10⟩, ⟨z2, z5, z6, z7, z8, z9, z10⟩, lt0⟩ := cellsS (h.cells 1 rfl)
  clear h hy
  go_enter Try.func72, Try.ntmps72
  go_wp2_with (go_at_call 64; refine (rload_st H.out a y HY.out ha hk).mono ?_; rintro e w2 ⟨rfl, h2⟩; (have H2 := Lib.hid h2); clear c0 c1 c2 c3 c4 c5 c6 c7 c8 c9 c10 z2 z5 z6 z7 z8 z9 z10 lt0; obtain ⟨⟨c0, c1, c2, c3, c4, c5, c6, c7, c8, c9, c10⟩, ⟨z2, z5, z6, z7, z8, z9, z10⟩, lt0⟩ := cellsS (h2.cells 1 rfl); clear h2)
  rename_i w2
  go_quiet (first | (go_at_call 67; exact Calls.quiet_of_same (r9_state _ _ _ rfl y0 y1)) | (go_at_call 82; exact Calls.quiet_of_same (r9_stamp _ _ _ rfl (by assumption) (by assumption))))
  have h5 := H2.out.drewN nq
  generalize World.drewN _ nq = W2 at *
  have H5 := Lib.hid h5
  clear c0 c1 c2 c3 c4 c5 c6 c7 c8 c9 c10 z2 z5 z6 z7 z8 z9 z10 lt0; obtain ⟨⟨c0, c1, c2, c3, c4, c5, c6, c7, c8, c9, c10⟩, ⟨z2, z5, z6, z7, z8, z9, z10⟩, lt0⟩ := cellsS (h5.cells 1 rfl)
  clear h5
  go_wp2_with (go_at_call 65; refine (sv_end push a i d pl pc lk x fd st off 5 0 H5.out (by simp)).mono ?_; rintro e w9 ⟨rfl, h9⟩; (have H9 := Lib.hid h9); clear c0 c1 c2 c3 c4 c5 c6 c7 c8 c9 c10 z2 z5 z6 z7 z8 z9 z10 lt0; obtain ⟨⟨c0, c1, c2, c3, c4, c5, c6, c7, c8, c9, c10⟩, ⟨z2, z5, z6, z7, z8, z9, z10⟩, lt0⟩ := cellsS (h9.cells 1 rfl); clear h9)
  go_ret2
  exact ⟨rfl, H9.out⟩

set_option maxHeartbeats 4000000 in
theorem sv_look_stamp {w0 w : World} {q p : Nat} {ws : List Int} {ns : List Note} {L : List Asn} (push : Bool) (i d pl pc lk x fd st : Int) (off : Bool) (a : Nat) (y now : Int) (h : St w0 (refA q ws ns :: svB Y p a push i d pl pc lk x fd st off :: L) w) (x0 : 0 ≤ x) (x1 : x < 18446744073709551616) (ha : a < ws.length) (hy : rdW ws a = y) (hk : ns.length ≤ 1000000000000) (hne : (y == x) = false) (hs : (sSt y != 3) = false) (ht : (sTp y != sTp x) = true) :
    Calls Try.prog 72 #[.pointer (some ⟨p, 12, none⟩), .pointer (some ⟨q, 0, none⟩), .int .u64 now] w fun e w' => e = .returned (.tuple #[.int .i64 5, .int .u32 0]) ∧ St w0 (refA q ws (ns ++ [⟨108, a, y, y, true⟩]) :: svB Y p a push i d pl 6 lk x fd 5 off :: L) w' := by
  have hyr := h.rrng ha
  rw [hy] at hyr
  obtain ⟨y0, y1⟩ := hyr
  have H := Lib.hid h
  have HY := Lib.hid hy
  obtain ⟨⟨c0, c1, c2, c3, c4, c5, c6, c7, c8, c9, c10⟩, ⟨z2, z5, z6, z7, z8, z9, z10⟩, lt0⟩ := cellsS (h.cells 1 rfl)
  clear h hy
  go_enter Try.func72, Try.ntmps72
  go_wp2_with (go_at_call 64; refine (rload_st H.out a y HY.out ha hk).mono ?_; rintro e w2 ⟨rfl, h2⟩; (have H2 := Lib.hid h2); clear c0 c1 c2 c3 c4 c5 c6 c7 c8 c9 c10 z2 z5 z6 z7 z8 z9 z10 lt0; obtain ⟨⟨c0, c1, c2, c3, c4, c5, c6, c7, c8, c9, c10⟩, ⟨z2, z5, z6, z7, z8, z9, z10⟩, lt0⟩ := cellsS (h2.cells 1 rfl); clear h2)
  rename_i w2
  go_quiet (first | (go_at_call 67; exact Calls.quiet_of_same (r9_state _ _ _ rfl y0 y1)) | (go_at_call 82; exact Calls.quiet_of_same (r9_stamp _ _ _ rfl (by assumption) (by assumption))))
  have h5 := H2.out.drewN nq
  generalize World.drewN _ nq = W2 at *
  have H5 := Lib.hid h5
  clear c0 c1 c2 c3 c4 c5 c6 c7 c8 c9 c10 z2 z5 z6 z7 z8 z9 z10 lt0; obtain ⟨⟨c0, c1, c2, c3, c4, c5, c6, c7, c8, c9, c10⟩, ⟨z2, z5, z6, z7, z8, z9, z10⟩, lt0⟩ := cellsS (h5.cells 1 rfl)
  clear h5
  go_wp2_with (go_at_call 65; refine (sv_end push a i d pl pc lk x fd st off 5 0 H5.out (by simp)).mono ?_; rintro e w9 ⟨rfl, h9⟩; (have H9 := Lib.hid h9); clear c0 c1 c2 c3 c4 c5 c6 c7 c8 c9 c10 z2 z5 z6 z7 z8 z9 z10 lt0; obtain ⟨⟨c0, c1, c2, c3, c4, c5, c6, c7, c8, c9, c10⟩, ⟨z2, z5, z6, z7, z8, z9, z10⟩, lt0⟩ := cellsS (h9.cells 1 rfl); clear h9)
  go_ret2
  exact ⟨rfl, H9.out⟩

set_option maxHeartbeats 4000000 in
theorem sv_look_ok {w0 w : World} {q p : Nat} {ws : List Int} {ns : List Note} {L : List Asn} (push : Bool) (i d pl pc lk x fd st : Int) (off : Bool) (a : Nat) (y now : Int) (h : St w0 (refA q ws ns :: svB Y p a push i d pl pc lk x fd st off :: L) w) (x0 : 0 ≤ x) (x1 : x < 18446744073709551616) (ha : a < ws.length) (hy : rdW ws a = y) (hk : ns.length ≤ 1000000000000) (hne : (y == x) = false) (hs : (sSt y != 3) = false) (ht : (sTp y != sTp x) = false) :
    Calls Try.prog 72 #[.pointer (some ⟨p, 12, none⟩), .pointer (some ⟨q, 0, none⟩), .int .u64 now] w fun e w' => e = .returned (.tuple #[.int .i64 0, .int .u32 0]) ∧ St w0 (refA q ws (ns ++ [⟨108, a, y, y, true⟩]) :: svB Y p a push (sIx y) d pl 5 lk x y st off :: L) w' := by
  have hyr := h.rrng ha
  rw [hy] at hyr
  obtain ⟨y0, y1⟩ := hyr
  have H := Lib.hid h
  have HY := Lib.hid hy
  obtain ⟨⟨c0, c1, c2, c3, c4, c5, c6, c7, c8, c9, c10⟩, ⟨z2, z5, z6, z7, z8, z9, z10⟩, lt0⟩ := cellsS (h.cells 1 rfl)
  clear h hy
  go_enter Try.func72, Try.ntmps72
  go_wp2_with (go_at_call 64; refine (rload_st H.out a y HY.out ha hk).mono ?_; rintro e w2 ⟨rfl, h2⟩; (have H2 := Lib.hid h2); clear c0 c1 c2 c3 c4 c5 c6 c7 c8 c9 c10 z2 z5 z6 z7 z8 z9 z10 lt0; obtain ⟨⟨c0, c1, c2, c3, c4, c5, c6, c7, c8, c9, c10⟩, ⟨z2, z5, z6, z7, z8, z9, z10⟩, lt0⟩ := cellsS (h2.cells 1 rfl); clear h2)
  rename_i w2
  go_quiet (first | (go_at_call 67; exact Calls.quiet_of_same (r9_state _ _ _ rfl y0 y1)) | (go_at_call 82; exact Calls.quiet_of_same (r9_stamp _ _ _ rfl (by assumption) (by assumption))))
  have h5 := H2.out.drewN nq
  generalize World.drewN _ nq = W2 at *
  have H5 := Lib.hid h5
  clear c0 c1 c2 c3 c4 c5 c6 c7 c8 c9 c10 z2 z5 z6 z7 z8 z9 z10 lt0; obtain ⟨⟨c0, c1, c2, c3, c4, c5, c6, c7, c8, c9, c10⟩, ⟨z2, z5, z6, z7, z8, z9, z10⟩, lt0⟩ := cellsS (h5.cells 1 rfl)
  clear h5
  go_wp2_with (go_at_call 83; refine (r9_index y (sIx y) _ rfl y0 y1).mono ?_; rintro e w4 ⟨rfl, rfl⟩)
  go_ret2
  exact ⟨rfl, ((H5.out.setAt 1 rfl 20 (.int .u64 y)).setAt 1 rfl 14 (.int .u32 (sIx y))).setAt 1 rfl 17 _⟩
end Go.Proofs.Ythnjeiandfdpgaa
