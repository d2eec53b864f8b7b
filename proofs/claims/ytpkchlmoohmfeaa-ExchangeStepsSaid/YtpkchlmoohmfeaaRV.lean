/-
  hatstandref10.Visit: the document's machine as it lies in the heap, and what each of its functions does.
-/
import Derived.Test.YtpkchlmoohmfeaaRefSt
import Derived.Test.YtpkchlmoohmfeaaSlot9
import Derived.Test.YtpkchlmoohmfeaaVm
import Derived.Deep.QuietTactic
import Derived.Laws.EntriesVeiled
import Derived.Lib.MinMax
namespace Go.Proofs.Ytpkchlmoohmfeaa
open Go.RowKit
set_option linter.unusedVariables false
set_option linter.unusedSimpArgs false

abbrev rvB (p : Nat) (a : Int) (push : Bool) (i d pl pc lk x fd st : Int) (off : Bool) : Asn := boxA p #[.int .i64 a, .bool push, .int .u32 i, .int .u64 d, .int .i64 pl, .int .i64 pc, .int .i64 lk, .int .u64 x, .int .u64 fd, .int .i64 st, .bool off] 59
theorem cellsR {w : World} {b : Nat} {a0 a1 a2 a3 a4 a5 a6 a7 a8 a9 a10 : Value} {e : TypeId} (h : w.heap[b]? = some (.cells #[a0, a1, a2, a3, a4, a5, a6, a7, a8, a9, a10] e (0, 0))) :
    (w.cell? ⟨b, 0, none⟩ = some a0 ∧ w.cell? ⟨b, 1, none⟩ = some a1 ∧ w.cell? ⟨b, 2, none⟩ = some a2 ∧ w.cell? ⟨b, 3, none⟩ = some a3 ∧ w.cell? ⟨b, 4, none⟩ = some a4 ∧ w.cell? ⟨b, 5, none⟩ = some a5 ∧ w.cell? ⟨b, 6, none⟩ = some a6 ∧ w.cell? ⟨b, 7, none⟩ = some a7 ∧ w.cell? ⟨b, 8, none⟩ = some a8 ∧ w.cell? ⟨b, 9, none⟩ = some a9 ∧ w.cell? ⟨b, 10, none⟩ = some a10) ∧
    (w.frozen? ⟨b, 2, none⟩ = false ∧ w.frozen? ⟨b, 5, none⟩ = false ∧ w.frozen? ⟨b, 6, none⟩ = false ∧ w.frozen? ⟨b, 7, none⟩ = false ∧ w.frozen? ⟨b, 8, none⟩ = false ∧ w.frozen? ⟨b, 9, none⟩ = false ∧ w.frozen? ⟨b, 10, none⟩ = false) ∧ b < w.heap.size :=
  ⟨⟨cell_of h 0, cell_of h 1, cell_of h 2, cell_of h 3, cell_of h 4, cell_of h 5, cell_of h 6, cell_of h 7, cell_of h 8, cell_of h 9, cell_of h 10⟩, ⟨free_of h 2, free_of h 5, free_of h 6, free_of h 7, free_of h 8, free_of h 9, free_of h 10⟩, lt_of_heap h⟩

set_option maxHeartbeats 4000000 in
theorem rv_end {w0 w : World} {q p : Nat} {ws : List Int} {ns : List Note} {L : List Asn} (push : Bool) (a i d pl pc lk x fd st : Int) (off : Bool) (s z : Int) (h : St w0 (refA q ws ns :: rvB p a push i d pl pc lk x fd st off :: L) w) (hz : z = if s = 1 ∧ push = false then i else 0) :
    Calls Try.prog 30 #[.pointer (some ⟨p, 0, none⟩), .int .i64 s] w fun e w' => e = .returned (.tuple #[.int .i64 s, .int .u32 z]) ∧ St w0 (refA q ws ns :: rvB p a push i d pl 6 lk x fd s off :: L) w' := by
  have H := Lib.hid h
  obtain ⟨⟨c0, c1, c2, c3, c4, c5, c6, c7, c8, c9, c10⟩, ⟨z2, z5, z6, z7, z8, z9, z10⟩, lt0⟩ := cellsR (h.cells 1 rfl)
  clear h
  by_cases hr : s = 1
  · subst hr
    cases push
    · obtain rfl : z = i := by rw [hz]; simp
      clear hz
      go_enter Try.func30, Try.ntmps30
      go_wp2
      have h5 := (H.out.setAt 1 rfl 5 (.int .i64 6)).setAt 1 rfl 9 (.int .i64 1)
      generalize (w.setCell ⟨p, 5, none⟩ (.int .i64 6)).setCell ⟨p, 9, none⟩ (.int .i64 1) = W2 at *
      have H5 := Lib.hid h5
      clear c0 c1 c2 c3 c4 c5 c6 c7 c8 c9 c10 z2 z5 z6 z7 z8 z9 z10 lt0; obtain ⟨⟨c0, c1, c2, c3, c4, c5, c6, c7, c8, c9, c10⟩, ⟨z2, z5, z6, z7, z8, z9, z10⟩, lt0⟩ := cellsR (h5.cells 1 rfl)
      clear h5
      go_quiet (fail)
      go_wp2
      go_ret2
      exact ⟨rfl, H5.out.drewN nq⟩
    · obtain rfl : z = 0 := by rw [hz]; simp
      clear hz
      go_enter Try.func30, Try.ntmps30
      go_wp2
      go_ret2
      exact ⟨rfl, (H.out.setAt 1 rfl 5 (.int .i64 6)).setAt 1 rfl 9 _⟩
  · have e1 : (s == 1) = false := by simpa using hr
    obtain rfl : z = 0 := by rw [hz]; simp [hr]
    clear hz hr
    go_enter Try.func30, Try.ntmps30
    go_wp2
    go_ret2
    exact ⟨rfl, (H.out.setAt 1 rfl 5 (.int .i64 6)).setAt 1 rfl 9 _⟩

set_option maxHeartbeats 4000000 in
theorem rv_claimed_hit {w0 w : World} {q p : Nat} {ws : List Int} {ns : List Note} {L : List Asn} (push : Bool) (a i d pl pc lk x fd st : Int) (off : Bool) (v z : Int) (h : St w0 (refA q ws ns :: rvB p a push i d pl pc lk x fd st off :: L) w) (v0 : 0 ≤ v) (v1 : v < 18446744073709551616) (hz : z = if push = false then sIx v else 0) :
    Calls Try.prog 35 #[.pointer (some ⟨p, 0, none⟩), .int .u64 v, .bool true, .int .i64 0] w fun e w' => e = .returned (.tuple #[.int .i64 1, .int .u32 z]) ∧ St w0 (refA q ws ns :: rvB p a push (sIx v) d pl 6 lk x fd 1 off :: L) w' := by
  have H := Lib.hid h
  have HZ : Hid (z = if (1 : Int) = 1 ∧ push = false then sIx v else 0) := Lib.hid (by rw [hz]; simp)
  obtain ⟨⟨c0, c1, c2, c3, c4, c5, c6, c7, c8, c9, c10⟩, ⟨z2, z5, z6, z7, z8, z9, z10⟩, lt0⟩ := cellsR (h.cells 1 rfl)
  clear h hz
  go_enter Try.func35, Try.ntmps35
  go_wp2_with (first | (go_at_call 46; refine (r9_index v (sIx v) _ rfl v0 v1).mono ?_; rintro e w4 ⟨rfl, rfl⟩) | ((have h5 := H.out.setAt 1 rfl 2 (.int .u32 (sIx v))); (go_at_call 30; refine (rv_end push a (sIx v) d pl pc lk x fd st off 1 z h5 (by first | exact HZ.out | (rw [HZ.out]; simp))).mono ?_; rintro e w9 ⟨rfl, h9⟩; (have H9 := Lib.hid h9); clear c0 c1 c2 c3 c4 c5 c6 c7 c8 c9 c10 z2 z5 z6 z7 z8 z9 z10 lt0; obtain ⟨⟨c0, c1, c2, c3, c4, c5, c6, c7, c8, c9, c10⟩, ⟨z2, z5, z6, z7, z8, z9, z10⟩, lt0⟩ := cellsR (h9.cells 1 rfl); clear h9)))
  go_ret2
  exact ⟨rfl, H9.out⟩

set_option maxHeartbeats 4000000 in
theorem rv_claimed_lost {w0 w : World} {q p : Nat} {ws : List Int} {ns : List Note} {L : List Asn} (push : Bool) (a i d pl pc lk x fd st : Int) (off : Bool) (v : Int) (h : St w0 (refA q ws ns :: rvB p a push i d pl pc lk x fd st off :: L) w) :
    Calls Try.prog 35 #[.pointer (some ⟨p, 0, none⟩), .int .u64 v, .bool false, .int .i64 0] w fun e w' => e = .returned (.tuple #[.int .i64 3, .int .u32 0]) ∧ St w0 (refA q ws ns :: rvB p a push i d pl 6 lk x fd 3 off :: L) w' := by
  have H := Lib.hid h
  obtain ⟨⟨c0, c1, c2, c3, c4, c5, c6, c7, c8, c9, c10⟩, ⟨z2, z5, z6, z7, z8, z9, z10⟩, lt0⟩ := cellsR (h.cells 1 rfl)
  clear h
  go_enter Try.func35, Try.ntmps35
  go_wp2_with (go_at_call 30; refine (rv_end push a i d pl pc lk x fd st off 3 0 H.out (by simp)).mono ?_; rintro e w9 ⟨rfl, h9⟩; (have H9 := Lib.hid h9); clear c0 c1 c2 c3 c4 c5 c6 c7 c8 c9 c10 z2 z5 z6 z7 z8 z9 z10 lt0; obtain ⟨⟨c0, c1, c2, c3, c4, c5, c6, c7, c8, c9, c10⟩, ⟨z2, z5, z6, z7, z8, z9, z10⟩, lt0⟩ := cellsR (h9.cells 1 rfl); clear h9)
  go_ret2
  exact ⟨rfl, H9.out⟩

set_option maxHeartbeats 4000000 in
theorem rv_look_end {w0 w : World} {q p : Nat} {ws : List Int} {ns : List Note} {L : List Asn} (push : Bool) (i d pl lk x fd st : Int) (off : Bool) (a : Nat) (now : Int) (h : St w0 (refA q ws ns :: rvB p a push i d pl 3 lk x fd st off :: L) w) (l0 : 0 ≤ lk) (l1 : lk < 1000000000001) (ha : a < ws.length) (hy : rdW ws a = x) (hk : ns.length ≤ 1000000000000) (hl : decide (max pl 1 ≤ lk + 1) = true) :
    Calls Try.prog 37 #[.pointer (some ⟨p, 0, none⟩), .pointer (some ⟨q, 0, none⟩), .int .u64 now] w fun e w' => e = .returned (.tuple #[.int .i64 0, .int .u32 0]) ∧ St w0 (refA q ws (ns ++ [⟨108, a, x, x, true⟩]) :: rvB p a push i d pl 4 (lk + 1) x fd st off :: L) w' := by
  have H := Lib.hid h
  have HY := Lib.hid hy
  obtain ⟨⟨c0, c1, c2, c3, c4, c5, c6, c7, c8, c9, c10⟩, ⟨z2, z5, z6, z7, z8, z9, z10⟩, lt0⟩ := cellsR (h.cells 1 rfl)
  clear h hy

  go_enter Try.func37, Try.ntmps37
  go_wp2_with (go_at_call 29; refine (rload_st H.out a x HY.out ha hk).mono ?_; rintro e w2 ⟨rfl, h2⟩; (have H2 := Lib.hid h2); clear c0 c1 c2 c3 c4 c5 c6 c7 c8 c9 c10 z2 z5 z6 z7 z8 z9 z10 lt0; obtain ⟨⟨c0, c1, c2, c3, c4, c5, c6, c7, c8, c9, c10⟩, ⟨z2, z5, z6, z7, z8, z9, z10⟩, lt0⟩ := cellsR (h2.cells 1 rfl); clear h2)
  have h5 := H2.out.setAt 1 rfl 6 (.int .i64 (lk + 1))
  generalize World.setCell _ ⟨p, 6, none⟩ (.int .i64 (lk + 1)) = W2 at *
  have H5 := Lib.hid h5
  clear c0 c1 c2 c3 c4 c5 c6 c7 c8 c9 c10 z2 z5 z6 z7 z8 z9 z10 lt0; obtain ⟨⟨c0, c1, c2, c3, c4, c5, c6, c7, c8, c9, c10⟩, ⟨z2, z5, z6, z7, z8, z9, z10⟩, lt0⟩ := cellsR (h5.cells 1 rfl)
  clear h5
  go_wp2
  refine wp_region_held_drew (S := (fun w' => w'.cell? ⟨p, 6, none⟩ = some (.int .i64 (lk + 1)) ∧ w'.cell? ⟨p, 4, none⟩ = some (.int .i64 pl) ∧ w'.cell? ⟨p, 3, none⟩ = some (.int .u64 d))) (by kernel_rfl) ?_ (fun hHeld0 => ?_)
  · exact ⟨c6, c4, c3⟩
  refine wpAnyH_take (i := 0) (v := ?_) rfl (by kernel_rfl) (by kernel_rfl) (by kernel_rfl) (fun _ _ _ h => h) (Or.inl ⟨by rfl, ?_⟩) hHeld0 ?_
  rotate_left
  · intro w hSw
    (try dsimp only at hSw)
    go_simp
    try (first | (with_reducible rfl) | rfl)
  try simp only [List.getElem_toArray, List.getElem_cons_zero, List.getElem_cons_succ, Act.put, List.setIfInBounds_toArray, List.set_cons_zero, List.set_cons_succ]
  refine wpAnyH_take (i := 1) (v := ?_) rfl (by kernel_rfl) (by kernel_rfl) (by kernel_rfl) (fun _ _ _ h => h) (Or.inl ⟨by rfl, ?_⟩) hHeld0 ?_
  rotate_left
  · intro w hSw
    (try dsimp only at hSw)
    go_simp
    try (first | (with_reducible rfl) | rfl)
  try simp only [List.getElem_toArray, List.getElem_cons_zero, List.getElem_cons_succ, Act.put, List.setIfInBounds_toArray, List.set_cons_zero, List.set_cons_succ]
  refine wpAnyH_take (i := 2) (v := ?_) rfl (by kernel_rfl) (by kernel_rfl) (by kernel_rfl) (fun _ _ _ h => h) (Or.inl ⟨by rfl, ?_⟩) hHeld0 ?_
  rotate_left
  · intro w hSw
    (try dsimp only at hSw)
    go_simp
    try (first | (with_reducible rfl) | rfl)
  try simp only [List.getElem_toArray, List.getElem_cons_zero, List.getElem_cons_succ, Act.put, List.setIfInBounds_toArray, List.set_cons_zero, List.set_cons_succ]
  refine wpAnyH_take (i := 3) (v := ?_) rfl (by kernel_rfl) (by kernel_rfl) (by kernel_rfl) (fun _ _ _ h => h) (Or.inl ⟨by rfl, ?_⟩) hHeld0 ?_
  rotate_left
  · intro w hSw
    (try dsimp only at hSw)
    go_simp
    try (first | (with_reducible rfl) | rfl)
  try simp only [List.getElem_toArray, List.getElem_cons_zero, List.getElem_cons_succ, Act.put, List.setIfInBounds_toArray, List.set_cons_zero, List.set_cons_succ]
  refine wpAnyH_take (i := 4) (v := ?_) rfl (by kernel_rfl) (by kernel_rfl) (by kernel_rfl) (fun _ _ _ h => h) (Or.inl ⟨by rfl, ?_⟩) hHeld0 ?_
  rotate_left
  · intro w hSw
    (try dsimp only at hSw)
    go_simp
    try (first | (with_reducible rfl) | rfl)
  try simp only [List.getElem_toArray, List.getElem_cons_zero, List.getElem_cons_succ, Act.put, List.setIfInBounds_toArray, List.set_cons_zero, List.set_cons_succ]
  refine wpAnyH_take (i := 5) (v := ?_) rfl (by kernel_rfl) (by kernel_rfl) (by kernel_rfl) (fun _ _ _ h => h) (Or.inl ⟨by rfl, ?_⟩) hHeld0 ?_
  rotate_left
  · intro w hSw
    (try dsimp only at hSw)
    go_simp
    try (first | (with_reducible rfl) | rfl)
  try simp only [List.getElem_toArray, List.getElem_cons_zero, List.getElem_cons_succ, Act.put, List.setIfInBounds_toArray, List.set_cons_zero, List.set_cons_succ]
  refine wpAnyH_take (i := 6) (v := ?_) rfl (by kernel_rfl) (by kernel_rfl) (by kernel_rfl) (fun _ _ _ h => h) (Or.inl ⟨by rfl, ?_⟩) hHeld0 ?_
  rotate_left
  · intro w hSw
    (try dsimp only at hSw)
    go_simp
    try (first | (with_reducible rfl) | rfl)
  try simp only [List.getElem_toArray, List.getElem_cons_zero, List.getElem_cons_succ, Act.put, List.setIfInBounds_toArray, List.set_cons_zero, List.set_cons_succ]
  refine wpAnyH_take (i := 7) (v := ?_) rfl (by kernel_rfl) (by kernel_rfl) (by kernel_rfl) (fun _ _ _ h => h) (Or.inl ⟨by rfl, ?_⟩) hHeld0 ?_
  rotate_left
  · intro w hSw
    (try dsimp only at hSw)
    go_simp
    try (first | (with_reducible rfl) | rfl)
  try simp only [List.getElem_toArray, List.getElem_cons_zero, List.getElem_cons_succ, Act.put, List.setIfInBounds_toArray, List.set_cons_zero, List.set_cons_succ]
  refine wpAnyH_take (i := 8) (v := ?_) rfl (by kernel_rfl) (by kernel_rfl) (by kernel_rfl) (fun _ _ _ h => h) (Or.inl ⟨by rfl, ?_⟩) hHeld0 ?_
  rotate_left
  · intro w hSw
    (try dsimp only at hSw)
    go_simp
    try (first | (with_reducible rfl) | rfl)
  try simp only [List.getElem_toArray, List.getElem_cons_zero, List.getElem_cons_succ, Act.put, List.setIfInBounds_toArray, List.set_cons_zero, List.set_cons_succ]
  refine wpAnyH_take (i := 9) (v := ?_) rfl (by kernel_rfl) (by kernel_rfl) (by kernel_rfl) (fun _ _ _ h => h) (Or.inl ⟨by rfl, ?_⟩) hHeld0 ?_
  rotate_left
  · intro w hSw
    (try dsimp only at hSw)
    go_simp
    try (first | (with_reducible rfl) | rfl)
  try simp only [List.getElem_toArray, List.getElem_cons_zero, List.getElem_cons_succ, Act.put, List.setIfInBounds_toArray, List.set_cons_zero, List.set_cons_succ]
  refine wpAnyH_take (i := 10) (v := ?_) rfl (by kernel_rfl) (by kernel_rfl) (by kernel_rfl) (fun _ _ _ h => h) (Or.inl ⟨by rfl, ?_⟩) hHeld0 ?_
  rotate_left
  · intro w hSw
    (try dsimp only at hSw)
    go_simp
    try (first | (with_reducible rfl) | rfl)
  try simp only [List.getElem_toArray, List.getElem_cons_zero, List.getElem_cons_succ, Act.put, List.setIfInBounds_toArray, List.set_cons_zero, List.set_cons_succ]
  refine wpAnyH_take (i := 11) (v := undef) rfl (by kernel_rfl) (by kernel_rfl) (by kernel_rfl) (fun _ _ _ h => h) (Or.inr ⟨by rfl, rfl⟩) hHeld0 ?_
  try simp only [List.getElem_toArray, List.getElem_cons_zero, List.getElem_cons_succ, Act.put, List.setIfInBounds_toArray, List.set_cons_zero, List.set_cons_succ]
  refine wpAnyH_take (i := 12) (v := undef) rfl (by kernel_rfl) (by kernel_rfl) (by kernel_rfl) (fun _ _ _ h => h) (Or.inr ⟨by rfl, rfl⟩) hHeld0 ?_
  try simp only [List.getElem_toArray, List.getElem_cons_zero, List.getElem_cons_succ, Act.put, List.setIfInBounds_toArray, List.set_cons_zero, List.set_cons_succ]
  refine wpAnyH_take (i := 13) (v := undef) rfl (by kernel_rfl) (by kernel_rfl) (by kernel_rfl) (fun _ _ _ h => h) (Or.inr ⟨by rfl, rfl⟩) hHeld0 ?_
  try simp only [List.getElem_toArray, List.getElem_cons_zero, List.getElem_cons_succ, Act.put, List.setIfInBounds_toArray, List.set_cons_zero, List.set_cons_succ]
  refine wpAnyH_take (i := 14) (v := undef) rfl (by kernel_rfl) (by kernel_rfl) (by kernel_rfl) (fun _ _ _ h => h) (Or.inr ⟨by rfl, rfl⟩) hHeld0 ?_
  try simp only [List.getElem_toArray, List.getElem_cons_zero, List.getElem_cons_succ, Act.put, List.setIfInBounds_toArray, List.set_cons_zero, List.set_cons_succ]
  refine wpAnyH_take (i := 15) (v := undef) rfl (by kernel_rfl) (by kernel_rfl) (by kernel_rfl) (fun _ _ _ h => h) (Or.inr ⟨by rfl, rfl⟩) hHeld0 ?_
  try simp only [List.getElem_toArray, List.getElem_cons_zero, List.getElem_cons_succ, Act.put, List.setIfInBounds_toArray, List.set_cons_zero, List.set_cons_succ]
  refine wpAnyH_take (i := 16) (v := undef) rfl (by kernel_rfl) (by kernel_rfl) (by kernel_rfl) (fun _ _ _ h => h) (Or.inr ⟨by rfl, rfl⟩) hHeld0 ?_
  try simp only [List.getElem_toArray, List.getElem_cons_zero, List.getElem_cons_succ, Act.put, List.setIfInBounds_toArray, List.set_cons_zero, List.set_cons_succ]
  refine wpAnyH_take (i := 17) (v := ?_) rfl (by kernel_rfl) (by kernel_rfl) (by kernel_rfl) (fun _ _ _ h => h) (Or.inl ⟨by rfl, ?_⟩) hHeld0 ?_
  rotate_left
  · intro w hSw
    (try dsimp only at hSw)
    go_simp
    try (first | (with_reducible rfl) | rfl)
  try simp only [List.getElem_toArray, List.getElem_cons_zero, List.getElem_cons_succ, Act.put, List.setIfInBounds_toArray, List.set_cons_zero, List.set_cons_succ]
  refine wpAnyH_done (by kernel_rfl) ?_ _
  go_wp2
  go_ret2
  exact ⟨rfl, H5.out.drew.setAt 1 rfl 5 _⟩

set_option maxHeartbeats 4000000 in
theorem rv_look_late {w0 w : World} {q p : Nat} {ws : List Int} {ns : List Note} {L : List Asn} (push : Bool) (i d pl lk x fd st : Int) (off : Bool) (a : Nat) (now : Int) (h : St w0 (refA q ws ns :: rvB p a push i d pl 3 lk x fd st off :: L) w) (l0 : 0 ≤ lk) (l1 : lk < 1000000000001) (ha : a < ws.length) (hy : rdW ws a = x) (hk : ns.length ≤ 1000000000000) (hl : decide (max pl 1 ≤ lk + 1) = false) (hd : decide (d ≤ now) = true) :
    Calls Try.prog 37 #[.pointer (some ⟨p, 0, none⟩), .pointer (some ⟨q, 0, none⟩), .int .u64 now] w fun e w' => e = .returned (.tuple #[.int .i64 0, .int .u32 0]) ∧ St w0 (refA q ws (ns ++ [⟨108, a, x, x, true⟩]) :: rvB p a push i d pl 4 (lk + 1) x fd st off :: L) w' := by
  have H := Lib.hid h
  have HY := Lib.hid hy
  obtain ⟨⟨c0, c1, c2, c3, c4, c5, c6, c7, c8, c9, c10⟩, ⟨z2, z5, z6, z7, z8, z9, z10⟩, lt0⟩ := cellsR (h.cells 1 rfl)
  clear h hy

  go_enter Try.func37, Try.ntmps37
  go_wp2_with (go_at_call 29; refine (rload_st H.out a x HY.out ha hk).mono ?_; rintro e w2 ⟨rfl, h2⟩; (have H2 := Lib.hid h2); clear c0 c1 c2 c3 c4 c5 c6 c7 c8 c9 c10 z2 z5 z6 z7 z8 z9 z10 lt0; obtain ⟨⟨c0, c1, c2, c3, c4, c5, c6, c7, c8, c9, c10⟩, ⟨z2, z5, z6, z7, z8, z9, z10⟩, lt0⟩ := cellsR (h2.cells 1 rfl); clear h2)
  have h5 := H2.out.setAt 1 rfl 6 (.int .i64 (lk + 1))
  generalize World.setCell _ ⟨p, 6, none⟩ (.int .i64 (lk + 1)) = W2 at *
  have H5 := Lib.hid h5
  clear c0 c1 c2 c3 c4 c5 c6 c7 c8 c9 c10 z2 z5 z6 z7 z8 z9 z10 lt0; obtain ⟨⟨c0, c1, c2, c3, c4, c5, c6, c7, c8, c9, c10⟩, ⟨z2, z5, z6, z7, z8, z9, z10⟩, lt0⟩ := cellsR (h5.cells 1 rfl)
  clear h5
  go_region_held3 (fun w' => w'.cell? ⟨p, 6, none⟩ = some (.int .i64 (lk + 1)) ∧ w'.cell? ⟨p, 4, none⟩ = some (.int .i64 pl) ∧ w'.cell? ⟨p, 3, none⟩ = some (.int .u64 d)) (first | exact ⟨c6, c4, c3⟩) (fail)
  go_wp2
  go_ret2
  exact ⟨rfl, H5.out.drew.setAt 1 rfl 5 _⟩

set_option maxHeartbeats 4000000 in
theorem rv_look_on {w0 w : World} {q p : Nat} {ws : List Int} {ns : List Note} {L : List Asn} (push : Bool) (i d pl lk x fd st : Int) (off : Bool) (a : Nat) (now : Int) (h : St w0 (refA q ws ns :: rvB p a push i d pl 3 lk x fd st off :: L) w) (l0 : 0 ≤ lk) (l1 : lk < 1000000000001) (ha : a < ws.length) (hy : rdW ws a = x) (hk : ns.length ≤ 1000000000000) (hl : decide (max pl 1 ≤ lk + 1) = false) (hd : decide (d ≤ now) = false) :
    Calls Try.prog 37 #[.pointer (some ⟨p, 0, none⟩), .pointer (some ⟨q, 0, none⟩), .int .u64 now] w fun e w' => e = .returned (.tuple #[.int .i64 0, .int .u32 0]) ∧ St w0 (refA q ws (ns ++ [⟨108, a, x, x, true⟩]) :: rvB p a push i d pl 3 (lk + 1) x fd st off :: L) w' := by
  have H := Lib.hid h
  have HY := Lib.hid hy
  obtain ⟨⟨c0, c1, c2, c3, c4, c5, c6, c7, c8, c9, c10⟩, ⟨z2, z5, z6, z7, z8, z9, z10⟩, lt0⟩ := cellsR (h.cells 1 rfl)
  clear h hy

  go_enter Try.func37, Try.ntmps37
  go_wp2_with (go_at_call 29; refine (rload_st H.out a x HY.out ha hk).mono ?_; rintro e w2 ⟨rfl, h2⟩; (have H2 := Lib.hid h2); clear c0 c1 c2 c3 c4 c5 c6 c7 c8 c9 c10 z2 z5 z6 z7 z8 z9 z10 lt0; obtain ⟨⟨c0, c1, c2, c3, c4, c5, c6, c7, c8, c9, c10⟩, ⟨z2, z5, z6, z7, z8, z9, z10⟩, lt0⟩ := cellsR (h2.cells 1 rfl); clear h2)
  have h5 := H2.out.setAt 1 rfl 6 (.int .i64 (lk + 1))
  generalize World.setCell _ ⟨p, 6, none⟩ (.int .i64 (lk + 1)) = W2 at *
  have H5 := Lib.hid h5
  clear c0 c1 c2 c3 c4 c5 c6 c7 c8 c9 c10 z2 z5 z6 z7 z8 z9 z10 lt0; obtain ⟨⟨c0, c1, c2, c3, c4, c5, c6, c7, c8, c9, c10⟩, ⟨z2, z5, z6, z7, z8, z9, z10⟩, lt0⟩ := cellsR (h5.cells 1 rfl)
  clear h5
  go_region_held3 (fun w' => w'.cell? ⟨p, 6, none⟩ = some (.int .i64 (lk + 1)) ∧ w'.cell? ⟨p, 4, none⟩ = some (.int .i64 pl) ∧ w'.cell? ⟨p, 3, none⟩ = some (.int .u64 d)) (first | exact ⟨c6, c4, c3⟩) (fail)
  go_wp2
  go_ret2
  exact ⟨rfl, H5.out.drew⟩

set_option maxHeartbeats 4000000 in
theorem rv_look_not {w0 w : World} {q p : Nat} {ws : List Int} {ns : List Note} {L : List Asn} (push : Bool) (i d pl pc lk x fd st : Int) (off : Bool) (a : Nat) (y now : Int) (h : St w0 (refA q ws ns :: rvB p a push i d pl pc lk x fd st off :: L) w) (x0 : 0 ≤ x) (x1 : x < 18446744073709551616) (ha : a < ws.length) (hy : rdW ws a = y) (hk : ns.length ≤ 1000000000000) (hne : (y == x) = false) (hs : (sSt y != 3) = true) :
    Calls Try.prog 37 #[.pointer (some ⟨p, 0, none⟩), .pointer (some ⟨q, 0, none⟩), .int .u64 now] w fun e w' => e = .returned (.tuple #[.int .i64 5, .int .u32 0]) ∧ St w0 (refA q ws (ns ++ [⟨108, a, y, y, true⟩]) :: rvB p a push i d pl 6 lk x fd 5 off :: L) w' := by
  have hyr := h.rrng ha
  rw [hy] at hyr
  obtain ⟨y0, y1⟩ := hyr
  have H := Lib.hid h
  have HY := Lib.hid hy
  obtain ⟨⟨c0, c1, c2, c3, c4, c5, c6, c7, c8, c9, c10⟩, ⟨z2, z5, z6, z7, z8, z9, z10⟩, lt0⟩ := cellsR (h.cells 1 rfl)
  clear h hy
  go_enter Try.func37, Try.ntmps37
  go_wp2_with (go_at_call 29; refine (rload_st H.out a y HY.out ha hk).mono ?_; rintro e w2 ⟨rfl, h2⟩; (have H2 := Lib.hid h2); clear c0 c1 c2 c3 c4 c5 c6 c7 c8 c9 c10 z2 z5 z6 z7 z8 z9 z10 lt0; obtain ⟨⟨c0, c1, c2, c3, c4, c5, c6, c7, c8, c9, c10⟩, ⟨z2, z5, z6, z7, z8, z9, z10⟩, lt0⟩ := cellsR (h2.cells 1 rfl); clear h2)
  rename_i w2
  go_quiet (first | (go_at_call 32; exact Calls.quiet_of_same (r9_state _ _ _ rfl y0 y1)) | (go_at_call 45; exact Calls.quiet_of_same (r9_stamp _ _ _ rfl (by assumption) (by assumption))))
  have h5 := H2.out.drewN nq
  generalize World.drewN _ nq = W2 at *
  have H5 := Lib.hid h5
  clear c0 c1 c2 c3 c4 c5 c6 c7 c8 c9 c10 z2 z5 z6 z7 z8 z9 z10 lt0; obtain ⟨⟨c0, c1, c2, c3, c4, c5, c6, c7, c8, c9, c10⟩, ⟨z2, z5, z6, z7, z8, z9, z10⟩, lt0⟩ := cellsR (h5.cells 1 rfl)
  clear h5
  go_wp2_with (go_at_call 30; refine (rv_end push a i d pl pc lk x fd st off 5 0 H5.out (by simp)).mono ?_; rintro e w9 ⟨rfl, h9⟩; (have H9 := Lib.hid h9); clear c0 c1 c2 c3 c4 c5 c6 c7 c8 c9 c10 z2 z5 z6 z7 z8 z9 z10 lt0; obtain ⟨⟨c0, c1, c2, c3, c4, c5, c6, c7, c8, c9, c10⟩, ⟨z2, z5, z6, z7, z8, z9, z10⟩, lt0⟩ := cellsR (h9.cells 1 rfl); clear h9)
  go_ret2
  exact ⟨rfl, H9.out⟩

set_option maxHeartbeats 4000000 in
theorem rv_look_stamp {w0 w : World} {q p : Nat} {ws : List Int} {ns : List Note} {L : List Asn} (push : Bool) (i d pl pc lk x fd st : Int) (off : Bool) (a : Nat) (y now : Int) (h : St w0 (refA q ws ns :: rvB p a push i d pl pc lk x fd st off :: L) w) (x0 : 0 ≤ x) (x1 : x < 18446744073709551616) (ha : a < ws.length) (hy : rdW ws a = y) (hk : ns.length ≤ 1000000000000) (hne : (y == x) = false) (hs : (sSt y != 3) = false) (ht : (sTp y != sTp x) = true) :
    Calls Try.prog 37 #[.pointer (some ⟨p, 0, none⟩), .pointer (some ⟨q, 0, none⟩), .int .u64 now] w fun e w' => e = .returned (.tuple #[.int .i64 5, .int .u32 0]) ∧ St w0 (refA q ws (ns ++ [⟨108, a, y, y, true⟩]) :: rvB p a push i d pl 6 lk x fd 5 off :: L) w' := by
  have hyr := h.rrng ha
  rw [hy] at hyr
  obtain ⟨y0, y1⟩ := hyr
  have H := Lib.hid h
  have HY := Lib.hid hy
  obtain ⟨⟨c0, c1, c2, c3, c4, c5, c6, c7, c8, c9, c10⟩, ⟨z2, z5, z6, z7, z8, z9, z10⟩, lt0⟩ := cellsR (h.cells 1 rfl)
  clear h hy
  go_enter Try.func37, Try.ntmps37
  go_wp2_with (go_at_call 29; refine (rload_st H.out a y HY.out ha hk).mono ?_; rintro e w2 ⟨rfl, h2⟩; (have H2 := Lib.hid h2); clear c0 c1 c2 c3 c4 c5 c6 c7 c8 c9 c10 z2 z5 z6 z7 z8 z9 z10 lt0; obtain ⟨⟨c0, c1, c2, c3, c4, c5, c6, c7, c8, c9, c10⟩, ⟨z2, z5, z6, z7, z8, z9, z10⟩, lt0⟩ := cellsR (h2.cells 1 rfl); clear h2)
  rename_i w2
  go_quiet (first | (go_at_call 32; exact Calls.quiet_of_same (r9_state _ _ _ rfl y0 y1)) | (go_at_call 45; exact Calls.quiet_of_same (r9_stamp _ _ _ rfl (by assumption) (by assumption))))
  have h5 := H2.out.drewN nq
  generalize World.drewN _ nq = W2 at *
  have H5 := Lib.hid h5
  clear c0 c1 c2 c3 c4 c5 c6 c7 c8 c9 c10 z2 z5 z6 z7 z8 z9 z10 lt0; obtain ⟨⟨c0, c1, c2, c3, c4, c5, c6, c7, c8, c9, c10⟩, ⟨z2, z5, z6, z7, z8, z9, z10⟩, lt0⟩ := cellsR (h5.cells 1 rfl)
  clear h5
  go_wp2_with (go_at_call 30; refine (rv_end push a i d pl pc lk x fd st off 5 0 H5.out (by simp)).mono ?_; rintro e w9 ⟨rfl, h9⟩; (have H9 := Lib.hid h9); clear c0 c1 c2 c3 c4 c5 c6 c7 c8 c9 c10 z2 z5 z6 z7 z8 z9 z10 lt0; obtain ⟨⟨c0, c1, c2, c3, c4, c5, c6, c7, c8, c9, c10⟩, ⟨z2, z5, z6, z7, z8, z9, z10⟩, lt0⟩ := cellsR (h9.cells 1 rfl); clear h9)
  go_ret2
  exact ⟨rfl, H9.out⟩

set_option maxHeartbeats 4000000 in
theorem rv_look_ok {w0 w : World} {q p : Nat} {ws : List Int} {ns : List Note} {L : List Asn} (push : Bool) (i d pl pc lk x fd st : Int) (off : Bool) (a : Nat) (y now : Int) (h : St w0 (refA q ws ns :: rvB p a push i d pl pc lk x fd st off :: L) w) (x0 : 0 ≤ x) (x1 : x < 18446744073709551616) (ha : a < ws.length) (hy : rdW ws a = y) (hk : ns.length ≤ 1000000000000) (hne : (y == x) = false) (hs : (sSt y != 3) = false) (ht : (sTp y != sTp x) = false) :
    Calls Try.prog 37 #[.pointer (some ⟨p, 0, none⟩), .pointer (some ⟨q, 0, none⟩), .int .u64 now] w fun e w' => e = .returned (.tuple #[.int .i64 0, .int .u32 0]) ∧ St w0 (refA q ws (ns ++ [⟨108, a, y, y, true⟩]) :: rvB p a push (sIx y) d pl 5 lk x y st off :: L) w' := by
  have hyr := h.rrng ha
  rw [hy] at hyr
  obtain ⟨y0, y1⟩ := hyr
  have H := Lib.hid h
  have HY := Lib.hid hy
  obtain ⟨⟨c0, c1, c2, c3, c4, c5, c6, c7, c8, c9, c10⟩, ⟨z2, z5, z6, z7, z8, z9, z10⟩, lt0⟩ := cellsR (h.cells 1 rfl)
  clear h hy
  go_enter Try.func37, Try.ntmps37
  go_wp2_with (go_at_call 29; refine (rload_st H.out a y HY.out ha hk).mono ?_; rintro e w2 ⟨rfl, h2⟩; (have H2 := Lib.hid h2); clear c0 c1 c2 c3 c4 c5 c6 c7 c8 c9 c10 z2 z5 z6 z7 z8 z9 z10 lt0; obtain ⟨⟨c0, c1, c2, c3, c4, c5, c6, c7, c8, c9, c10⟩, ⟨z2, z5, z6, z7, z8, z9, z10⟩, lt0⟩ := cellsR (h2.cells 1 rfl); clear h2)
  rename_i w2
  go_quiet (first | (go_at_call 32; exact Calls.quiet_of_same (r9_state _ _ _ rfl y0 y1)) | (go_at_call 45; exact Calls.quiet_of_same (r9_stamp _ _ _ rfl (by assumption) (by assumption))))
  have h5 := H2.out.drewN nq
  generalize World.drewN _ nq = W2 at *
  have H5 := Lib.hid h5
  clear c0 c1 c2 c3 c4 c5 c6 c7 c8 c9 c10 z2 z5 z6 z7 z8 z9 z10 lt0; obtain ⟨⟨c0, c1, c2, c3, c4, c5, c6, c7, c8, c9, c10⟩, ⟨z2, z5, z6, z7, z8, z9, z10⟩, lt0⟩ := cellsR (h5.cells 1 rfl)
  clear h5
  go_wp2_with (go_at_call 46; refine (r9_index y (sIx y) _ rfl y0 y1).mono ?_; rintro e w4 ⟨rfl, rfl⟩)
  go_ret2
  exact ⟨rfl, ((H5.out.setAt 1 rfl 8 (.int .u64 y)).setAt 1 rfl 2 (.int .u32 (sIx y))).setAt 1 rfl 5 _⟩
end Go.Proofs.Ytpkchlmoohmfeaa
