/-
  Machines that count, and machines that add to a word; a pick of one.
-/
import Derived.Test.YtadphmpbhkhhfaaSch
namespace Go.Proofs.Ytadphmpbhkhhfaa
open Go.RowKit
set_option linter.unusedVariables false
set_option linter.unusedSimpArgs false

structure Ad where
  at_ : Nat
  most : Int
  by_ : Int
  read : Bool
  w : Int
  did : Int
structure Sl where
  steps : Int
  most : Int
  v : Int
abbrev adA (p : Nat) (S : Ad) : Asn := boxA p #[.int .i64 S.at_, .int .i64 S.most, .int .u64 S.by_, .bool S.read, .int .u64 S.w, .int .i64 S.did] 32
abbrev slA (p : Nat) (S : Sl) : Asn := boxA p #[.int .i64 S.steps, .int .i64 S.most, .int .u64 S.v] 46
abbrev adV (p : Nat) : Value := .iface 30 (.pointer (some ⟨p, 0, none⟩))
abbrev slV (p : Nat) : Value := .iface 44 (.pointer (some ⟨p, 0, none⟩))
theorem cells6s {w : World} {b : Nat} {a0 a1 a2 a3 a4 a5 : Value} {e : TypeId} (h : w.heap[b]? = some (.cells #[a0, a1, a2, a3, a4, a5] e (0, 0))) : w.cell? ⟨b, 0, none⟩ = some a0 ∧ w.cell? ⟨b, 1, none⟩ = some a1 ∧ w.cell? ⟨b, 2, none⟩ = some a2 ∧ w.cell? ⟨b, 3, none⟩ = some a3 ∧ w.cell? ⟨b, 4, none⟩ = some a4 ∧ w.cell? ⟨b, 5, none⟩ = some a5 ∧ w.frozen? ⟨b, 3, none⟩ = false ∧ w.frozen? ⟨b, 4, none⟩ = false ∧ w.frozen? ⟨b, 5, none⟩ = false ∧ b < w.heap.size := ⟨cell_of h 0, cell_of h 1, cell_of h 2, cell_of h 3, cell_of h 4, cell_of h 5, free_of h 3, free_of h 4, free_of h 5, lt_of_heap h⟩
theorem cells3s {w : World} {b : Nat} {a0 a1 a2 : Value} {e : TypeId} (h : w.heap[b]? = some (.cells #[a0, a1, a2] e (0, 0))) : w.cell? ⟨b, 0, none⟩ = some a0 ∧ w.cell? ⟨b, 1, none⟩ = some a1 ∧ w.cell? ⟨b, 2, none⟩ = some a2 ∧ w.frozen? ⟨b, 0, none⟩ = false ∧ b < w.heap.size := ⟨cell_of h 0, cell_of h 1, cell_of h 2, free_of h 0, lt_of_heap h⟩
variable {w0 w : World} {p q r g n x : Nat} {k : Int} {ts : List Value} {L : List Asn}
set_option maxHeartbeats 8000000 in
theorem ad_load {ws : List Int} {ns : List Note} (a : Nat) (m b y w1 d : Int) (h : St w0 (memA q ws ns :: adA x ⟨a, m, b, false, w1, d⟩ :: L) w) (ha : a < ws.length) (hy : rdW ws a = y) (hk : ns.length ≤ 1000000000000) :
    Calls Try.prog 40 #[.pointer (some ⟨x, 0, none⟩), .pointer (some ⟨q, 0, none⟩), .pointer (some ⟨r, 0, none⟩)] w fun e w' => e = .returned (.tuple #[.int .i64 0, .int .u64 0]) ∧ St w0 (memA q ws (ns ++ [ldN a y]) :: adA x ⟨a, m, b, true, y, d⟩ :: L) w' := by
  have H := Lib.hid h
  have HY := Lib.hid hy
  obtain ⟨c0, c1, c2, c3, c4, c5, f3, f4, f5, lx⟩ := cells6s (h.cells 1 rfl)
  clear h hy
  go_enter Try.func40, Try.ntmps40
  go_wp2_with (go_at_call 41; refine (load_st H.out a y HY.out ha hk).mono ?_; rintro e wn ⟨rfl, h⟩; (have HN1 := Lib.hid (h)); clear h; clear c0 c1 c2 c3 c4 c5 f3 f4 f5 lx; obtain ⟨c0, c1, c2, c3, c4, c5, f3, f4, f5, lx⟩ := cells6s (HN1.out.cells 1 rfl))
  go_ret2
  exact ⟨rfl, (HN1.out.setAt 1 rfl 4 (.int .u64 y)).setAt 1 rfl 3 (.bool true)⟩
set_option maxHeartbeats 8000000 in
theorem ad_go {ws : List Int} {ns : List Note} (a : Nat) (m b y w1 z d : Int) (h : St w0 (memA q ws ns :: adA x ⟨a, m, b, true, w1, d⟩ :: L) w) (ha : a < ws.length) (hy : rdW ws a = y) (hz : (w1 + b) % 18446744073709551616 = z) (d0 : 0 ≤ d) (d1 : d ≤ 1000000) (hd : d + 1 < m) (hk : ns.length ≤ 1000000000000) :
    Calls Try.prog 40 #[.pointer (some ⟨x, 0, none⟩), .pointer (some ⟨q, 0, none⟩), .pointer (some ⟨r, 0, none⟩)] w fun e w' => e = .returned (.tuple #[.int .i64 0, .int .u64 0]) ∧ St w0 (memA q (ws.set a z) (ns ++ [stN a y z]) :: adA x ⟨a, m, b, false, w1, d + 1⟩ :: L) w' := by
  have H := Lib.hid h
  have HY := Lib.hid hy
  have z0 : 0 ≤ z := by omega
  have z1 : z < 18446744073709551616 := by omega
  have hz2 : IntKind.u64.wrap (w1 + b) = z := by rw [IntKind.wrap_u64]; exact hz
  have g0 : decide (d + 1 < m) = true := decide_eq_true hd
  obtain ⟨c0, c1, c2, c3, c4, c5, f3, f4, f5, lx⟩ := cells6s (h.cells 1 rfl)
  clear h hy
  go_enter Try.func40, Try.ntmps40
  go_wp2
  have HS : Hid (∀ ws2 ns2 w', St w0 (memA q ws2 ns2 :: adA x ⟨a, m, b, true, w1, d⟩ :: L) w' → w'.cell? ⟨x, 0, none⟩ = some (.int .i64 a) ∧ w'.cell? ⟨x, 2, none⟩ = some (.int .u64 b) ∧ w'.cell? ⟨x, 4, none⟩ = some (.int .u64 w1)) := Lib.hid fun ws2 ns2 w' h => by
    obtain ⟨c0, c1, c2, c3, c4, c5, _⟩ := cells6s (h.cells 1 rfl)
    exact ⟨c0, c2, c4⟩
  clear c0 c1 c2 c3 c4 c5 f3 f4 f5 lx
  refine wp_region_held_drew (S := (fun w' => w'.cell? ⟨x, 0, none⟩ = some (.int .i64 a) ∧ w'.cell? ⟨x, 2, none⟩ = some (.int .u64 b) ∧ w'.cell? ⟨x, 4, none⟩ = some (.int .u64 w1))) (by as_aux_lemma => kernel_rfl) ?_ (fun hHeld0 => ?_)
  · first | exact HS.out _ _ _ HN1.out | exact HS.out _ _ _ H.out.drew
  refine wpAnyH_take (i := 0) (v := ?_) rfl (by as_aux_lemma => kernel_rfl) (by as_aux_lemma => kernel_rfl) (by as_aux_lemma => kernel_rfl) (fun _ _ _ h => h) (Or.inl ⟨by rfl, ?_⟩) hHeld0 ?_
  rotate_left
  · intro w hSw
    (try dsimp only at hSw)
    go_simp
    try (first | (with_reducible rfl) | rfl)
  try simp only [List.getElem_toArray, List.getElem_cons_zero, List.getElem_cons_succ, Act.put, List.setIfInBounds_toArray, List.set_cons_zero, List.set_cons_succ]
  refine wpAnyH_take (i := 1) (v := ?_) rfl (by as_aux_lemma => kernel_rfl) (by as_aux_lemma => kernel_rfl) (by as_aux_lemma => kernel_rfl) (fun _ _ _ h => h) (Or.inl ⟨by rfl, ?_⟩) hHeld0 ?_
  rotate_left
  · intro w hSw
    (try dsimp only at hSw)
    go_simp
    try (first | (with_reducible rfl) | rfl)
  try simp only [List.getElem_toArray, List.getElem_cons_zero, List.getElem_cons_succ, Act.put, List.setIfInBounds_toArray, List.set_cons_zero, List.set_cons_succ]
  refine wpAnyH_take (i := 2) (v := ?_) rfl (by as_aux_lemma => kernel_rfl) (by as_aux_lemma => kernel_rfl) (by as_aux_lemma => kernel_rfl) (fun _ _ _ h => h) (Or.inl ⟨by rfl, ?_⟩) hHeld0 ?_
  rotate_left
  · intro w hSw
    (try dsimp only at hSw)
    go_simp
    try (first | (with_reducible rfl) | rfl)
  try simp only [List.getElem_toArray, List.getElem_cons_zero, List.getElem_cons_succ, Act.put, List.setIfInBounds_toArray, List.set_cons_zero, List.set_cons_succ]
  refine wpAnyH_take (i := 3) (v := ?_) rfl (by as_aux_lemma => kernel_rfl) (by as_aux_lemma => kernel_rfl) (by as_aux_lemma => kernel_rfl) (fun _ _ _ h => h) (Or.inl ⟨by rfl, ?_⟩) hHeld0 ?_
  rotate_left
  · intro w hSw
    (try dsimp only at hSw)
    go_simp
    try (first | (with_reducible rfl) | rfl)
  try simp only [List.getElem_toArray, List.getElem_cons_zero, List.getElem_cons_succ, Act.put, List.setIfInBounds_toArray, List.set_cons_zero, List.set_cons_succ]
  refine wpAnyH_take (i := 4) (v := ?_) rfl (by as_aux_lemma => kernel_rfl) (by as_aux_lemma => kernel_rfl) (by as_aux_lemma => kernel_rfl) (fun _ _ _ h => h) (Or.inl ⟨by rfl, ?_⟩) hHeld0 ?_
  rotate_left
  · intro w hSw
    (try dsimp only at hSw)
    go_simp
    try (first | (with_reducible rfl) | rfl)
  try simp only [List.getElem_toArray, List.getElem_cons_zero, List.getElem_cons_succ, Act.put, List.setIfInBounds_toArray, List.set_cons_zero, List.set_cons_succ]
  refine wpAnyH_take (i := 5) (v := ?_) rfl (by as_aux_lemma => kernel_rfl) (by as_aux_lemma => kernel_rfl) (by as_aux_lemma => kernel_rfl) (fun _ _ _ h => h) (Or.inl ⟨by rfl, ?_⟩) hHeld0 ?_
  rotate_left
  · intro w hSw
    (try dsimp only at hSw)
    go_simp
    try (first | (with_reducible rfl) | rfl)
  try simp only [List.getElem_toArray, List.getElem_cons_zero, List.getElem_cons_succ, Act.put, List.setIfInBounds_toArray, List.set_cons_zero, List.set_cons_succ]
  refine wpAnyH_take (i := 6) (v := ?_) rfl (by as_aux_lemma => kernel_rfl) (by as_aux_lemma => kernel_rfl) (by as_aux_lemma => kernel_rfl) (fun _ _ _ h => h) (Or.inl ⟨by rfl, ?_⟩) hHeld0 ?_
  rotate_left
  · intro w hSw
    (try dsimp only at hSw)
    go_simp
    try (first | (with_reducible rfl) | rfl)
  try simp only [List.getElem_toArray, List.getElem_cons_zero, List.getElem_cons_succ, Act.put, List.setIfInBounds_toArray, List.set_cons_zero, List.set_cons_succ]
  refine wpAnyH_take (i := 7) (v := ?_) rfl (by as_aux_lemma => kernel_rfl) (by as_aux_lemma => kernel_rfl) (by as_aux_lemma => kernel_rfl) (fun _ _ _ h => h) (Or.inl ⟨by rfl, ?_⟩) hHeld0 ?_
  rotate_left
  · intro w hSw
    (try dsimp only at hSw)
    go_simp
    try (first | (with_reducible rfl) | rfl)
  try simp only [List.getElem_toArray, List.getElem_cons_zero, List.getElem_cons_succ, Act.put, List.setIfInBounds_toArray, List.set_cons_zero, List.set_cons_succ]
  refine wpAnyH_take (i := 8) (v := ?_) rfl (by as_aux_lemma => kernel_rfl) (by as_aux_lemma => kernel_rfl) (by as_aux_lemma => kernel_rfl) (fun _ _ _ h => h) (Or.inl ⟨by rfl, ?_⟩) hHeld0 ?_
  rotate_left
  · intro w hSw
    (try dsimp only at hSw)
    go_simp
    try (first | (with_reducible rfl) | rfl)
  try simp only [List.getElem_toArray, List.getElem_cons_zero, List.getElem_cons_succ, Act.put, List.setIfInBounds_toArray, List.set_cons_zero, List.set_cons_succ]
  refine wpAnyH_take (i := 9) (v := ?_) rfl (by as_aux_lemma => kernel_rfl) (by as_aux_lemma => kernel_rfl) (by as_aux_lemma => kernel_rfl) (fun _ _ _ h => h) (Or.inl ⟨by rfl, ?_⟩) hHeld0 ?_
  rotate_left
  · intro w hSw
    (try dsimp only at hSw)
    go_simp
    try (first | (with_reducible rfl) | rfl)
  try simp only [List.getElem_toArray, List.getElem_cons_zero, List.getElem_cons_succ, Act.put, List.setIfInBounds_toArray, List.set_cons_zero, List.set_cons_succ]
  refine wpAnyH_take (i := 10) (v := ?_) rfl (by as_aux_lemma => kernel_rfl) (by as_aux_lemma => kernel_rfl) (by as_aux_lemma => kernel_rfl) (fun _ _ _ h => h) (Or.inl ⟨by rfl, ?_⟩) hHeld0 ?_
  rotate_left
  · intro w hSw
    (try dsimp only at hSw)
    go_simp
    try (first | (with_reducible rfl) | rfl)
  try simp only [List.getElem_toArray, List.getElem_cons_zero, List.getElem_cons_succ, Act.put, List.setIfInBounds_toArray, List.set_cons_zero, List.set_cons_succ]
  refine wpAnyH_take (i := 11) (v := ?_) rfl (by as_aux_lemma => kernel_rfl) (by as_aux_lemma => kernel_rfl) (by as_aux_lemma => kernel_rfl) (fun _ _ _ h => h) (Or.inl ⟨by rfl, ?_⟩) hHeld0 ?_
  rotate_left
  · intro w hSw
    (try dsimp only at hSw)
    go_simp
    try (first | (with_reducible rfl) | rfl)
  try simp only [List.getElem_toArray, List.getElem_cons_zero, List.getElem_cons_succ, Act.put, List.setIfInBounds_toArray, List.set_cons_zero, List.set_cons_succ]
  refine wpAnyH_take (i := 12) (v := ?_) rfl (by as_aux_lemma => kernel_rfl) (by as_aux_lemma => kernel_rfl) (by as_aux_lemma => kernel_rfl) (fun _ _ _ h => h) (Or.inl ⟨by rfl, ?_⟩) hHeld0 ?_
  rotate_left
  · intro w hSw
    (try dsimp only at hSw)
    go_simp
    try (first | (with_reducible rfl) | rfl)
  try simp only [List.getElem_toArray, List.getElem_cons_zero, List.getElem_cons_succ, Act.put, List.setIfInBounds_toArray, List.set_cons_zero, List.set_cons_succ]
  refine wpAnyH_take (i := 13) (v := ?_) rfl (by as_aux_lemma => kernel_rfl) (by as_aux_lemma => kernel_rfl) (by as_aux_lemma => kernel_rfl) (fun _ _ _ h => h) (Or.inl ⟨by rfl, ?_⟩) hHeld0 ?_
  rotate_left
  · intro w hSw
    (try dsimp only at hSw)
    go_simp
    try (first | (with_reducible rfl) | rfl)
  try simp only [List.getElem_toArray, List.getElem_cons_zero, List.getElem_cons_succ, Act.put, List.setIfInBounds_toArray, List.set_cons_zero, List.set_cons_succ]
  refine wpAnyH_ready (rs := [14]) (by as_aux_lemma => kernel_rfl) (by simp) ?_
  refine AllReadyH.cons rfl (fun K hK => ?_) ?_
  · go_simp
    (go_at_call 42; refine (store_st H.out.drew a y z HY.out ha hk z0 z1).mono ?_; rintro e wn ⟨rfl, h⟩; (have HN1 := Lib.hid h); clear h)
    go_wp2_with fail
    refine hK.out _ _ ?_ (fun hHeld14_14 => ?_)
    · first | exact HS.out _ _ _ HN1.out | exact HS.out _ _ _ H.out.drew
    clear hK K
    try simp only [List.getElem_toArray, List.getElem_cons_zero, List.getElem_cons_succ, Act.put, List.setIfInBounds_toArray, List.set_cons_zero, List.set_cons_succ]
    refine wpAnyH_done (by as_aux_lemma => kernel_rfl) ?_ _
    obtain ⟨c0, c1, c2, c3, c4, c5, f3, f4, f5, lx⟩ := cells6s (HN1.out.cells 1 rfl)
    go_wp2
    have h5 := (HN1.out.setAt 1 rfl 3 (.bool false)).setAt 1 rfl 5 (.int .i64 (d + 1))
    generalize (wn.setCell ⟨x, 3, none⟩ (.bool false)).setCell ⟨x, 5, none⟩ (.int .i64 (d + 1)) = W at *
    have H5 := Lib.hid h5
    clear c0 c1 c2 c3 c4 c5 f3 f4 f5 lx
    obtain ⟨c0, c1, c2, c3, c4, c5, f3, f4, f5, lx⟩ := cells6s (h5.cells 1 rfl)
    clear h5
    go_quiet (fail)
    go_wp2
    go_ret2
    exact ⟨rfl, H5.out.drewN nq⟩
  exact AllReadyH.nil
set_option maxHeartbeats 8000000 in
theorem ad_end {ws : List Int} {ns : List Note} (a : Nat) (m b y w1 z d : Int) (h : St w0 (memA q ws ns :: adA x ⟨a, m, b, true, w1, d⟩ :: L) w) (ha : a < ws.length) (hy : rdW ws a = y) (hz : (w1 + b) % 18446744073709551616 = z) (d0 : 0 ≤ d) (d1 : d ≤ 1000000) (hd : m ≤ d + 1) (hk : ns.length ≤ 1000000000000) :
    Calls Try.prog 40 #[.pointer (some ⟨x, 0, none⟩), .pointer (some ⟨q, 0, none⟩), .pointer (some ⟨r, 0, none⟩)] w fun e w' => e = .returned (.tuple #[.int .i64 1, .int .u64 z]) ∧ St w0 (memA q (ws.set a z) (ns ++ [stN a y z]) :: adA x ⟨a, m, b, false, w1, d + 1⟩ :: L) w' := by
  have H := Lib.hid h
  have HY := Lib.hid hy
  have z0 : 0 ≤ z := by omega
  have z1 : z < 18446744073709551616 := by omega
  have hz2 : IntKind.u64.wrap (w1 + b) = z := by rw [IntKind.wrap_u64]; exact hz
  have g0 : decide (d + 1 < m) = false := decide_eq_false (by omega)
  obtain ⟨c0, c1, c2, c3, c4, c5, f3, f4, f5, lx⟩ := cells6s (h.cells 1 rfl)
  clear h hy
  go_enter Try.func40, Try.ntmps40
  go_wp2
  have HS : Hid (∀ ws2 ns2 w', St w0 (memA q ws2 ns2 :: adA x ⟨a, m, b, true, w1, d⟩ :: L) w' → w'.cell? ⟨x, 0, none⟩ = some (.int .i64 a) ∧ w'.cell? ⟨x, 2, none⟩ = some (.int .u64 b) ∧ w'.cell? ⟨x, 4, none⟩ = some (.int .u64 w1)) := Lib.hid fun ws2 ns2 w' h => by
    obtain ⟨c0, c1, c2, c3, c4, c5, _⟩ := cells6s (h.cells 1 rfl)
    exact ⟨c0, c2, c4⟩
  clear c0 c1 c2 c3 c4 c5 f3 f4 f5 lx
  refine wp_region_held_drew (S := (fun w' => w'.cell? ⟨x, 0, none⟩ = some (.int .i64 a) ∧ w'.cell? ⟨x, 2, none⟩ = some (.int .u64 b) ∧ w'.cell? ⟨x, 4, none⟩ = some (.int .u64 w1))) (by as_aux_lemma => kernel_rfl) ?_ (fun hHeld0 => ?_)
  · first | exact HS.out _ _ _ HN1.out | exact HS.out _ _ _ H.out.drew
  refine wpAnyH_take (i := 0) (v := ?_) rfl (by as_aux_lemma => kernel_rfl) (by as_aux_lemma => kernel_rfl) (by as_aux_lemma => kernel_rfl) (fun _ _ _ h => h) (Or.inl ⟨by rfl, ?_⟩) hHeld0 ?_
  rotate_left
  · intro w hSw
    (try dsimp only at hSw)
    go_simp
    try (first | (with_reducible rfl) | rfl)
  try simp only [List.getElem_toArray, List.getElem_cons_zero, List.getElem_cons_succ, Act.put, List.setIfInBounds_toArray, List.set_cons_zero, List.set_cons_succ]
  refine wpAnyH_take (i := 1) (v := ?_) rfl (by as_aux_lemma => kernel_rfl) (by as_aux_lemma => kernel_rfl) (by as_aux_lemma => kernel_rfl) (fun _ _ _ h => h) (Or.inl ⟨by rfl, ?_⟩) hHeld0 ?_
  rotate_left
  · intro w hSw
    (try dsimp only at hSw)
    go_simp
    try (first | (with_reducible rfl) | rfl)
  try simp only [List.getElem_toArray, List.getElem_cons_zero, List.getElem_cons_succ, Act.put, List.setIfInBounds_toArray, List.set_cons_zero, List.set_cons_succ]
  refine wpAnyH_take (i := 2) (v := ?_) rfl (by as_aux_lemma => kernel_rfl) (by as_aux_lemma => kernel_rfl) (by as_aux_lemma => kernel_rfl) (fun _ _ _ h => h) (Or.inl ⟨by rfl, ?_⟩) hHeld0 ?_
  rotate_left
  · intro w hSw
    (try dsimp only at hSw)
    go_simp
    try (first | (with_reducible rfl) | rfl)
  try simp only [List.getElem_toArray, List.getElem_cons_zero, List.getElem_cons_succ, Act.put, List.setIfInBounds_toArray, List.set_cons_zero, List.set_cons_succ]
  refine wpAnyH_take (i := 3) (v := ?_) rfl (by as_aux_lemma => kernel_rfl) (by as_aux_lemma => kernel_rfl) (by as_aux_lemma => kernel_rfl) (fun _ _ _ h => h) (Or.inl ⟨by rfl, ?_⟩) hHeld0 ?_
  rotate_left
  · intro w hSw
    (try dsimp only at hSw)
    go_simp
    try (first | (with_reducible rfl) | rfl)
  try simp only [List.getElem_toArray, List.getElem_cons_zero, List.getElem_cons_succ, Act.put, List.setIfInBounds_toArray, List.set_cons_zero, List.set_cons_succ]
  refine wpAnyH_take (i := 4) (v := ?_) rfl (by as_aux_lemma => kernel_rfl) (by as_aux_lemma => kernel_rfl) (by as_aux_lemma => kernel_rfl) (fun _ _ _ h => h) (Or.inl ⟨by rfl, ?_⟩) hHeld0 ?_
  rotate_left
  · intro w hSw
    (try dsimp only at hSw)
    go_simp
    try (first | (with_reducible rfl) | rfl)
  try simp only [List.getElem_toArray, List.getElem_cons_zero, List.getElem_cons_succ, Act.put, List.setIfInBounds_toArray, List.set_cons_zero, List.set_cons_succ]
  refine wpAnyH_take (i := 5) (v := ?_) rfl (by as_aux_lemma => kernel_rfl) (by as_aux_lemma => kernel_rfl) (by as_aux_lemma => kernel_rfl) (fun _ _ _ h => h) (Or.inl ⟨by rfl, ?_⟩) hHeld0 ?_
  rotate_left
  · intro w hSw
    (try dsimp only at hSw)
    go_simp
    try (first | (with_reducible rfl) | rfl)
  try simp only [List.getElem_toArray, List.getElem_cons_zero, List.getElem_cons_succ, Act.put, List.setIfInBounds_toArray, List.set_cons_zero, List.set_cons_succ]
  refine wpAnyH_take (i := 6) (v := ?_) rfl (by as_aux_lemma => kernel_rfl) (by as_aux_lemma => kernel_rfl) (by as_aux_lemma => kernel_rfl) (fun _ _ _ h => h) (Or.inl ⟨by rfl, ?_⟩) hHeld0 ?_
  rotate_left
  · intro w hSw
    (try dsimp only at hSw)
    go_simp
    try (first | (with_reducible rfl) | rfl)
  try simp only [List.getElem_toArray, List.getElem_cons_zero, List.getElem_cons_succ, Act.put, List.setIfInBounds_toArray, List.set_cons_zero, List.set_cons_succ]
  refine wpAnyH_take (i := 7) (v := ?_) rfl (by as_aux_lemma => kernel_rfl) (by as_aux_lemma => kernel_rfl) (by as_aux_lemma => kernel_rfl) (fun _ _ _ h => h) (Or.inl ⟨by rfl, ?_⟩) hHeld0 ?_
  rotate_left
  · intro w hSw
    (try dsimp only at hSw)
    go_simp
    try (first | (with_reducible rfl) | rfl)
  try simp only [List.getElem_toArray, List.getElem_cons_zero, List.getElem_cons_succ, Act.put, List.setIfInBounds_toArray, List.set_cons_zero, List.set_cons_succ]
  refine wpAnyH_take (i := 8) (v := ?_) rfl (by as_aux_lemma => kernel_rfl) (by as_aux_lemma => kernel_rfl) (by as_aux_lemma => kernel_rfl) (fun _ _ _ h => h) (Or.inl ⟨by rfl, ?_⟩) hHeld0 ?_
  rotate_left
  · intro w hSw
    (try dsimp only at hSw)
    go_simp
    try (first | (with_reducible rfl) | rfl)
  try simp only [List.getElem_toArray, List.getElem_cons_zero, List.getElem_cons_succ, Act.put, List.setIfInBounds_toArray, List.set_cons_zero, List.set_cons_succ]
  refine wpAnyH_take (i := 9) (v := ?_) rfl (by as_aux_lemma => kernel_rfl) (by as_aux_lemma => kernel_rfl) (by as_aux_lemma => kernel_rfl) (fun _ _ _ h => h) (Or.inl ⟨by rfl, ?_⟩) hHeld0 ?_
  rotate_left
  · intro w hSw
    (try dsimp only at hSw)
    go_simp
    try (first | (with_reducible rfl) | rfl)
  try simp only [List.getElem_toArray, List.getElem_cons_zero, List.getElem_cons_succ, Act.put, List.setIfInBounds_toArray, List.set_cons_zero, List.set_cons_succ]
  refine wpAnyH_take (i := 10) (v := ?_) rfl (by as_aux_lemma => kernel_rfl) (by as_aux_lemma => kernel_rfl) (by as_aux_lemma => kernel_rfl) (fun _ _ _ h => h) (Or.inl ⟨by rfl, ?_⟩) hHeld0 ?_
  rotate_left
  · intro w hSw
    (try dsimp only at hSw)
    go_simp
    try (first | (with_reducible rfl) | rfl)
  try simp only [List.getElem_toArray, List.getElem_cons_zero, List.getElem_cons_succ, Act.put, List.setIfInBounds_toArray, List.set_cons_zero, List.set_cons_succ]
  refine wpAnyH_take (i := 11) (v := ?_) rfl (by as_aux_lemma => kernel_rfl) (by as_aux_lemma => kernel_rfl) (by as_aux_lemma => kernel_rfl) (fun _ _ _ h => h) (Or.inl ⟨by rfl, ?_⟩) hHeld0 ?_
  rotate_left
  · intro w hSw
    (try dsimp only at hSw)
    go_simp
    try (first | (with_reducible rfl) | rfl)
  try simp only [List.getElem_toArray, List.getElem_cons_zero, List.getElem_cons_succ, Act.put, List.setIfInBounds_toArray, List.set_cons_zero, List.set_cons_succ]
  refine wpAnyH_take (i := 12) (v := ?_) rfl (by as_aux_lemma => kernel_rfl) (by as_aux_lemma => kernel_rfl) (by as_aux_lemma => kernel_rfl) (fun _ _ _ h => h) (Or.inl ⟨by rfl, ?_⟩) hHeld0 ?_
  rotate_left
  · intro w hSw
    (try dsimp only at hSw)
    go_simp
    try (first | (with_reducible rfl) | rfl)
  try simp only [List.getElem_toArray, List.getElem_cons_zero, List.getElem_cons_succ, Act.put, List.setIfInBounds_toArray, List.set_cons_zero, List.set_cons_succ]
  refine wpAnyH_take (i := 13) (v := ?_) rfl (by as_aux_lemma => kernel_rfl) (by as_aux_lemma => kernel_rfl) (by as_aux_lemma => kernel_rfl) (fun _ _ _ h => h) (Or.inl ⟨by rfl, ?_⟩) hHeld0 ?_
  rotate_left
  · intro w hSw
    (try dsimp only at hSw)
    go_simp
    try (first | (with_reducible rfl) | rfl)
  try simp only [List.getElem_toArray, List.getElem_cons_zero, List.getElem_cons_succ, Act.put, List.setIfInBounds_toArray, List.set_cons_zero, List.set_cons_succ]
  refine wpAnyH_ready (rs := [14]) (by as_aux_lemma => kernel_rfl) (by simp) ?_
  refine AllReadyH.cons rfl (fun K hK => ?_) ?_
  · go_simp
    (go_at_call 42; refine (store_st H.out.drew a y z HY.out ha hk z0 z1).mono ?_; rintro e wn ⟨rfl, h⟩; (have HN1 := Lib.hid h); clear h)
    go_wp2_with fail
    refine hK.out _ _ ?_ (fun hHeld14_14 => ?_)
    · first | exact HS.out _ _ _ HN1.out | exact HS.out _ _ _ H.out.drew
    clear hK K
    try simp only [List.getElem_toArray, List.getElem_cons_zero, List.getElem_cons_succ, Act.put, List.setIfInBounds_toArray, List.set_cons_zero, List.set_cons_succ]
    refine wpAnyH_done (by as_aux_lemma => kernel_rfl) ?_ _
    obtain ⟨c0, c1, c2, c3, c4, c5, f3, f4, f5, lx⟩ := cells6s (HN1.out.cells 1 rfl)
    go_wp2
    have h5 := (HN1.out.setAt 1 rfl 3 (.bool false)).setAt 1 rfl 5 (.int .i64 (d + 1))
    generalize (wn.setCell ⟨x, 3, none⟩ (.bool false)).setCell ⟨x, 5, none⟩ (.int .i64 (d + 1)) = W at *
    have H5 := Lib.hid h5
    clear c0 c1 c2 c3 c4 c5 f3 f4 f5 lx
    obtain ⟨c0, c1, c2, c3, c4, c5, f3, f4, f5, lx⟩ := cells6s (h5.cells 1 rfl)
    clear h5
    go_quiet (fail)
    go_wp2
    go_quiet (fail)
    go_wp2
    go_ret2
    exact ⟨rfl, (H5.out.drewN _).drewN nq⟩
  exact AllReadyH.nil
set_option maxHeartbeats 8000000 in
theorem sl_go (s m v : Int) (h : St w0 (slA x ⟨s, m, v⟩ :: L) w) (d0 : 0 ≤ s) (d1 : s ≤ 1000000) (hd : s + 1 < m) :
    Calls Try.prog 44 #[.pointer (some ⟨x, 0, none⟩), .pointer (some ⟨q, 0, none⟩), .pointer (some ⟨r, 0, none⟩)] w fun e w' => e = .returned (.tuple #[.int .i64 0, .int .u64 0]) ∧ St w0 (slA x ⟨s + 1, m, v⟩ :: L) w' := by
  have g0 : decide (s + 1 < m) = true := decide_eq_true hd
  obtain ⟨c0, c1, c2, f0, lx⟩ := cells3s (h.cells 0 rfl)
  have h5 := h.setAt 0 rfl 0 (.int .i64 (s + 1))
  go_enter Try.func44, Try.ntmps44
  go_wp2
  generalize w.setCell ⟨x, 0, none⟩ (.int .i64 (s + 1)) = W at *
  have H5 := Lib.hid h5
  clear c0 c1 c2 f0 lx h
  obtain ⟨c0, c1, c2, f0, lx⟩ := cells3s (h5.cells 0 rfl)
  clear h5
  go_quiet (fail)
  go_wp2

  go_ret2
  exact ⟨rfl, H5.out.drewN nq⟩
set_option maxHeartbeats 8000000 in
theorem sl_end (s m v : Int) (h : St w0 (slA x ⟨s, m, v⟩ :: L) w) (d0 : 0 ≤ s) (d1 : s ≤ 1000000) (hd : m ≤ s + 1) :
    Calls Try.prog 44 #[.pointer (some ⟨x, 0, none⟩), .pointer (some ⟨q, 0, none⟩), .pointer (some ⟨r, 0, none⟩)] w fun e w' => e = .returned (.tuple #[.int .i64 1, .int .u64 v]) ∧ St w0 (slA x ⟨s + 1, m, v⟩ :: L) w' := by
  have g0 : decide (s + 1 < m) = false := decide_eq_false (by omega)
  obtain ⟨c0, c1, c2, f0, lx⟩ := cells3s (h.cells 0 rfl)
  have h5 := h.setAt 0 rfl 0 (.int .i64 (s + 1))
  go_enter Try.func44, Try.ntmps44
  go_wp2
  generalize w.setCell ⟨x, 0, none⟩ (.int .i64 (s + 1)) = W at *
  have H5 := Lib.hid h5
  clear c0 c1 c2 f0 lx h
  obtain ⟨c0, c1, c2, f0, lx⟩ := cells3s (h5.cells 0 rfl)
  clear h5
  go_quiet (fail)
  go_wp2
  go_quiet (fail)
  go_wp2
  go_ret2
  exact ⟨rfl, (H5.out.drewN _).drewN nq⟩
set_option maxRecDepth 100000 in
set_option maxHeartbeats 8000000 in
theorem pick_ad_load {ws : List Int} {ns : List Note} (t : Nat) (a : Nat) (m b y w1 d : Int) (h : St w0 (schB p q r g n k :: thR g n ts :: adA x ⟨a, m, b, false, w1, d⟩ :: memA q ws ns :: L) w) (ht : t < n) (hx : ts[t]? = some (adV x)) (k0 : 0 ≤ k) (k1 : k ≤ 1000000) (ha : a < ws.length) (HY : Hid (rdW ws a = y)) (hk : ns.length ≤ 1000000000000) :
    Calls Try.prog 10 #[.pointer (some ⟨p, 0, none⟩), .int .i64 t] w fun e w' => e = .returned (.tuple #[.int .i64 0, .int .u64 0, .int .i64 0]) ∧ St w0 (schB p q r g n (k + 1) :: thR g n ts :: adA x ⟨a, m, b, true, y, d⟩ :: memA q ws (ns ++ [ldN a y]) :: L) w' := by
  have H := Lib.hid h
  obtain ⟨c0, c1, c2, c3, f3⟩ := cells4s (h.cells 0 rfl)
  obtain ⟨e0, f0⟩ := h.at_ 1 rfl t hx
  have t0 : (0 : Int) ≤ (t : Int) := by omega
  have t1 : (t : Int) < (n : Int) := by omega
  have h5 := h.setAt 0 rfl 3 (.int .i64 (k + 1))
  clear h
  have hm : ∀ (fuel : Nat) (w : World), (method (fuel + 1) 30 (.pointer (some ⟨x, 0, none⟩)) "Step").run Try.prog w = .ok (40, .pointer (some ⟨x, 0, none⟩)) w := fun _ _ => by kernel_rfl
  go_enter Try.func10, Try.ntmps10
  go_wp2_with (first | (go_at_call 13; refine (busy_yes H.out t ht _ _ hx).mono ?_; rintro e w2 ⟨rfl, rfl⟩) | (go_at_call 21; refine (there_yes H.out t ht).mono ?_; rintro e w1 ⟨rfl, rfl⟩))
  generalize w.setCell ⟨p, 3, none⟩ (.int .i64 (k + 1)) = W at *
  have H5 : Hid (St w0 (schB p q r g n (k + 1) :: thR g n ts :: adA x ⟨a, m, b, false, w1, d⟩ :: memA q ws ns :: L) W) := Lib.hid h5
  have HS : Hid (∀ X w', St w0 (schB p q r g n (k + 1) :: thR g n ts :: X) w' → w'.cell? ⟨p, 0, none⟩ = some (.pointer (some ⟨q, 0, none⟩)) ∧ w'.cell? ⟨p, 1, none⟩ = some (.pointer (some ⟨r, 0, none⟩)) ∧ w'.cell? ⟨p, 2, none⟩ = some (.slice (some ⟨g, 0, none⟩) n n) ∧ w'.cell? ⟨g, t, none⟩ = some (.iface 30 (.pointer (some ⟨x, 0, none⟩)))) := Lib.hid fun X w' h => by
    obtain ⟨a0, a1, a2, a3, _⟩ := cells4s (h.cells 0 rfl)
    exact ⟨a0, a1, a2, (h.at_ 1 rfl t hx).1⟩
  clear c0 c1 c2 c3 f3 e0 f0 h5
  refine wp_region_held_drew (S := (fun w' => w'.cell? ⟨p, 0, none⟩ = some (.pointer (some ⟨q, 0, none⟩)) ∧ w'.cell? ⟨p, 1, none⟩ = some (.pointer (some ⟨r, 0, none⟩)) ∧ w'.cell? ⟨p, 2, none⟩ = some (.slice (some ⟨g, 0, none⟩) n n) ∧ w'.cell? ⟨g, t, none⟩ = some (.iface 30 (.pointer (some ⟨x, 0, none⟩))))) (by as_aux_lemma => kernel_rfl) ?_ (fun hHeld0 => ?_)
  · first | exact HS.out _ _ H6.out | exact HS.out _ _ H5.out.drew
  refine wpAnyH_take (i := 0) (v := ?_) rfl (by as_aux_lemma => kernel_rfl) (by as_aux_lemma => kernel_rfl) (by as_aux_lemma => kernel_rfl) (fun _ _ _ h => h) (Or.inl ⟨by rfl, ?_⟩) hHeld0 ?_
  rotate_left
  · intro w hSw
    (try dsimp only at hSw)
    go_simp
    try (first | (with_reducible rfl) | rfl)
  try simp only [List.getElem_toArray, List.getElem_cons_zero, List.getElem_cons_succ, Act.put, List.setIfInBounds_toArray, List.set_cons_zero, List.set_cons_succ]
  refine wpAnyH_take (i := 1) (v := ?_) rfl (by as_aux_lemma => kernel_rfl) (by as_aux_lemma => kernel_rfl) (by as_aux_lemma => kernel_rfl) (fun _ _ _ h => h) (Or.inl ⟨by rfl, ?_⟩) hHeld0 ?_
  rotate_left
  · intro w hSw
    (try dsimp only at hSw)
    go_simp
    try (first | (with_reducible rfl) | rfl)
  try simp only [List.getElem_toArray, List.getElem_cons_zero, List.getElem_cons_succ, Act.put, List.setIfInBounds_toArray, List.set_cons_zero, List.set_cons_succ]
  refine wpAnyH_take (i := 2) (v := ?_) rfl (by as_aux_lemma => kernel_rfl) (by as_aux_lemma => kernel_rfl) (by as_aux_lemma => kernel_rfl) (fun _ _ _ h => h) (Or.inl ⟨by rfl, ?_⟩) hHeld0 ?_
  rotate_left
  · intro w hSw
    (try dsimp only at hSw)
    go_simp
    try (first | (with_reducible rfl) | rfl)
  try simp only [List.getElem_toArray, List.getElem_cons_zero, List.getElem_cons_succ, Act.put, List.setIfInBounds_toArray, List.set_cons_zero, List.set_cons_succ]
  refine wpAnyH_take (i := 3) (v := ?_) rfl (by as_aux_lemma => kernel_rfl) (by as_aux_lemma => kernel_rfl) (by as_aux_lemma => kernel_rfl) (fun _ _ _ h => h) (Or.inl ⟨by rfl, ?_⟩) hHeld0 ?_
  rotate_left
  · intro w hSw
    (try dsimp only at hSw)
    go_simp
    try (first | (with_reducible rfl) | rfl)
  try simp only [List.getElem_toArray, List.getElem_cons_zero, List.getElem_cons_succ, Act.put, List.setIfInBounds_toArray, List.set_cons_zero, List.set_cons_succ]
  refine wpAnyH_take (i := 4) (v := ?_) rfl (by as_aux_lemma => kernel_rfl) (by as_aux_lemma => kernel_rfl) (by as_aux_lemma => kernel_rfl) (fun _ _ _ h => h) (Or.inl ⟨by rfl, ?_⟩) hHeld0 ?_
  rotate_left
  · intro w hSw
    (try dsimp only at hSw)
    go_simp
    try (first | (with_reducible rfl) | rfl)
  try simp only [List.getElem_toArray, List.getElem_cons_zero, List.getElem_cons_succ, Act.put, List.setIfInBounds_toArray, List.set_cons_zero, List.set_cons_succ]
  refine wpAnyH_take (i := 5) (v := ?_) rfl (by as_aux_lemma => kernel_rfl) (by as_aux_lemma => kernel_rfl) (by as_aux_lemma => kernel_rfl) (fun _ _ _ h => h) (Or.inl ⟨by rfl, ?_⟩) hHeld0 ?_
  rotate_left
  · intro w hSw
    (try dsimp only at hSw)
    go_simp
    try (first | (with_reducible rfl) | rfl)
  try simp only [List.getElem_toArray, List.getElem_cons_zero, List.getElem_cons_succ, Act.put, List.setIfInBounds_toArray, List.set_cons_zero, List.set_cons_succ]
  refine wpAnyH_take (i := 6) (v := ?_) rfl (by as_aux_lemma => kernel_rfl) (by as_aux_lemma => kernel_rfl) (by as_aux_lemma => kernel_rfl) (fun _ _ _ h => h) (Or.inl ⟨by rfl, ?_⟩) hHeld0 ?_
  rotate_left
  · intro w hSw
    (try dsimp only at hSw)
    go_simp
    try (first | (with_reducible rfl) | rfl)
  try simp only [List.getElem_toArray, List.getElem_cons_zero, List.getElem_cons_succ, Act.put, List.setIfInBounds_toArray, List.set_cons_zero, List.set_cons_succ]
  refine wpAnyH_take (i := 7) (v := ?_) rfl (by as_aux_lemma => kernel_rfl) (by as_aux_lemma => kernel_rfl) (by as_aux_lemma => kernel_rfl) (fun _ _ _ h => h) (Or.inl ⟨by rfl, ?_⟩) hHeld0 ?_
  rotate_left
  · intro w hSw
    (try dsimp only at hSw)
    go_simp
    try (first | (with_reducible rfl) | rfl)
  try simp only [List.getElem_toArray, List.getElem_cons_zero, List.getElem_cons_succ, Act.put, List.setIfInBounds_toArray, List.set_cons_zero, List.set_cons_succ]
  refine wpAnyH_take (i := 8) (v := ?_) rfl (by as_aux_lemma => kernel_rfl) (by as_aux_lemma => kernel_rfl) (by as_aux_lemma => kernel_rfl) (fun _ _ _ h => h) (Or.inl ⟨by rfl, ?_⟩) hHeld0 ?_
  rotate_left
  · intro w hSw
    (try dsimp only at hSw)
    go_simp
    try (first | (with_reducible rfl) | rfl)
  try simp only [List.getElem_toArray, List.getElem_cons_zero, List.getElem_cons_succ, Act.put, List.setIfInBounds_toArray, List.set_cons_zero, List.set_cons_succ]
  refine wpAnyH_take (i := 9) (v := ?_) rfl (by as_aux_lemma => kernel_rfl) (by as_aux_lemma => kernel_rfl) (by as_aux_lemma => kernel_rfl) (fun _ _ _ h => h) (Or.inl ⟨by rfl, ?_⟩) hHeld0 ?_
  rotate_left
  · intro w hSw
    (try dsimp only at hSw)
    go_simp
    try (first | (with_reducible rfl) | rfl)
  try simp only [List.getElem_toArray, List.getElem_cons_zero, List.getElem_cons_succ, Act.put, List.setIfInBounds_toArray, List.set_cons_zero, List.set_cons_succ]
  refine wpAnyH_take (i := 10) (v := ?_) rfl (by as_aux_lemma => kernel_rfl) (by as_aux_lemma => kernel_rfl) (by as_aux_lemma => kernel_rfl) (fun _ _ _ h => h) (Or.inl ⟨by rfl, ?_⟩) hHeld0 ?_
  rotate_left
  · intro w hSw
    (try dsimp only at hSw)
    go_simp
    try (first | (with_reducible rfl) | rfl)
  try simp only [List.getElem_toArray, List.getElem_cons_zero, List.getElem_cons_succ, Act.put, List.setIfInBounds_toArray, List.set_cons_zero, List.set_cons_succ]
  refine wpAnyH_take (i := 11) (v := ?_) rfl (by as_aux_lemma => kernel_rfl) (by as_aux_lemma => kernel_rfl) (by as_aux_lemma => kernel_rfl) (fun _ _ _ h => h) (Or.inl ⟨by rfl, ?_⟩) hHeld0 ?_
  rotate_left
  · intro w hSw
    (try dsimp only at hSw)
    go_simp
    try (first | (with_reducible rfl) | rfl)
  try simp only [List.getElem_toArray, List.getElem_cons_zero, List.getElem_cons_succ, Act.put, List.setIfInBounds_toArray, List.set_cons_zero, List.set_cons_succ]
  refine wpAnyH_take (i := 12) (v := ?_) rfl (by as_aux_lemma => kernel_rfl) (by as_aux_lemma => kernel_rfl) (by as_aux_lemma => kernel_rfl) (fun _ _ _ h => h) (Or.inl ⟨by rfl, ?_⟩) hHeld0 ?_
  rotate_left
  · intro w hSw
    (try dsimp only at hSw)
    go_simp
    try (first | (with_reducible rfl) | rfl)
  try simp only [List.getElem_toArray, List.getElem_cons_zero, List.getElem_cons_succ, Act.put, List.setIfInBounds_toArray, List.set_cons_zero, List.set_cons_succ]
  refine wpAnyH_take (i := 13) (v := ?_) rfl (by as_aux_lemma => kernel_rfl) (by as_aux_lemma => kernel_rfl) (by as_aux_lemma => kernel_rfl) (fun _ _ _ h => h) (Or.inl ⟨by rfl, ?_⟩) hHeld0 ?_
  rotate_left
  · intro w hSw
    (try dsimp only at hSw)
    go_simp
    try (first | (with_reducible rfl) | rfl)
  try simp only [List.getElem_toArray, List.getElem_cons_zero, List.getElem_cons_succ, Act.put, List.setIfInBounds_toArray, List.set_cons_zero, List.set_cons_succ]
  refine wpAnyH_take (i := 14) (v := ?_) rfl (by as_aux_lemma => kernel_rfl) (by as_aux_lemma => kernel_rfl) (by as_aux_lemma => kernel_rfl) (fun _ _ _ h => h) (Or.inl ⟨by rfl, ?_⟩) hHeld0 ?_
  rotate_left
  · intro w hSw
    (try dsimp only at hSw)
    go_simp
    try (first | (with_reducible rfl) | rfl)
  try simp only [List.getElem_toArray, List.getElem_cons_zero, List.getElem_cons_succ, Act.put, List.setIfInBounds_toArray, List.set_cons_zero, List.set_cons_succ]
  refine wpAnyH_take (i := 15) (v := ?_) rfl (by as_aux_lemma => kernel_rfl) (by as_aux_lemma => kernel_rfl) (by as_aux_lemma => kernel_rfl) (fun _ _ _ h => h) (Or.inl ⟨by rfl, ?_⟩) hHeld0 ?_
  rotate_left
  · intro w hSw
    (try dsimp only at hSw)
    go_simp
    try (first | (with_reducible rfl) | rfl)
  try simp only [List.getElem_toArray, List.getElem_cons_zero, List.getElem_cons_succ, Act.put, List.setIfInBounds_toArray, List.set_cons_zero, List.set_cons_succ]
  refine wpAnyH_take (i := 16) (v := ?_) rfl (by as_aux_lemma => kernel_rfl) (by as_aux_lemma => kernel_rfl) (by as_aux_lemma => kernel_rfl) (fun _ _ _ h => h) (Or.inl ⟨by rfl, ?_⟩) hHeld0 ?_
  rotate_left
  · intro w hSw
    (try dsimp only at hSw)
    go_simp
    try (first | (with_reducible rfl) | rfl)
  try simp only [List.getElem_toArray, List.getElem_cons_zero, List.getElem_cons_succ, Act.put, List.setIfInBounds_toArray, List.set_cons_zero, List.set_cons_succ]
  refine wpAnyH_ready (rs := [17]) (by as_aux_lemma => kernel_rfl) (by simp) ?_
  refine AllReadyH.cons rfl (fun K hK => ?_) ?_
  · go_simp
    go_at_call 40; refine (ad_load a m b y w1 d (show St w0 (memA q ws ns :: adA x ⟨a, m, b, false, w1, d⟩ :: schB p q r g n (k + 1) :: thR g n ts :: L) _ from H5.out.drew.re 4 [3, 2, 0, 1]) ha HY.out hk).mono ?_; rintro e wn ⟨rfl, h⟩; (have H6 := Lib.hid (show St w0 (schB p q r g n (k + 1) :: thR g n ts :: adA x ⟨a, m, b, true, y, d⟩ :: memA q ws (ns ++ [ldN a y]) :: L) wn from h.re 4 [2, 3, 1, 0])); clear h
    go_wp2_with fail
    refine hK.out _ _ ?_ (fun hHeld17_17 => ?_)
    · first | exact HS.out _ _ H6.out | exact HS.out _ _ H5.out.drew
    clear hK K
    try simp only [List.getElem_toArray, List.getElem_cons_zero, List.getElem_cons_succ, Act.put, List.setIfInBounds_toArray, List.set_cons_zero, List.set_cons_succ]
    refine wpAnyH_take (i := 18) (v := ?_) rfl (by as_aux_lemma => kernel_rfl) (by as_aux_lemma => kernel_rfl) (by as_aux_lemma => kernel_rfl) (fun _ _ _ h => h) (Or.inl ⟨by rfl, ?_⟩) hHeld17_17 ?_
    rotate_left
    · intro w hSw
      (try dsimp only at hSw)
      go_simp
      try (first | (with_reducible rfl) | rfl)
    try simp only [List.getElem_toArray, List.getElem_cons_zero, List.getElem_cons_succ, Act.put, List.setIfInBounds_toArray, List.set_cons_zero, List.set_cons_succ]
    refine wpAnyH_take (i := 19) (v := ?_) rfl (by as_aux_lemma => kernel_rfl) (by as_aux_lemma => kernel_rfl) (by as_aux_lemma => kernel_rfl) (fun _ _ _ h => h) (Or.inl ⟨by rfl, ?_⟩) hHeld17_17 ?_
    rotate_left
    · intro w hSw
      (try dsimp only at hSw)
      go_simp
      try (first | (with_reducible rfl) | rfl)
    try simp only [List.getElem_toArray, List.getElem_cons_zero, List.getElem_cons_succ, Act.put, List.setIfInBounds_toArray, List.set_cons_zero, List.set_cons_succ]
    refine wpAnyH_take (i := 20) (v := ?_) rfl (by as_aux_lemma => kernel_rfl) (by as_aux_lemma => kernel_rfl) (by as_aux_lemma => kernel_rfl) (fun _ _ _ h => h) (Or.inl ⟨by rfl, ?_⟩) hHeld17_17 ?_
    rotate_left
    · intro w hSw
      (try dsimp only at hSw)
      go_simp
      try (first | (with_reducible rfl) | rfl)
    try simp only [List.getElem_toArray, List.getElem_cons_zero, List.getElem_cons_succ, Act.put, List.setIfInBounds_toArray, List.set_cons_zero, List.set_cons_succ]
    refine wpAnyH_take (i := 21) (v := ?_) rfl (by as_aux_lemma => kernel_rfl) (by as_aux_lemma => kernel_rfl) (by as_aux_lemma => kernel_rfl) (fun _ _ _ h => h) (Or.inl ⟨by rfl, ?_⟩) hHeld17_17 ?_
    rotate_left
    · intro w hSw
      (try dsimp only at hSw)
      go_simp
      try (first | (with_reducible rfl) | rfl)
    try simp only [List.getElem_toArray, List.getElem_cons_zero, List.getElem_cons_succ, Act.put, List.setIfInBounds_toArray, List.set_cons_zero, List.set_cons_succ]
    refine wpAnyH_take (i := 22) (v := ?_) rfl (by as_aux_lemma => kernel_rfl) (by as_aux_lemma => kernel_rfl) (by as_aux_lemma => kernel_rfl) (fun _ _ _ h => h) (Or.inl ⟨by rfl, ?_⟩) hHeld17_17 ?_
    rotate_left
    · intro w hSw
      (try dsimp only at hSw)
      go_simp
      try (first | (with_reducible rfl) | rfl)
    try simp only [List.getElem_toArray, List.getElem_cons_zero, List.getElem_cons_succ, Act.put, List.setIfInBounds_toArray, List.set_cons_zero, List.set_cons_succ]
    refine wpAnyH_done (by as_aux_lemma => kernel_rfl) ?_ _
    obtain ⟨c0, c1, c2, c3, f3⟩ := cells4s (H6.out.cells 0 rfl)
    obtain ⟨e0, f0⟩ := H6.out.at_ 1 rfl t hx
    go_wp2
    go_returns
    exact ⟨rfl, H6.out⟩
  exact AllReadyH.nil
set_option maxRecDepth 100000 in
set_option maxHeartbeats 8000000 in
theorem pick_ad_go {ws : List Int} {ns : List Note} (t : Nat) (a : Nat) (m b y w1 z d : Int) (h : St w0 (schB p q r g n k :: thR g n ts :: adA x ⟨a, m, b, true, w1, d⟩ :: memA q ws ns :: L) w) (ht : t < n) (hx : ts[t]? = some (adV x)) (k0 : 0 ≤ k) (k1 : k ≤ 1000000) (ha : a < ws.length) (HY : Hid (rdW ws a = y)) (HZ : Hid ((w1 + b) % 18446744073709551616 = z)) (d0 : 0 ≤ d) (d1 : d ≤ 1000000) (hd : d + 1 < m) (hk : ns.length ≤ 1000000000000) :
    Calls Try.prog 10 #[.pointer (some ⟨p, 0, none⟩), .int .i64 t] w fun e w' => e = .returned (.tuple #[.int .i64 0, .int .u64 0, .int .i64 0]) ∧ St w0 (schB p q r g n (k + 1) :: thR g n ts :: adA x ⟨a, m, b, false, w1, d + 1⟩ :: memA q (ws.set a z) (ns ++ [stN a y z]) :: L) w' := by
  have H := Lib.hid h
  obtain ⟨c0, c1, c2, c3, f3⟩ := cells4s (h.cells 0 rfl)
  obtain ⟨e0, f0⟩ := h.at_ 1 rfl t hx
  have t0 : (0 : Int) ≤ (t : Int) := by omega
  have t1 : (t : Int) < (n : Int) := by omega
  have h5 := h.setAt 0 rfl 3 (.int .i64 (k + 1))
  clear h
  have hm : ∀ (fuel : Nat) (w : World), (method (fuel + 1) 30 (.pointer (some ⟨x, 0, none⟩)) "Step").run Try.prog w = .ok (40, .pointer (some ⟨x, 0, none⟩)) w := fun _ _ => by kernel_rfl
  go_enter Try.func10, Try.ntmps10
  go_wp2_with (first | (go_at_call 13; refine (busy_yes H.out t ht _ _ hx).mono ?_; rintro e w2 ⟨rfl, rfl⟩) | (go_at_call 21; refine (there_yes H.out t ht).mono ?_; rintro e w1 ⟨rfl, rfl⟩))
  generalize w.setCell ⟨p, 3, none⟩ (.int .i64 (k + 1)) = W at *
  have H5 : Hid (St w0 (schB p q r g n (k + 1) :: thR g n ts :: adA x ⟨a, m, b, true, w1, d⟩ :: memA q ws ns :: L) W) := Lib.hid h5
  have HS : Hid (∀ X w', St w0 (schB p q r g n (k + 1) :: thR g n ts :: X) w' → w'.cell? ⟨p, 0, none⟩ = some (.pointer (some ⟨q, 0, none⟩)) ∧ w'.cell? ⟨p, 1, none⟩ = some (.pointer (some ⟨r, 0, none⟩)) ∧ w'.cell? ⟨p, 2, none⟩ = some (.slice (some ⟨g, 0, none⟩) n n) ∧ w'.cell? ⟨g, t, none⟩ = some (.iface 30 (.pointer (some ⟨x, 0, none⟩)))) := Lib.hid fun X w' h => by
    obtain ⟨a0, a1, a2, a3, _⟩ := cells4s (h.cells 0 rfl)
    exact ⟨a0, a1, a2, (h.at_ 1 rfl t hx).1⟩
  clear c0 c1 c2 c3 f3 e0 f0 h5
  refine wp_region_held_drew (S := (fun w' => w'.cell? ⟨p, 0, none⟩ = some (.pointer (some ⟨q, 0, none⟩)) ∧ w'.cell? ⟨p, 1, none⟩ = some (.pointer (some ⟨r, 0, none⟩)) ∧ w'.cell? ⟨p, 2, none⟩ = some (.slice (some ⟨g, 0, none⟩) n n) ∧ w'.cell? ⟨g, t, none⟩ = some (.iface 30 (.pointer (some ⟨x, 0, none⟩))))) (by as_aux_lemma => kernel_rfl) ?_ (fun hHeld0 => ?_)
  · first | exact HS.out _ _ H6.out | exact HS.out _ _ H5.out.drew
  refine wpAnyH_take (i := 0) (v := ?_) rfl (by as_aux_lemma => kernel_rfl) (by as_aux_lemma => kernel_rfl) (by as_aux_lemma => kernel_rfl) (fun _ _ _ h => h) (Or.inl ⟨by rfl, ?_⟩) hHeld0 ?_
  rotate_left
  · intro w hSw
    (try dsimp only at hSw)
    go_simp
    try (first | (with_reducible rfl) | rfl)
  try simp only [List.getElem_toArray, List.getElem_cons_zero, List.getElem_cons_succ, Act.put, List.setIfInBounds_toArray, List.set_cons_zero, List.set_cons_succ]
  refine wpAnyH_take (i := 1) (v := ?_) rfl (by as_aux_lemma => kernel_rfl) (by as_aux_lemma => kernel_rfl) (by as_aux_lemma => kernel_rfl) (fun _ _ _ h => h) (Or.inl ⟨by rfl, ?_⟩) hHeld0 ?_
  rotate_left
  · intro w hSw
    (try dsimp only at hSw)
    go_simp
    try (first | (with_reducible rfl) | rfl)
  try simp only [List.getElem_toArray, List.getElem_cons_zero, List.getElem_cons_succ, Act.put, List.setIfInBounds_toArray, List.set_cons_zero, List.set_cons_succ]
  refine wpAnyH_take (i := 2) (v := ?_) rfl (by as_aux_lemma => kernel_rfl) (by as_aux_lemma => kernel_rfl) (by as_aux_lemma => kernel_rfl) (fun _ _ _ h => h) (Or.inl ⟨by rfl, ?_⟩) hHeld0 ?_
  rotate_left
  · intro w hSw
    (try dsimp only at hSw)
    go_simp
    try (first | (with_reducible rfl) | rfl)
  try simp only [List.getElem_toArray, List.getElem_cons_zero, List.getElem_cons_succ, Act.put, List.setIfInBounds_toArray, List.set_cons_zero, List.set_cons_succ]
  refine wpAnyH_take (i := 3) (v := ?_) rfl (by as_aux_lemma => kernel_rfl) (by as_aux_lemma => kernel_rfl) (by as_aux_lemma => kernel_rfl) (fun _ _ _ h => h) (Or.inl ⟨by rfl, ?_⟩) hHeld0 ?_
  rotate_left
  · intro w hSw
    (try dsimp only at hSw)
    go_simp
    try (first | (with_reducible rfl) | rfl)
  try simp only [List.getElem_toArray, List.getElem_cons_zero, List.getElem_cons_succ, Act.put, List.setIfInBounds_toArray, List.set_cons_zero, List.set_cons_succ]
  refine wpAnyH_take (i := 4) (v := ?_) rfl (by as_aux_lemma => kernel_rfl) (by as_aux_lemma => kernel_rfl) (by as_aux_lemma => kernel_rfl) (fun _ _ _ h => h) (Or.inl ⟨by rfl, ?_⟩) hHeld0 ?_
  rotate_left
  · intro w hSw
    (try dsimp only at hSw)
    go_simp
    try (first | (with_reducible rfl) | rfl)
  try simp only [List.getElem_toArray, List.getElem_cons_zero, List.getElem_cons_succ, Act.put, List.setIfInBounds_toArray, List.set_cons_zero, List.set_cons_succ]
  refine wpAnyH_take (i := 5) (v := ?_) rfl (by as_aux_lemma => kernel_rfl) (by as_aux_lemma => kernel_rfl) (by as_aux_lemma => kernel_rfl) (fun _ _ _ h => h) (Or.inl ⟨by rfl, ?_⟩) hHeld0 ?_
  rotate_left
  · intro w hSw
    (try dsimp only at hSw)
    go_simp
    try (first | (with_reducible rfl) | rfl)
  try simp only [List.getElem_toArray, List.getElem_cons_zero, List.getElem_cons_succ, Act.put, List.setIfInBounds_toArray, List.set_cons_zero, List.set_cons_succ]
  refine wpAnyH_take (i := 6) (v := ?_) rfl (by as_aux_lemma => kernel_rfl) (by as_aux_lemma => kernel_rfl) (by as_aux_lemma => kernel_rfl) (fun _ _ _ h => h) (Or.inl ⟨by rfl, ?_⟩) hHeld0 ?_
  rotate_left
  · intro w hSw
    (try dsimp only at hSw)
    go_simp
    try (first | (with_reducible rfl) | rfl)
  try simp only [List.getElem_toArray, List.getElem_cons_zero, List.getElem_cons_succ, Act.put, List.setIfInBounds_toArray, List.set_cons_zero, List.set_cons_succ]
  refine wpAnyH_take (i := 7) (v := ?_) rfl (by as_aux_lemma => kernel_rfl) (by as_aux_lemma => kernel_rfl) (by as_aux_lemma => kernel_rfl) (fun _ _ _ h => h) (Or.inl ⟨by rfl, ?_⟩) hHeld0 ?_
  rotate_left
  · intro w hSw
    (try dsimp only at hSw)
    go_simp
    try (first | (with_reducible rfl) | rfl)
  try simp only [List.getElem_toArray, List.getElem_cons_zero, List.getElem_cons_succ, Act.put, List.setIfInBounds_toArray, List.set_cons_zero, List.set_cons_succ]
  refine wpAnyH_take (i := 8) (v := ?_) rfl (by as_aux_lemma => kernel_rfl) (by as_aux_lemma => kernel_rfl) (by as_aux_lemma => kernel_rfl) (fun _ _ _ h => h) (Or.inl ⟨by rfl, ?_⟩) hHeld0 ?_
  rotate_left
  · intro w hSw
    (try dsimp only at hSw)
    go_simp
    try (first | (with_reducible rfl) | rfl)
  try simp only [List.getElem_toArray, List.getElem_cons_zero, List.getElem_cons_succ, Act.put, List.setIfInBounds_toArray, List.set_cons_zero, List.set_cons_succ]
  refine wpAnyH_take (i := 9) (v := ?_) rfl (by as_aux_lemma => kernel_rfl) (by as_aux_lemma => kernel_rfl) (by as_aux_lemma => kernel_rfl) (fun _ _ _ h => h) (Or.inl ⟨by rfl, ?_⟩) hHeld0 ?_
  rotate_left
  · intro w hSw
    (try dsimp only at hSw)
    go_simp
    try (first | (with_reducible rfl) | rfl)
  try simp only [List.getElem_toArray, List.getElem_cons_zero, List.getElem_cons_succ, Act.put, List.setIfInBounds_toArray, List.set_cons_zero, List.set_cons_succ]
  refine wpAnyH_take (i := 10) (v := ?_) rfl (by as_aux_lemma => kernel_rfl) (by as_aux_lemma => kernel_rfl) (by as_aux_lemma => kernel_rfl) (fun _ _ _ h => h) (Or.inl ⟨by rfl, ?_⟩) hHeld0 ?_
  rotate_left
  · intro w hSw
    (try dsimp only at hSw)
    go_simp
    try (first | (with_reducible rfl) | rfl)
  try simp only [List.getElem_toArray, List.getElem_cons_zero, List.getElem_cons_succ, Act.put, List.setIfInBounds_toArray, List.set_cons_zero, List.set_cons_succ]
  refine wpAnyH_take (i := 11) (v := ?_) rfl (by as_aux_lemma => kernel_rfl) (by as_aux_lemma => kernel_rfl) (by as_aux_lemma => kernel_rfl) (fun _ _ _ h => h) (Or.inl ⟨by rfl, ?_⟩) hHeld0 ?_
  rotate_left
  · intro w hSw
    (try dsimp only at hSw)
    go_simp
    try (first | (with_reducible rfl) | rfl)
  try simp only [List.getElem_toArray, List.getElem_cons_zero, List.getElem_cons_succ, Act.put, List.setIfInBounds_toArray, List.set_cons_zero, List.set_cons_succ]
  refine wpAnyH_take (i := 12) (v := ?_) rfl (by as_aux_lemma => kernel_rfl) (by as_aux_lemma => kernel_rfl) (by as_aux_lemma => kernel_rfl) (fun _ _ _ h => h) (Or.inl ⟨by rfl, ?_⟩) hHeld0 ?_
  rotate_left
  · intro w hSw
    (try dsimp only at hSw)
    go_simp
    try (first | (with_reducible rfl) | rfl)
  try simp only [List.getElem_toArray, List.getElem_cons_zero, List.getElem_cons_succ, Act.put, List.setIfInBounds_toArray, List.set_cons_zero, List.set_cons_succ]
  refine wpAnyH_take (i := 13) (v := ?_) rfl (by as_aux_lemma => kernel_rfl) (by as_aux_lemma => kernel_rfl) (by as_aux_lemma => kernel_rfl) (fun _ _ _ h => h) (Or.inl ⟨by rfl, ?_⟩) hHeld0 ?_
  rotate_left
  · intro w hSw
    (try dsimp only at hSw)
    go_simp
    try (first | (with_reducible rfl) | rfl)
  try simp only [List.getElem_toArray, List.getElem_cons_zero, List.getElem_cons_succ, Act.put, List.setIfInBounds_toArray, List.set_cons_zero, List.set_cons_succ]
  refine wpAnyH_take (i := 14) (v := ?_) rfl (by as_aux_lemma => kernel_rfl) (by as_aux_lemma => kernel_rfl) (by as_aux_lemma => kernel_rfl) (fun _ _ _ h => h) (Or.inl ⟨by rfl, ?_⟩) hHeld0 ?_
  rotate_left
  · intro w hSw
    (try dsimp only at hSw)
    go_simp
    try (first | (with_reducible rfl) | rfl)
  try simp only [List.getElem_toArray, List.getElem_cons_zero, List.getElem_cons_succ, Act.put, List.setIfInBounds_toArray, List.set_cons_zero, List.set_cons_succ]
  refine wpAnyH_take (i := 15) (v := ?_) rfl (by as_aux_lemma => kernel_rfl) (by as_aux_lemma => kernel_rfl) (by as_aux_lemma => kernel_rfl) (fun _ _ _ h => h) (Or.inl ⟨by rfl, ?_⟩) hHeld0 ?_
  rotate_left
  · intro w hSw
    (try dsimp only at hSw)
    go_simp
    try (first | (with_reducible rfl) | rfl)
  try simp only [List.getElem_toArray, List.getElem_cons_zero, List.getElem_cons_succ, Act.put, List.setIfInBounds_toArray, List.set_cons_zero, List.set_cons_succ]
  refine wpAnyH_take (i := 16) (v := ?_) rfl (by as_aux_lemma => kernel_rfl) (by as_aux_lemma => kernel_rfl) (by as_aux_lemma => kernel_rfl) (fun _ _ _ h => h) (Or.inl ⟨by rfl, ?_⟩) hHeld0 ?_
  rotate_left
  · intro w hSw
    (try dsimp only at hSw)
    go_simp
    try (first | (with_reducible rfl) | rfl)
  try simp only [List.getElem_toArray, List.getElem_cons_zero, List.getElem_cons_succ, Act.put, List.setIfInBounds_toArray, List.set_cons_zero, List.set_cons_succ]
  refine wpAnyH_ready (rs := [17]) (by as_aux_lemma => kernel_rfl) (by simp) ?_
  refine AllReadyH.cons rfl (fun K hK => ?_) ?_
  · go_simp
    go_at_call 40; refine (ad_go a m b y w1 z d (show St w0 (memA q ws ns :: adA x ⟨a, m, b, true, w1, d⟩ :: schB p q r g n (k + 1) :: thR g n ts :: L) _ from H5.out.drew.re 4 [3, 2, 0, 1]) ha HY.out HZ.out d0 d1 hd hk).mono ?_; rintro e wn ⟨rfl, h⟩; (have H6 := Lib.hid (show St w0 (schB p q r g n (k + 1) :: thR g n ts :: adA x ⟨a, m, b, false, w1, d + 1⟩ :: memA q (ws.set a z) (ns ++ [stN a y z]) :: L) wn from h.re 4 [2, 3, 1, 0])); clear h
    go_wp2_with fail
    refine hK.out _ _ ?_ (fun hHeld17_17 => ?_)
    · first | exact HS.out _ _ H6.out | exact HS.out _ _ H5.out.drew
    clear hK K
    try simp only [List.getElem_toArray, List.getElem_cons_zero, List.getElem_cons_succ, Act.put, List.setIfInBounds_toArray, List.set_cons_zero, List.set_cons_succ]
    refine wpAnyH_take (i := 18) (v := ?_) rfl (by as_aux_lemma => kernel_rfl) (by as_aux_lemma => kernel_rfl) (by as_aux_lemma => kernel_rfl) (fun _ _ _ h => h) (Or.inl ⟨by rfl, ?_⟩) hHeld17_17 ?_
    rotate_left
    · intro w hSw
      (try dsimp only at hSw)
      go_simp
      try (first | (with_reducible rfl) | rfl)
    try simp only [List.getElem_toArray, List.getElem_cons_zero, List.getElem_cons_succ, Act.put, List.setIfInBounds_toArray, List.set_cons_zero, List.set_cons_succ]
    refine wpAnyH_take (i := 19) (v := ?_) rfl (by as_aux_lemma => kernel_rfl) (by as_aux_lemma => kernel_rfl) (by as_aux_lemma => kernel_rfl) (fun _ _ _ h => h) (Or.inl ⟨by rfl, ?_⟩) hHeld17_17 ?_
    rotate_left
    · intro w hSw
      (try dsimp only at hSw)
      go_simp
      try (first | (with_reducible rfl) | rfl)
    try simp only [List.getElem_toArray, List.getElem_cons_zero, List.getElem_cons_succ, Act.put, List.setIfInBounds_toArray, List.set_cons_zero, List.set_cons_succ]
    refine wpAnyH_take (i := 20) (v := ?_) rfl (by as_aux_lemma => kernel_rfl) (by as_aux_lemma => kernel_rfl) (by as_aux_lemma => kernel_rfl) (fun _ _ _ h => h) (Or.inl ⟨by rfl, ?_⟩) hHeld17_17 ?_
    rotate_left
    · intro w hSw
      (try dsimp only at hSw)
      go_simp
      try (first | (with_reducible rfl) | rfl)
    try simp only [List.getElem_toArray, List.getElem_cons_zero, List.getElem_cons_succ, Act.put, List.setIfInBounds_toArray, List.set_cons_zero, List.set_cons_succ]
    refine wpAnyH_take (i := 21) (v := ?_) rfl (by as_aux_lemma => kernel_rfl) (by as_aux_lemma => kernel_rfl) (by as_aux_lemma => kernel_rfl) (fun _ _ _ h => h) (Or.inl ⟨by rfl, ?_⟩) hHeld17_17 ?_
    rotate_left
    · intro w hSw
      (try dsimp only at hSw)
      go_simp
      try (first | (with_reducible rfl) | rfl)
    try simp only [List.getElem_toArray, List.getElem_cons_zero, List.getElem_cons_succ, Act.put, List.setIfInBounds_toArray, List.set_cons_zero, List.set_cons_succ]
    refine wpAnyH_take (i := 22) (v := ?_) rfl (by as_aux_lemma => kernel_rfl) (by as_aux_lemma => kernel_rfl) (by as_aux_lemma => kernel_rfl) (fun _ _ _ h => h) (Or.inl ⟨by rfl, ?_⟩) hHeld17_17 ?_
    rotate_left
    · intro w hSw
      (try dsimp only at hSw)
      go_simp
      try (first | (with_reducible rfl) | rfl)
    try simp only [List.getElem_toArray, List.getElem_cons_zero, List.getElem_cons_succ, Act.put, List.setIfInBounds_toArray, List.set_cons_zero, List.set_cons_succ]
    refine wpAnyH_done (by as_aux_lemma => kernel_rfl) ?_ _
    obtain ⟨c0, c1, c2, c3, f3⟩ := cells4s (H6.out.cells 0 rfl)
    obtain ⟨e0, f0⟩ := H6.out.at_ 1 rfl t hx
    go_wp2
    go_returns
    exact ⟨rfl, H6.out⟩
  exact AllReadyH.nil
set_option maxRecDepth 100000 in
set_option maxHeartbeats 8000000 in
theorem pick_ad_end {ws : List Int} {ns : List Note} (t : Nat) (a : Nat) (m b y w1 z d : Int) (h : St w0 (schB p q r g n k :: thR g n ts :: adA x ⟨a, m, b, true, w1, d⟩ :: memA q ws ns :: L) w) (ht : t < n) (hx : ts[t]? = some (adV x)) (k0 : 0 ≤ k) (k1 : k ≤ 1000000) (ha : a < ws.length) (HY : Hid (rdW ws a = y)) (HZ : Hid ((w1 + b) % 18446744073709551616 = z)) (d0 : 0 ≤ d) (d1 : d ≤ 1000000) (hd : m ≤ d + 1) (hk : ns.length ≤ 1000000000000) :
    Calls Try.prog 10 #[.pointer (some ⟨p, 0, none⟩), .int .i64 t] w fun e w' => e = .returned (.tuple #[.int .i64 1, .int .u64 z, .int .i64 0]) ∧ St w0 (schB p q r g n (k + 1) :: thR g n (ts.set t .nilIface) :: adA x ⟨a, m, b, false, w1, d + 1⟩ :: memA q (ws.set a z) (ns ++ [stN a y z]) :: L) w' := by
  have H := Lib.hid h
  obtain ⟨c0, c1, c2, c3, f3⟩ := cells4s (h.cells 0 rfl)
  obtain ⟨e0, f0⟩ := h.at_ 1 rfl t hx
  have t0 : (0 : Int) ≤ (t : Int) := by omega
  have t1 : (t : Int) < (n : Int) := by omega
  have h5 := h.setAt 0 rfl 3 (.int .i64 (k + 1))
  clear h
  have hm : ∀ (fuel : Nat) (w : World), (method (fuel + 1) 30 (.pointer (some ⟨x, 0, none⟩)) "Step").run Try.prog w = .ok (40, .pointer (some ⟨x, 0, none⟩)) w := fun _ _ => by kernel_rfl
  go_enter Try.func10, Try.ntmps10
  go_wp2_with (first | (go_at_call 13; refine (busy_yes H.out t ht _ _ hx).mono ?_; rintro e w2 ⟨rfl, rfl⟩) | (go_at_call 21; refine (there_yes H.out t ht).mono ?_; rintro e w1 ⟨rfl, rfl⟩))
  generalize w.setCell ⟨p, 3, none⟩ (.int .i64 (k + 1)) = W at *
  have H5 : Hid (St w0 (schB p q r g n (k + 1) :: thR g n ts :: adA x ⟨a, m, b, true, w1, d⟩ :: memA q ws ns :: L) W) := Lib.hid h5
  have HS : Hid (∀ X w', St w0 (schB p q r g n (k + 1) :: thR g n ts :: X) w' → w'.cell? ⟨p, 0, none⟩ = some (.pointer (some ⟨q, 0, none⟩)) ∧ w'.cell? ⟨p, 1, none⟩ = some (.pointer (some ⟨r, 0, none⟩)) ∧ w'.cell? ⟨p, 2, none⟩ = some (.slice (some ⟨g, 0, none⟩) n n) ∧ w'.cell? ⟨g, t, none⟩ = some (.iface 30 (.pointer (some ⟨x, 0, none⟩)))) := Lib.hid fun X w' h => by
    obtain ⟨a0, a1, a2, a3, _⟩ := cells4s (h.cells 0 rfl)
    exact ⟨a0, a1, a2, (h.at_ 1 rfl t hx).1⟩
  clear c0 c1 c2 c3 f3 e0 f0 h5
  refine wp_region_held_drew (S := (fun w' => w'.cell? ⟨p, 0, none⟩ = some (.pointer (some ⟨q, 0, none⟩)) ∧ w'.cell? ⟨p, 1, none⟩ = some (.pointer (some ⟨r, 0, none⟩)) ∧ w'.cell? ⟨p, 2, none⟩ = some (.slice (some ⟨g, 0, none⟩) n n) ∧ w'.cell? ⟨g, t, none⟩ = some (.iface 30 (.pointer (some ⟨x, 0, none⟩))))) (by as_aux_lemma => kernel_rfl) ?_ (fun hHeld0 => ?_)
  · first | exact HS.out _ _ H6.out | exact HS.out _ _ H5.out.drew
  refine wpAnyH_take (i := 0) (v := ?_) rfl (by as_aux_lemma => kernel_rfl) (by as_aux_lemma => kernel_rfl) (by as_aux_lemma => kernel_rfl) (fun _ _ _ h => h) (Or.inl ⟨by rfl, ?_⟩) hHeld0 ?_
  rotate_left
  · intro w hSw
    (try dsimp only at hSw)
    go_simp
    try (first | (with_reducible rfl) | rfl)
  try simp only [List.getElem_toArray, List.getElem_cons_zero, List.getElem_cons_succ, Act.put, List.setIfInBounds_toArray, List.set_cons_zero, List.set_cons_succ]
  refine wpAnyH_take (i := 1) (v := ?_) rfl (by as_aux_lemma => kernel_rfl) (by as_aux_lemma => kernel_rfl) (by as_aux_lemma => kernel_rfl) (fun _ _ _ h => h) (Or.inl ⟨by rfl, ?_⟩) hHeld0 ?_
  rotate_left
  · intro w hSw
    (try dsimp only at hSw)
    go_simp
    try (first | (with_reducible rfl) | rfl)
  try simp only [List.getElem_toArray, List.getElem_cons_zero, List.getElem_cons_succ, Act.put, List.setIfInBounds_toArray, List.set_cons_zero, List.set_cons_succ]
  refine wpAnyH_take (i := 2) (v := ?_) rfl (by as_aux_lemma => kernel_rfl) (by as_aux_lemma => kernel_rfl) (by as_aux_lemma => kernel_rfl) (fun _ _ _ h => h) (Or.inl ⟨by rfl, ?_⟩) hHeld0 ?_
  rotate_left
  · intro w hSw
    (try dsimp only at hSw)
    go_simp
    try (first | (with_reducible rfl) | rfl)
  try simp only [List.getElem_toArray, List.getElem_cons_zero, List.getElem_cons_succ, Act.put, List.setIfInBounds_toArray, List.set_cons_zero, List.set_cons_succ]
  refine wpAnyH_take (i := 3) (v := ?_) rfl (by as_aux_lemma => kernel_rfl) (by as_aux_lemma => kernel_rfl) (by as_aux_lemma => kernel_rfl) (fun _ _ _ h => h) (Or.inl ⟨by rfl, ?_⟩) hHeld0 ?_
  rotate_left
  · intro w hSw
    (try dsimp only at hSw)
    go_simp
    try (first | (with_reducible rfl) | rfl)
  try simp only [List.getElem_toArray, List.getElem_cons_zero, List.getElem_cons_succ, Act.put, List.setIfInBounds_toArray, List.set_cons_zero, List.set_cons_succ]
  refine wpAnyH_take (i := 4) (v := ?_) rfl (by as_aux_lemma => kernel_rfl) (by as_aux_lemma => kernel_rfl) (by as_aux_lemma => kernel_rfl) (fun _ _ _ h => h) (Or.inl ⟨by rfl, ?_⟩) hHeld0 ?_
  rotate_left
  · intro w hSw
    (try dsimp only at hSw)
    go_simp
    try (first | (with_reducible rfl) | rfl)
  try simp only [List.getElem_toArray, List.getElem_cons_zero, List.getElem_cons_succ, Act.put, List.setIfInBounds_toArray, List.set_cons_zero, List.set_cons_succ]
  refine wpAnyH_take (i := 5) (v := ?_) rfl (by as_aux_lemma => kernel_rfl) (by as_aux_lemma => kernel_rfl) (by as_aux_lemma => kernel_rfl) (fun _ _ _ h => h) (Or.inl ⟨by rfl, ?_⟩) hHeld0 ?_
  rotate_left
  · intro w hSw
    (try dsimp only at hSw)
    go_simp
    try (first | (with_reducible rfl) | rfl)
  try simp only [List.getElem_toArray, List.getElem_cons_zero, List.getElem_cons_succ, Act.put, List.setIfInBounds_toArray, List.set_cons_zero, List.set_cons_succ]
  refine wpAnyH_take (i := 6) (v := ?_) rfl (by as_aux_lemma => kernel_rfl) (by as_aux_lemma => kernel_rfl) (by as_aux_lemma => kernel_rfl) (fun _ _ _ h => h) (Or.inl ⟨by rfl, ?_⟩) hHeld0 ?_
  rotate_left
  · intro w hSw
    (try dsimp only at hSw)
    go_simp
    try (first | (with_reducible rfl) | rfl)
  try simp only [List.getElem_toArray, List.getElem_cons_zero, List.getElem_cons_succ, Act.put, List.setIfInBounds_toArray, List.set_cons_zero, List.set_cons_succ]
  refine wpAnyH_take (i := 7) (v := ?_) rfl (by as_aux_lemma => kernel_rfl) (by as_aux_lemma => kernel_rfl) (by as_aux_lemma => kernel_rfl) (fun _ _ _ h => h) (Or.inl ⟨by rfl, ?_⟩) hHeld0 ?_
  rotate_left
  · intro w hSw
    (try dsimp only at hSw)
    go_simp
    try (first | (with_reducible rfl) | rfl)
  try simp only [List.getElem_toArray, List.getElem_cons_zero, List.getElem_cons_succ, Act.put, List.setIfInBounds_toArray, List.set_cons_zero, List.set_cons_succ]
  refine wpAnyH_take (i := 8) (v := ?_) rfl (by as_aux_lemma => kernel_rfl) (by as_aux_lemma => kernel_rfl) (by as_aux_lemma => kernel_rfl) (fun _ _ _ h => h) (Or.inl ⟨by rfl, ?_⟩) hHeld0 ?_
  rotate_left
  · intro w hSw
    (try dsimp only at hSw)
    go_simp
    try (first | (with_reducible rfl) | rfl)
  try simp only [List.getElem_toArray, List.getElem_cons_zero, List.getElem_cons_succ, Act.put, List.setIfInBounds_toArray, List.set_cons_zero, List.set_cons_succ]
  refine wpAnyH_take (i := 9) (v := ?_) rfl (by as_aux_lemma => kernel_rfl) (by as_aux_lemma => kernel_rfl) (by as_aux_lemma => kernel_rfl) (fun _ _ _ h => h) (Or.inl ⟨by rfl, ?_⟩) hHeld0 ?_
  rotate_left
  · intro w hSw
    (try dsimp only at hSw)
    go_simp
    try (first | (with_reducible rfl) | rfl)
  try simp only [List.getElem_toArray, List.getElem_cons_zero, List.getElem_cons_succ, Act.put, List.setIfInBounds_toArray, List.set_cons_zero, List.set_cons_succ]
  refine wpAnyH_take (i := 10) (v := ?_) rfl (by as_aux_lemma => kernel_rfl) (by as_aux_lemma => kernel_rfl) (by as_aux_lemma => kernel_rfl) (fun _ _ _ h => h) (Or.inl ⟨by rfl, ?_⟩) hHeld0 ?_
  rotate_left
  · intro w hSw
    (try dsimp only at hSw)
    go_simp
    try (first | (with_reducible rfl) | rfl)
  try simp only [List.getElem_toArray, List.getElem_cons_zero, List.getElem_cons_succ, Act.put, List.setIfInBounds_toArray, List.set_cons_zero, List.set_cons_succ]
  refine wpAnyH_take (i := 11) (v := ?_) rfl (by as_aux_lemma => kernel_rfl) (by as_aux_lemma => kernel_rfl) (by as_aux_lemma => kernel_rfl) (fun _ _ _ h => h) (Or.inl ⟨by rfl, ?_⟩) hHeld0 ?_
  rotate_left
  · intro w hSw
    (try dsimp only at hSw)
    go_simp
    try (first | (with_reducible rfl) | rfl)
  try simp only [List.getElem_toArray, List.getElem_cons_zero, List.getElem_cons_succ, Act.put, List.setIfInBounds_toArray, List.set_cons_zero, List.set_cons_succ]
  refine wpAnyH_take (i := 12) (v := ?_) rfl (by as_aux_lemma => kernel_rfl) (by as_aux_lemma => kernel_rfl) (by as_aux_lemma => kernel_rfl) (fun _ _ _ h => h) (Or.inl ⟨by rfl, ?_⟩) hHeld0 ?_
  rotate_left
  · intro w hSw
    (try dsimp only at hSw)
    go_simp
    try (first | (with_reducible rfl) | rfl)
  try simp only [List.getElem_toArray, List.getElem_cons_zero, List.getElem_cons_succ, Act.put, List.setIfInBounds_toArray, List.set_cons_zero, List.set_cons_succ]
  refine wpAnyH_take (i := 13) (v := ?_) rfl (by as_aux_lemma => kernel_rfl) (by as_aux_lemma => kernel_rfl) (by as_aux_lemma => kernel_rfl) (fun _ _ _ h => h) (Or.inl ⟨by rfl, ?_⟩) hHeld0 ?_
  rotate_left
  · intro w hSw
    (try dsimp only at hSw)
    go_simp
    try (first | (with_reducible rfl) | rfl)
  try simp only [List.getElem_toArray, List.getElem_cons_zero, List.getElem_cons_succ, Act.put, List.setIfInBounds_toArray, List.set_cons_zero, List.set_cons_succ]
  refine wpAnyH_take (i := 14) (v := ?_) rfl (by as_aux_lemma => kernel_rfl) (by as_aux_lemma => kernel_rfl) (by as_aux_lemma => kernel_rfl) (fun _ _ _ h => h) (Or.inl ⟨by rfl, ?_⟩) hHeld0 ?_
  rotate_left
  · intro w hSw
    (try dsimp only at hSw)
    go_simp
    try (first | (with_reducible rfl) | rfl)
  try simp only [List.getElem_toArray, List.getElem_cons_zero, List.getElem_cons_succ, Act.put, List.setIfInBounds_toArray, List.set_cons_zero, List.set_cons_succ]
  refine wpAnyH_take (i := 15) (v := ?_) rfl (by as_aux_lemma => kernel_rfl) (by as_aux_lemma => kernel_rfl) (by as_aux_lemma => kernel_rfl) (fun _ _ _ h => h) (Or.inl ⟨by rfl, ?_⟩) hHeld0 ?_
  rotate_left
  · intro w hSw
    (try dsimp only at hSw)
    go_simp
    try (first | (with_reducible rfl) | rfl)
  try simp only [List.getElem_toArray, List.getElem_cons_zero, List.getElem_cons_succ, Act.put, List.setIfInBounds_toArray, List.set_cons_zero, List.set_cons_succ]
  refine wpAnyH_take (i := 16) (v := ?_) rfl (by as_aux_lemma => kernel_rfl) (by as_aux_lemma => kernel_rfl) (by as_aux_lemma => kernel_rfl) (fun _ _ _ h => h) (Or.inl ⟨by rfl, ?_⟩) hHeld0 ?_
  rotate_left
  · intro w hSw
    (try dsimp only at hSw)
    go_simp
    try (first | (with_reducible rfl) | rfl)
  try simp only [List.getElem_toArray, List.getElem_cons_zero, List.getElem_cons_succ, Act.put, List.setIfInBounds_toArray, List.set_cons_zero, List.set_cons_succ]
  refine wpAnyH_ready (rs := [17]) (by as_aux_lemma => kernel_rfl) (by simp) ?_
  refine AllReadyH.cons rfl (fun K hK => ?_) ?_
  · go_simp
    go_at_call 40; refine (ad_end a m b y w1 z d (show St w0 (memA q ws ns :: adA x ⟨a, m, b, true, w1, d⟩ :: schB p q r g n (k + 1) :: thR g n ts :: L) _ from H5.out.drew.re 4 [3, 2, 0, 1]) ha HY.out HZ.out d0 d1 hd hk).mono ?_; rintro e wn ⟨rfl, h⟩; (have H6 := Lib.hid (show St w0 (schB p q r g n (k + 1) :: thR g n ts :: adA x ⟨a, m, b, false, w1, d + 1⟩ :: memA q (ws.set a z) (ns ++ [stN a y z]) :: L) wn from h.re 4 [2, 3, 1, 0])); clear h
    go_wp2_with fail
    refine hK.out _ _ ?_ (fun hHeld17_17 => ?_)
    · first | exact HS.out _ _ H6.out | exact HS.out _ _ H5.out.drew
    clear hK K
    try simp only [List.getElem_toArray, List.getElem_cons_zero, List.getElem_cons_succ, Act.put, List.setIfInBounds_toArray, List.set_cons_zero, List.set_cons_succ]
    refine wpAnyH_take (i := 18) (v := ?_) rfl (by as_aux_lemma => kernel_rfl) (by as_aux_lemma => kernel_rfl) (by as_aux_lemma => kernel_rfl) (fun _ _ _ h => h) (Or.inl ⟨by rfl, ?_⟩) hHeld17_17 ?_
    rotate_left
    · intro w hSw
      (try dsimp only at hSw)
      go_simp
      try (first | (with_reducible rfl) | rfl)
    try simp only [List.getElem_toArray, List.getElem_cons_zero, List.getElem_cons_succ, Act.put, List.setIfInBounds_toArray, List.set_cons_zero, List.set_cons_succ]
    refine wpAnyH_take (i := 19) (v := ?_) rfl (by as_aux_lemma => kernel_rfl) (by as_aux_lemma => kernel_rfl) (by as_aux_lemma => kernel_rfl) (fun _ _ _ h => h) (Or.inl ⟨by rfl, ?_⟩) hHeld17_17 ?_
    rotate_left
    · intro w hSw
      (try dsimp only at hSw)
      go_simp
      try (first | (with_reducible rfl) | rfl)
    try simp only [List.getElem_toArray, List.getElem_cons_zero, List.getElem_cons_succ, Act.put, List.setIfInBounds_toArray, List.set_cons_zero, List.set_cons_succ]
    refine wpAnyH_take (i := 20) (v := ?_) rfl (by as_aux_lemma => kernel_rfl) (by as_aux_lemma => kernel_rfl) (by as_aux_lemma => kernel_rfl) (fun _ _ _ h => h) (Or.inl ⟨by rfl, ?_⟩) hHeld17_17 ?_
    rotate_left
    · intro w hSw
      (try dsimp only at hSw)
      go_simp
      try (first | (with_reducible rfl) | rfl)
    try simp only [List.getElem_toArray, List.getElem_cons_zero, List.getElem_cons_succ, Act.put, List.setIfInBounds_toArray, List.set_cons_zero, List.set_cons_succ]
    refine wpAnyH_take (i := 21) (v := ?_) rfl (by as_aux_lemma => kernel_rfl) (by as_aux_lemma => kernel_rfl) (by as_aux_lemma => kernel_rfl) (fun _ _ _ h => h) (Or.inl ⟨by rfl, ?_⟩) hHeld17_17 ?_
    rotate_left
    · intro w hSw
      (try dsimp only at hSw)
      go_simp
      try (first | (with_reducible rfl) | rfl)
    try simp only [List.getElem_toArray, List.getElem_cons_zero, List.getElem_cons_succ, Act.put, List.setIfInBounds_toArray, List.set_cons_zero, List.set_cons_succ]
    refine wpAnyH_take (i := 22) (v := ?_) rfl (by as_aux_lemma => kernel_rfl) (by as_aux_lemma => kernel_rfl) (by as_aux_lemma => kernel_rfl) (fun _ _ _ h => h) (Or.inl ⟨by rfl, ?_⟩) hHeld17_17 ?_
    rotate_left
    · intro w hSw
      (try dsimp only at hSw)
      go_simp
      try (first | (with_reducible rfl) | rfl)
    try simp only [List.getElem_toArray, List.getElem_cons_zero, List.getElem_cons_succ, Act.put, List.setIfInBounds_toArray, List.set_cons_zero, List.set_cons_succ]
    refine wpAnyH_done (by as_aux_lemma => kernel_rfl) ?_ _
    obtain ⟨c0, c1, c2, c3, f3⟩ := cells4s (H6.out.cells 0 rfl)
    obtain ⟨e0, f0⟩ := H6.out.at_ 1 rfl t hx
    go_wp2
    go_returns
    exact ⟨rfl, H6.out.rowSet 1 rfl t (by omega) _⟩
  exact AllReadyH.nil
set_option maxRecDepth 100000 in
set_option maxHeartbeats 8000000 in
theorem pick_sl_go (t : Nat) (s m v : Int) (h : St w0 (schB p q r g n k :: thR g n ts :: slA x ⟨s, m, v⟩ :: L) w) (ht : t < n) (hx : ts[t]? = some (slV x)) (k0 : 0 ≤ k) (k1 : k ≤ 1000000) (d0 : 0 ≤ s) (d1 : s ≤ 1000000) (hd : s + 1 < m) :
    Calls Try.prog 10 #[.pointer (some ⟨p, 0, none⟩), .int .i64 t] w fun e w' => e = .returned (.tuple #[.int .i64 0, .int .u64 0, .int .i64 0]) ∧ St w0 (schB p q r g n (k + 1) :: thR g n ts :: slA x ⟨s + 1, m, v⟩ :: L) w' := by
  have H := Lib.hid h
  obtain ⟨c0, c1, c2, c3, f3⟩ := cells4s (h.cells 0 rfl)
  obtain ⟨e0, f0⟩ := h.at_ 1 rfl t hx
  have t0 : (0 : Int) ≤ (t : Int) := by omega
  have t1 : (t : Int) < (n : Int) := by omega
  have h5 := h.setAt 0 rfl 3 (.int .i64 (k + 1))
  clear h
  have hm : ∀ (fuel : Nat) (w : World), (method (fuel + 1) 44 (.pointer (some ⟨x, 0, none⟩)) "Step").run Try.prog w = .ok (44, .pointer (some ⟨x, 0, none⟩)) w := fun _ _ => by kernel_rfl
  go_enter Try.func10, Try.ntmps10
  go_wp2_with (first | (go_at_call 13; refine (busy_yes H.out t ht _ _ hx).mono ?_; rintro e w2 ⟨rfl, rfl⟩) | (go_at_call 21; refine (there_yes H.out t ht).mono ?_; rintro e w1 ⟨rfl, rfl⟩))
  generalize w.setCell ⟨p, 3, none⟩ (.int .i64 (k + 1)) = W at *
  have H5 : Hid (St w0 (schB p q r g n (k + 1) :: thR g n ts :: slA x ⟨s, m, v⟩ :: L) W) := Lib.hid h5
  have HS : Hid (∀ X w', St w0 (schB p q r g n (k + 1) :: thR g n ts :: X) w' → w'.cell? ⟨p, 0, none⟩ = some (.pointer (some ⟨q, 0, none⟩)) ∧ w'.cell? ⟨p, 1, none⟩ = some (.pointer (some ⟨r, 0, none⟩)) ∧ w'.cell? ⟨p, 2, none⟩ = some (.slice (some ⟨g, 0, none⟩) n n) ∧ w'.cell? ⟨g, t, none⟩ = some (.iface 44 (.pointer (some ⟨x, 0, none⟩)))) := Lib.hid fun X w' h => by
    obtain ⟨a0, a1, a2, a3, _⟩ := cells4s (h.cells 0 rfl)
    exact ⟨a0, a1, a2, (h.at_ 1 rfl t hx).1⟩
  clear c0 c1 c2 c3 f3 e0 f0 h5
  refine wp_region_held_drew (S := (fun w' => w'.cell? ⟨p, 0, none⟩ = some (.pointer (some ⟨q, 0, none⟩)) ∧ w'.cell? ⟨p, 1, none⟩ = some (.pointer (some ⟨r, 0, none⟩)) ∧ w'.cell? ⟨p, 2, none⟩ = some (.slice (some ⟨g, 0, none⟩) n n) ∧ w'.cell? ⟨g, t, none⟩ = some (.iface 44 (.pointer (some ⟨x, 0, none⟩))))) (by as_aux_lemma => kernel_rfl) ?_ (fun hHeld0 => ?_)
  · first | exact HS.out _ _ H6.out | exact HS.out _ _ H5.out.drew
  refine wpAnyH_take (i := 0) (v := ?_) rfl (by as_aux_lemma => kernel_rfl) (by as_aux_lemma => kernel_rfl) (by as_aux_lemma => kernel_rfl) (fun _ _ _ h => h) (Or.inl ⟨by rfl, ?_⟩) hHeld0 ?_
  rotate_left
  · intro w hSw
    (try dsimp only at hSw)
    go_simp
    try (first | (with_reducible rfl) | rfl)
  try simp only [List.getElem_toArray, List.getElem_cons_zero, List.getElem_cons_succ, Act.put, List.setIfInBounds_toArray, List.set_cons_zero, List.set_cons_succ]
  refine wpAnyH_take (i := 1) (v := ?_) rfl (by as_aux_lemma => kernel_rfl) (by as_aux_lemma => kernel_rfl) (by as_aux_lemma => kernel_rfl) (fun _ _ _ h => h) (Or.inl ⟨by rfl, ?_⟩) hHeld0 ?_
  rotate_left
  · intro w hSw
    (try dsimp only at hSw)
    go_simp
    try (first | (with_reducible rfl) | rfl)
  try simp only [List.getElem_toArray, List.getElem_cons_zero, List.getElem_cons_succ, Act.put, List.setIfInBounds_toArray, List.set_cons_zero, List.set_cons_succ]
  refine wpAnyH_take (i := 2) (v := ?_) rfl (by as_aux_lemma => kernel_rfl) (by as_aux_lemma => kernel_rfl) (by as_aux_lemma => kernel_rfl) (fun _ _ _ h => h) (Or.inl ⟨by rfl, ?_⟩) hHeld0 ?_
  rotate_left
  · intro w hSw
    (try dsimp only at hSw)
    go_simp
    try (first | (with_reducible rfl) | rfl)
  try simp only [List.getElem_toArray, List.getElem_cons_zero, List.getElem_cons_succ, Act.put, List.setIfInBounds_toArray, List.set_cons_zero, List.set_cons_succ]
  refine wpAnyH_take (i := 3) (v := ?_) rfl (by as_aux_lemma => kernel_rfl) (by as_aux_lemma => kernel_rfl) (by as_aux_lemma => kernel_rfl) (fun _ _ _ h => h) (Or.inl ⟨by rfl, ?_⟩) hHeld0 ?_
  rotate_left
  · intro w hSw
    (try dsimp only at hSw)
    go_simp
    try (first | (with_reducible rfl) | rfl)
  try simp only [List.getElem_toArray, List.getElem_cons_zero, List.getElem_cons_succ, Act.put, List.setIfInBounds_toArray, List.set_cons_zero, List.set_cons_succ]
  refine wpAnyH_take (i := 4) (v := ?_) rfl (by as_aux_lemma => kernel_rfl) (by as_aux_lemma => kernel_rfl) (by as_aux_lemma => kernel_rfl) (fun _ _ _ h => h) (Or.inl ⟨by rfl, ?_⟩) hHeld0 ?_
  rotate_left
  · intro w hSw
    (try dsimp only at hSw)
    go_simp
    try (first | (with_reducible rfl) | rfl)
  try simp only [List.getElem_toArray, List.getElem_cons_zero, List.getElem_cons_succ, Act.put, List.setIfInBounds_toArray, List.set_cons_zero, List.set_cons_succ]
  refine wpAnyH_take (i := 5) (v := ?_) rfl (by as_aux_lemma => kernel_rfl) (by as_aux_lemma => kernel_rfl) (by as_aux_lemma => kernel_rfl) (fun _ _ _ h => h) (Or.inl ⟨by rfl, ?_⟩) hHeld0 ?_
  rotate_left
  · intro w hSw
    (try dsimp only at hSw)
    go_simp
    try (first | (with_reducible rfl) | rfl)
  try simp only [List.getElem_toArray, List.getElem_cons_zero, List.getElem_cons_succ, Act.put, List.setIfInBounds_toArray, List.set_cons_zero, List.set_cons_succ]
  refine wpAnyH_take (i := 6) (v := ?_) rfl (by as_aux_lemma => kernel_rfl) (by as_aux_lemma => kernel_rfl) (by as_aux_lemma => kernel_rfl) (fun _ _ _ h => h) (Or.inl ⟨by rfl, ?_⟩) hHeld0 ?_
  rotate_left
  · intro w hSw
    (try dsimp only at hSw)
    go_simp
    try (first | (with_reducible rfl) | rfl)
  try simp only [List.getElem_toArray, List.getElem_cons_zero, List.getElem_cons_succ, Act.put, List.setIfInBounds_toArray, List.set_cons_zero, List.set_cons_succ]
  refine wpAnyH_take (i := 7) (v := ?_) rfl (by as_aux_lemma => kernel_rfl) (by as_aux_lemma => kernel_rfl) (by as_aux_lemma => kernel_rfl) (fun _ _ _ h => h) (Or.inl ⟨by rfl, ?_⟩) hHeld0 ?_
  rotate_left
  · intro w hSw
    (try dsimp only at hSw)
    go_simp
    try (first | (with_reducible rfl) | rfl)
  try simp only [List.getElem_toArray, List.getElem_cons_zero, List.getElem_cons_succ, Act.put, List.setIfInBounds_toArray, List.set_cons_zero, List.set_cons_succ]
  refine wpAnyH_take (i := 8) (v := ?_) rfl (by as_aux_lemma => kernel_rfl) (by as_aux_lemma => kernel_rfl) (by as_aux_lemma => kernel_rfl) (fun _ _ _ h => h) (Or.inl ⟨by rfl, ?_⟩) hHeld0 ?_
  rotate_left
  · intro w hSw
    (try dsimp only at hSw)
    go_simp
    try (first | (with_reducible rfl) | rfl)
  try simp only [List.getElem_toArray, List.getElem_cons_zero, List.getElem_cons_succ, Act.put, List.setIfInBounds_toArray, List.set_cons_zero, List.set_cons_succ]
  refine wpAnyH_take (i := 9) (v := ?_) rfl (by as_aux_lemma => kernel_rfl) (by as_aux_lemma => kernel_rfl) (by as_aux_lemma => kernel_rfl) (fun _ _ _ h => h) (Or.inl ⟨by rfl, ?_⟩) hHeld0 ?_
  rotate_left
  · intro w hSw
    (try dsimp only at hSw)
    go_simp
    try (first | (with_reducible rfl) | rfl)
  try simp only [List.getElem_toArray, List.getElem_cons_zero, List.getElem_cons_succ, Act.put, List.setIfInBounds_toArray, List.set_cons_zero, List.set_cons_succ]
  refine wpAnyH_take (i := 10) (v := ?_) rfl (by as_aux_lemma => kernel_rfl) (by as_aux_lemma => kernel_rfl) (by as_aux_lemma => kernel_rfl) (fun _ _ _ h => h) (Or.inl ⟨by rfl, ?_⟩) hHeld0 ?_
  rotate_left
  · intro w hSw
    (try dsimp only at hSw)
    go_simp
    try (first | (with_reducible rfl) | rfl)
  try simp only [List.getElem_toArray, List.getElem_cons_zero, List.getElem_cons_succ, Act.put, List.setIfInBounds_toArray, List.set_cons_zero, List.set_cons_succ]
  refine wpAnyH_take (i := 11) (v := ?_) rfl (by as_aux_lemma => kernel_rfl) (by as_aux_lemma => kernel_rfl) (by as_aux_lemma => kernel_rfl) (fun _ _ _ h => h) (Or.inl ⟨by rfl, ?_⟩) hHeld0 ?_
  rotate_left
  · intro w hSw
    (try dsimp only at hSw)
    go_simp
    try (first | (with_reducible rfl) | rfl)
  try simp only [List.getElem_toArray, List.getElem_cons_zero, List.getElem_cons_succ, Act.put, List.setIfInBounds_toArray, List.set_cons_zero, List.set_cons_succ]
  refine wpAnyH_take (i := 12) (v := ?_) rfl (by as_aux_lemma => kernel_rfl) (by as_aux_lemma => kernel_rfl) (by as_aux_lemma => kernel_rfl) (fun _ _ _ h => h) (Or.inl ⟨by rfl, ?_⟩) hHeld0 ?_
  rotate_left
  · intro w hSw
    (try dsimp only at hSw)
    go_simp
    try (first | (with_reducible rfl) | rfl)
  try simp only [List.getElem_toArray, List.getElem_cons_zero, List.getElem_cons_succ, Act.put, List.setIfInBounds_toArray, List.set_cons_zero, List.set_cons_succ]
  refine wpAnyH_take (i := 13) (v := ?_) rfl (by as_aux_lemma => kernel_rfl) (by as_aux_lemma => kernel_rfl) (by as_aux_lemma => kernel_rfl) (fun _ _ _ h => h) (Or.inl ⟨by rfl, ?_⟩) hHeld0 ?_
  rotate_left
  · intro w hSw
    (try dsimp only at hSw)
    go_simp
    try (first | (with_reducible rfl) | rfl)
  try simp only [List.getElem_toArray, List.getElem_cons_zero, List.getElem_cons_succ, Act.put, List.setIfInBounds_toArray, List.set_cons_zero, List.set_cons_succ]
  refine wpAnyH_take (i := 14) (v := ?_) rfl (by as_aux_lemma => kernel_rfl) (by as_aux_lemma => kernel_rfl) (by as_aux_lemma => kernel_rfl) (fun _ _ _ h => h) (Or.inl ⟨by rfl, ?_⟩) hHeld0 ?_
  rotate_left
  · intro w hSw
    (try dsimp only at hSw)
    go_simp
    try (first | (with_reducible rfl) | rfl)
  try simp only [List.getElem_toArray, List.getElem_cons_zero, List.getElem_cons_succ, Act.put, List.setIfInBounds_toArray, List.set_cons_zero, List.set_cons_succ]
  refine wpAnyH_take (i := 15) (v := ?_) rfl (by as_aux_lemma => kernel_rfl) (by as_aux_lemma => kernel_rfl) (by as_aux_lemma => kernel_rfl) (fun _ _ _ h => h) (Or.inl ⟨by rfl, ?_⟩) hHeld0 ?_
  rotate_left
  · intro w hSw
    (try dsimp only at hSw)
    go_simp
    try (first | (with_reducible rfl) | rfl)
  try simp only [List.getElem_toArray, List.getElem_cons_zero, List.getElem_cons_succ, Act.put, List.setIfInBounds_toArray, List.set_cons_zero, List.set_cons_succ]
  refine wpAnyH_take (i := 16) (v := ?_) rfl (by as_aux_lemma => kernel_rfl) (by as_aux_lemma => kernel_rfl) (by as_aux_lemma => kernel_rfl) (fun _ _ _ h => h) (Or.inl ⟨by rfl, ?_⟩) hHeld0 ?_
  rotate_left
  · intro w hSw
    (try dsimp only at hSw)
    go_simp
    try (first | (with_reducible rfl) | rfl)
  try simp only [List.getElem_toArray, List.getElem_cons_zero, List.getElem_cons_succ, Act.put, List.setIfInBounds_toArray, List.set_cons_zero, List.set_cons_succ]
  refine wpAnyH_ready (rs := [17]) (by as_aux_lemma => kernel_rfl) (by simp) ?_
  refine AllReadyH.cons rfl (fun K hK => ?_) ?_
  · go_simp
    go_at_call 44; refine (sl_go s m v (show St w0 (slA x ⟨s, m, v⟩ :: schB p q r g n (k + 1) :: thR g n ts :: L) _ from H5.out.drew.re 3 [2, 0, 1]) d0 d1 hd).mono ?_; rintro e wn ⟨rfl, h⟩; (have H6 := Lib.hid (show St w0 (schB p q r g n (k + 1) :: thR g n ts :: slA x ⟨s + 1, m, v⟩ :: L) wn from h.re 3 [1, 2, 0])); clear h
    go_wp2_with fail
    refine hK.out _ _ ?_ (fun hHeld17_17 => ?_)
    · first | exact HS.out _ _ H6.out | exact HS.out _ _ H5.out.drew
    clear hK K
    try simp only [List.getElem_toArray, List.getElem_cons_zero, List.getElem_cons_succ, Act.put, List.setIfInBounds_toArray, List.set_cons_zero, List.set_cons_succ]
    refine wpAnyH_take (i := 18) (v := ?_) rfl (by as_aux_lemma => kernel_rfl) (by as_aux_lemma => kernel_rfl) (by as_aux_lemma => kernel_rfl) (fun _ _ _ h => h) (Or.inl ⟨by rfl, ?_⟩) hHeld17_17 ?_
    rotate_left
    · intro w hSw
      (try dsimp only at hSw)
      go_simp
      try (first | (with_reducible rfl) | rfl)
    try simp only [List.getElem_toArray, List.getElem_cons_zero, List.getElem_cons_succ, Act.put, List.setIfInBounds_toArray, List.set_cons_zero, List.set_cons_succ]
    refine wpAnyH_take (i := 19) (v := ?_) rfl (by as_aux_lemma => kernel_rfl) (by as_aux_lemma => kernel_rfl) (by as_aux_lemma => kernel_rfl) (fun _ _ _ h => h) (Or.inl ⟨by rfl, ?_⟩) hHeld17_17 ?_
    rotate_left
    · intro w hSw
      (try dsimp only at hSw)
      go_simp
      try (first | (with_reducible rfl) | rfl)
    try simp only [List.getElem_toArray, List.getElem_cons_zero, List.getElem_cons_succ, Act.put, List.setIfInBounds_toArray, List.set_cons_zero, List.set_cons_succ]
    refine wpAnyH_take (i := 20) (v := ?_) rfl (by as_aux_lemma => kernel_rfl) (by as_aux_lemma => kernel_rfl) (by as_aux_lemma => kernel_rfl) (fun _ _ _ h => h) (Or.inl ⟨by rfl, ?_⟩) hHeld17_17 ?_
    rotate_left
    · intro w hSw
      (try dsimp only at hSw)
      go_simp
      try (first | (with_reducible rfl) | rfl)
    try simp only [List.getElem_toArray, List.getElem_cons_zero, List.getElem_cons_succ, Act.put, List.setIfInBounds_toArray, List.set_cons_zero, List.set_cons_succ]
    refine wpAnyH_take (i := 21) (v := ?_) rfl (by as_aux_lemma => kernel_rfl) (by as_aux_lemma => kernel_rfl) (by as_aux_lemma => kernel_rfl) (fun _ _ _ h => h) (Or.inl ⟨by rfl, ?_⟩) hHeld17_17 ?_
    rotate_left
    · intro w hSw
      (try dsimp only at hSw)
      go_simp
      try (first | (with_reducible rfl) | rfl)
    try simp only [List.getElem_toArray, List.getElem_cons_zero, List.getElem_cons_succ, Act.put, List.setIfInBounds_toArray, List.set_cons_zero, List.set_cons_succ]
    refine wpAnyH_take (i := 22) (v := ?_) rfl (by as_aux_lemma => kernel_rfl) (by as_aux_lemma => kernel_rfl) (by as_aux_lemma => kernel_rfl) (fun _ _ _ h => h) (Or.inl ⟨by rfl, ?_⟩) hHeld17_17 ?_
    rotate_left
    · intro w hSw
      (try dsimp only at hSw)
      go_simp
      try (first | (with_reducible rfl) | rfl)
    try simp only [List.getElem_toArray, List.getElem_cons_zero, List.getElem_cons_succ, Act.put, List.setIfInBounds_toArray, List.set_cons_zero, List.set_cons_succ]
    refine wpAnyH_done (by as_aux_lemma => kernel_rfl) ?_ _
    obtain ⟨c0, c1, c2, c3, f3⟩ := cells4s (H6.out.cells 0 rfl)
    obtain ⟨e0, f0⟩ := H6.out.at_ 1 rfl t hx
    go_wp2
    go_returns
    exact ⟨rfl, H6.out⟩
  exact AllReadyH.nil
set_option maxRecDepth 100000 in
set_option maxHeartbeats 8000000 in
theorem pick_sl_end (t : Nat) (s m v : Int) (h : St w0 (schB p q r g n k :: thR g n ts :: slA x ⟨s, m, v⟩ :: L) w) (ht : t < n) (hx : ts[t]? = some (slV x)) (k0 : 0 ≤ k) (k1 : k ≤ 1000000) (d0 : 0 ≤ s) (d1 : s ≤ 1000000) (hd : m ≤ s + 1) :
    Calls Try.prog 10 #[.pointer (some ⟨p, 0, none⟩), .int .i64 t] w fun e w' => e = .returned (.tuple #[.int .i64 1, .int .u64 v, .int .i64 0]) ∧ St w0 (schB p q r g n (k + 1) :: thR g n (ts.set t .nilIface) :: slA x ⟨s + 1, m, v⟩ :: L) w' := by
  have H := Lib.hid h
  obtain ⟨c0, c1, c2, c3, f3⟩ := cells4s (h.cells 0 rfl)
  obtain ⟨e0, f0⟩ := h.at_ 1 rfl t hx
  have t0 : (0 : Int) ≤ (t : Int) := by omega
  have t1 : (t : Int) < (n : Int) := by omega
  have h5 := h.setAt 0 rfl 3 (.int .i64 (k + 1))
  clear h
  have hm : ∀ (fuel : Nat) (w : World), (method (fuel + 1) 44 (.pointer (some ⟨x, 0, none⟩)) "Step").run Try.prog w = .ok (44, .pointer (some ⟨x, 0, none⟩)) w := fun _ _ => by kernel_rfl
  go_enter Try.func10, Try.ntmps10
  go_wp2_with (first | (go_at_call 13; refine (busy_yes H.out t ht _ _ hx).mono ?_; rintro e w2 ⟨rfl, rfl⟩) | (go_at_call 21; refine (there_yes H.out t ht).mono ?_; rintro e w1 ⟨rfl, rfl⟩))
  generalize w.setCell ⟨p, 3, none⟩ (.int .i64 (k + 1)) = W at *
  have H5 : Hid (St w0 (schB p q r g n (k + 1) :: thR g n ts :: slA x ⟨s, m, v⟩ :: L) W) := Lib.hid h5
  have HS : Hid (∀ X w', St w0 (schB p q r g n (k + 1) :: thR g n ts :: X) w' → w'.cell? ⟨p, 0, none⟩ = some (.pointer (some ⟨q, 0, none⟩)) ∧ w'.cell? ⟨p, 1, none⟩ = some (.pointer (some ⟨r, 0, none⟩)) ∧ w'.cell? ⟨p, 2, none⟩ = some (.slice (some ⟨g, 0, none⟩) n n) ∧ w'.cell? ⟨g, t, none⟩ = some (.iface 44 (.pointer (some ⟨x, 0, none⟩)))) := Lib.hid fun X w' h => by
    obtain ⟨a0, a1, a2, a3, _⟩ := cells4s (h.cells 0 rfl)
    exact ⟨a0, a1, a2, (h.at_ 1 rfl t hx).1⟩
  clear c0 c1 c2 c3 f3 e0 f0 h5
  refine wp_region_held_drew (S := (fun w' => w'.cell? ⟨p, 0, none⟩ = some (.pointer (some ⟨q, 0, none⟩)) ∧ w'.cell? ⟨p, 1, none⟩ = some (.pointer (some ⟨r, 0, none⟩)) ∧ w'.cell? ⟨p, 2, none⟩ = some (.slice (some ⟨g, 0, none⟩) n n) ∧ w'.cell? ⟨g, t, none⟩ = some (.iface 44 (.pointer (some ⟨x, 0, none⟩))))) (by as_aux_lemma => kernel_rfl) ?_ (fun hHeld0 => ?_)
  · first | exact HS.out _ _ H6.out | exact HS.out _ _ H5.out.drew
  refine wpAnyH_take (i := 0) (v := ?_) rfl (by as_aux_lemma => kernel_rfl) (by as_aux_lemma => kernel_rfl) (by as_aux_lemma => kernel_rfl) (fun _ _ _ h => h) (Or.inl ⟨by rfl, ?_⟩) hHeld0 ?_
  rotate_left
  · intro w hSw
    (try dsimp only at hSw)
    go_simp
    try (first | (with_reducible rfl) | rfl)
  try simp only [List.getElem_toArray, List.getElem_cons_zero, List.getElem_cons_succ, Act.put, List.setIfInBounds_toArray, List.set_cons_zero, List.set_cons_succ]
  refine wpAnyH_take (i := 1) (v := ?_) rfl (by as_aux_lemma => kernel_rfl) (by as_aux_lemma => kernel_rfl) (by as_aux_lemma => kernel_rfl) (fun _ _ _ h => h) (Or.inl ⟨by rfl, ?_⟩) hHeld0 ?_
  rotate_left
  · intro w hSw
    (try dsimp only at hSw)
    go_simp
    try (first | (with_reducible rfl) | rfl)
  try simp only [List.getElem_toArray, List.getElem_cons_zero, List.getElem_cons_succ, Act.put, List.setIfInBounds_toArray, List.set_cons_zero, List.set_cons_succ]
  refine wpAnyH_take (i := 2) (v := ?_) rfl (by as_aux_lemma => kernel_rfl) (by as_aux_lemma => kernel_rfl) (by as_aux_lemma => kernel_rfl) (fun _ _ _ h => h) (Or.inl ⟨by rfl, ?_⟩) hHeld0 ?_
  rotate_left
  · intro w hSw
    (try dsimp only at hSw)
    go_simp
    try (first | (with_reducible rfl) | rfl)
  try simp only [List.getElem_toArray, List.getElem_cons_zero, List.getElem_cons_succ, Act.put, List.setIfInBounds_toArray, List.set_cons_zero, List.set_cons_succ]
  refine wpAnyH_take (i := 3) (v := ?_) rfl (by as_aux_lemma => kernel_rfl) (by as_aux_lemma => kernel_rfl) (by as_aux_lemma => kernel_rfl) (fun _ _ _ h => h) (Or.inl ⟨by rfl, ?_⟩) hHeld0 ?_
  rotate_left
  · intro w hSw
    (try dsimp only at hSw)
    go_simp
    try (first | (with_reducible rfl) | rfl)
  try simp only [List.getElem_toArray, List.getElem_cons_zero, List.getElem_cons_succ, Act.put, List.setIfInBounds_toArray, List.set_cons_zero, List.set_cons_succ]
  refine wpAnyH_take (i := 4) (v := ?_) rfl (by as_aux_lemma => kernel_rfl) (by as_aux_lemma => kernel_rfl) (by as_aux_lemma => kernel_rfl) (fun _ _ _ h => h) (Or.inl ⟨by rfl, ?_⟩) hHeld0 ?_
  rotate_left
  · intro w hSw
    (try dsimp only at hSw)
    go_simp
    try (first | (with_reducible rfl) | rfl)
  try simp only [List.getElem_toArray, List.getElem_cons_zero, List.getElem_cons_succ, Act.put, List.setIfInBounds_toArray, List.set_cons_zero, List.set_cons_succ]
  refine wpAnyH_take (i := 5) (v := ?_) rfl (by as_aux_lemma => kernel_rfl) (by as_aux_lemma => kernel_rfl) (by as_aux_lemma => kernel_rfl) (fun _ _ _ h => h) (Or.inl ⟨by rfl, ?_⟩) hHeld0 ?_
  rotate_left
  · intro w hSw
    (try dsimp only at hSw)
    go_simp
    try (first | (with_reducible rfl) | rfl)
  try simp only [List.getElem_toArray, List.getElem_cons_zero, List.getElem_cons_succ, Act.put, List.setIfInBounds_toArray, List.set_cons_zero, List.set_cons_succ]
  refine wpAnyH_take (i := 6) (v := ?_) rfl (by as_aux_lemma => kernel_rfl) (by as_aux_lemma => kernel_rfl) (by as_aux_lemma => kernel_rfl) (fun _ _ _ h => h) (Or.inl ⟨by rfl, ?_⟩) hHeld0 ?_
  rotate_left
  · intro w hSw
    (try dsimp only at hSw)
    go_simp
    try (first | (with_reducible rfl) | rfl)
  try simp only [List.getElem_toArray, List.getElem_cons_zero, List.getElem_cons_succ, Act.put, List.setIfInBounds_toArray, List.set_cons_zero, List.set_cons_succ]
  refine wpAnyH_take (i := 7) (v := ?_) rfl (by as_aux_lemma => kernel_rfl) (by as_aux_lemma => kernel_rfl) (by as_aux_lemma => kernel_rfl) (fun _ _ _ h => h) (Or.inl ⟨by rfl, ?_⟩) hHeld0 ?_
  rotate_left
  · intro w hSw
    (try dsimp only at hSw)
    go_simp
    try (first | (with_reducible rfl) | rfl)
  try simp only [List.getElem_toArray, List.getElem_cons_zero, List.getElem_cons_succ, Act.put, List.setIfInBounds_toArray, List.set_cons_zero, List.set_cons_succ]
  refine wpAnyH_take (i := 8) (v := ?_) rfl (by as_aux_lemma => kernel_rfl) (by as_aux_lemma => kernel_rfl) (by as_aux_lemma => kernel_rfl) (fun _ _ _ h => h) (Or.inl ⟨by rfl, ?_⟩) hHeld0 ?_
  rotate_left
  · intro w hSw
    (try dsimp only at hSw)
    go_simp
    try (first | (with_reducible rfl) | rfl)
  try simp only [List.getElem_toArray, List.getElem_cons_zero, List.getElem_cons_succ, Act.put, List.setIfInBounds_toArray, List.set_cons_zero, List.set_cons_succ]
  refine wpAnyH_take (i := 9) (v := ?_) rfl (by as_aux_lemma => kernel_rfl) (by as_aux_lemma => kernel_rfl) (by as_aux_lemma => kernel_rfl) (fun _ _ _ h => h) (Or.inl ⟨by rfl, ?_⟩) hHeld0 ?_
  rotate_left
  · intro w hSw
    (try dsimp only at hSw)
    go_simp
    try (first | (with_reducible rfl) | rfl)
  try simp only [List.getElem_toArray, List.getElem_cons_zero, List.getElem_cons_succ, Act.put, List.setIfInBounds_toArray, List.set_cons_zero, List.set_cons_succ]
  refine wpAnyH_take (i := 10) (v := ?_) rfl (by as_aux_lemma => kernel_rfl) (by as_aux_lemma => kernel_rfl) (by as_aux_lemma => kernel_rfl) (fun _ _ _ h => h) (Or.inl ⟨by rfl, ?_⟩) hHeld0 ?_
  rotate_left
  · intro w hSw
    (try dsimp only at hSw)
    go_simp
    try (first | (with_reducible rfl) | rfl)
  try simp only [List.getElem_toArray, List.getElem_cons_zero, List.getElem_cons_succ, Act.put, List.setIfInBounds_toArray, List.set_cons_zero, List.set_cons_succ]
  refine wpAnyH_take (i := 11) (v := ?_) rfl (by as_aux_lemma => kernel_rfl) (by as_aux_lemma => kernel_rfl) (by as_aux_lemma => kernel_rfl) (fun _ _ _ h => h) (Or.inl ⟨by rfl, ?_⟩) hHeld0 ?_
  rotate_left
  · intro w hSw
    (try dsimp only at hSw)
    go_simp
    try (first | (with_reducible rfl) | rfl)
  try simp only [List.getElem_toArray, List.getElem_cons_zero, List.getElem_cons_succ, Act.put, List.setIfInBounds_toArray, List.set_cons_zero, List.set_cons_succ]
  refine wpAnyH_take (i := 12) (v := ?_) rfl (by as_aux_lemma => kernel_rfl) (by as_aux_lemma => kernel_rfl) (by as_aux_lemma => kernel_rfl) (fun _ _ _ h => h) (Or.inl ⟨by rfl, ?_⟩) hHeld0 ?_
  rotate_left
  · intro w hSw
    (try dsimp only at hSw)
    go_simp
    try (first | (with_reducible rfl) | rfl)
  try simp only [List.getElem_toArray, List.getElem_cons_zero, List.getElem_cons_succ, Act.put, List.setIfInBounds_toArray, List.set_cons_zero, List.set_cons_succ]
  refine wpAnyH_take (i := 13) (v := ?_) rfl (by as_aux_lemma => kernel_rfl) (by as_aux_lemma => kernel_rfl) (by as_aux_lemma => kernel_rfl) (fun _ _ _ h => h) (Or.inl ⟨by rfl, ?_⟩) hHeld0 ?_
  rotate_left
  · intro w hSw
    (try dsimp only at hSw)
    go_simp
    try (first | (with_reducible rfl) | rfl)
  try simp only [List.getElem_toArray, List.getElem_cons_zero, List.getElem_cons_succ, Act.put, List.setIfInBounds_toArray, List.set_cons_zero, List.set_cons_succ]
  refine wpAnyH_take (i := 14) (v := ?_) rfl (by as_aux_lemma => kernel_rfl) (by as_aux_lemma => kernel_rfl) (by as_aux_lemma => kernel_rfl) (fun _ _ _ h => h) (Or.inl ⟨by rfl, ?_⟩) hHeld0 ?_
  rotate_left
  · intro w hSw
    (try dsimp only at hSw)
    go_simp
    try (first | (with_reducible rfl) | rfl)
  try simp only [List.getElem_toArray, List.getElem_cons_zero, List.getElem_cons_succ, Act.put, List.setIfInBounds_toArray, List.set_cons_zero, List.set_cons_succ]
  refine wpAnyH_take (i := 15) (v := ?_) rfl (by as_aux_lemma => kernel_rfl) (by as_aux_lemma => kernel_rfl) (by as_aux_lemma => kernel_rfl) (fun _ _ _ h => h) (Or.inl ⟨by rfl, ?_⟩) hHeld0 ?_
  rotate_left
  · intro w hSw
    (try dsimp only at hSw)
    go_simp
    try (first | (with_reducible rfl) | rfl)
  try simp only [List.getElem_toArray, List.getElem_cons_zero, List.getElem_cons_succ, Act.put, List.setIfInBounds_toArray, List.set_cons_zero, List.set_cons_succ]
  refine wpAnyH_take (i := 16) (v := ?_) rfl (by as_aux_lemma => kernel_rfl) (by as_aux_lemma => kernel_rfl) (by as_aux_lemma => kernel_rfl) (fun _ _ _ h => h) (Or.inl ⟨by rfl, ?_⟩) hHeld0 ?_
  rotate_left
  · intro w hSw
    (try dsimp only at hSw)
    go_simp
    try (first | (with_reducible rfl) | rfl)
  try simp only [List.getElem_toArray, List.getElem_cons_zero, List.getElem_cons_succ, Act.put, List.setIfInBounds_toArray, List.set_cons_zero, List.set_cons_succ]
  refine wpAnyH_ready (rs := [17]) (by as_aux_lemma => kernel_rfl) (by simp) ?_
  refine AllReadyH.cons rfl (fun K hK => ?_) ?_
  · go_simp
    go_at_call 44; refine (sl_end s m v (show St w0 (slA x ⟨s, m, v⟩ :: schB p q r g n (k + 1) :: thR g n ts :: L) _ from H5.out.drew.re 3 [2, 0, 1]) d0 d1 hd).mono ?_; rintro e wn ⟨rfl, h⟩; (have H6 := Lib.hid (show St w0 (schB p q r g n (k + 1) :: thR g n ts :: slA x ⟨s + 1, m, v⟩ :: L) wn from h.re 3 [1, 2, 0])); clear h
    go_wp2_with fail
    refine hK.out _ _ ?_ (fun hHeld17_17 => ?_)
    · first | exact HS.out _ _ H6.out | exact HS.out _ _ H5.out.drew
    clear hK K
    try simp only [List.getElem_toArray, List.getElem_cons_zero, List.getElem_cons_succ, Act.put, List.setIfInBounds_toArray, List.set_cons_zero, List.set_cons_succ]
    refine wpAnyH_take (i := 18) (v := ?_) rfl (by as_aux_lemma => kernel_rfl) (by as_aux_lemma => kernel_rfl) (by as_aux_lemma => kernel_rfl) (fun _ _ _ h => h) (Or.inl ⟨by rfl, ?_⟩) hHeld17_17 ?_
    rotate_left
    · intro w hSw
      (try dsimp only at hSw)
      go_simp
      try (first | (with_reducible rfl) | rfl)
    try simp only [List.getElem_toArray, List.getElem_cons_zero, List.getElem_cons_succ, Act.put, List.setIfInBounds_toArray, List.set_cons_zero, List.set_cons_succ]
    refine wpAnyH_take (i := 19) (v := ?_) rfl (by as_aux_lemma => kernel_rfl) (by as_aux_lemma => kernel_rfl) (by as_aux_lemma => kernel_rfl) (fun _ _ _ h => h) (Or.inl ⟨by rfl, ?_⟩) hHeld17_17 ?_
    rotate_left
    · intro w hSw
      (try dsimp only at hSw)
      go_simp
      try (first | (with_reducible rfl) | rfl)
    try simp only [List.getElem_toArray, List.getElem_cons_zero, List.getElem_cons_succ, Act.put, List.setIfInBounds_toArray, List.set_cons_zero, List.set_cons_succ]
    refine wpAnyH_take (i := 20) (v := ?_) rfl (by as_aux_lemma => kernel_rfl) (by as_aux_lemma => kernel_rfl) (by as_aux_lemma => kernel_rfl) (fun _ _ _ h => h) (Or.inl ⟨by rfl, ?_⟩) hHeld17_17 ?_
    rotate_left
    · intro w hSw
      (try dsimp only at hSw)
      go_simp
      try (first | (with_reducible rfl) | rfl)
    try simp only [List.getElem_toArray, List.getElem_cons_zero, List.getElem_cons_succ, Act.put, List.setIfInBounds_toArray, List.set_cons_zero, List.set_cons_succ]
    refine wpAnyH_take (i := 21) (v := ?_) rfl (by as_aux_lemma => kernel_rfl) (by as_aux_lemma => kernel_rfl) (by as_aux_lemma => kernel_rfl) (fun _ _ _ h => h) (Or.inl ⟨by rfl, ?_⟩) hHeld17_17 ?_
    rotate_left
    · intro w hSw
      (try dsimp only at hSw)
      go_simp
      try (first | (with_reducible rfl) | rfl)
    try simp only [List.getElem_toArray, List.getElem_cons_zero, List.getElem_cons_succ, Act.put, List.setIfInBounds_toArray, List.set_cons_zero, List.set_cons_succ]
    refine wpAnyH_take (i := 22) (v := ?_) rfl (by as_aux_lemma => kernel_rfl) (by as_aux_lemma => kernel_rfl) (by as_aux_lemma => kernel_rfl) (fun _ _ _ h => h) (Or.inl ⟨by rfl, ?_⟩) hHeld17_17 ?_
    rotate_left
    · intro w hSw
      (try dsimp only at hSw)
      go_simp
      try (first | (with_reducible rfl) | rfl)
    try simp only [List.getElem_toArray, List.getElem_cons_zero, List.getElem_cons_succ, Act.put, List.setIfInBounds_toArray, List.set_cons_zero, List.set_cons_succ]
    refine wpAnyH_done (by as_aux_lemma => kernel_rfl) ?_ _
    obtain ⟨c0, c1, c2, c3, f3⟩ := cells4s (H6.out.cells 0 rfl)
    obtain ⟨e0, f0⟩ := H6.out.at_ 1 rfl t hx
    go_wp2
    go_returns
    exact ⟨rfl, H6.out.rowSet 1 rfl t (by omega) _⟩
  exact AllReadyH.nil
end Go.Proofs.Ytadphmpbhkhhfaa
