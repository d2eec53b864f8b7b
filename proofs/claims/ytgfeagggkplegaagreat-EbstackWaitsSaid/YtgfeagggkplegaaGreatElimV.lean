/-
  elim.Visit: the machine as it lies in the heap, and what each of its functions does.
-/
import Derived.Test.YtgfeagggkplegaaGreatSrc
import Derived.Test.YtgfeagggkplegaaGreatPol
import Derived.Test.YtgfeagggkplegaaGreatLayout2
import Derived.Test.YtgfeagggkplegaaGreatCommon
import Derived.Laws.EntriesVeiled
namespace Go.Proofs.YtgfeagggkplegaaGreat
open Go.RowKit
set_option linter.unusedVariables false
set_option linter.unusedSimpArgs false

abbrev eB (p : Nat) (pv : Value) (n s h t rg ex : Int) (fn : Value) (pl en : Int) : Asn := boxA p #[pv, .int .i64 n, .int .i64 s, .int .i64 h, .int .u32 t, .int .i64 rg, .int .i64 ex, fn, .int .i64 pl, .int .i64 en] 189
theorem cellsE {w : World} {b : Nat} {a0 a1 a2 a3 a4 a5 a6 a7 a8 a9 : Value} {e : TypeId} (h : w.heap[b]? = some (.cells #[a0, a1, a2, a3, a4, a5, a6, a7, a8, a9] e (0, 0))) :
    (w.cell? ⟨b, 0, none⟩ = some a0 ∧ w.cell? ⟨b, 1, none⟩ = some a1 ∧ w.cell? ⟨b, 2, none⟩ = some a2 ∧ w.cell? ⟨b, 3, none⟩ = some a3 ∧ w.cell? ⟨b, 4, none⟩ = some a4 ∧ w.cell? ⟨b, 5, none⟩ = some a5 ∧ w.cell? ⟨b, 6, none⟩ = some a6 ∧ w.cell? ⟨b, 7, none⟩ = some a7 ∧ w.cell? ⟨b, 8, none⟩ = some a8 ∧ w.cell? ⟨b, 9, none⟩ = some a9) ∧
    (w.frozen? ⟨b, 0, none⟩ = false ∧ w.frozen? ⟨b, 5, none⟩ = false ∧ w.frozen? ⟨b, 6, none⟩ = false ∧ w.frozen? ⟨b, 7, none⟩ = false ∧ w.frozen? ⟨b, 8, none⟩ = false ∧ w.frozen? ⟨b, 9, none⟩ = false) ∧ b < w.heap.size :=
  ⟨⟨cell_of h 0, cell_of h 1, cell_of h 2, cell_of h 3, cell_of h 4, cell_of h 5, cell_of h 6, cell_of h 7, cell_of h 8, cell_of h 9⟩, ⟨free_of h 0, free_of h 5, free_of h 6, free_of h 7, free_of h 8, free_of h 9⟩, lt_of_heap h⟩
/-- The boxes of what a visit begins with. -/
abbrev eBx (bc bs bv bp bi bw bb p : Nat) (n s h t r0 e0 : Int) (push : Bool) (i wait base : Int) : List Asn :=
  [boxA bc #[.int .i64 n, .int .i64 s, .int .i64 h, .int .u32 t] 24, boxA bs #[.int .i64 r0, .int .i64 e0] 29, boxA bv #[.pointer (some ⟨p, 0, none⟩)] 126, boxA bp #[.bool push] 4, boxA bi #[.int .u32 i] 22, boxA bw #[.int .u64 wait] 25, boxA bb #[.int .i64 base] 3]
abbrev eFn (bc bs bv bp bi bw bb : Nat) : Value := .func (.func 161) #[] #[.pointer (some ⟨bc, 0, none⟩), .pointer (some ⟨bs, 0, none⟩), .pointer (some ⟨bv, 0, none⟩), .pointer (some ⟨bp, 0, none⟩), .pointer (some ⟨bi, 0, none⟩), .pointer (some ⟨bw, 0, none⟩), .pointer (some ⟨bb, 0, none⟩)]

set_option maxHeartbeats 4000000 in
theorem e_new {w0 w : World} {L : List Asn} (n s h t r0 e0 : Int) (push : Bool) (i base wait : Int) (hS : St w0 L w) :
    Calls Tryz.prog 143 #[.agg #[.int .i64 n, .int .i64 s, .int .i64 h, .int .u32 t], polV r0 e0, .bool push, .int .u32 i, .int .i64 base, .int .u64 wait] w fun e w' =>
      ∃ p bc bs bv bp bi bw bb, e = .returned (.pointer (some ⟨p, 0, none⟩)) ∧ St w0 (eB p (.pointer none) n s h t r0 e0 (eFn bc bs bv bp bi bw bb) (-1) 0 :: (eBx bc bs bv bp bi bw bb p n s h t r0 e0 push i wait base ++ L)) w' := by
  have hmf : ∀ (fn : Fn) (first cap : Array Value) (w : World), (Instr.makeFunc fn first cap).run Tryz.prog w = .ok (.func fn first cap) w := fun _ _ _ _ => rfl
  have H := Lib.hid hS
  clear hS
  go_enter Tryz.func143, Tryz.ntmps143
  go_wp2
  go_ret
  have h := (((((((H.out.alloc #[.int .i64 n, .int .i64 s, .int .i64 h, .int .u32 t] 24).alloc #[.int .i64 r0, .int .i64 e0] 29).alloc #[.bool push] 4).alloc #[.int .u32 i] 22).alloc #[.int .i64 base] 3).alloc #[.int .u64 wait] 25).alloc #[.pointer none, .int .i64 n, .int .i64 s, .int .i64 h, .int .u32 t, .int .i64 r0, .int .i64 e0, eFn w.heap.size (w.heap.size + 1) (w.heap.size + 1 + 1 + 1 + 1 + 1 + 1 + 1) (w.heap.size + 1 + 1) (w.heap.size + 1 + 1 + 1) (w.heap.size + 1 + 1 + 1 + 1 + 1) (w.heap.size + 1 + 1 + 1 + 1), .int .i64 (-1), .int .i64 0] 189).alloc #[.pointer (some ⟨w.heap.size + 1 + 1 + 1 + 1 + 1 + 1, 0, none⟩)] 126
  simp only [World.size_alloc] at h
  exact ⟨w.heap.size + 1 + 1 + 1 + 1 + 1 + 1, w.heap.size, w.heap.size + 1, w.heap.size + 1 + 1 + 1 + 1 + 1 + 1 + 1, w.heap.size + 1 + 1, w.heap.size + 1 + 1 + 1, w.heap.size + 1 + 1 + 1 + 1 + 1, w.heap.size + 1 + 1 + 1 + 1, rfl, ((((((((h.front 3 rfl).front 3 rfl).front 4 rfl).front 5 rfl).front 4 rfl).front 6 rfl).front 7 rfl).front 7 rfl)⟩

set_option maxRecDepth 20000 in
set_option maxHeartbeats 8000000 in
theorem e_begin {w0 w : World} {q p : Nat} {now : Int} {ds : List Int} {L : List Asn} (pv : Value) (n s h t rg ex : Int) (fn : Value) (pl en : Int) (bc bs bv bp bi bw bb : Nat) (r0 e0 : Int) (push : Bool) (i wait base : Int) (k : Int) (ds' : List Int) (at_ dl po : Int)
    (hS : St w0 (srcA q now ds :: eB p pv n s h t rg ex fn pl en :: (eBx bc bs bv bp bi bw bb p n s h t r0 e0 push i wait base ++ L)) w) (hds : DsOk ds) (hk : drawI ds r0 = k) (hd : drawR ds r0 = ds') (ha : atI n s h 1 k = at_) (hdl : dlI now wait = dl) (hpo : pPolls e0 base = po)
    (n0 : 0 ≤ now) (n1 : now < 18446744073709551616) (wt0 : 0 ≤ wait) (wt1 : wait < 18446744073709551616) (he : 0 ≤ e0 ∧ e0 ≤ 6) (b0 : -9223372036854775808 ≤ base) (b1 : base < 9223372036854775808) :
    Calls Tryz.prog 161 #[.pointer (some ⟨q, 0, none⟩), .pointer (some ⟨bc, 0, none⟩), .pointer (some ⟨bs, 0, none⟩), .pointer (some ⟨bv, 0, none⟩), .pointer (some ⟨bp, 0, none⟩), .pointer (some ⟨bi, 0, none⟩), .pointer (some ⟨bw, 0, none⟩), .pointer (some ⟨bb, 0, none⟩)] w fun e w' =>
      ∃ v, e = .returned (.pointer (some ⟨v, 0, none⟩)) ∧ St w0 (srcA q now ds' :: visA v (newVM at_ push i dl po) :: eB p pv n s h t rg ex fn at_ en :: (eBx bc bs bv bp bi bw bb p n s h t r0 e0 push i wait base ++ L)) w' := by
  have H := Lib.hid hS
  have HK := Lib.hid hk
  have HD := Lib.hid hd
  have HA := Lib.hid ha
  have HDL := Lib.hid hdl
  have HPO := Lib.hid hpo
  have HDS := Lib.hid hds
  have HC : Hid (∀ l pl w', St w0 (l :: eB p pv n s h t rg ex fn pl en :: (eBx bc bs bv bp bi bw bb p n s h t r0 e0 push i wait base ++ L)) w' → w'.cell? ⟨bv, 0, none⟩ = some (.pointer (some ⟨p, 0, none⟩)) ∧ w'.cell? ⟨bc, 0, none⟩ = some (.int .i64 n) ∧ w'.cell? ⟨bc, 1, none⟩ = some (.int .i64 s) ∧ w'.cell? ⟨bc, 2, none⟩ = some (.int .i64 h) ∧ w'.cell? ⟨bc, 3, none⟩ = some (.int .u32 t) ∧ w'.cell? ⟨bs, 0, none⟩ = some (.int .i64 r0)) := Lib.hid (fun l pl w' h => by
    obtain ⟨a0, a1, a2, a3⟩ := cells4 (h.cells 2 rfl)
    exact ⟨cell_of (h.cells 4 rfl) 0, a0, a1, a2, a3, cell_of (h.cells 3 rfl) 0⟩)
  obtain ⟨_, ⟨_, _, _, _, g8, _⟩, _⟩ := cellsE (hS.cells 1 rfl)
  have g8' := (cellsE (hS.cells 1 rfl)).1.2.2.2.2.2.2.2.2.1
  clear hS hk hd ha hdl hpo hds
  go_enter Tryz.func161, Tryz.ntmps161
  go_wp2
  go_region_held3 (fun w' => w'.cell? ⟨bv, 0, none⟩ = some (.pointer (some ⟨p, 0, none⟩)) ∧ w'.cell? ⟨bc, 0, none⟩ = some (.int .i64 n) ∧ w'.cell? ⟨bc, 1, none⟩ = some (.int .i64 s) ∧ w'.cell? ⟨bc, 2, none⟩ = some (.int .i64 h) ∧ w'.cell? ⟨bc, 3, none⟩ = some (.int .u32 t) ∧ w'.cell? ⟨bs, 0, none⟩ = some (.int .i64 r0)) (first | exact HC.out _ _ _ (H2.out.setAt 1 rfl 8 (.int .i64 at_)) | exact HC.out _ _ _ H2.out | exact HC.out _ _ _ H1.out | exact HC.out _ _ _ H.out.drew | exact HC.out _ _ _ H.out) (first | (go_at_call 162; refine (src_draw r0 k ds' H.out.drew HDS.out HK.out HD.out).mono ?_; rintro e w1 ⟨rfl, h⟩; (have H1 := Lib.hid h); clear h) | ((have _h := H1); go_at_call 52; refine (slot_any n s h t k _).mono ?_; rintro e w2 ⟨rfl, hb⟩; rw [HA.out]; (have H2 := Lib.hid (H1.out.below hb)); clear hb _h g8 g8'; (have g8 := (cellsE (H2.out.cells 1 rfl)).2.1.2.2.2.2.1); (have g8' := (cellsE (H2.out.cells 1 rfl)).1.2.2.2.2.2.2.2.2.1)))
  have h3 := H2.out.setAt 1 rfl 8 (.int .i64 at_)
  generalize w2.setCell ⟨p, 8, none⟩ (.int .i64 at_) = W at *
  have H3 := Lib.hid (show St w0 (srcA q now ds' :: eB p pv n s h t rg ex fn at_ en :: (eBx bc bs bv bp bi bw bb p n s h t r0 e0 push i wait base ++ L)) W from h3)
  have HX : Hid (∀ l w', St w0 (l :: eB p pv n s h t rg ex fn at_ en :: (eBx bc bs bv bp bi bw bb p n s h t r0 e0 push i wait base ++ L)) w' → w'.cell? ⟨bv, 0, none⟩ = some (.pointer (some ⟨p, 0, none⟩)) ∧ w'.cell? ⟨p, 8, none⟩ = some (.int .i64 at_) ∧ w'.cell? ⟨bp, 0, none⟩ = some (.bool push) ∧ w'.cell? ⟨bi, 0, none⟩ = some (.int .u32 i) ∧ w'.cell? ⟨bw, 0, none⟩ = some (.int .u64 wait) ∧ w'.cell? ⟨bs, 0, none⟩ = some (.int .i64 r0) ∧ w'.cell? ⟨bs, 1, none⟩ = some (.int .i64 e0) ∧ w'.cell? ⟨bb, 0, none⟩ = some (.int .i64 base)) := Lib.hid (fun l w' h => by
    obtain ⟨a0, a1, _, _⟩ := cells2 (h.cells 3 rfl)
    exact ⟨cell_of (h.cells 4 rfl) 0, (cellsE (h.cells 1 rfl)).1.2.2.2.2.2.2.2.2.1, cell_of (h.cells 5 rfl) 0, cell_of (h.cells 6 rfl) 0, cell_of (h.cells 7 rfl) 0, a0, a1, cell_of (h.cells 8 rfl) 0⟩)
  have HBD := Lib.hid ((Below.refl W.heap.size W).drew)
  clear h3 g8 g8' H2 H1 H HC
  go_wp2
  go_region_held3 (fun w' => w'.cell? ⟨bv, 0, none⟩ = some (.pointer (some ⟨p, 0, none⟩)) ∧ w'.cell? ⟨p, 8, none⟩ = some (.int .i64 at_) ∧ w'.cell? ⟨bp, 0, none⟩ = some (.bool push) ∧ w'.cell? ⟨bi, 0, none⟩ = some (.int .u32 i) ∧ w'.cell? ⟨bw, 0, none⟩ = some (.int .u64 wait) ∧ w'.cell? ⟨bs, 0, none⟩ = some (.int .i64 r0) ∧ w'.cell? ⟨bs, 1, none⟩ = some (.int .i64 e0) ∧ w'.cell? ⟨bb, 0, none⟩ = some (.int .i64 base)) (first | exact HX.out _ _ H6.out.tail | exact HX.out _ _ (H3.out.below HBD.out) | exact HX.out _ _ H3.out) (first | (go_at_call 139; refine (src_now (H3.out.below HBD.out)).mono ?_; rintro e w' ⟨rfl, rfl⟩) | (go_at_call 64; refine (deadline_any now wait _ n0 n1 wt0 wt1).mono ?_; rintro e w' ⟨rfl, rfl⟩; rw [HDL.out]) | (go_at_call 164; refine (polls_any r0 e0 base _ he b0 b1).mono ?_; rintro e w5 ⟨rfl, hb⟩; rw [HPO.out]; (have HZ2 := Lib.hid (HBD.out.trans (hb.mono HBD.out.size))); clear hb HBD; (have HBD := HZ2); clear HZ2) | (go_at_call 163; refine (visit_new at_ push i dl po (H3.out.below HBD.out)).mono ?_; rintro e w6 ⟨v, rfl, h⟩; (have H6 := Lib.hid h); clear h))
  all_goals go_wp2
  all_goals go_ret
  all_goals exact ⟨v, rfl, H6.out⟩

set_option maxHeartbeats 4000000 in
theorem e_step_none {w0 w : World} {q r p : Nat} {ws : List Int} {ns : List Note} {now : Int} {ds : List Int} {L : List Asn} (pv : Value) (n s h t rg ex : Int) (fn : Value) (pl : Int) (hS : St w0 (memA q ws ns :: srcA r now ds :: eB p pv n s h t rg ex fn pl 2 :: L) w) :
    Calls Tryz.prog 113 #[.pointer (some ⟨p, 0, none⟩), .pointer (some ⟨q, 0, none⟩), .pointer (some ⟨r, 0, none⟩)] w fun e w' => e = .returned (.tuple #[.int .i64 2, .int .u32 0]) ∧ St w0 (memA q ws ns :: srcA r now ds :: eB p pv n s h t rg ex fn pl 2 :: L) w' := by
  have H := Lib.hid hS
  have c9 := (cellsE (hS.cells 2 rfl)).1.2.2.2.2.2.2.2.2.2
  clear hS
  go_enter Tryz.func113, Tryz.ntmps113
  go_wp2
  go_ret2
  exact ⟨rfl, H.out⟩

set_option maxHeartbeats 8000000 in
theorem e_unfit_check {w0 w : World} {q r p : Nat} {ws : List Int} {ns : List Note} {now : Int} {ds : List Int} {L : List Asn} (n s h t rg ex : Int) (fn : Value) (pl : Int) (hS : St w0 (memA q ws ns :: srcA r now ds :: eB p (.pointer none) n s h t rg ex fn pl 0 :: L) w) (hok : okC n s h = false) :
    Calls Tryz.prog 113 #[.pointer (some ⟨p, 0, none⟩), .pointer (some ⟨q, 0, none⟩), .pointer (some ⟨r, 0, none⟩)] w fun e w' => e = .returned (.tuple #[.int .i64 2, .int .u32 0]) ∧ St w0 (memA q ws ns :: srcA r now ds :: eB p (.pointer none) n s h t rg ex fn pl 2 :: L) w' := by
  have H := Lib.hid hS
  have HOK := Lib.hid hok
  have HCS : Hid (∀ w', Below w.heap.size w w' → w'.cell? ⟨p, 1, none⟩ = some (.int .i64 n) ∧ w'.cell? ⟨p, 2, none⟩ = some (.int .i64 s) ∧ w'.cell? ⟨p, 3, none⟩ = some (.int .i64 h) ∧ w'.cell? ⟨p, 4, none⟩ = some (.int .u32 t) ∧ w'.cell? ⟨p, 5, none⟩ = some (.int .i64 rg) ∧ w'.cell? ⟨p, 6, none⟩ = some (.int .i64 ex)) := Lib.hid (fun w' hb => by
    obtain ⟨⟨c0, c1, c2, c3, c4, c5, c6, c7, c8, c9⟩, ⟨z0, z5, z6, z7, z8, z9⟩, lt0⟩ := cellsE ((hS.below hb).cells 2 rfl)
    exact ⟨c1, c2, c3, c4, c5, c6⟩)
  have HBD := Lib.hid (Below.refl w.heap.size w).drew
  obtain ⟨⟨c0, c1, c2, c3, c4, c5, c6, c7, c8, c9⟩, ⟨z0, z5, z6, z7, z8, z9⟩, lt0⟩ := cellsE (hS.cells 2 rfl)
  clear hS hok
  go_enter Tryz.func113, Tryz.ntmps113
  go_wp2
  refine wp_region_held_drew (S := (fun w' => w'.cell? ⟨p, 1, none⟩ = some (.int .i64 n) ∧ w'.cell? ⟨p, 2, none⟩ = some (.int .i64 s) ∧ w'.cell? ⟨p, 3, none⟩ = some (.int .i64 h) ∧ w'.cell? ⟨p, 4, none⟩ = some (.int .u32 t) ∧ w'.cell? ⟨p, 5, none⟩ = some (.int .i64 rg) ∧ w'.cell? ⟨p, 6, none⟩ = some (.int .i64 ex))) (by kernel_rfl) ?_ (fun hHeld0 => ?_)
  · first | exact HCS.out _ HBD.out | exact HCS.out _ (Below.refl _ _)
  refine wpAnyH_take (i := 0) (v := ?_) rfl (by kernel_rfl) (by kernel_rfl) (by kernel_rfl) (fun _ _ _ h => h) (Or.inl ⟨by rfl, ?_⟩) hHeld0 ?_
  rotate_left
  · intro w hSw
    (try dsimp only at hSw)
    go_simp
    try (first | (with_reducible rfl) | rfl)
  try simp only [List.getElem_toArray, List.getElem_cons_zero, List.getElem_cons_succ, Act.put, List.setIfInBounds_toArray, List.set_cons_zero, List.set_cons_succ]
  refine wpAnyH_take (i := 1) (v := ?_) rfl (by kernel_rfl) (by kernel_rfl) (by kernel_rfl) (fun _ _ _ h => h) (Or.inl ⟨by rfl, ?_⟩) hHeld0 ?_
  rotate_left
  · intro w hSw
    (try dsimp only at hSw)
    go_simp
    try (first | (with_reducible rfl) | rfl)
  try simp only [List.getElem_toArray, List.getElem_cons_zero, List.getElem_cons_succ, Act.put, List.setIfInBounds_toArray, List.set_cons_zero, List.set_cons_succ]
  refine wpAnyH_take (i := 2) (v := ?_) rfl (by kernel_rfl) (by kernel_rfl) (by kernel_rfl) (fun _ _ _ h => h) (Or.inl ⟨by rfl, ?_⟩) hHeld0 ?_
  rotate_left
  · intro w hSw
    (try dsimp only at hSw)
    go_simp
    try (first | (with_reducible rfl) | rfl)
  try simp only [List.getElem_toArray, List.getElem_cons_zero, List.getElem_cons_succ, Act.put, List.setIfInBounds_toArray, List.set_cons_zero, List.set_cons_succ]
  refine wpAnyH_take (i := 3) (v := ?_) rfl (by kernel_rfl) (by kernel_rfl) (by kernel_rfl) (fun _ _ _ h => h) (Or.inl ⟨by rfl, ?_⟩) hHeld0 ?_
  rotate_left
  · intro w hSw
    (try dsimp only at hSw)
    go_simp
    try (first | (with_reducible rfl) | rfl)
  try simp only [List.getElem_toArray, List.getElem_cons_zero, List.getElem_cons_succ, Act.put, List.setIfInBounds_toArray, List.set_cons_zero, List.set_cons_succ]
  refine wpAnyH_ready (rs := [4]) (by kernel_rfl) (by simp) ?_
  refine AllReadyH.cons rfl (fun K hK => ?_) ?_
  · go_simp
    (go_at_call 54; refine (check_no n s h t _ HOK.out).mono ?_; rintro e w5 ⟨rfl, hb⟩; (have HZ2 := Lib.hid (HBD.out.trans (hb.mono HBD.out.size))); clear hb HBD; (have HBD := HZ2); clear HZ2)
    go_wp2_with fail
    refine hK.out _ _ ?_ (fun hHeld4_4 => ?_)
    · first | exact HCS.out _ HBD.out | exact HCS.out _ (Below.refl _ _)
    clear hK K
    try simp only [List.getElem_toArray, List.getElem_cons_zero, List.getElem_cons_succ, Act.put, List.setIfInBounds_toArray, List.set_cons_zero, List.set_cons_succ]
    refine wpAnyH_take (i := 5) (v := ?_) rfl (by kernel_rfl) (by kernel_rfl) (by kernel_rfl) (fun _ _ _ h => h) (Or.inl ⟨by rfl, ?_⟩) hHeld4_4 ?_
    rotate_left
    · intro w hSw
      (try dsimp only at hSw)
      go_simp
      try (first | (with_reducible rfl) | rfl)
    try simp only [List.getElem_toArray, List.getElem_cons_zero, List.getElem_cons_succ, Act.put, List.setIfInBounds_toArray, List.set_cons_zero, List.set_cons_succ]
    refine wpAnyH_take (i := 6) (v := ?_) rfl (by kernel_rfl) (by kernel_rfl) (by kernel_rfl) (fun _ _ _ h => h) (Or.inl ⟨by rfl, ?_⟩) hHeld4_4 ?_
    rotate_left
    · intro w hSw
      (try dsimp only at hSw)
      go_simp
      try (first | (with_reducible rfl) | rfl)
    try simp only [List.getElem_toArray, List.getElem_cons_zero, List.getElem_cons_succ, Act.put, List.setIfInBounds_toArray, List.set_cons_zero, List.set_cons_succ]
    refine wpAnyH_take (i := 7) (v := undef) rfl (by kernel_rfl) (by kernel_rfl) (by kernel_rfl) (fun _ _ _ h => h) (Or.inr ⟨by rfl, rfl⟩) hHeld4_4 ?_
    try simp only [List.getElem_toArray, List.getElem_cons_zero, List.getElem_cons_succ, Act.put, List.setIfInBounds_toArray, List.set_cons_zero, List.set_cons_succ]
    refine wpAnyH_take (i := 8) (v := undef) rfl (by kernel_rfl) (by kernel_rfl) (by kernel_rfl) (fun _ _ _ h => h) (Or.inr ⟨by rfl, rfl⟩) hHeld4_4 ?_
    try simp only [List.getElem_toArray, List.getElem_cons_zero, List.getElem_cons_succ, Act.put, List.setIfInBounds_toArray, List.set_cons_zero, List.set_cons_succ]
    refine wpAnyH_take (i := 9) (v := undef) rfl (by kernel_rfl) (by kernel_rfl) (by kernel_rfl) (fun _ _ _ h => h) (Or.inr ⟨by rfl, rfl⟩) hHeld4_4 ?_
    try simp only [List.getElem_toArray, List.getElem_cons_zero, List.getElem_cons_succ, Act.put, List.setIfInBounds_toArray, List.set_cons_zero, List.set_cons_succ]
    refine wpAnyH_take (i := 10) (v := undef) rfl (by kernel_rfl) (by kernel_rfl) (by kernel_rfl) (fun _ _ _ h => h) (Or.inr ⟨by rfl, rfl⟩) hHeld4_4 ?_
    try simp only [List.getElem_toArray, List.getElem_cons_zero, List.getElem_cons_succ, Act.put, List.setIfInBounds_toArray, List.set_cons_zero, List.set_cons_succ]
    refine wpAnyH_take (i := 11) (v := undef) rfl (by kernel_rfl) (by kernel_rfl) (by kernel_rfl) (fun _ _ _ h => h) (Or.inr ⟨by rfl, rfl⟩) hHeld4_4 ?_
    try simp only [List.getElem_toArray, List.getElem_cons_zero, List.getElem_cons_succ, Act.put, List.setIfInBounds_toArray, List.set_cons_zero, List.set_cons_succ]
    refine wpAnyH_take (i := 12) (v := undef) rfl (by kernel_rfl) (by kernel_rfl) (by kernel_rfl) (fun _ _ _ h => h) (Or.inr ⟨by rfl, rfl⟩) hHeld4_4 ?_
    try simp only [List.getElem_toArray, List.getElem_cons_zero, List.getElem_cons_succ, Act.put, List.setIfInBounds_toArray, List.set_cons_zero, List.set_cons_succ]
    refine wpAnyH_take (i := 13) (v := ?_) rfl (by kernel_rfl) (by kernel_rfl) (by kernel_rfl) (fun _ _ _ h => h) (Or.inl ⟨by rfl, ?_⟩) hHeld4_4 ?_
    rotate_left
    · intro w hSw
      (try dsimp only at hSw)
      go_simp
      try (first | (with_reducible rfl) | rfl)
    try simp only [List.getElem_toArray, List.getElem_cons_zero, List.getElem_cons_succ, Act.put, List.setIfInBounds_toArray, List.set_cons_zero, List.set_cons_succ]
    refine wpAnyH_take (i := 14) (v := ?_) rfl (by kernel_rfl) (by kernel_rfl) (by kernel_rfl) (fun _ _ _ h => h) (Or.inl ⟨by rfl, ?_⟩) hHeld4_4 ?_
    rotate_left
    · intro w hSw
      (try dsimp only at hSw)
      go_simp
      try (first | (with_reducible rfl) | rfl)
    try simp only [List.getElem_toArray, List.getElem_cons_zero, List.getElem_cons_succ, Act.put, List.setIfInBounds_toArray, List.set_cons_zero, List.set_cons_succ]
    refine wpAnyH_take (i := 15) (v := undef) rfl (by kernel_rfl) (by kernel_rfl) (by kernel_rfl) (fun _ _ _ h => h) (Or.inr ⟨by rfl, rfl⟩) hHeld4_4 ?_
    try simp only [List.getElem_toArray, List.getElem_cons_zero, List.getElem_cons_succ, Act.put, List.setIfInBounds_toArray, List.set_cons_zero, List.set_cons_succ]
    refine wpAnyH_take (i := 16) (v := undef) rfl (by kernel_rfl) (by kernel_rfl) (by kernel_rfl) (fun _ _ _ h => h) (Or.inr ⟨by rfl, rfl⟩) hHeld4_4 ?_
    try simp only [List.getElem_toArray, List.getElem_cons_zero, List.getElem_cons_succ, Act.put, List.setIfInBounds_toArray, List.set_cons_zero, List.set_cons_succ]
    refine wpAnyH_take (i := 17) (v := undef) rfl (by kernel_rfl) (by kernel_rfl) (by kernel_rfl) (fun _ _ _ h => h) (Or.inr ⟨by rfl, rfl⟩) hHeld4_4 ?_
    try simp only [List.getElem_toArray, List.getElem_cons_zero, List.getElem_cons_succ, Act.put, List.setIfInBounds_toArray, List.set_cons_zero, List.set_cons_succ]
    refine wpAnyH_take (i := 18) (v := undef) rfl (by kernel_rfl) (by kernel_rfl) (by kernel_rfl) (fun _ _ _ h => h) (Or.inr ⟨by rfl, rfl⟩) hHeld4_4 ?_
    try simp only [List.getElem_toArray, List.getElem_cons_zero, List.getElem_cons_succ, Act.put, List.setIfInBounds_toArray, List.set_cons_zero, List.set_cons_succ]
    refine wpAnyH_take (i := 19) (v := undef) rfl (by kernel_rfl) (by kernel_rfl) (by kernel_rfl) (fun _ _ _ h => h) (Or.inr ⟨by rfl, rfl⟩) hHeld4_4 ?_
    try simp only [List.getElem_toArray, List.getElem_cons_zero, List.getElem_cons_succ, Act.put, List.setIfInBounds_toArray, List.set_cons_zero, List.set_cons_succ]
    refine wpAnyH_take (i := 20) (v := undef) rfl (by kernel_rfl) (by kernel_rfl) (by kernel_rfl) (fun _ _ _ h => h) (Or.inr ⟨by rfl, rfl⟩) hHeld4_4 ?_
    try simp only [List.getElem_toArray, List.getElem_cons_zero, List.getElem_cons_succ, Act.put, List.setIfInBounds_toArray, List.set_cons_zero, List.set_cons_succ]
    refine wpAnyH_take (i := 21) (v := undef) rfl (by kernel_rfl) (by kernel_rfl) (by kernel_rfl) (fun _ _ _ h => h) (Or.inr ⟨by rfl, rfl⟩) hHeld4_4 ?_
    try simp only [List.getElem_toArray, List.getElem_cons_zero, List.getElem_cons_succ, Act.put, List.setIfInBounds_toArray, List.set_cons_zero, List.set_cons_succ]
    refine wpAnyH_take (i := 22) (v := undef) rfl (by kernel_rfl) (by kernel_rfl) (by kernel_rfl) (fun _ _ _ h => h) (Or.inr ⟨by rfl, rfl⟩) hHeld4_4 ?_
    try simp only [List.getElem_toArray, List.getElem_cons_zero, List.getElem_cons_succ, Act.put, List.setIfInBounds_toArray, List.set_cons_zero, List.set_cons_succ]
    refine wpAnyH_take (i := 23) (v := undef) rfl (by kernel_rfl) (by kernel_rfl) (by kernel_rfl) (fun _ _ _ h => h) (Or.inr ⟨by rfl, rfl⟩) hHeld4_4 ?_
    try simp only [List.getElem_toArray, List.getElem_cons_zero, List.getElem_cons_succ, Act.put, List.setIfInBounds_toArray, List.set_cons_zero, List.set_cons_succ]
    refine wpAnyH_take (i := 24) (v := undef) rfl (by kernel_rfl) (by kernel_rfl) (by kernel_rfl) (fun _ _ _ h => h) (Or.inr ⟨by rfl, rfl⟩) hHeld4_4 ?_
    try simp only [List.getElem_toArray, List.getElem_cons_zero, List.getElem_cons_succ, Act.put, List.setIfInBounds_toArray, List.set_cons_zero, List.set_cons_succ]
    refine wpAnyH_take (i := 25) (v := undef) rfl (by kernel_rfl) (by kernel_rfl) (by kernel_rfl) (fun _ _ _ h => h) (Or.inr ⟨by rfl, rfl⟩) hHeld4_4 ?_
    try simp only [List.getElem_toArray, List.getElem_cons_zero, List.getElem_cons_succ, Act.put, List.setIfInBounds_toArray, List.set_cons_zero, List.set_cons_succ]
    refine wpAnyH_take (i := 26) (v := ?_) rfl (by kernel_rfl) (by kernel_rfl) (by kernel_rfl) (fun _ _ _ h => h) (Or.inl ⟨by rfl, ?_⟩) hHeld4_4 ?_
    rotate_left
    · intro w hSw
      (try dsimp only at hSw)
      go_simp
      try (first | (with_reducible rfl) | rfl)
    try simp only [List.getElem_toArray, List.getElem_cons_zero, List.getElem_cons_succ, Act.put, List.setIfInBounds_toArray, List.set_cons_zero, List.set_cons_succ]
    refine wpAnyH_done (by kernel_rfl) ?_ _
    have h5 := H.out.below HBD.out
    clear c0 c1 c2 c3 c4 c5 c6 c7 c8 c9 z0 z5 z6 z7 z8 z9 lt0
    obtain ⟨⟨c0, c1, c2, c3, c4, c5, c6, c7, c8, c9⟩, ⟨z0, z5, z6, z7, z8, z9⟩, lt0⟩ := cellsE (h5.cells 2 rfl)
    have H5 := Lib.hid h5
    clear h5
    go_wp2
    go_ret2
    exact ⟨rfl, H5.out.setAt 2 rfl 9 _⟩
  exact AllReadyH.nil

set_option maxHeartbeats 8000000 in
theorem e_unfit_slots {w0 w : World} {q r p : Nat} {ws : List Int} {ns : List Note} {now : Int} {ds : List Int} {L : List Asn} (n s h t rg ex : Int) (fn : Value) (pl : Int) (hS : St w0 (memA q ws ns :: srcA r now ds :: eB p (.pointer none) n s h t rg ex fn pl 0 :: L) w) (hok : okC n s h = true) (hs : (s == 0) = true) :
    Calls Tryz.prog 113 #[.pointer (some ⟨p, 0, none⟩), .pointer (some ⟨q, 0, none⟩), .pointer (some ⟨r, 0, none⟩)] w fun e w' => e = .returned (.tuple #[.int .i64 2, .int .u32 0]) ∧ St w0 (memA q ws ns :: srcA r now ds :: eB p (.pointer none) n s h t rg ex fn pl 2 :: L) w' := by
  have H := Lib.hid hS
  have HOK := Lib.hid hok
  have HCS : Hid (∀ w', Below w.heap.size w w' → w'.cell? ⟨p, 1, none⟩ = some (.int .i64 n) ∧ w'.cell? ⟨p, 2, none⟩ = some (.int .i64 s) ∧ w'.cell? ⟨p, 3, none⟩ = some (.int .i64 h) ∧ w'.cell? ⟨p, 4, none⟩ = some (.int .u32 t) ∧ w'.cell? ⟨p, 5, none⟩ = some (.int .i64 rg) ∧ w'.cell? ⟨p, 6, none⟩ = some (.int .i64 ex)) := Lib.hid (fun w' hb => by
    obtain ⟨⟨c0, c1, c2, c3, c4, c5, c6, c7, c8, c9⟩, ⟨z0, z5, z6, z7, z8, z9⟩, lt0⟩ := cellsE ((hS.below hb).cells 2 rfl)
    exact ⟨c1, c2, c3, c4, c5, c6⟩)
  have HBD := Lib.hid (Below.refl w.heap.size w).drew
  obtain ⟨⟨c0, c1, c2, c3, c4, c5, c6, c7, c8, c9⟩, ⟨z0, z5, z6, z7, z8, z9⟩, lt0⟩ := cellsE (hS.cells 2 rfl)
  clear hS hok
  go_enter Tryz.func113, Tryz.ntmps113
  go_wp2
  refine wp_region_held_drew (S := (fun w' => w'.cell? ⟨p, 1, none⟩ = some (.int .i64 n) ∧ w'.cell? ⟨p, 2, none⟩ = some (.int .i64 s) ∧ w'.cell? ⟨p, 3, none⟩ = some (.int .i64 h) ∧ w'.cell? ⟨p, 4, none⟩ = some (.int .u32 t) ∧ w'.cell? ⟨p, 5, none⟩ = some (.int .i64 rg) ∧ w'.cell? ⟨p, 6, none⟩ = some (.int .i64 ex))) (by kernel_rfl) ?_ (fun hHeld0 => ?_)
  · first | exact HCS.out _ HBD.out | exact HCS.out _ (Below.refl _ _)
  refine wpAnyH_take (i := 0) (v := ?_) rfl (by kernel_rfl) (by kernel_rfl) (by kernel_rfl) (fun _ _ _ h => h) (Or.inl ⟨by rfl, ?_⟩) hHeld0 ?_
  rotate_left
  · intro w hSw
    (try dsimp only at hSw)
    go_simp
    try (first | (with_reducible rfl) | rfl)
  try simp only [List.getElem_toArray, List.getElem_cons_zero, List.getElem_cons_succ, Act.put, List.setIfInBounds_toArray, List.set_cons_zero, List.set_cons_succ]
  refine wpAnyH_take (i := 1) (v := ?_) rfl (by kernel_rfl) (by kernel_rfl) (by kernel_rfl) (fun _ _ _ h => h) (Or.inl ⟨by rfl, ?_⟩) hHeld0 ?_
  rotate_left
  · intro w hSw
    (try dsimp only at hSw)
    go_simp
    try (first | (with_reducible rfl) | rfl)
  try simp only [List.getElem_toArray, List.getElem_cons_zero, List.getElem_cons_succ, Act.put, List.setIfInBounds_toArray, List.set_cons_zero, List.set_cons_succ]
  refine wpAnyH_take (i := 2) (v := ?_) rfl (by kernel_rfl) (by kernel_rfl) (by kernel_rfl) (fun _ _ _ h => h) (Or.inl ⟨by rfl, ?_⟩) hHeld0 ?_
  rotate_left
  · intro w hSw
    (try dsimp only at hSw)
    go_simp
    try (first | (with_reducible rfl) | rfl)
  try simp only [List.getElem_toArray, List.getElem_cons_zero, List.getElem_cons_succ, Act.put, List.setIfInBounds_toArray, List.set_cons_zero, List.set_cons_succ]
  refine wpAnyH_take (i := 3) (v := ?_) rfl (by kernel_rfl) (by kernel_rfl) (by kernel_rfl) (fun _ _ _ h => h) (Or.inl ⟨by rfl, ?_⟩) hHeld0 ?_
  rotate_left
  · intro w hSw
    (try dsimp only at hSw)
    go_simp
    try (first | (with_reducible rfl) | rfl)
  try simp only [List.getElem_toArray, List.getElem_cons_zero, List.getElem_cons_succ, Act.put, List.setIfInBounds_toArray, List.set_cons_zero, List.set_cons_succ]
  refine wpAnyH_ready (rs := [4]) (by kernel_rfl) (by simp) ?_
  refine AllReadyH.cons rfl (fun K hK => ?_) ?_
  · go_simp
    (go_at_call 54; refine (check_yes n s h t _ HOK.out).mono ?_; rintro e w5 ⟨rfl, hb⟩; (have HZ2 := Lib.hid (HBD.out.trans (hb.mono HBD.out.size))); clear hb HBD; (have HBD := HZ2); clear HZ2)
    go_wp2_with fail
    refine hK.out _ _ ?_ (fun hHeld4_4 => ?_)
    · first | exact HCS.out _ HBD.out | exact HCS.out _ (Below.refl _ _)
    clear hK K
    try simp only [List.getElem_toArray, List.getElem_cons_zero, List.getElem_cons_succ, Act.put, List.setIfInBounds_toArray, List.set_cons_zero, List.set_cons_succ]
    refine wpAnyH_take (i := 5) (v := ?_) rfl (by kernel_rfl) (by kernel_rfl) (by kernel_rfl) (fun _ _ _ h => h) (Or.inl ⟨by rfl, ?_⟩) hHeld4_4 ?_
    rotate_left
    · intro w hSw
      (try dsimp only at hSw)
      go_simp
      try (first | (with_reducible rfl) | rfl)
    try simp only [List.getElem_toArray, List.getElem_cons_zero, List.getElem_cons_succ, Act.put, List.setIfInBounds_toArray, List.set_cons_zero, List.set_cons_succ]
    refine wpAnyH_take (i := 6) (v := ?_) rfl (by kernel_rfl) (by kernel_rfl) (by kernel_rfl) (fun _ _ _ h => h) (Or.inl ⟨by rfl, ?_⟩) hHeld4_4 ?_
    rotate_left
    · intro w hSw
      (try dsimp only at hSw)
      go_simp
      try (first | (with_reducible rfl) | rfl)
    try simp only [List.getElem_toArray, List.getElem_cons_zero, List.getElem_cons_succ, Act.put, List.setIfInBounds_toArray, List.set_cons_zero, List.set_cons_succ]
    refine wpAnyH_take (i := 7) (v := ?_) rfl (by kernel_rfl) (by kernel_rfl) (by kernel_rfl) (fun _ _ _ h => h) (Or.inl ⟨by rfl, ?_⟩) hHeld4_4 ?_
    rotate_left
    · intro w hSw
      (try dsimp only at hSw)
      go_simp
      try (first | (with_reducible rfl) | rfl)
    try simp only [List.getElem_toArray, List.getElem_cons_zero, List.getElem_cons_succ, Act.put, List.setIfInBounds_toArray, List.set_cons_zero, List.set_cons_succ]
    refine wpAnyH_take (i := 8) (v := ?_) rfl (by kernel_rfl) (by kernel_rfl) (by kernel_rfl) (fun _ _ _ h => h) (Or.inl ⟨by rfl, ?_⟩) hHeld4_4 ?_
    rotate_left
    · intro w hSw
      (try dsimp only at hSw)
      go_simp
      try (first | (with_reducible rfl) | rfl)
    try simp only [List.getElem_toArray, List.getElem_cons_zero, List.getElem_cons_succ, Act.put, List.setIfInBounds_toArray, List.set_cons_zero, List.set_cons_succ]
    refine wpAnyH_take (i := 9) (v := ?_) rfl (by kernel_rfl) (by kernel_rfl) (by kernel_rfl) (fun _ _ _ h => h) (Or.inl ⟨by rfl, ?_⟩) hHeld4_4 ?_
    rotate_left
    · intro w hSw
      (try dsimp only at hSw)
      go_simp
      try (first | (with_reducible rfl) | rfl)
    try simp only [List.getElem_toArray, List.getElem_cons_zero, List.getElem_cons_succ, Act.put, List.setIfInBounds_toArray, List.set_cons_zero, List.set_cons_succ]
    refine wpAnyH_take (i := 10) (v := ?_) rfl (by kernel_rfl) (by kernel_rfl) (by kernel_rfl) (fun _ _ _ h => h) (Or.inl ⟨by rfl, ?_⟩) hHeld4_4 ?_
    rotate_left
    · intro w hSw
      (try dsimp only at hSw)
      go_simp
      try (first | (with_reducible rfl) | rfl)
    try simp only [List.getElem_toArray, List.getElem_cons_zero, List.getElem_cons_succ, Act.put, List.setIfInBounds_toArray, List.set_cons_zero, List.set_cons_succ]
    refine wpAnyH_take (i := 11) (v := ?_) rfl (by kernel_rfl) (by kernel_rfl) (by kernel_rfl) (fun _ _ _ h => h) (Or.inl ⟨by rfl, ?_⟩) hHeld4_4 ?_
    rotate_left
    · intro w hSw
      (try dsimp only at hSw)
      go_simp
      try (first | (with_reducible rfl) | rfl)
    try simp only [List.getElem_toArray, List.getElem_cons_zero, List.getElem_cons_succ, Act.put, List.setIfInBounds_toArray, List.set_cons_zero, List.set_cons_succ]
    refine wpAnyH_take (i := 12) (v := ?_) rfl (by kernel_rfl) (by kernel_rfl) (by kernel_rfl) (fun _ _ _ h => h) (Or.inl ⟨by rfl, ?_⟩) hHeld4_4 ?_
    rotate_left
    · intro w hSw
      (try dsimp only at hSw)
      go_simp
      try (first | (with_reducible rfl) | rfl)
    try simp only [List.getElem_toArray, List.getElem_cons_zero, List.getElem_cons_succ, Act.put, List.setIfInBounds_toArray, List.set_cons_zero, List.set_cons_succ]
    refine wpAnyH_take (i := 13) (v := ?_) rfl (by kernel_rfl) (by kernel_rfl) (by kernel_rfl) (fun _ _ _ h => h) (Or.inl ⟨by rfl, ?_⟩) hHeld4_4 ?_
    rotate_left
    · intro w hSw
      (try dsimp only at hSw)
      go_simp
      try (first | (with_reducible rfl) | rfl)
    try simp only [List.getElem_toArray, List.getElem_cons_zero, List.getElem_cons_succ, Act.put, List.setIfInBounds_toArray, List.set_cons_zero, List.set_cons_succ]
    refine wpAnyH_take (i := 14) (v := ?_) rfl (by kernel_rfl) (by kernel_rfl) (by kernel_rfl) (fun _ _ _ h => h) (Or.inl ⟨by rfl, ?_⟩) hHeld4_4 ?_
    rotate_left
    · intro w hSw
      (try dsimp only at hSw)
      go_simp
      try (first | (with_reducible rfl) | rfl)
    try simp only [List.getElem_toArray, List.getElem_cons_zero, List.getElem_cons_succ, Act.put, List.setIfInBounds_toArray, List.set_cons_zero, List.set_cons_succ]
    refine wpAnyH_take (i := 15) (v := undef) rfl (by kernel_rfl) (by kernel_rfl) (by kernel_rfl) (fun _ _ _ h => h) (Or.inr ⟨by rfl, rfl⟩) hHeld4_4 ?_
    try simp only [List.getElem_toArray, List.getElem_cons_zero, List.getElem_cons_succ, Act.put, List.setIfInBounds_toArray, List.set_cons_zero, List.set_cons_succ]
    refine wpAnyH_take (i := 16) (v := undef) rfl (by kernel_rfl) (by kernel_rfl) (by kernel_rfl) (fun _ _ _ h => h) (Or.inr ⟨by rfl, rfl⟩) hHeld4_4 ?_
    try simp only [List.getElem_toArray, List.getElem_cons_zero, List.getElem_cons_succ, Act.put, List.setIfInBounds_toArray, List.set_cons_zero, List.set_cons_succ]
    refine wpAnyH_take (i := 17) (v := undef) rfl (by kernel_rfl) (by kernel_rfl) (by kernel_rfl) (fun _ _ _ h => h) (Or.inr ⟨by rfl, rfl⟩) hHeld4_4 ?_
    try simp only [List.getElem_toArray, List.getElem_cons_zero, List.getElem_cons_succ, Act.put, List.setIfInBounds_toArray, List.set_cons_zero, List.set_cons_succ]
    refine wpAnyH_take (i := 18) (v := undef) rfl (by kernel_rfl) (by kernel_rfl) (by kernel_rfl) (fun _ _ _ h => h) (Or.inr ⟨by rfl, rfl⟩) hHeld4_4 ?_
    try simp only [List.getElem_toArray, List.getElem_cons_zero, List.getElem_cons_succ, Act.put, List.setIfInBounds_toArray, List.set_cons_zero, List.set_cons_succ]
    refine wpAnyH_take (i := 19) (v := undef) rfl (by kernel_rfl) (by kernel_rfl) (by kernel_rfl) (fun _ _ _ h => h) (Or.inr ⟨by rfl, rfl⟩) hHeld4_4 ?_
    try simp only [List.getElem_toArray, List.getElem_cons_zero, List.getElem_cons_succ, Act.put, List.setIfInBounds_toArray, List.set_cons_zero, List.set_cons_succ]
    refine wpAnyH_take (i := 20) (v := undef) rfl (by kernel_rfl) (by kernel_rfl) (by kernel_rfl) (fun _ _ _ h => h) (Or.inr ⟨by rfl, rfl⟩) hHeld4_4 ?_
    try simp only [List.getElem_toArray, List.getElem_cons_zero, List.getElem_cons_succ, Act.put, List.setIfInBounds_toArray, List.set_cons_zero, List.set_cons_succ]
    refine wpAnyH_take (i := 21) (v := undef) rfl (by kernel_rfl) (by kernel_rfl) (by kernel_rfl) (fun _ _ _ h => h) (Or.inr ⟨by rfl, rfl⟩) hHeld4_4 ?_
    try simp only [List.getElem_toArray, List.getElem_cons_zero, List.getElem_cons_succ, Act.put, List.setIfInBounds_toArray, List.set_cons_zero, List.set_cons_succ]
    refine wpAnyH_take (i := 22) (v := undef) rfl (by kernel_rfl) (by kernel_rfl) (by kernel_rfl) (fun _ _ _ h => h) (Or.inr ⟨by rfl, rfl⟩) hHeld4_4 ?_
    try simp only [List.getElem_toArray, List.getElem_cons_zero, List.getElem_cons_succ, Act.put, List.setIfInBounds_toArray, List.set_cons_zero, List.set_cons_succ]
    refine wpAnyH_take (i := 23) (v := undef) rfl (by kernel_rfl) (by kernel_rfl) (by kernel_rfl) (fun _ _ _ h => h) (Or.inr ⟨by rfl, rfl⟩) hHeld4_4 ?_
    try simp only [List.getElem_toArray, List.getElem_cons_zero, List.getElem_cons_succ, Act.put, List.setIfInBounds_toArray, List.set_cons_zero, List.set_cons_succ]
    refine wpAnyH_take (i := 24) (v := undef) rfl (by kernel_rfl) (by kernel_rfl) (by kernel_rfl) (fun _ _ _ h => h) (Or.inr ⟨by rfl, rfl⟩) hHeld4_4 ?_
    try simp only [List.getElem_toArray, List.getElem_cons_zero, List.getElem_cons_succ, Act.put, List.setIfInBounds_toArray, List.set_cons_zero, List.set_cons_succ]
    refine wpAnyH_take (i := 25) (v := undef) rfl (by kernel_rfl) (by kernel_rfl) (by kernel_rfl) (fun _ _ _ h => h) (Or.inr ⟨by rfl, rfl⟩) hHeld4_4 ?_
    try simp only [List.getElem_toArray, List.getElem_cons_zero, List.getElem_cons_succ, Act.put, List.setIfInBounds_toArray, List.set_cons_zero, List.set_cons_succ]
    refine wpAnyH_take (i := 26) (v := ?_) rfl (by kernel_rfl) (by kernel_rfl) (by kernel_rfl) (fun _ _ _ h => h) (Or.inl ⟨by rfl, ?_⟩) hHeld4_4 ?_
    rotate_left
    · intro w hSw
      (try dsimp only at hSw)
      go_simp
      try (first | (with_reducible rfl) | rfl)
    try simp only [List.getElem_toArray, List.getElem_cons_zero, List.getElem_cons_succ, Act.put, List.setIfInBounds_toArray, List.set_cons_zero, List.set_cons_succ]
    refine wpAnyH_done (by kernel_rfl) ?_ _
    have h5 := H.out.below HBD.out
    clear c0 c1 c2 c3 c4 c5 c6 c7 c8 c9 z0 z5 z6 z7 z8 z9 lt0
    obtain ⟨⟨c0, c1, c2, c3, c4, c5, c6, c7, c8, c9⟩, ⟨z0, z5, z6, z7, z8, z9⟩, lt0⟩ := cellsE (h5.cells 2 rfl)
    have H5 := Lib.hid h5
    clear h5
    go_wp2
    go_ret2
    exact ⟨rfl, H5.out.setAt 2 rfl 9 _⟩
  exact AllReadyH.nil

set_option maxHeartbeats 8000000 in
theorem e_unfit_right {w0 w : World} {q r p : Nat} {ws : List Int} {ns : List Note} {now : Int} {ds : List Int} {L : List Asn} (n s h t rg ex : Int) (fn : Value) (pl : Int) (hS : St w0 (memA q ws ns :: srcA r now ds :: eB p (.pointer none) n s h t rg ex fn pl 0 :: L) w) (hok : okC n s h = true) (hs : (s == 0) = false) (hpk : pOk rg ex s = false) :
    Calls Tryz.prog 113 #[.pointer (some ⟨p, 0, none⟩), .pointer (some ⟨q, 0, none⟩), .pointer (some ⟨r, 0, none⟩)] w fun e w' => e = .returned (.tuple #[.int .i64 2, .int .u32 0]) ∧ St w0 (memA q ws ns :: srcA r now ds :: eB p (.pointer none) n s h t rg ex fn pl 2 :: L) w' := by
  have H := Lib.hid hS
  have HOK := Lib.hid hok
  have HPK := Lib.hid hpk
  have HCS : Hid (∀ w', Below w.heap.size w w' → w'.cell? ⟨p, 1, none⟩ = some (.int .i64 n) ∧ w'.cell? ⟨p, 2, none⟩ = some (.int .i64 s) ∧ w'.cell? ⟨p, 3, none⟩ = some (.int .i64 h) ∧ w'.cell? ⟨p, 4, none⟩ = some (.int .u32 t) ∧ w'.cell? ⟨p, 5, none⟩ = some (.int .i64 rg) ∧ w'.cell? ⟨p, 6, none⟩ = some (.int .i64 ex)) := Lib.hid (fun w' hb => by
    obtain ⟨⟨c0, c1, c2, c3, c4, c5, c6, c7, c8, c9⟩, ⟨z0, z5, z6, z7, z8, z9⟩, lt0⟩ := cellsE ((hS.below hb).cells 2 rfl)
    exact ⟨c1, c2, c3, c4, c5, c6⟩)
  have HBD := Lib.hid (Below.refl w.heap.size w).drew
  obtain ⟨⟨c0, c1, c2, c3, c4, c5, c6, c7, c8, c9⟩, ⟨z0, z5, z6, z7, z8, z9⟩, lt0⟩ := cellsE (hS.cells 2 rfl)
  clear hS hok hpk
  go_enter Tryz.func113, Tryz.ntmps113
  go_wp2
  refine wp_region_held_drew (S := (fun w' => w'.cell? ⟨p, 1, none⟩ = some (.int .i64 n) ∧ w'.cell? ⟨p, 2, none⟩ = some (.int .i64 s) ∧ w'.cell? ⟨p, 3, none⟩ = some (.int .i64 h) ∧ w'.cell? ⟨p, 4, none⟩ = some (.int .u32 t) ∧ w'.cell? ⟨p, 5, none⟩ = some (.int .i64 rg) ∧ w'.cell? ⟨p, 6, none⟩ = some (.int .i64 ex))) (by kernel_rfl) ?_ (fun hHeld0 => ?_)
  · first | exact HCS.out _ HBD.out | exact HCS.out _ (Below.refl _ _)
  refine wpAnyH_take (i := 0) (v := ?_) rfl (by kernel_rfl) (by kernel_rfl) (by kernel_rfl) (fun _ _ _ h => h) (Or.inl ⟨by rfl, ?_⟩) hHeld0 ?_
  rotate_left
  · intro w hSw
    (try dsimp only at hSw)
    go_simp
    try (first | (with_reducible rfl) | rfl)
  try simp only [List.getElem_toArray, List.getElem_cons_zero, List.getElem_cons_succ, Act.put, List.setIfInBounds_toArray, List.set_cons_zero, List.set_cons_succ]
  refine wpAnyH_take (i := 1) (v := ?_) rfl (by kernel_rfl) (by kernel_rfl) (by kernel_rfl) (fun _ _ _ h => h) (Or.inl ⟨by rfl, ?_⟩) hHeld0 ?_
  rotate_left
  · intro w hSw
    (try dsimp only at hSw)
    go_simp
    try (first | (with_reducible rfl) | rfl)
  try simp only [List.getElem_toArray, List.getElem_cons_zero, List.getElem_cons_succ, Act.put, List.setIfInBounds_toArray, List.set_cons_zero, List.set_cons_succ]
  refine wpAnyH_take (i := 2) (v := ?_) rfl (by kernel_rfl) (by kernel_rfl) (by kernel_rfl) (fun _ _ _ h => h) (Or.inl ⟨by rfl, ?_⟩) hHeld0 ?_
  rotate_left
  · intro w hSw
    (try dsimp only at hSw)
    go_simp
    try (first | (with_reducible rfl) | rfl)
  try simp only [List.getElem_toArray, List.getElem_cons_zero, List.getElem_cons_succ, Act.put, List.setIfInBounds_toArray, List.set_cons_zero, List.set_cons_succ]
  refine wpAnyH_take (i := 3) (v := ?_) rfl (by kernel_rfl) (by kernel_rfl) (by kernel_rfl) (fun _ _ _ h => h) (Or.inl ⟨by rfl, ?_⟩) hHeld0 ?_
  rotate_left
  · intro w hSw
    (try dsimp only at hSw)
    go_simp
    try (first | (with_reducible rfl) | rfl)
  try simp only [List.getElem_toArray, List.getElem_cons_zero, List.getElem_cons_succ, Act.put, List.setIfInBounds_toArray, List.set_cons_zero, List.set_cons_succ]
  refine wpAnyH_ready (rs := [4]) (by kernel_rfl) (by simp) ?_
  refine AllReadyH.cons rfl (fun K hK => ?_) ?_
  · go_simp
    (go_at_call 54; refine (check_yes n s h t _ HOK.out).mono ?_; rintro e w5 ⟨rfl, hb⟩; (have HZ2 := Lib.hid (HBD.out.trans (hb.mono HBD.out.size))); clear hb HBD; (have HBD := HZ2); clear HZ2)
    go_wp2_with fail
    refine hK.out _ _ ?_ (fun hHeld4_4 => ?_)
    · first | exact HCS.out _ HBD.out | exact HCS.out _ (Below.refl _ _)
    clear hK K
    try simp only [List.getElem_toArray, List.getElem_cons_zero, List.getElem_cons_succ, Act.put, List.setIfInBounds_toArray, List.set_cons_zero, List.set_cons_succ]
    refine wpAnyH_take (i := 5) (v := ?_) rfl (by kernel_rfl) (by kernel_rfl) (by kernel_rfl) (fun _ _ _ h => h) (Or.inl ⟨by rfl, ?_⟩) hHeld4_4 ?_
    rotate_left
    · intro w hSw
      (try dsimp only at hSw)
      go_simp
      try (first | (with_reducible rfl) | rfl)
    try simp only [List.getElem_toArray, List.getElem_cons_zero, List.getElem_cons_succ, Act.put, List.setIfInBounds_toArray, List.set_cons_zero, List.set_cons_succ]
    refine wpAnyH_take (i := 6) (v := ?_) rfl (by kernel_rfl) (by kernel_rfl) (by kernel_rfl) (fun _ _ _ h => h) (Or.inl ⟨by rfl, ?_⟩) hHeld4_4 ?_
    rotate_left
    · intro w hSw
      (try dsimp only at hSw)
      go_simp
      try (first | (with_reducible rfl) | rfl)
    try simp only [List.getElem_toArray, List.getElem_cons_zero, List.getElem_cons_succ, Act.put, List.setIfInBounds_toArray, List.set_cons_zero, List.set_cons_succ]
    refine wpAnyH_take (i := 7) (v := ?_) rfl (by kernel_rfl) (by kernel_rfl) (by kernel_rfl) (fun _ _ _ h => h) (Or.inl ⟨by rfl, ?_⟩) hHeld4_4 ?_
    rotate_left
    · intro w hSw
      (try dsimp only at hSw)
      go_simp
      try (first | (with_reducible rfl) | rfl)
    try simp only [List.getElem_toArray, List.getElem_cons_zero, List.getElem_cons_succ, Act.put, List.setIfInBounds_toArray, List.set_cons_zero, List.set_cons_succ]
    refine wpAnyH_take (i := 8) (v := ?_) rfl (by kernel_rfl) (by kernel_rfl) (by kernel_rfl) (fun _ _ _ h => h) (Or.inl ⟨by rfl, ?_⟩) hHeld4_4 ?_
    rotate_left
    · intro w hSw
      (try dsimp only at hSw)
      go_simp
      try (first | (with_reducible rfl) | rfl)
    try simp only [List.getElem_toArray, List.getElem_cons_zero, List.getElem_cons_succ, Act.put, List.setIfInBounds_toArray, List.set_cons_zero, List.set_cons_succ]
    refine wpAnyH_take (i := 9) (v := ?_) rfl (by kernel_rfl) (by kernel_rfl) (by kernel_rfl) (fun _ _ _ h => h) (Or.inl ⟨by rfl, ?_⟩) hHeld4_4 ?_
    rotate_left
    · intro w hSw
      (try dsimp only at hSw)
      go_simp
      try (first | (with_reducible rfl) | rfl)
    try simp only [List.getElem_toArray, List.getElem_cons_zero, List.getElem_cons_succ, Act.put, List.setIfInBounds_toArray, List.set_cons_zero, List.set_cons_succ]
    refine wpAnyH_take (i := 10) (v := ?_) rfl (by kernel_rfl) (by kernel_rfl) (by kernel_rfl) (fun _ _ _ h => h) (Or.inl ⟨by rfl, ?_⟩) hHeld4_4 ?_
    rotate_left
    · intro w hSw
      (try dsimp only at hSw)
      go_simp
      try (first | (with_reducible rfl) | rfl)
    try simp only [List.getElem_toArray, List.getElem_cons_zero, List.getElem_cons_succ, Act.put, List.setIfInBounds_toArray, List.set_cons_zero, List.set_cons_succ]
    refine wpAnyH_take (i := 11) (v := ?_) rfl (by kernel_rfl) (by kernel_rfl) (by kernel_rfl) (fun _ _ _ h => h) (Or.inl ⟨by rfl, ?_⟩) hHeld4_4 ?_
    rotate_left
    · intro w hSw
      (try dsimp only at hSw)
      go_simp
      try (first | (with_reducible rfl) | rfl)
    try simp only [List.getElem_toArray, List.getElem_cons_zero, List.getElem_cons_succ, Act.put, List.setIfInBounds_toArray, List.set_cons_zero, List.set_cons_succ]
    refine wpAnyH_take (i := 12) (v := ?_) rfl (by kernel_rfl) (by kernel_rfl) (by kernel_rfl) (fun _ _ _ h => h) (Or.inl ⟨by rfl, ?_⟩) hHeld4_4 ?_
    rotate_left
    · intro w hSw
      (try dsimp only at hSw)
      go_simp
      try (first | (with_reducible rfl) | rfl)
    try simp only [List.getElem_toArray, List.getElem_cons_zero, List.getElem_cons_succ, Act.put, List.setIfInBounds_toArray, List.set_cons_zero, List.set_cons_succ]
    refine wpAnyH_take (i := 13) (v := ?_) rfl (by kernel_rfl) (by kernel_rfl) (by kernel_rfl) (fun _ _ _ h => h) (Or.inl ⟨by rfl, ?_⟩) hHeld4_4 ?_
    rotate_left
    · intro w hSw
      (try dsimp only at hSw)
      go_simp
      try (first | (with_reducible rfl) | rfl)
    try simp only [List.getElem_toArray, List.getElem_cons_zero, List.getElem_cons_succ, Act.put, List.setIfInBounds_toArray, List.set_cons_zero, List.set_cons_succ]
    refine wpAnyH_take (i := 14) (v := ?_) rfl (by kernel_rfl) (by kernel_rfl) (by kernel_rfl) (fun _ _ _ h => h) (Or.inl ⟨by rfl, ?_⟩) hHeld4_4 ?_
    rotate_left
    · intro w hSw
      (try dsimp only at hSw)
      go_simp
      try (first | (with_reducible rfl) | rfl)
    try simp only [List.getElem_toArray, List.getElem_cons_zero, List.getElem_cons_succ, Act.put, List.setIfInBounds_toArray, List.set_cons_zero, List.set_cons_succ]
    refine wpAnyH_take (i := 15) (v := ?_) rfl (by kernel_rfl) (by kernel_rfl) (by kernel_rfl) (fun _ _ _ h => h) (Or.inl ⟨by rfl, ?_⟩) hHeld4_4 ?_
    rotate_left
    · intro w hSw
      (try dsimp only at hSw)
      go_simp
      try (first | (with_reducible rfl) | rfl)
    try simp only [List.getElem_toArray, List.getElem_cons_zero, List.getElem_cons_succ, Act.put, List.setIfInBounds_toArray, List.set_cons_zero, List.set_cons_succ]
    refine wpAnyH_take (i := 16) (v := ?_) rfl (by kernel_rfl) (by kernel_rfl) (by kernel_rfl) (fun _ _ _ h => h) (Or.inl ⟨by rfl, ?_⟩) hHeld4_4 ?_
    rotate_left
    · intro w hSw
      (try dsimp only at hSw)
      go_simp
      try (first | (with_reducible rfl) | rfl)
    try simp only [List.getElem_toArray, List.getElem_cons_zero, List.getElem_cons_succ, Act.put, List.setIfInBounds_toArray, List.set_cons_zero, List.set_cons_succ]
    refine wpAnyH_take (i := 17) (v := ?_) rfl (by kernel_rfl) (by kernel_rfl) (by kernel_rfl) (fun _ _ _ h => h) (Or.inl ⟨by rfl, ?_⟩) hHeld4_4 ?_
    rotate_left
    · intro w hSw
      (try dsimp only at hSw)
      go_simp
      try (first | (with_reducible rfl) | rfl)
    try simp only [List.getElem_toArray, List.getElem_cons_zero, List.getElem_cons_succ, Act.put, List.setIfInBounds_toArray, List.set_cons_zero, List.set_cons_succ]
    refine wpAnyH_take (i := 18) (v := ?_) rfl (by kernel_rfl) (by kernel_rfl) (by kernel_rfl) (fun _ _ _ h => h) (Or.inl ⟨by rfl, ?_⟩) hHeld4_4 ?_
    rotate_left
    · intro w hSw
      (try dsimp only at hSw)
      go_simp
      try (first | (with_reducible rfl) | rfl)
    try simp only [List.getElem_toArray, List.getElem_cons_zero, List.getElem_cons_succ, Act.put, List.setIfInBounds_toArray, List.set_cons_zero, List.set_cons_succ]
    refine wpAnyH_take (i := 19) (v := ?_) rfl (by kernel_rfl) (by kernel_rfl) (by kernel_rfl) (fun _ _ _ h => h) (Or.inl ⟨by rfl, ?_⟩) hHeld4_4 ?_
    rotate_left
    · intro w hSw
      (try dsimp only at hSw)
      go_simp
      try (first | (with_reducible rfl) | rfl)
    try simp only [List.getElem_toArray, List.getElem_cons_zero, List.getElem_cons_succ, Act.put, List.setIfInBounds_toArray, List.set_cons_zero, List.set_cons_succ]
    refine wpAnyH_take (i := 20) (v := ?_) rfl (by kernel_rfl) (by kernel_rfl) (by kernel_rfl) (fun _ _ _ h => h) (Or.inl ⟨by rfl, ?_⟩) hHeld4_4 ?_
    rotate_left
    · intro w hSw
      (try dsimp only at hSw)
      go_simp
      try (first | (with_reducible rfl) | rfl)
    try simp only [List.getElem_toArray, List.getElem_cons_zero, List.getElem_cons_succ, Act.put, List.setIfInBounds_toArray, List.set_cons_zero, List.set_cons_succ]
    refine wpAnyH_take (i := 21) (v := ?_) rfl (by kernel_rfl) (by kernel_rfl) (by kernel_rfl) (fun _ _ _ h => h) (Or.inl ⟨by rfl, ?_⟩) hHeld4_4 ?_
    rotate_left
    · intro w hSw
      (try dsimp only at hSw)
      go_simp
      try (first | (with_reducible rfl) | rfl)
    try simp only [List.getElem_toArray, List.getElem_cons_zero, List.getElem_cons_succ, Act.put, List.setIfInBounds_toArray, List.set_cons_zero, List.set_cons_succ]
    refine wpAnyH_take (i := 22) (v := ?_) rfl (by kernel_rfl) (by kernel_rfl) (by kernel_rfl) (fun _ _ _ h => h) (Or.inl ⟨by rfl, ?_⟩) hHeld4_4 ?_
    rotate_left
    · intro w hSw
      (try dsimp only at hSw)
      go_simp
      try (first | (with_reducible rfl) | rfl)
    try simp only [List.getElem_toArray, List.getElem_cons_zero, List.getElem_cons_succ, Act.put, List.setIfInBounds_toArray, List.set_cons_zero, List.set_cons_succ]
    refine wpAnyH_take (i := 23) (v := ?_) rfl (by kernel_rfl) (by kernel_rfl) (by kernel_rfl) (fun _ _ _ h => h) (Or.inl ⟨by rfl, ?_⟩) hHeld4_4 ?_
    rotate_left
    · intro w hSw
      (try dsimp only at hSw)
      go_simp
      try (first | (with_reducible rfl) | rfl)
    try simp only [List.getElem_toArray, List.getElem_cons_zero, List.getElem_cons_succ, Act.put, List.setIfInBounds_toArray, List.set_cons_zero, List.set_cons_succ]
    refine wpAnyH_ready (rs := [24]) (by kernel_rfl) (by simp) ?_
    refine AllReadyH.cons rfl (fun K hK => ?_) ?_
    · go_simp
      (go_at_call 84; refine (right_any rg ex s _).mono ?_; rintro e w6 ⟨rfl, hb⟩; rw [HPK.out]; (have HZ2 := Lib.hid (HBD.out.trans (hb.mono HBD.out.size))); clear hb HBD; (have HBD := HZ2); clear HZ2)
      go_wp2_with fail
      refine hK.out _ _ ?_ (fun hHeld24_24 => ?_)
      · first | exact HCS.out _ HBD.out | exact HCS.out _ (Below.refl _ _)
      clear hK K
      try simp only [List.getElem_toArray, List.getElem_cons_zero, List.getElem_cons_succ, Act.put, List.setIfInBounds_toArray, List.set_cons_zero, List.set_cons_succ]
      refine wpAnyH_take (i := 25) (v := ?_) rfl (by kernel_rfl) (by kernel_rfl) (by kernel_rfl) (fun _ _ _ h => h) (Or.inl ⟨by rfl, ?_⟩) hHeld24_24 ?_
      rotate_left
      · intro w hSw
        (try dsimp only at hSw)
        go_simp
        try (first | (with_reducible rfl) | rfl)
      try simp only [List.getElem_toArray, List.getElem_cons_zero, List.getElem_cons_succ, Act.put, List.setIfInBounds_toArray, List.set_cons_zero, List.set_cons_succ]
      refine wpAnyH_take (i := 26) (v := ?_) rfl (by kernel_rfl) (by kernel_rfl) (by kernel_rfl) (fun _ _ _ h => h) (Or.inl ⟨by rfl, ?_⟩) hHeld24_24 ?_
      rotate_left
      · intro w hSw
        (try dsimp only at hSw)
        go_simp
        try (first | (with_reducible rfl) | rfl)
      try simp only [List.getElem_toArray, List.getElem_cons_zero, List.getElem_cons_succ, Act.put, List.setIfInBounds_toArray, List.set_cons_zero, List.set_cons_succ]
      refine wpAnyH_done (by kernel_rfl) ?_ _
      have h5 := H.out.below HBD.out
      clear c0 c1 c2 c3 c4 c5 c6 c7 c8 c9 z0 z5 z6 z7 z8 z9 lt0
      obtain ⟨⟨c0, c1, c2, c3, c4, c5, c6, c7, c8, c9⟩, ⟨z0, z5, z6, z7, z8, z9⟩, lt0⟩ := cellsE (h5.cells 2 rfl)
      have H5 := Lib.hid h5
      clear h5
      go_wp2
      go_ret2
      exact ⟨rfl, H5.out.setAt 2 rfl 9 _⟩
    exact AllReadyH.nil
  exact AllReadyH.nil

set_option maxHeartbeats 8000000 in
theorem e_run_more {w0 w : World} {q r p : Nat} {ws ws' : List Int} {ns ns' nt : List Note} {now : Int} {ds : List Int} {L : List Asn} (n s h t rg ex : Int) (fn : Value) (pl : Int) (v : Nat) (V V' : VM) (a z : Int) (hS : St w0 (memA q ws ns :: srcA r now ds :: visA v V :: eB p (.pointer (some ⟨v, 0, none⟩)) n s h t rg ex fn pl 0 :: L) w) (he : V.step ws now = ⟨a, V', ws', nt⟩) (hn : ns ++ nt = ns') (hz : V'.told a = z) (hok : V.ok ws.length ns.length) (hk : ns.length ≤ 1000000000000) (ha : (a == 0) = true) :
    Calls Tryz.prog 113 #[.pointer (some ⟨p, 0, none⟩), .pointer (some ⟨q, 0, none⟩), .pointer (some ⟨r, 0, none⟩)] w fun e w' => e = .returned (.tuple #[.int .i64 a, .int .u32 z]) ∧ St w0 (memA q ws' ns' :: srcA r now ds :: visA v V' :: eB p (.pointer (some ⟨v, 0, none⟩)) n s h t rg ex fn pl 0 :: L) w' := by
  have H := Lib.hid hS
  have HST := Lib.hid he
  have HN := Lib.hid hn
  have HZ := Lib.hid hz
  have HVO := Lib.hid hok
  obtain ⟨⟨c0, c1, c2, c3, c4, c5, c6, c7, c8, c9⟩, ⟨z0, z5, z6, z7, z8, z9⟩, lt0⟩ := cellsE (hS.cells 3 rfl)
  clear hS he hn hz hok
  go_enter Tryz.func113, Tryz.ntmps113
  go_wp2
  have HCP : Hid (∀ w', Below w.heap.size w w' → w'.cell? ⟨p, 0, none⟩ = some (.pointer (some ⟨v, 0, none⟩))) := Lib.hid (fun w' hb => (cellsE ((H.out.below hb).cells 3 rfl)).1.1)
  go_region_held3 (fun w' => w'.cell? ⟨p, 0, none⟩ = some (.pointer (some ⟨v, 0, none⟩))) (first | exact (cellsE (HS.out.cells 3 rfl)).1.1 | exact HCP.out _ (Below.refl _ _).drew | exact HCP.out _ (Below.refl _ _)) (first | (go_at_call 139; refine (src_now ((H.out.drew.front 1 rfl))).mono ?_; rintro e w' ⟨rfl, rfl⟩) | (go_at_call 138; refine (vstep z HST.out HN.out HZ.out ((H.out.drew.front 2 rfl).front 1 rfl) HVO.out hk).mono ?_; rintro e w7 ⟨rfl, h⟩; (have HS := Lib.hid ((h.front 2 rfl).front 1 rfl)); clear h))
  clear c0 c1 c2 c3 c4 c5 c6 c7 c8 c9 z0 z5 z6 z7 z8 z9 lt0
  obtain ⟨⟨c0, c1, c2, c3, c4, c5, c6, c7, c8, c9⟩, ⟨z0, z5, z6, z7, z8, z9⟩, lt0⟩ := cellsE (HS.out.cells 3 rfl)
  go_wp2
  go_ret2
  exact ⟨rfl, HS.out⟩

set_option maxHeartbeats 8000000 in
theorem e_run_over {w0 w : World} {q r p : Nat} {ws ws' : List Int} {ns ns' nt : List Note} {now : Int} {ds : List Int} {L : List Asn} (n s h t rg ex : Int) (fn : Value) (pl : Int) (v : Nat) (V V' : VM) (a z : Int) (hS : St w0 (memA q ws ns :: srcA r now ds :: visA v V :: eB p (.pointer (some ⟨v, 0, none⟩)) n s h t rg ex fn pl 0 :: L) w) (he : V.step ws now = ⟨a, V', ws', nt⟩) (hn : ns ++ nt = ns') (hz : V'.told a = z) (hok : V.ok ws.length ns.length) (hk : ns.length ≤ 1000000000000) (ha : (a == 0) = false) (hrg : 0 ≤ rg ∧ rg ≤ 16) (hex : 0 ≤ ex ∧ ex ≤ 6) :
    Calls Tryz.prog 113 #[.pointer (some ⟨p, 0, none⟩), .pointer (some ⟨q, 0, none⟩), .pointer (some ⟨r, 0, none⟩)] w fun e w' => e = .returned (.tuple #[.int .i64 a, .int .u32 z]) ∧ St w0 (memA q ws' ns' :: srcA r now ds :: visA v V' :: eB p (.pointer (some ⟨v, 0, none⟩)) n s h t (pAr rg s a) (pAe ex a) fn pl a :: L) w' := by
  have H := Lib.hid hS
  have HST := Lib.hid he
  have HN := Lib.hid hn
  have HZ := Lib.hid hz
  have HVO := Lib.hid hok
  obtain ⟨⟨c0, c1, c2, c3, c4, c5, c6, c7, c8, c9⟩, ⟨z0, z5, z6, z7, z8, z9⟩, lt0⟩ := cellsE (hS.cells 3 rfl)
  clear hS he hn hz hok
  go_enter Tryz.func113, Tryz.ntmps113
  go_wp2
  have HCP : Hid (∀ w', Below w.heap.size w w' → w'.cell? ⟨p, 0, none⟩ = some (.pointer (some ⟨v, 0, none⟩))) := Lib.hid (fun w' hb => (cellsE ((H.out.below hb).cells 3 rfl)).1.1)
  go_region_held3 (fun w' => w'.cell? ⟨p, 0, none⟩ = some (.pointer (some ⟨v, 0, none⟩))) (first | exact (cellsE (HS.out.cells 3 rfl)).1.1 | exact HCP.out _ (Below.refl _ _).drew | exact HCP.out _ (Below.refl _ _)) (first | (go_at_call 139; refine (src_now ((H.out.drew.front 1 rfl))).mono ?_; rintro e w' ⟨rfl, rfl⟩) | (go_at_call 138; refine (vstep z HST.out HN.out HZ.out ((H.out.drew.front 2 rfl).front 1 rfl) HVO.out hk).mono ?_; rintro e w7 ⟨rfl, h⟩; (have HS := Lib.hid ((h.front 2 rfl).front 1 rfl)); clear h))
  clear c0 c1 c2 c3 c4 c5 c6 c7 c8 c9 z0 z5 z6 z7 z8 z9 lt0
  obtain ⟨⟨c0, c1, c2, c3, c4, c5, c6, c7, c8, c9⟩, ⟨z0, z5, z6, z7, z8, z9⟩, lt0⟩ := cellsE (HS.out.cells 3 rfl)
  go_wp2
  have h8 := HS.out.setAt 3 rfl 9 (.int .i64 a)
  generalize w7.setCell ⟨p, 9, none⟩ (.int .i64 a) = W8 at *
  have H8 := Lib.hid h8
  clear c0 c1 c2 c3 c4 c5 c6 c7 c8 c9 z0 z5 z6 z7 z8 z9 lt0
  obtain ⟨⟨c0, c1, c2, c3, c4, c5, c6, c7, c8, c9⟩, ⟨z0, z5, z6, z7, z8, z9⟩, lt0⟩ := cellsE (h8.cells 3 rfl)
  clear h8
  (try go_wp2)
  go_region_with ((go_at_call 140; refine (after_any rg ex s a _ hrg hex).mono ?_; rintro e w9 ⟨rfl, hb⟩; clear c0 c1 c2 c3 c4 c5 c6 c7 c8 c9 z0 z5 z6 z7 z8 z9 lt0; (have H9 := Lib.hid (H8.out.drew.below hb)); clear hb; obtain ⟨⟨c0, c1, c2, c3, c4, c5, c6, c7, c8, c9⟩, ⟨z0, z5, z6, z7, z8, z9⟩, lt0⟩ := cellsE (H9.out.cells 3 rfl)))
  all_goals go_wp2
  all_goals go_ret2
  all_goals exact ⟨rfl, (H9.out.setAt 3 rfl 5 _).setAt 3 rfl 6 _⟩

set_option maxHeartbeats 8000000 in
theorem e_run_keep {w0 w : World} {q r p : Nat} {ws ws' : List Int} {ns ns' nt : List Note} {now : Int} {ds : List Int} {L : List Asn} (n s h t rg ex : Int) (fn : Value) (pl : Int) (en : Int) (v : Nat) (V V' : VM) (a z : Int) (hS : St w0 (memA q ws ns :: srcA r now ds :: visA v V :: eB p (.pointer (some ⟨v, 0, none⟩)) n s h t rg ex fn pl en :: L) w) (he : V.step ws now = ⟨a, V', ws', nt⟩) (hn : ns ++ nt = ns') (hz : V'.told a = z) (hok : V.ok ws.length ns.length) (hk : ns.length ≤ 1000000000000) (hen : (en == 0) = false) (hen2 : (en == 2) = false) :
    Calls Tryz.prog 113 #[.pointer (some ⟨p, 0, none⟩), .pointer (some ⟨q, 0, none⟩), .pointer (some ⟨r, 0, none⟩)] w fun e w' => e = .returned (.tuple #[.int .i64 a, .int .u32 z]) ∧ St w0 (memA q ws' ns' :: srcA r now ds :: visA v V' :: eB p (.pointer (some ⟨v, 0, none⟩)) n s h t rg ex fn pl en :: L) w' := by
  have H := Lib.hid hS
  have HST := Lib.hid he
  have HN := Lib.hid hn
  have HZ := Lib.hid hz
  have HVO := Lib.hid hok
  obtain ⟨⟨c0, c1, c2, c3, c4, c5, c6, c7, c8, c9⟩, ⟨z0, z5, z6, z7, z8, z9⟩, lt0⟩ := cellsE (hS.cells 3 rfl)
  clear hS he hn hz hok
  go_enter Tryz.func113, Tryz.ntmps113
  go_wp2
  have HCP : Hid (∀ w', Below w.heap.size w w' → w'.cell? ⟨p, 0, none⟩ = some (.pointer (some ⟨v, 0, none⟩))) := Lib.hid (fun w' hb => (cellsE ((H.out.below hb).cells 3 rfl)).1.1)
  go_region_held3 (fun w' => w'.cell? ⟨p, 0, none⟩ = some (.pointer (some ⟨v, 0, none⟩))) (first | exact (cellsE (HS.out.cells 3 rfl)).1.1 | exact HCP.out _ (Below.refl _ _).drew | exact HCP.out _ (Below.refl _ _)) (first | (go_at_call 139; refine (src_now ((H.out.drew.front 1 rfl))).mono ?_; rintro e w' ⟨rfl, rfl⟩) | (go_at_call 138; refine (vstep z HST.out HN.out HZ.out ((H.out.drew.front 2 rfl).front 1 rfl) HVO.out hk).mono ?_; rintro e w7 ⟨rfl, h⟩; (have HS := Lib.hid ((h.front 2 rfl).front 1 rfl)); clear h))
  clear c0 c1 c2 c3 c4 c5 c6 c7 c8 c9 z0 z5 z6 z7 z8 z9 lt0
  obtain ⟨⟨c0, c1, c2, c3, c4, c5, c6, c7, c8, c9⟩, ⟨z0, z5, z6, z7, z8, z9⟩, lt0⟩ := cellsE (HS.out.cells 3 rfl)
  go_wp2
  go_ret2
  exact ⟨rfl, HS.out⟩

set_option maxHeartbeats 16000000 in
theorem e_first_more {w0 w : World} {q r p : Nat} {ws ws' : List Int} {ns ns' nt : List Note} {now : Int} {ds : List Int} {L : List Asn} (n s h t rg ex : Int) (V' : VM) (a z : Int) (bc bs bv bp bi bw bb : Nat) (push : Bool) (i wait base k : Int) (ds' : List Int) (at_ dl po : Int) (hS : St w0 (memA q ws ns :: srcA r now ds :: eB p (.pointer none) n s h t rg ex (eFn bc bs bv bp bi bw bb) (-1) 0 :: (eBx bc bs bv bp bi bw bb p n s h t rg ex push i wait base ++ L)) w) (he : (newVM at_ push i dl po).step ws now = ⟨a, V', ws', nt⟩) (hn : ns ++ nt = ns') (hz : V'.told a = z) (hok : (newVM at_ push i dl po).ok ws.length ns.length) (hk : ns.length ≤ 1000000000000) (ha : (a == 0) = true)
    (hds : DsOk ds) (hk1 : drawI ds rg = k) (hd : drawR ds rg = ds') (hat : atI n s h 1 k = at_) (hdl : dlI now wait = dl) (hpo : pPolls ex base = po) (n0 : 0 ≤ now) (n1 : now < 18446744073709551616) (wt0 : 0 ≤ wait) (wt1 : wait < 18446744073709551616) (b0 : -9223372036854775808 ≤ base) (b1 : base < 9223372036854775808)
    (hrg : 0 ≤ rg ∧ rg ≤ 16) (hex : 0 ≤ ex ∧ ex ≤ 6) (hokc : okC n s h = true) (hs : (s == 0) = false) (hpk : pOk rg ex s = true) :
    Calls Tryz.prog 113 #[.pointer (some ⟨p, 0, none⟩), .pointer (some ⟨q, 0, none⟩), .pointer (some ⟨r, 0, none⟩)] w fun e w' => ∃ v, e = .returned (.tuple #[.int .i64 a, .int .u32 z]) ∧ St w0 (memA q ws' ns' :: srcA r now ds' :: visA v V' :: eB p (.pointer (some ⟨v, 0, none⟩)) n s h t rg ex (eFn bc bs bv bp bi bw bb) at_ 0 :: L) w' := by
  have hmf : ∀ (fn : Fn) (first cap : Array Value) (w : World), (Instr.makeFunc fn first cap).run Tryz.prog w = .ok (.func fn first cap) w := fun _ _ _ _ => rfl
  have H := Lib.hid hS
  have HST := Lib.hid he
  have HN := Lib.hid hn
  have HZ := Lib.hid hz
  have HVO := Lib.hid hok
  have HDS := Lib.hid hds
  have HK := Lib.hid hk1
  have HD := Lib.hid hd
  have HA := Lib.hid hat
  have HDL := Lib.hid hdl
  have HPO := Lib.hid hpo
  have HOK := Lib.hid hokc
  have HPK := Lib.hid hpk
  have HCS : Hid (∀ w', Below w.heap.size w w' → w'.cell? ⟨p, 1, none⟩ = some (.int .i64 n) ∧ w'.cell? ⟨p, 2, none⟩ = some (.int .i64 s) ∧ w'.cell? ⟨p, 3, none⟩ = some (.int .i64 h) ∧ w'.cell? ⟨p, 4, none⟩ = some (.int .u32 t) ∧ w'.cell? ⟨p, 5, none⟩ = some (.int .i64 rg) ∧ w'.cell? ⟨p, 6, none⟩ = some (.int .i64 ex)) := Lib.hid (fun w' hb => by
    obtain ⟨⟨c0, c1, c2, c3, c4, c5, c6, c7, c8, c9⟩, ⟨z0, z5, z6, z7, z8, z9⟩, lt0⟩ := cellsE ((hS.below hb).cells 2 rfl)
    exact ⟨c1, c2, c3, c4, c5, c6⟩)
  have HBD := Lib.hid (Below.refl w.heap.size w).drew
  obtain ⟨⟨c0, c1, c2, c3, c4, c5, c6, c7, c8, c9⟩, ⟨z0, z5, z6, z7, z8, z9⟩, lt0⟩ := cellsE (hS.cells 2 rfl)
  clear hS he hn hz hok hds hk1 hd hat hdl hpo hokc hpk
  go_enter Tryz.func113, Tryz.ntmps113
  go_wp2
  refine wp_region_held_drew (S := (fun w' => w'.cell? ⟨p, 1, none⟩ = some (.int .i64 n) ∧ w'.cell? ⟨p, 2, none⟩ = some (.int .i64 s) ∧ w'.cell? ⟨p, 3, none⟩ = some (.int .i64 h) ∧ w'.cell? ⟨p, 4, none⟩ = some (.int .u32 t) ∧ w'.cell? ⟨p, 5, none⟩ = some (.int .i64 rg) ∧ w'.cell? ⟨p, 6, none⟩ = some (.int .i64 ex))) (by kernel_rfl) ?_ (fun hHeld0 => ?_)
  · first | exact HCS.out _ HBD.out | exact HCS.out _ (Below.refl _ _)
  refine wpAnyH_take (i := 0) (v := ?_) rfl (by kernel_rfl) (by kernel_rfl) (by kernel_rfl) (fun _ _ _ h => h) (Or.inl ⟨by rfl, ?_⟩) hHeld0 ?_
  rotate_left
  · intro w hSw
    (try dsimp only at hSw)
    go_simp
    try (first | (with_reducible rfl) | rfl)
  try simp only [List.getElem_toArray, List.getElem_cons_zero, List.getElem_cons_succ, Act.put, List.setIfInBounds_toArray, List.set_cons_zero, List.set_cons_succ]
  refine wpAnyH_take (i := 1) (v := ?_) rfl (by kernel_rfl) (by kernel_rfl) (by kernel_rfl) (fun _ _ _ h => h) (Or.inl ⟨by rfl, ?_⟩) hHeld0 ?_
  rotate_left
  · intro w hSw
    (try dsimp only at hSw)
    go_simp
    try (first | (with_reducible rfl) | rfl)
  try simp only [List.getElem_toArray, List.getElem_cons_zero, List.getElem_cons_succ, Act.put, List.setIfInBounds_toArray, List.set_cons_zero, List.set_cons_succ]
  refine wpAnyH_take (i := 2) (v := ?_) rfl (by kernel_rfl) (by kernel_rfl) (by kernel_rfl) (fun _ _ _ h => h) (Or.inl ⟨by rfl, ?_⟩) hHeld0 ?_
  rotate_left
  · intro w hSw
    (try dsimp only at hSw)
    go_simp
    try (first | (with_reducible rfl) | rfl)
  try simp only [List.getElem_toArray, List.getElem_cons_zero, List.getElem_cons_succ, Act.put, List.setIfInBounds_toArray, List.set_cons_zero, List.set_cons_succ]
  refine wpAnyH_take (i := 3) (v := ?_) rfl (by kernel_rfl) (by kernel_rfl) (by kernel_rfl) (fun _ _ _ h => h) (Or.inl ⟨by rfl, ?_⟩) hHeld0 ?_
  rotate_left
  · intro w hSw
    (try dsimp only at hSw)
    go_simp
    try (first | (with_reducible rfl) | rfl)
  try simp only [List.getElem_toArray, List.getElem_cons_zero, List.getElem_cons_succ, Act.put, List.setIfInBounds_toArray, List.set_cons_zero, List.set_cons_succ]
  refine wpAnyH_ready (rs := [4]) (by kernel_rfl) (by simp) ?_
  refine AllReadyH.cons rfl (fun K hK => ?_) ?_
  · go_simp
    (go_at_call 54; refine (check_yes n s h t _ HOK.out).mono ?_; rintro e w5 ⟨rfl, hb⟩; (have HZ2 := Lib.hid (HBD.out.trans (hb.mono HBD.out.size))); clear hb HBD; (have HBD := HZ2); clear HZ2)
    go_wp2_with fail
    refine hK.out _ _ ?_ (fun hHeld4_4 => ?_)
    · first | exact HCS.out _ HBD.out | exact HCS.out _ (Below.refl _ _)
    clear hK K
    try simp only [List.getElem_toArray, List.getElem_cons_zero, List.getElem_cons_succ, Act.put, List.setIfInBounds_toArray, List.set_cons_zero, List.set_cons_succ]
    refine wpAnyH_take (i := 5) (v := ?_) rfl (by kernel_rfl) (by kernel_rfl) (by kernel_rfl) (fun _ _ _ h => h) (Or.inl ⟨by rfl, ?_⟩) hHeld4_4 ?_
    rotate_left
    · intro w hSw
      (try dsimp only at hSw)
      go_simp
      try (first | (with_reducible rfl) | rfl)
    try simp only [List.getElem_toArray, List.getElem_cons_zero, List.getElem_cons_succ, Act.put, List.setIfInBounds_toArray, List.set_cons_zero, List.set_cons_succ]
    refine wpAnyH_take (i := 6) (v := ?_) rfl (by kernel_rfl) (by kernel_rfl) (by kernel_rfl) (fun _ _ _ h => h) (Or.inl ⟨by rfl, ?_⟩) hHeld4_4 ?_
    rotate_left
    · intro w hSw
      (try dsimp only at hSw)
      go_simp
      try (first | (with_reducible rfl) | rfl)
    try simp only [List.getElem_toArray, List.getElem_cons_zero, List.getElem_cons_succ, Act.put, List.setIfInBounds_toArray, List.set_cons_zero, List.set_cons_succ]
    refine wpAnyH_take (i := 7) (v := ?_) rfl (by kernel_rfl) (by kernel_rfl) (by kernel_rfl) (fun _ _ _ h => h) (Or.inl ⟨by rfl, ?_⟩) hHeld4_4 ?_
    rotate_left
    · intro w hSw
      (try dsimp only at hSw)
      go_simp
      try (first | (with_reducible rfl) | rfl)
    try simp only [List.getElem_toArray, List.getElem_cons_zero, List.getElem_cons_succ, Act.put, List.setIfInBounds_toArray, List.set_cons_zero, List.set_cons_succ]
    refine wpAnyH_take (i := 8) (v := ?_) rfl (by kernel_rfl) (by kernel_rfl) (by kernel_rfl) (fun _ _ _ h => h) (Or.inl ⟨by rfl, ?_⟩) hHeld4_4 ?_
    rotate_left
    · intro w hSw
      (try dsimp only at hSw)
      go_simp
      try (first | (with_reducible rfl) | rfl)
    try simp only [List.getElem_toArray, List.getElem_cons_zero, List.getElem_cons_succ, Act.put, List.setIfInBounds_toArray, List.set_cons_zero, List.set_cons_succ]
    refine wpAnyH_take (i := 9) (v := ?_) rfl (by kernel_rfl) (by kernel_rfl) (by kernel_rfl) (fun _ _ _ h => h) (Or.inl ⟨by rfl, ?_⟩) hHeld4_4 ?_
    rotate_left
    · intro w hSw
      (try dsimp only at hSw)
      go_simp
      try (first | (with_reducible rfl) | rfl)
    try simp only [List.getElem_toArray, List.getElem_cons_zero, List.getElem_cons_succ, Act.put, List.setIfInBounds_toArray, List.set_cons_zero, List.set_cons_succ]
    refine wpAnyH_take (i := 10) (v := ?_) rfl (by kernel_rfl) (by kernel_rfl) (by kernel_rfl) (fun _ _ _ h => h) (Or.inl ⟨by rfl, ?_⟩) hHeld4_4 ?_
    rotate_left
    · intro w hSw
      (try dsimp only at hSw)
      go_simp
      try (first | (with_reducible rfl) | rfl)
    try simp only [List.getElem_toArray, List.getElem_cons_zero, List.getElem_cons_succ, Act.put, List.setIfInBounds_toArray, List.set_cons_zero, List.set_cons_succ]
    refine wpAnyH_take (i := 11) (v := ?_) rfl (by kernel_rfl) (by kernel_rfl) (by kernel_rfl) (fun _ _ _ h => h) (Or.inl ⟨by rfl, ?_⟩) hHeld4_4 ?_
    rotate_left
    · intro w hSw
      (try dsimp only at hSw)
      go_simp
      try (first | (with_reducible rfl) | rfl)
    try simp only [List.getElem_toArray, List.getElem_cons_zero, List.getElem_cons_succ, Act.put, List.setIfInBounds_toArray, List.set_cons_zero, List.set_cons_succ]
    refine wpAnyH_take (i := 12) (v := ?_) rfl (by kernel_rfl) (by kernel_rfl) (by kernel_rfl) (fun _ _ _ h => h) (Or.inl ⟨by rfl, ?_⟩) hHeld4_4 ?_
    rotate_left
    · intro w hSw
      (try dsimp only at hSw)
      go_simp
      try (first | (with_reducible rfl) | rfl)
    try simp only [List.getElem_toArray, List.getElem_cons_zero, List.getElem_cons_succ, Act.put, List.setIfInBounds_toArray, List.set_cons_zero, List.set_cons_succ]
    refine wpAnyH_take (i := 13) (v := ?_) rfl (by kernel_rfl) (by kernel_rfl) (by kernel_rfl) (fun _ _ _ h => h) (Or.inl ⟨by rfl, ?_⟩) hHeld4_4 ?_
    rotate_left
    · intro w hSw
      (try dsimp only at hSw)
      go_simp
      try (first | (with_reducible rfl) | rfl)
    try simp only [List.getElem_toArray, List.getElem_cons_zero, List.getElem_cons_succ, Act.put, List.setIfInBounds_toArray, List.set_cons_zero, List.set_cons_succ]
    refine wpAnyH_take (i := 14) (v := ?_) rfl (by kernel_rfl) (by kernel_rfl) (by kernel_rfl) (fun _ _ _ h => h) (Or.inl ⟨by rfl, ?_⟩) hHeld4_4 ?_
    rotate_left
    · intro w hSw
      (try dsimp only at hSw)
      go_simp
      try (first | (with_reducible rfl) | rfl)
    try simp only [List.getElem_toArray, List.getElem_cons_zero, List.getElem_cons_succ, Act.put, List.setIfInBounds_toArray, List.set_cons_zero, List.set_cons_succ]
    refine wpAnyH_take (i := 15) (v := ?_) rfl (by kernel_rfl) (by kernel_rfl) (by kernel_rfl) (fun _ _ _ h => h) (Or.inl ⟨by rfl, ?_⟩) hHeld4_4 ?_
    rotate_left
    · intro w hSw
      (try dsimp only at hSw)
      go_simp
      try (first | (with_reducible rfl) | rfl)
    try simp only [List.getElem_toArray, List.getElem_cons_zero, List.getElem_cons_succ, Act.put, List.setIfInBounds_toArray, List.set_cons_zero, List.set_cons_succ]
    refine wpAnyH_take (i := 16) (v := ?_) rfl (by kernel_rfl) (by kernel_rfl) (by kernel_rfl) (fun _ _ _ h => h) (Or.inl ⟨by rfl, ?_⟩) hHeld4_4 ?_
    rotate_left
    · intro w hSw
      (try dsimp only at hSw)
      go_simp
      try (first | (with_reducible rfl) | rfl)
    try simp only [List.getElem_toArray, List.getElem_cons_zero, List.getElem_cons_succ, Act.put, List.setIfInBounds_toArray, List.set_cons_zero, List.set_cons_succ]
    refine wpAnyH_take (i := 17) (v := ?_) rfl (by kernel_rfl) (by kernel_rfl) (by kernel_rfl) (fun _ _ _ h => h) (Or.inl ⟨by rfl, ?_⟩) hHeld4_4 ?_
    rotate_left
    · intro w hSw
      (try dsimp only at hSw)
      go_simp
      try (first | (with_reducible rfl) | rfl)
    try simp only [List.getElem_toArray, List.getElem_cons_zero, List.getElem_cons_succ, Act.put, List.setIfInBounds_toArray, List.set_cons_zero, List.set_cons_succ]
    refine wpAnyH_take (i := 18) (v := ?_) rfl (by kernel_rfl) (by kernel_rfl) (by kernel_rfl) (fun _ _ _ h => h) (Or.inl ⟨by rfl, ?_⟩) hHeld4_4 ?_
    rotate_left
    · intro w hSw
      (try dsimp only at hSw)
      go_simp
      try (first | (with_reducible rfl) | rfl)
    try simp only [List.getElem_toArray, List.getElem_cons_zero, List.getElem_cons_succ, Act.put, List.setIfInBounds_toArray, List.set_cons_zero, List.set_cons_succ]
    refine wpAnyH_take (i := 19) (v := ?_) rfl (by kernel_rfl) (by kernel_rfl) (by kernel_rfl) (fun _ _ _ h => h) (Or.inl ⟨by rfl, ?_⟩) hHeld4_4 ?_
    rotate_left
    · intro w hSw
      (try dsimp only at hSw)
      go_simp
      try (first | (with_reducible rfl) | rfl)
    try simp only [List.getElem_toArray, List.getElem_cons_zero, List.getElem_cons_succ, Act.put, List.setIfInBounds_toArray, List.set_cons_zero, List.set_cons_succ]
    refine wpAnyH_take (i := 20) (v := ?_) rfl (by kernel_rfl) (by kernel_rfl) (by kernel_rfl) (fun _ _ _ h => h) (Or.inl ⟨by rfl, ?_⟩) hHeld4_4 ?_
    rotate_left
    · intro w hSw
      (try dsimp only at hSw)
      go_simp
      try (first | (with_reducible rfl) | rfl)
    try simp only [List.getElem_toArray, List.getElem_cons_zero, List.getElem_cons_succ, Act.put, List.setIfInBounds_toArray, List.set_cons_zero, List.set_cons_succ]
    refine wpAnyH_take (i := 21) (v := ?_) rfl (by kernel_rfl) (by kernel_rfl) (by kernel_rfl) (fun _ _ _ h => h) (Or.inl ⟨by rfl, ?_⟩) hHeld4_4 ?_
    rotate_left
    · intro w hSw
      (try dsimp only at hSw)
      go_simp
      try (first | (with_reducible rfl) | rfl)
    try simp only [List.getElem_toArray, List.getElem_cons_zero, List.getElem_cons_succ, Act.put, List.setIfInBounds_toArray, List.set_cons_zero, List.set_cons_succ]
    refine wpAnyH_take (i := 22) (v := ?_) rfl (by kernel_rfl) (by kernel_rfl) (by kernel_rfl) (fun _ _ _ h => h) (Or.inl ⟨by rfl, ?_⟩) hHeld4_4 ?_
    rotate_left
    · intro w hSw
      (try dsimp only at hSw)
      go_simp
      try (first | (with_reducible rfl) | rfl)
    try simp only [List.getElem_toArray, List.getElem_cons_zero, List.getElem_cons_succ, Act.put, List.setIfInBounds_toArray, List.set_cons_zero, List.set_cons_succ]
    refine wpAnyH_take (i := 23) (v := ?_) rfl (by kernel_rfl) (by kernel_rfl) (by kernel_rfl) (fun _ _ _ h => h) (Or.inl ⟨by rfl, ?_⟩) hHeld4_4 ?_
    rotate_left
    · intro w hSw
      (try dsimp only at hSw)
      go_simp
      try (first | (with_reducible rfl) | rfl)
    try simp only [List.getElem_toArray, List.getElem_cons_zero, List.getElem_cons_succ, Act.put, List.setIfInBounds_toArray, List.set_cons_zero, List.set_cons_succ]
    refine wpAnyH_ready (rs := [24]) (by kernel_rfl) (by simp) ?_
    refine AllReadyH.cons rfl (fun K hK => ?_) ?_
    · go_simp
      (go_at_call 84; refine (right_any rg ex s _).mono ?_; rintro e w6 ⟨rfl, hb⟩; rw [HPK.out]; (have HZ2 := Lib.hid (HBD.out.trans (hb.mono HBD.out.size))); clear hb HBD; (have HBD := HZ2); clear HZ2)
      go_wp2_with fail
      refine hK.out _ _ ?_ (fun hHeld24_24 => ?_)
      · first | exact HCS.out _ HBD.out | exact HCS.out _ (Below.refl _ _)
      clear hK K
      try simp only [List.getElem_toArray, List.getElem_cons_zero, List.getElem_cons_succ, Act.put, List.setIfInBounds_toArray, List.set_cons_zero, List.set_cons_succ]
      refine wpAnyH_take (i := 25) (v := ?_) rfl (by kernel_rfl) (by kernel_rfl) (by kernel_rfl) (fun _ _ _ h => h) (Or.inl ⟨by rfl, ?_⟩) hHeld24_24 ?_
      rotate_left
      · intro w hSw
        (try dsimp only at hSw)
        go_simp
        try (first | (with_reducible rfl) | rfl)
      try simp only [List.getElem_toArray, List.getElem_cons_zero, List.getElem_cons_succ, Act.put, List.setIfInBounds_toArray, List.set_cons_zero, List.set_cons_succ]
      refine wpAnyH_take (i := 26) (v := ?_) rfl (by kernel_rfl) (by kernel_rfl) (by kernel_rfl) (fun _ _ _ h => h) (Or.inl ⟨by rfl, ?_⟩) hHeld24_24 ?_
      rotate_left
      · intro w hSw
        (try dsimp only at hSw)
        go_simp
        try (first | (with_reducible rfl) | rfl)
      try simp only [List.getElem_toArray, List.getElem_cons_zero, List.getElem_cons_succ, Act.put, List.setIfInBounds_toArray, List.set_cons_zero, List.set_cons_succ]
      refine wpAnyH_done (by kernel_rfl) ?_ _
      have h5 := H.out.below HBD.out
      clear c0 c1 c2 c3 c4 c5 c6 c7 c8 c9 z0 z5 z6 z7 z8 z9 lt0
      obtain ⟨⟨c0, c1, c2, c3, c4, c5, c6, c7, c8, c9⟩, ⟨z0, z5, z6, z7, z8, z9⟩, lt0⟩ := cellsE (h5.cells 2 rfl)
      have H5 := Lib.hid h5
      clear h5
      go_wp2_with (go_at_call 161; refine (e_begin (.pointer none) n s h t rg ex (eFn bc bs bv bp bi bw bb) (-1) 0 bc bs bv bp bi bw bb rg ex push i wait base k ds' at_ dl po (((((((((H5.out.front 9 rfl).front 9 rfl).front 9 rfl).front 9 rfl).front 9 rfl).front 9 rfl).front 9 rfl).front 9 rfl).front 9 rfl) HDS.out HK.out HD.out HA.out HDL.out HPO.out n0 n1 wt0 wt1 hex b0 b1).mono ?_; rintro e w4 ⟨v, rfl, h⟩; (have H4 := Lib.hid h); clear h; clear c0 c1 c2 c3 c4 c5 c6 c7 c8 c9 z0 z5 z6 z7 z8 z9 lt0; obtain ⟨⟨c0, c1, c2, c3, c4, c5, c6, c7, c8, c9⟩, ⟨z0, z5, z6, z7, z8, z9⟩, lt0⟩ := cellsE (H4.out.cells 2 rfl))
      have h6 := H4.out.setAt 2 rfl 0 (.pointer (some ⟨v, 0, none⟩))
      generalize w4.setCell ⟨p, 0, none⟩ (.pointer (some ⟨v, 0, none⟩)) = W6 at *
      have h7 := (((((((((((h6.front 2 rfl).front 2 rfl).front 2 rfl).front 10 rfl).front 10 rfl).front 10 rfl).front 10 rfl).front 10 rfl).front 10 rfl).front 10 rfl).front 10 rfl).tail.tail.tail.tail.tail.tail.tail
      clear c0 c1 c2 c3 c4 c5 c6 c7 c8 c9 z0 z5 z6 z7 z8 z9 lt0
      have HV := Lib.hid (show St w0 (memA q ws ns :: srcA r now ds' :: visA v (newVM at_ push i dl po) :: eB p (.pointer (some ⟨v, 0, none⟩)) n s h t rg ex (eFn bc bs bv bp bi bw bb) at_ 0 :: L) W6 from h7)
      clear h6 h7
      obtain ⟨⟨c0, c1, c2, c3, c4, c5, c6, c7, c8, c9⟩, ⟨z0, z5, z6, z7, z8, z9⟩, lt0⟩ := cellsE (HV.out.cells 3 rfl)
      have HCP : Hid (∀ w', Below W6.heap.size W6 w' → w'.cell? ⟨p, 0, none⟩ = some (.pointer (some ⟨v, 0, none⟩))) := Lib.hid (fun w' hb => (cellsE ((HV.out.below hb).cells 3 rfl)).1.1)
      go_region_held3 (fun w' => w'.cell? ⟨p, 0, none⟩ = some (.pointer (some ⟨v, 0, none⟩))) (first | exact (cellsE (HS.out.cells 3 rfl)).1.1 | exact HCP.out _ (Below.refl _ _).drew | exact HCP.out _ (Below.refl _ _)) (first | (go_at_call 139; refine (src_now ((HV.out.drew.front 1 rfl))).mono ?_; rintro e w' ⟨rfl, rfl⟩) | (go_at_call 138; refine (vstep z HST.out HN.out HZ.out ((HV.out.drew.front 2 rfl).front 1 rfl) HVO.out hk).mono ?_; rintro e w7 ⟨rfl, h⟩; (have HS := Lib.hid ((h.front 2 rfl).front 1 rfl)); clear h))
      obtain ⟨⟨c0, c1, c2, c3, c4, c5, c6, c7, c8, c9⟩, ⟨z0, z5, z6, z7, z8, z9⟩, lt0⟩ := cellsE (HS.out.cells 3 rfl)
      go_wp2
      go_ret2
      exact ⟨v, rfl, HS.out⟩
    exact AllReadyH.nil
  exact AllReadyH.nil

set_option maxHeartbeats 16000000 in
theorem e_first_over {w0 w : World} {q r p : Nat} {ws ws' : List Int} {ns ns' nt : List Note} {now : Int} {ds : List Int} {L : List Asn} (n s h t rg ex : Int) (V' : VM) (a z : Int) (bc bs bv bp bi bw bb : Nat) (push : Bool) (i wait base k : Int) (ds' : List Int) (at_ dl po : Int) (hS : St w0 (memA q ws ns :: srcA r now ds :: eB p (.pointer none) n s h t rg ex (eFn bc bs bv bp bi bw bb) (-1) 0 :: (eBx bc bs bv bp bi bw bb p n s h t rg ex push i wait base ++ L)) w) (he : (newVM at_ push i dl po).step ws now = ⟨a, V', ws', nt⟩) (hn : ns ++ nt = ns') (hz : V'.told a = z) (hok : (newVM at_ push i dl po).ok ws.length ns.length) (hk : ns.length ≤ 1000000000000) (ha : (a == 0) = false)
    (hds : DsOk ds) (hk1 : drawI ds rg = k) (hd : drawR ds rg = ds') (hat : atI n s h 1 k = at_) (hdl : dlI now wait = dl) (hpo : pPolls ex base = po) (n0 : 0 ≤ now) (n1 : now < 18446744073709551616) (wt0 : 0 ≤ wait) (wt1 : wait < 18446744073709551616) (b0 : -9223372036854775808 ≤ base) (b1 : base < 9223372036854775808)
    (hrg : 0 ≤ rg ∧ rg ≤ 16) (hex : 0 ≤ ex ∧ ex ≤ 6) (hokc : okC n s h = true) (hs : (s == 0) = false) (hpk : pOk rg ex s = true) :
    Calls Tryz.prog 113 #[.pointer (some ⟨p, 0, none⟩), .pointer (some ⟨q, 0, none⟩), .pointer (some ⟨r, 0, none⟩)] w fun e w' => ∃ v, e = .returned (.tuple #[.int .i64 a, .int .u32 z]) ∧ St w0 (memA q ws' ns' :: srcA r now ds' :: visA v V' :: eB p (.pointer (some ⟨v, 0, none⟩)) n s h t (pAr rg s a) (pAe ex a) (eFn bc bs bv bp bi bw bb) at_ a :: L) w' := by
  have hmf : ∀ (fn : Fn) (first cap : Array Value) (w : World), (Instr.makeFunc fn first cap).run Tryz.prog w = .ok (.func fn first cap) w := fun _ _ _ _ => rfl
  have H := Lib.hid hS
  have HST := Lib.hid he
  have HN := Lib.hid hn
  have HZ := Lib.hid hz
  have HVO := Lib.hid hok
  have HDS := Lib.hid hds
  have HK := Lib.hid hk1
  have HD := Lib.hid hd
  have HA := Lib.hid hat
  have HDL := Lib.hid hdl
  have HPO := Lib.hid hpo
  have HOK := Lib.hid hokc
  have HPK := Lib.hid hpk
  have HCS : Hid (∀ w', Below w.heap.size w w' → w'.cell? ⟨p, 1, none⟩ = some (.int .i64 n) ∧ w'.cell? ⟨p, 2, none⟩ = some (.int .i64 s) ∧ w'.cell? ⟨p, 3, none⟩ = some (.int .i64 h) ∧ w'.cell? ⟨p, 4, none⟩ = some (.int .u32 t) ∧ w'.cell? ⟨p, 5, none⟩ = some (.int .i64 rg) ∧ w'.cell? ⟨p, 6, none⟩ = some (.int .i64 ex)) := Lib.hid (fun w' hb => by
    obtain ⟨⟨c0, c1, c2, c3, c4, c5, c6, c7, c8, c9⟩, ⟨z0, z5, z6, z7, z8, z9⟩, lt0⟩ := cellsE ((hS.below hb).cells 2 rfl)
    exact ⟨c1, c2, c3, c4, c5, c6⟩)
  have HBD := Lib.hid (Below.refl w.heap.size w).drew
  obtain ⟨⟨c0, c1, c2, c3, c4, c5, c6, c7, c8, c9⟩, ⟨z0, z5, z6, z7, z8, z9⟩, lt0⟩ := cellsE (hS.cells 2 rfl)
  clear hS he hn hz hok hds hk1 hd hat hdl hpo hokc hpk
  go_enter Tryz.func113, Tryz.ntmps113
  go_wp2
  refine wp_region_held_drew (S := (fun w' => w'.cell? ⟨p, 1, none⟩ = some (.int .i64 n) ∧ w'.cell? ⟨p, 2, none⟩ = some (.int .i64 s) ∧ w'.cell? ⟨p, 3, none⟩ = some (.int .i64 h) ∧ w'.cell? ⟨p, 4, none⟩ = some (.int .u32 t) ∧ w'.cell? ⟨p, 5, none⟩ = some (.int .i64 rg) ∧ w'.cell? ⟨p, 6, none⟩ = some (.int .i64 ex))) (by kernel_rfl) ?_ (fun hHeld0 => ?_)
  · first | exact HCS.out _ HBD.out | exact HCS.out _ (Below.refl _ _)
  refine wpAnyH_take (i := 0) (v := ?_) rfl (by kernel_rfl) (by kernel_rfl) (by kernel_rfl) (fun _ _ _ h => h) (Or.inl ⟨by rfl, ?_⟩) hHeld0 ?_
  rotate_left
  · intro w hSw
    (try dsimp only at hSw)
    go_simp
    try (first | (with_reducible rfl) | rfl)
  try simp only [List.getElem_toArray, List.getElem_cons_zero, List.getElem_cons_succ, Act.put, List.setIfInBounds_toArray, List.set_cons_zero, List.set_cons_succ]
  refine wpAnyH_take (i := 1) (v := ?_) rfl (by kernel_rfl) (by kernel_rfl) (by kernel_rfl) (fun _ _ _ h => h) (Or.inl ⟨by rfl, ?_⟩) hHeld0 ?_
  rotate_left
  · intro w hSw
    (try dsimp only at hSw)
    go_simp
    try (first | (with_reducible rfl) | rfl)
  try simp only [List.getElem_toArray, List.getElem_cons_zero, List.getElem_cons_succ, Act.put, List.setIfInBounds_toArray, List.set_cons_zero, List.set_cons_succ]
  refine wpAnyH_take (i := 2) (v := ?_) rfl (by kernel_rfl) (by kernel_rfl) (by kernel_rfl) (fun _ _ _ h => h) (Or.inl ⟨by rfl, ?_⟩) hHeld0 ?_
  rotate_left
  · intro w hSw
    (try dsimp only at hSw)
    go_simp
    try (first | (with_reducible rfl) | rfl)
  try simp only [List.getElem_toArray, List.getElem_cons_zero, List.getElem_cons_succ, Act.put, List.setIfInBounds_toArray, List.set_cons_zero, List.set_cons_succ]
  refine wpAnyH_take (i := 3) (v := ?_) rfl (by kernel_rfl) (by kernel_rfl) (by kernel_rfl) (fun _ _ _ h => h) (Or.inl ⟨by rfl, ?_⟩) hHeld0 ?_
  rotate_left
  · intro w hSw
    (try dsimp only at hSw)
    go_simp
    try (first | (with_reducible rfl) | rfl)
  try simp only [List.getElem_toArray, List.getElem_cons_zero, List.getElem_cons_succ, Act.put, List.setIfInBounds_toArray, List.set_cons_zero, List.set_cons_succ]
  refine wpAnyH_ready (rs := [4]) (by kernel_rfl) (by simp) ?_
  refine AllReadyH.cons rfl (fun K hK => ?_) ?_
  · go_simp
    (go_at_call 54; refine (check_yes n s h t _ HOK.out).mono ?_; rintro e w5 ⟨rfl, hb⟩; (have HZ2 := Lib.hid (HBD.out.trans (hb.mono HBD.out.size))); clear hb HBD; (have HBD := HZ2); clear HZ2)
    go_wp2_with fail
    refine hK.out _ _ ?_ (fun hHeld4_4 => ?_)
    · first | exact HCS.out _ HBD.out | exact HCS.out _ (Below.refl _ _)
    clear hK K
    try simp only [List.getElem_toArray, List.getElem_cons_zero, List.getElem_cons_succ, Act.put, List.setIfInBounds_toArray, List.set_cons_zero, List.set_cons_succ]
    refine wpAnyH_take (i := 5) (v := ?_) rfl (by kernel_rfl) (by kernel_rfl) (by kernel_rfl) (fun _ _ _ h => h) (Or.inl ⟨by rfl, ?_⟩) hHeld4_4 ?_
    rotate_left
    · intro w hSw
      (try dsimp only at hSw)
      go_simp
      try (first | (with_reducible rfl) | rfl)
    try simp only [List.getElem_toArray, List.getElem_cons_zero, List.getElem_cons_succ, Act.put, List.setIfInBounds_toArray, List.set_cons_zero, List.set_cons_succ]
    refine wpAnyH_take (i := 6) (v := ?_) rfl (by kernel_rfl) (by kernel_rfl) (by kernel_rfl) (fun _ _ _ h => h) (Or.inl ⟨by rfl, ?_⟩) hHeld4_4 ?_
    rotate_left
    · intro w hSw
      (try dsimp only at hSw)
      go_simp
      try (first | (with_reducible rfl) | rfl)
    try simp only [List.getElem_toArray, List.getElem_cons_zero, List.getElem_cons_succ, Act.put, List.setIfInBounds_toArray, List.set_cons_zero, List.set_cons_succ]
    refine wpAnyH_take (i := 7) (v := ?_) rfl (by kernel_rfl) (by kernel_rfl) (by kernel_rfl) (fun _ _ _ h => h) (Or.inl ⟨by rfl, ?_⟩) hHeld4_4 ?_
    rotate_left
    · intro w hSw
      (try dsimp only at hSw)
      go_simp
      try (first | (with_reducible rfl) | rfl)
    try simp only [List.getElem_toArray, List.getElem_cons_zero, List.getElem_cons_succ, Act.put, List.setIfInBounds_toArray, List.set_cons_zero, List.set_cons_succ]
    refine wpAnyH_take (i := 8) (v := ?_) rfl (by kernel_rfl) (by kernel_rfl) (by kernel_rfl) (fun _ _ _ h => h) (Or.inl ⟨by rfl, ?_⟩) hHeld4_4 ?_
    rotate_left
    · intro w hSw
      (try dsimp only at hSw)
      go_simp
      try (first | (with_reducible rfl) | rfl)
    try simp only [List.getElem_toArray, List.getElem_cons_zero, List.getElem_cons_succ, Act.put, List.setIfInBounds_toArray, List.set_cons_zero, List.set_cons_succ]
    refine wpAnyH_take (i := 9) (v := ?_) rfl (by kernel_rfl) (by kernel_rfl) (by kernel_rfl) (fun _ _ _ h => h) (Or.inl ⟨by rfl, ?_⟩) hHeld4_4 ?_
    rotate_left
    · intro w hSw
      (try dsimp only at hSw)
      go_simp
      try (first | (with_reducible rfl) | rfl)
    try simp only [List.getElem_toArray, List.getElem_cons_zero, List.getElem_cons_succ, Act.put, List.setIfInBounds_toArray, List.set_cons_zero, List.set_cons_succ]
    refine wpAnyH_take (i := 10) (v := ?_) rfl (by kernel_rfl) (by kernel_rfl) (by kernel_rfl) (fun _ _ _ h => h) (Or.inl ⟨by rfl, ?_⟩) hHeld4_4 ?_
    rotate_left
    · intro w hSw
      (try dsimp only at hSw)
      go_simp
      try (first | (with_reducible rfl) | rfl)
    try simp only [List.getElem_toArray, List.getElem_cons_zero, List.getElem_cons_succ, Act.put, List.setIfInBounds_toArray, List.set_cons_zero, List.set_cons_succ]
    refine wpAnyH_take (i := 11) (v := ?_) rfl (by kernel_rfl) (by kernel_rfl) (by kernel_rfl) (fun _ _ _ h => h) (Or.inl ⟨by rfl, ?_⟩) hHeld4_4 ?_
    rotate_left
    · intro w hSw
      (try dsimp only at hSw)
      go_simp
      try (first | (with_reducible rfl) | rfl)
    try simp only [List.getElem_toArray, List.getElem_cons_zero, List.getElem_cons_succ, Act.put, List.setIfInBounds_toArray, List.set_cons_zero, List.set_cons_succ]
    refine wpAnyH_take (i := 12) (v := ?_) rfl (by kernel_rfl) (by kernel_rfl) (by kernel_rfl) (fun _ _ _ h => h) (Or.inl ⟨by rfl, ?_⟩) hHeld4_4 ?_
    rotate_left
    · intro w hSw
      (try dsimp only at hSw)
      go_simp
      try (first | (with_reducible rfl) | rfl)
    try simp only [List.getElem_toArray, List.getElem_cons_zero, List.getElem_cons_succ, Act.put, List.setIfInBounds_toArray, List.set_cons_zero, List.set_cons_succ]
    refine wpAnyH_take (i := 13) (v := ?_) rfl (by kernel_rfl) (by kernel_rfl) (by kernel_rfl) (fun _ _ _ h => h) (Or.inl ⟨by rfl, ?_⟩) hHeld4_4 ?_
    rotate_left
    · intro w hSw
      (try dsimp only at hSw)
      go_simp
      try (first | (with_reducible rfl) | rfl)
    try simp only [List.getElem_toArray, List.getElem_cons_zero, List.getElem_cons_succ, Act.put, List.setIfInBounds_toArray, List.set_cons_zero, List.set_cons_succ]
    refine wpAnyH_take (i := 14) (v := ?_) rfl (by kernel_rfl) (by kernel_rfl) (by kernel_rfl) (fun _ _ _ h => h) (Or.inl ⟨by rfl, ?_⟩) hHeld4_4 ?_
    rotate_left
    · intro w hSw
      (try dsimp only at hSw)
      go_simp
      try (first | (with_reducible rfl) | rfl)
    try simp only [List.getElem_toArray, List.getElem_cons_zero, List.getElem_cons_succ, Act.put, List.setIfInBounds_toArray, List.set_cons_zero, List.set_cons_succ]
    refine wpAnyH_take (i := 15) (v := ?_) rfl (by kernel_rfl) (by kernel_rfl) (by kernel_rfl) (fun _ _ _ h => h) (Or.inl ⟨by rfl, ?_⟩) hHeld4_4 ?_
    rotate_left
    · intro w hSw
      (try dsimp only at hSw)
      go_simp
      try (first | (with_reducible rfl) | rfl)
    try simp only [List.getElem_toArray, List.getElem_cons_zero, List.getElem_cons_succ, Act.put, List.setIfInBounds_toArray, List.set_cons_zero, List.set_cons_succ]
    refine wpAnyH_take (i := 16) (v := ?_) rfl (by kernel_rfl) (by kernel_rfl) (by kernel_rfl) (fun _ _ _ h => h) (Or.inl ⟨by rfl, ?_⟩) hHeld4_4 ?_
    rotate_left
    · intro w hSw
      (try dsimp only at hSw)
      go_simp
      try (first | (with_reducible rfl) | rfl)
    try simp only [List.getElem_toArray, List.getElem_cons_zero, List.getElem_cons_succ, Act.put, List.setIfInBounds_toArray, List.set_cons_zero, List.set_cons_succ]
    refine wpAnyH_take (i := 17) (v := ?_) rfl (by kernel_rfl) (by kernel_rfl) (by kernel_rfl) (fun _ _ _ h => h) (Or.inl ⟨by rfl, ?_⟩) hHeld4_4 ?_
    rotate_left
    · intro w hSw
      (try dsimp only at hSw)
      go_simp
      try (first | (with_reducible rfl) | rfl)
    try simp only [List.getElem_toArray, List.getElem_cons_zero, List.getElem_cons_succ, Act.put, List.setIfInBounds_toArray, List.set_cons_zero, List.set_cons_succ]
    refine wpAnyH_take (i := 18) (v := ?_) rfl (by kernel_rfl) (by kernel_rfl) (by kernel_rfl) (fun _ _ _ h => h) (Or.inl ⟨by rfl, ?_⟩) hHeld4_4 ?_
    rotate_left
    · intro w hSw
      (try dsimp only at hSw)
      go_simp
      try (first | (with_reducible rfl) | rfl)
    try simp only [List.getElem_toArray, List.getElem_cons_zero, List.getElem_cons_succ, Act.put, List.setIfInBounds_toArray, List.set_cons_zero, List.set_cons_succ]
    refine wpAnyH_take (i := 19) (v := ?_) rfl (by kernel_rfl) (by kernel_rfl) (by kernel_rfl) (fun _ _ _ h => h) (Or.inl ⟨by rfl, ?_⟩) hHeld4_4 ?_
    rotate_left
    · intro w hSw
      (try dsimp only at hSw)
      go_simp
      try (first | (with_reducible rfl) | rfl)
    try simp only [List.getElem_toArray, List.getElem_cons_zero, List.getElem_cons_succ, Act.put, List.setIfInBounds_toArray, List.set_cons_zero, List.set_cons_succ]
    refine wpAnyH_take (i := 20) (v := ?_) rfl (by kernel_rfl) (by kernel_rfl) (by kernel_rfl) (fun _ _ _ h => h) (Or.inl ⟨by rfl, ?_⟩) hHeld4_4 ?_
    rotate_left
    · intro w hSw
      (try dsimp only at hSw)
      go_simp
      try (first | (with_reducible rfl) | rfl)
    try simp only [List.getElem_toArray, List.getElem_cons_zero, List.getElem_cons_succ, Act.put, List.setIfInBounds_toArray, List.set_cons_zero, List.set_cons_succ]
    refine wpAnyH_take (i := 21) (v := ?_) rfl (by kernel_rfl) (by kernel_rfl) (by kernel_rfl) (fun _ _ _ h => h) (Or.inl ⟨by rfl, ?_⟩) hHeld4_4 ?_
    rotate_left
    · intro w hSw
      (try dsimp only at hSw)
      go_simp
      try (first | (with_reducible rfl) | rfl)
    try simp only [List.getElem_toArray, List.getElem_cons_zero, List.getElem_cons_succ, Act.put, List.setIfInBounds_toArray, List.set_cons_zero, List.set_cons_succ]
    refine wpAnyH_take (i := 22) (v := ?_) rfl (by kernel_rfl) (by kernel_rfl) (by kernel_rfl) (fun _ _ _ h => h) (Or.inl ⟨by rfl, ?_⟩) hHeld4_4 ?_
    rotate_left
    · intro w hSw
      (try dsimp only at hSw)
      go_simp
      try (first | (with_reducible rfl) | rfl)
    try simp only [List.getElem_toArray, List.getElem_cons_zero, List.getElem_cons_succ, Act.put, List.setIfInBounds_toArray, List.set_cons_zero, List.set_cons_succ]
    refine wpAnyH_take (i := 23) (v := ?_) rfl (by kernel_rfl) (by kernel_rfl) (by kernel_rfl) (fun _ _ _ h => h) (Or.inl ⟨by rfl, ?_⟩) hHeld4_4 ?_
    rotate_left
    · intro w hSw
      (try dsimp only at hSw)
      go_simp
      try (first | (with_reducible rfl) | rfl)
    try simp only [List.getElem_toArray, List.getElem_cons_zero, List.getElem_cons_succ, Act.put, List.setIfInBounds_toArray, List.set_cons_zero, List.set_cons_succ]
    refine wpAnyH_ready (rs := [24]) (by kernel_rfl) (by simp) ?_
    refine AllReadyH.cons rfl (fun K hK => ?_) ?_
    · go_simp
      (go_at_call 84; refine (right_any rg ex s _).mono ?_; rintro e w6 ⟨rfl, hb⟩; rw [HPK.out]; (have HZ2 := Lib.hid (HBD.out.trans (hb.mono HBD.out.size))); clear hb HBD; (have HBD := HZ2); clear HZ2)
      go_wp2_with fail
      refine hK.out _ _ ?_ (fun hHeld24_24 => ?_)
      · first | exact HCS.out _ HBD.out | exact HCS.out _ (Below.refl _ _)
      clear hK K
      try simp only [List.getElem_toArray, List.getElem_cons_zero, List.getElem_cons_succ, Act.put, List.setIfInBounds_toArray, List.set_cons_zero, List.set_cons_succ]
      refine wpAnyH_take (i := 25) (v := ?_) rfl (by kernel_rfl) (by kernel_rfl) (by kernel_rfl) (fun _ _ _ h => h) (Or.inl ⟨by rfl, ?_⟩) hHeld24_24 ?_
      rotate_left
      · intro w hSw
        (try dsimp only at hSw)
        go_simp
        try (first | (with_reducible rfl) | rfl)
      try simp only [List.getElem_toArray, List.getElem_cons_zero, List.getElem_cons_succ, Act.put, List.setIfInBounds_toArray, List.set_cons_zero, List.set_cons_succ]
      refine wpAnyH_take (i := 26) (v := ?_) rfl (by kernel_rfl) (by kernel_rfl) (by kernel_rfl) (fun _ _ _ h => h) (Or.inl ⟨by rfl, ?_⟩) hHeld24_24 ?_
      rotate_left
      · intro w hSw
        (try dsimp only at hSw)
        go_simp
        try (first | (with_reducible rfl) | rfl)
      try simp only [List.getElem_toArray, List.getElem_cons_zero, List.getElem_cons_succ, Act.put, List.setIfInBounds_toArray, List.set_cons_zero, List.set_cons_succ]
      refine wpAnyH_done (by kernel_rfl) ?_ _
      have h5 := H.out.below HBD.out
      clear c0 c1 c2 c3 c4 c5 c6 c7 c8 c9 z0 z5 z6 z7 z8 z9 lt0
      obtain ⟨⟨c0, c1, c2, c3, c4, c5, c6, c7, c8, c9⟩, ⟨z0, z5, z6, z7, z8, z9⟩, lt0⟩ := cellsE (h5.cells 2 rfl)
      have H5 := Lib.hid h5
      clear h5
      go_wp2_with (go_at_call 161; refine (e_begin (.pointer none) n s h t rg ex (eFn bc bs bv bp bi bw bb) (-1) 0 bc bs bv bp bi bw bb rg ex push i wait base k ds' at_ dl po (((((((((H5.out.front 9 rfl).front 9 rfl).front 9 rfl).front 9 rfl).front 9 rfl).front 9 rfl).front 9 rfl).front 9 rfl).front 9 rfl) HDS.out HK.out HD.out HA.out HDL.out HPO.out n0 n1 wt0 wt1 hex b0 b1).mono ?_; rintro e w4 ⟨v, rfl, h⟩; (have H4 := Lib.hid h); clear h; clear c0 c1 c2 c3 c4 c5 c6 c7 c8 c9 z0 z5 z6 z7 z8 z9 lt0; obtain ⟨⟨c0, c1, c2, c3, c4, c5, c6, c7, c8, c9⟩, ⟨z0, z5, z6, z7, z8, z9⟩, lt0⟩ := cellsE (H4.out.cells 2 rfl))
      have h6 := H4.out.setAt 2 rfl 0 (.pointer (some ⟨v, 0, none⟩))
      generalize w4.setCell ⟨p, 0, none⟩ (.pointer (some ⟨v, 0, none⟩)) = W6 at *
      have h7 := (((((((((((h6.front 2 rfl).front 2 rfl).front 2 rfl).front 10 rfl).front 10 rfl).front 10 rfl).front 10 rfl).front 10 rfl).front 10 rfl).front 10 rfl).front 10 rfl).tail.tail.tail.tail.tail.tail.tail
      clear c0 c1 c2 c3 c4 c5 c6 c7 c8 c9 z0 z5 z6 z7 z8 z9 lt0
      have HV := Lib.hid (show St w0 (memA q ws ns :: srcA r now ds' :: visA v (newVM at_ push i dl po) :: eB p (.pointer (some ⟨v, 0, none⟩)) n s h t rg ex (eFn bc bs bv bp bi bw bb) at_ 0 :: L) W6 from h7)
      clear h6 h7
      obtain ⟨⟨c0, c1, c2, c3, c4, c5, c6, c7, c8, c9⟩, ⟨z0, z5, z6, z7, z8, z9⟩, lt0⟩ := cellsE (HV.out.cells 3 rfl)
      have HCP : Hid (∀ w', Below W6.heap.size W6 w' → w'.cell? ⟨p, 0, none⟩ = some (.pointer (some ⟨v, 0, none⟩))) := Lib.hid (fun w' hb => (cellsE ((HV.out.below hb).cells 3 rfl)).1.1)
      go_region_held3 (fun w' => w'.cell? ⟨p, 0, none⟩ = some (.pointer (some ⟨v, 0, none⟩))) (first | exact (cellsE (HS.out.cells 3 rfl)).1.1 | exact HCP.out _ (Below.refl _ _).drew | exact HCP.out _ (Below.refl _ _)) (first | (go_at_call 139; refine (src_now ((HV.out.drew.front 1 rfl))).mono ?_; rintro e w' ⟨rfl, rfl⟩) | (go_at_call 138; refine (vstep z HST.out HN.out HZ.out ((HV.out.drew.front 2 rfl).front 1 rfl) HVO.out hk).mono ?_; rintro e w7 ⟨rfl, h⟩; (have HS := Lib.hid ((h.front 2 rfl).front 1 rfl)); clear h))
      obtain ⟨⟨c0, c1, c2, c3, c4, c5, c6, c7, c8, c9⟩, ⟨z0, z5, z6, z7, z8, z9⟩, lt0⟩ := cellsE (HS.out.cells 3 rfl)
      go_wp2
      have h8 := HS.out.setAt 3 rfl 9 (.int .i64 a)
      generalize w7.setCell ⟨p, 9, none⟩ (.int .i64 a) = W8 at *
      have H8 := Lib.hid h8
      clear c0 c1 c2 c3 c4 c5 c6 c7 c8 c9 z0 z5 z6 z7 z8 z9 lt0
      obtain ⟨⟨c0, c1, c2, c3, c4, c5, c6, c7, c8, c9⟩, ⟨z0, z5, z6, z7, z8, z9⟩, lt0⟩ := cellsE (h8.cells 3 rfl)
      clear h8
      (try go_wp2)
      go_region_with ((go_at_call 140; refine (after_any rg ex s a _ hrg hex).mono ?_; rintro e w9 ⟨rfl, hb⟩; clear c0 c1 c2 c3 c4 c5 c6 c7 c8 c9 z0 z5 z6 z7 z8 z9 lt0; (have H9 := Lib.hid (H8.out.drew.below hb)); clear hb; obtain ⟨⟨c0, c1, c2, c3, c4, c5, c6, c7, c8, c9⟩, ⟨z0, z5, z6, z7, z8, z9⟩, lt0⟩ := cellsE (H9.out.cells 3 rfl)))
      all_goals go_wp2
      all_goals go_ret2
      all_goals exact ⟨v, rfl, (H9.out.setAt 3 rfl 5 _).setAt 3 rfl 6 _⟩
    exact AllReadyH.nil
  exact AllReadyH.nil
end Go.Proofs.YtgfeagggkplegaaGreat
