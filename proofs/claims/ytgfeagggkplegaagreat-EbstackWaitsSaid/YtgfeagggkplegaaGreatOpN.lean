/-
  ebstack: Check, Fresh, operations that are made, what a thread keeps, what it holds.
-/
import Derived.Test.YtgfeagggkplegaaGreatOpW
namespace Go.Proofs.YtgfeagggkplegaaGreat
open Go.RowKit
set_option linter.unusedVariables false
set_option linter.unusedSimpArgs false

/-- Is a config right? -/
def okE (n s h bud base : Int) : Bool := okC n s h && decide (0 ≤ bud ∧ bud ≤ 16 ∧ 1 ≤ base ∧ base ≤ 64)
abbrev cfgE (n s h t bud base wait : Int) : Value := .agg #[.int .i64 n, .int .i64 s, .int .i64 h, .int .u32 t, .int .i64 bud, .int .i64 base, .int .u64 wait]
abbrev thrV (sv : Value) (rg ex : Int) : Value := .agg #[sv, .int .i64 rg, .int .i64 ex]
theorem cells7 {w : World} {b : Nat} {a0 a1 a2 a3 a4 a5 a6 : Value} {e : TypeId} (h : w.heap[b]? = some (.cells #[a0, a1, a2, a3, a4, a5, a6] e (0, 0))) : (w.cell? ⟨b, 0, none⟩ = some a0 ∧ w.cell? ⟨b, 1, none⟩ = some a1 ∧ w.cell? ⟨b, 2, none⟩ = some a2 ∧ w.cell? ⟨b, 3, none⟩ = some a3 ∧ w.cell? ⟨b, 4, none⟩ = some a4 ∧ w.cell? ⟨b, 5, none⟩ = some a5 ∧ w.cell? ⟨b, 6, none⟩ = some a6) ∧ b < w.heap.size := ⟨⟨cell_of h 0, cell_of h 1, cell_of h 2, cell_of h 3, cell_of h 4, cell_of h 5, cell_of h 6⟩, lt_of_heap h⟩
theorem cells2F {w : World} {b : Nat} {a0 a1 : Value} {e : TypeId} (h : w.heap[b]? = some (.cells #[a0, a1] e (0, 0))) : (w.cell? ⟨b, 0, none⟩ = some a0 ∧ w.cell? ⟨b, 1, none⟩ = some a1) ∧ (w.frozen? ⟨b, 0, none⟩ = false ∧ w.frozen? ⟨b, 1, none⟩ = false) ∧ b < w.heap.size := ⟨⟨cell_of h 0, cell_of h 1⟩, ⟨free_of h 0, free_of h 1⟩, lt_of_heap h⟩
theorem cells3F {w : World} {b : Nat} {a0 a1 a2 : Value} {e : TypeId} (h : w.heap[b]? = some (.cells #[a0, a1, a2] e (0, 0))) : (w.cell? ⟨b, 0, none⟩ = some a0 ∧ w.cell? ⟨b, 1, none⟩ = some a1 ∧ w.cell? ⟨b, 2, none⟩ = some a2) ∧ (w.frozen? ⟨b, 0, none⟩ = false ∧ w.frozen? ⟨b, 1, none⟩ = false ∧ w.frozen? ⟨b, 2, none⟩ = false) ∧ b < w.heap.size := ⟨⟨cell_of h 0, cell_of h 1, cell_of h 2⟩, ⟨free_of h 0, free_of h 1, free_of h 2⟩, lt_of_heap h⟩
theorem cells3 {w : World} {b : Nat} {a0 a1 a2 : Value} {e : TypeId} (h : w.heap[b]? = some (.cells #[a0, a1, a2] e (0, 0))) : (w.cell? ⟨b, 0, none⟩ = some a0 ∧ w.cell? ⟨b, 1, none⟩ = some a1 ∧ w.cell? ⟨b, 2, none⟩ = some a2) ∧ b < w.heap.size := ⟨⟨cell_of h 0, cell_of h 1, cell_of h 2⟩, lt_of_heap h⟩

set_option maxHeartbeats 2000000 in
theorem e_check_no (n s h t bud base wait : Int) (w : World) (hk : okC n s h = false) :
    Calls Tryz.prog 15 #[cfgE n s h t bud base wait] w fun e w' => e = .returned (.int .i64 1) ∧ Below w.heap.size w w' := by
  go_enter Tryz.func15, Tryz.ntmps15
  go_wp2_with (go_at_call 54; refine (check_no n s h t _ hk).mono ?_; rintro e w1 ⟨rfl, k⟩; (have H1 := Lib.hid k); clear k; (have hb := (heap_new rfl : (w.alloc (.cells #[.int .i64 n, .int .i64 s, .int .i64 h, .int .u32 t, .int .i64 bud, .int .i64 base, .int .u64 wait] 27)).heap[w.heap.size]? = _)); (have hb2 := (H1.out.block w.heap.size (by simp)).trans hb); (obtain ⟨⟨d0, d1, d2, d3, d4, d5, d6⟩, ld⟩ := cells7 (hb2)); clear hb hb2)
  go_ret
  exact ⟨rfl, (bl_alloc (bl_refl w) _).trans (H1.out.mono (by simp))⟩

set_option maxHeartbeats 2000000 in
theorem e_check_b0 (n s h t bud base wait : Int) (w : World) (hk : okC n s h = true) (h0 : bud < 0) :
    Calls Tryz.prog 15 #[cfgE n s h t bud base wait] w fun e w' => e = .returned (.int .i64 1) ∧ Below w.heap.size w w' := by
  have g1 : decide (bud < 0) = true := decide_eq_true (by omega)
  go_enter Tryz.func15, Tryz.ntmps15
  go_wp2_with (go_at_call 54; refine (check_yes n s h t _ hk).mono ?_; rintro e w1 ⟨rfl, k⟩; (have H1 := Lib.hid k); clear k; (have hb := (heap_new rfl : (w.alloc (.cells #[.int .i64 n, .int .i64 s, .int .i64 h, .int .u32 t, .int .i64 bud, .int .i64 base, .int .u64 wait] 27)).heap[w.heap.size]? = _)); (have hb2 := (H1.out.block w.heap.size (by simp)).trans hb); (obtain ⟨⟨d0, d1, d2, d3, d4, d5, d6⟩, ld⟩ := cells7 (hb2)); clear hb hb2)
  go_ret
  exact ⟨rfl, (bl_alloc (bl_refl w) _).trans (H1.out.mono (by simp))⟩

set_option maxHeartbeats 2000000 in
theorem e_check_b1 (n s h t bud base wait : Int) (w : World) (hk : okC n s h = true) (h0 : 16 < bud) :
    Calls Tryz.prog 15 #[cfgE n s h t bud base wait] w fun e w' => e = .returned (.int .i64 1) ∧ Below w.heap.size w w' := by
  have g1 : decide (bud < 0) = false := decide_eq_false (by omega)
  have g2 : decide (16 < bud) = true := decide_eq_true (by omega)
  go_enter Tryz.func15, Tryz.ntmps15
  go_wp2_with (go_at_call 54; refine (check_yes n s h t _ hk).mono ?_; rintro e w1 ⟨rfl, k⟩; (have H1 := Lib.hid k); clear k; (have hb := (heap_new rfl : (w.alloc (.cells #[.int .i64 n, .int .i64 s, .int .i64 h, .int .u32 t, .int .i64 bud, .int .i64 base, .int .u64 wait] 27)).heap[w.heap.size]? = _)); (have hb2 := (H1.out.block w.heap.size (by simp)).trans hb); (obtain ⟨⟨d0, d1, d2, d3, d4, d5, d6⟩, ld⟩ := cells7 (hb2)); clear hb hb2)
  go_ret
  exact ⟨rfl, (bl_alloc (bl_refl w) _).trans (H1.out.mono (by simp))⟩

set_option maxHeartbeats 2000000 in
theorem e_check_x0 (n s h t bud base wait : Int) (w : World) (hk : okC n s h = true) (h0 : 0 ≤ bud) (h1 : bud ≤ 16) (h2 : base < 1) :
    Calls Tryz.prog 15 #[cfgE n s h t bud base wait] w fun e w' => e = .returned (.int .i64 1) ∧ Below w.heap.size w w' := by
  have g1 : decide (bud < 0) = false := decide_eq_false (by omega)
  have g2 : decide (16 < bud) = false := decide_eq_false (by omega)
  have g3 : decide (base < 1) = true := decide_eq_true (by omega)
  go_enter Tryz.func15, Tryz.ntmps15
  go_wp2_with (go_at_call 54; refine (check_yes n s h t _ hk).mono ?_; rintro e w1 ⟨rfl, k⟩; (have H1 := Lib.hid k); clear k; (have hb := (heap_new rfl : (w.alloc (.cells #[.int .i64 n, .int .i64 s, .int .i64 h, .int .u32 t, .int .i64 bud, .int .i64 base, .int .u64 wait] 27)).heap[w.heap.size]? = _)); (have hb2 := (H1.out.block w.heap.size (by simp)).trans hb); (obtain ⟨⟨d0, d1, d2, d3, d4, d5, d6⟩, ld⟩ := cells7 (hb2)); clear hb hb2)
  go_ret
  exact ⟨rfl, (bl_alloc (bl_refl w) _).trans (H1.out.mono (by simp))⟩

set_option maxHeartbeats 2000000 in
theorem e_check_x1 (n s h t bud base wait : Int) (w : World) (hk : okC n s h = true) (h0 : 0 ≤ bud) (h1 : bud ≤ 16) (h2 : 64 < base) :
    Calls Tryz.prog 15 #[cfgE n s h t bud base wait] w fun e w' => e = .returned (.int .i64 1) ∧ Below w.heap.size w w' := by
  have g1 : decide (bud < 0) = false := decide_eq_false (by omega)
  have g2 : decide (16 < bud) = false := decide_eq_false (by omega)
  have g3 : decide (base < 1) = false := decide_eq_false (by omega)
  have g4 : decide (64 < base) = true := decide_eq_true (by omega)
  go_enter Tryz.func15, Tryz.ntmps15
  go_wp2_with (go_at_call 54; refine (check_yes n s h t _ hk).mono ?_; rintro e w1 ⟨rfl, k⟩; (have H1 := Lib.hid k); clear k; (have hb := (heap_new rfl : (w.alloc (.cells #[.int .i64 n, .int .i64 s, .int .i64 h, .int .u32 t, .int .i64 bud, .int .i64 base, .int .u64 wait] 27)).heap[w.heap.size]? = _)); (have hb2 := (H1.out.block w.heap.size (by simp)).trans hb); (obtain ⟨⟨d0, d1, d2, d3, d4, d5, d6⟩, ld⟩ := cells7 (hb2)); clear hb hb2)
  go_ret
  exact ⟨rfl, (bl_alloc (bl_refl w) _).trans (H1.out.mono (by simp))⟩

set_option maxHeartbeats 2000000 in
theorem e_check_ok (n s h t bud base wait : Int) (w : World) (hk : okC n s h = true) (h0 : 0 ≤ bud) (h1 : bud ≤ 16) (h2 : 1 ≤ base) (h3 : base ≤ 64) :
    Calls Tryz.prog 15 #[cfgE n s h t bud base wait] w fun e w' => e = .returned (.int .i64 0) ∧ Below w.heap.size w w' := by
  have g1 : decide (bud < 0) = false := decide_eq_false (by omega)
  have g2 : decide (16 < bud) = false := decide_eq_false (by omega)
  have g3 : decide (base < 1) = false := decide_eq_false (by omega)
  have g4 : decide (64 < base) = false := decide_eq_false (by omega)
  go_enter Tryz.func15, Tryz.ntmps15
  go_wp2_with (go_at_call 54; refine (check_yes n s h t _ hk).mono ?_; rintro e w1 ⟨rfl, k⟩; (have H1 := Lib.hid k); clear k; (have hb := (heap_new rfl : (w.alloc (.cells #[.int .i64 n, .int .i64 s, .int .i64 h, .int .u32 t, .int .i64 bud, .int .i64 base, .int .u64 wait] 27)).heap[w.heap.size]? = _)); (have hb2 := (H1.out.block w.heap.size (by simp)).trans hb); (obtain ⟨⟨d0, d1, d2, d3, d4, d5, d6⟩, ld⟩ := cells7 (hb2)); clear hb hb2)
  go_ret
  exact ⟨rfl, (bl_alloc (bl_refl w) _).trans (H1.out.mono (by simp))⟩

theorem okE_iff {n s h bud base : Int} : okE n s h bud base = true ↔ okC n s h = true ∧ 0 ≤ bud ∧ bud ≤ 16 ∧ 1 ≤ base ∧ base ≤ 64 := by simp [okE]
theorem e_check_any (n s h t bud base wait : Int) (w : World) :
    Calls Tryz.prog 15 #[cfgE n s h t bud base wait] w fun e w' => e = .returned (.int .i64 (if okE n s h bud base = true then 0 else 1)) ∧ Below w.heap.size w w' := by
  cases hk : okC n s h with
  | false => rw [if_neg (fun c => by rw [okE_iff, hk] at c; cases c.1)]; exact e_check_no n s h t bud base wait w hk
  | true =>
    by_cases h0 : bud < 0
    · rw [if_neg (fun c => by rw [okE_iff] at c; omega)]; exact e_check_b0 n s h t bud base wait w hk h0
    by_cases h1 : 16 < bud
    · rw [if_neg (fun c => by rw [okE_iff] at c; omega)]; exact e_check_b1 n s h t bud base wait w hk h1
    by_cases h2 : base < 1
    · rw [if_neg (fun c => by rw [okE_iff] at c; omega)]; exact e_check_x0 n s h t bud base wait w hk (by omega) (by omega) h2
    by_cases h3 : 64 < base
    · rw [if_neg (fun c => by rw [okE_iff] at c; omega)]; exact e_check_x1 n s h t bud base wait w hk (by omega) (by omega) h3
    · rw [if_pos (okE_iff.2 ⟨hk, by omega, by omega, by omega, by omega⟩)]; exact e_check_ok n s h t bud base wait w hk (by omega) (by omega) (by omega) (by omega)

set_option maxHeartbeats 2000000 in
theorem pol_new (n : Int) (w : World)  :
    Calls Tryz.prog 40 #[.int .i64 n] w fun e w' => e = .returned (polV (pR 1 n) (pE 0)) ∧ Below w.heap.size w w' := by
  have H := Lib.hid ((St.nil w).alloc #[.int .i64 0, .int .i64 0] 29)
  have hW := Lib.hid (fun w => within_any 1 0 n w)
  generalize pR 1 n = x at *
  generalize pE 0 = y at *
  go_enter Tryz.func40, Tryz.ntmps40
  go_wp2_with (go_at_call 72; refine (hW.out _).mono ?_; rintro e w1 ⟨rfl, k⟩; (have H1 := Lib.hid (H.out.below k)); clear k; (obtain ⟨⟨d0, d1⟩, ⟨f0, f1⟩, ld⟩ := cells2F (H1.out.cells 0 rfl)))
  have h9 := (H1.out.setAt 0 rfl 0 (.int .i64 x)).setAt 0 rfl 1 (.int .i64 y)
  generalize (w1.setCell ⟨w.heap.size, 0, none⟩ (.int .i64 x)).setCell ⟨w.heap.size, 1, none⟩ (.int .i64 y) = W at *
  clear d0 d1
  obtain ⟨⟨d0, d1⟩, _, _⟩ := cells2F (h9.cells 0 rfl)
  refine bodyPost_ret (by simp [results, Tryz.results40, go_sem, d0, d1]; try rfl) rfl ?_
  exact ⟨rfl, h9.bel⟩

set_option maxHeartbeats 2000000 in
theorem e_fresh (n s h t bud base wait : Int) (w : World)  :
    Calls Tryz.prog 24 #[cfgE n s h t bud base wait] w fun e w' => e = .returned (thrV (.slice none 0 0) (pR 1 s) (pE 0)) ∧ Below w.heap.size w w' := by
  have H := Lib.hid (show St w [boxA (w.heap.size + 1) #[.slice none 0 0, .int .i64 0, .int .i64 0] 43, boxA w.heap.size #[.int .i64 n, .int .i64 s, .int .i64 h, .int .u32 t, .int .i64 bud, .int .i64 base, .int .u64 wait] 27] ((w.alloc (.cells #[.int .i64 n, .int .i64 s, .int .i64 h, .int .u32 t, .int .i64 bud, .int .i64 base, .int .u64 wait] 27)).alloc (.cells #[.slice none 0 0, .int .i64 0, .int .i64 0] 43)) from by have h0 := ((St.nil w).alloc #[.int .i64 n, .int .i64 s, .int .i64 h, .int .u32 t, .int .i64 bud, .int .i64 base, .int .u64 wait] 27).alloc #[.slice none 0 0, .int .i64 0, .int .i64 0] 43; rw [World.size_alloc] at h0; exact h0)
  have hW := Lib.hid (fun w => pol_new s w)
  generalize pR 1 s = x at *
  generalize pE 0 = y at *
  go_enter Tryz.func24, Tryz.ntmps24
  go_wp2_with (go_at_call 40; refine (hW.out _).mono ?_; rintro e w1 ⟨rfl, k⟩; (have H1 := Lib.hid (H.out.below k)); clear k; (obtain ⟨⟨d0, d1, d2⟩, ⟨f0, f1, f2⟩, ld⟩ := cells3F (H1.out.cells 0 rfl)))
  have h9 := ((H1.out.setAt 0 rfl 0 (.slice none 0 0)).setAt 0 rfl 1 (.int .i64 x)).setAt 0 rfl 2 (.int .i64 y)
  generalize ((w1.setCell ⟨w.heap.size + 1, 0, none⟩ (.slice none 0 0)).setCell ⟨w.heap.size + 1, 1, none⟩ (.int .i64 x)).setCell ⟨w.heap.size + 1, 2, none⟩ (.int .i64 y) = W at *
  clear d0 d1 d2
  obtain ⟨⟨d0, d1, d2⟩, _, _⟩ := cells3F (h9.cells 0 rfl)
  refine bodyPost_ret (by simp [results, Tryz.results24, go_sem, d0, d1, d2]; try rfl) rfl ?_
  exact ⟨rfl, h9.bel⟩

set_option maxHeartbeats 8000000 in
theorem o_thread {w0 w : World} {p : Nat} {L : List Asn} {n s h t bud base wait : Int} {rg ex : Int} {push : Bool} {v i failed : Int} {pv : Value} {st : Int} {retry : Bool} {A : Option Addr} {c : Nat} {l : List Int} (hS : St w0 (opB p n s h t bud base wait (.slice A l.length c) rg ex push v i failed pv st retry :: row32 (.slice A l.length c) l :: L) w) (hl : l.length ≤ 1000000000000) :
    Calls Tryz.prog 26 #[.pointer (some ⟨p, 0, none⟩)] w fun e w' => ∃ a c2, e = .returned (thrV (.slice a l.length c2) rg ex) ∧ St w0 (row32 (.slice a l.length c2) l :: opB p n s h t bud base wait (.slice A l.length c) rg ex push v i failed pv st retry :: row32 (.slice A l.length c) l :: L) w' := by
  have H := Lib.hid hS
  have HR := Lib.hid (row32_rd (hS.rowOf 1 rfl)).1
  obtain ⟨⟨c0, c1, c2, c3, c4, c5, c6, c7, c8, c9, c10, c11, c12, c13, c14, c15, c16⟩, ⟨z7, z8, z9, z11, z12, z13, z14, z15, z16⟩, lp⟩ := cells17 (hS.cells 0 rfl)
  clear hS
  go_enter Tryz.func26, Tryz.ntmps26
  go_upto_region 1 with (fail)
  go_region_with (go_at_call 62; refine (clone32 A l.length c l ((H.out.alloc #[.slice none 0 0, .int .i64 0, .int .i64 0] 43).drew) (HR.out.kept ((bl_alloc (bl_refl _) _).drew)) rfl hl).mono ?_; rintro e w2 ⟨a, cq, rfl, k⟩; (have H2 := Lib.hid k); clear k; clear c0 c1 c2 c3 c4 c5 c6 c7 c8 c9 c10 c11 c12 c13 c14 c15 c16 z7 z8 z9 z11 z12 z13 z14 z15 z16 lp; obtain ⟨⟨c0, c1, c2, c3, c4, c5, c6, c7, c8, c9, c10, c11, c12, c13, c14, c15, c16⟩, ⟨z7, z8, z9, z11, z12, z13, z14, z15, z16⟩, lp⟩ := cells17 (H2.out.cells 2 rfl); (obtain ⟨⟨d0, d1, d2⟩, ⟨f0, f1, f2⟩, ld⟩ := cells3F (H2.out.cells 1 rfl)))
  all_goals go_wp2
  all_goals (have h9 := ((H2.out.setAt 1 rfl 0 (.slice a l.length cq)).setAt 1 rfl 1 (.int .i64 rg)).setAt 1 rfl 2 (.int .i64 ex))
  all_goals generalize ((w2.setCell ⟨w.heap.size, 0, none⟩ (.slice a l.length cq)).setCell ⟨w.heap.size, 1, none⟩ (.int .i64 rg)).setCell ⟨w.heap.size, 2, none⟩ (.int .i64 ex) = W at *
  all_goals (clear d0 d1 d2; obtain ⟨⟨d0, d1, d2⟩, _, _⟩ := cells3F (h9.cells 1 rfl))
  all_goals refine bodyPost_ret (by simp [results, Tryz.results26, go_sem, d0, d1, d2]; try rfl) rfl ?_
  all_goals exact ⟨a, cq, rfl, (show St w0 (row32 _ l :: _ :: opB p n s h t bud base wait (.slice A l.length c) rg ex push v i failed pv st retry :: row32 _ l :: L) _ from h9).re 4 [0, 2, 3]⟩

set_option maxHeartbeats 8000000 in
theorem o_begun_ok {w0 w : World} {L : List Asn} (n s h t bud base wait : Int) (A : Option Addr) (k c : Nat) (l : List Int) (rg ex : Int) (push : Bool) (v : Int) (T : TypeId) (x : Nat) (hS : St w0 L w) (hr : Rd32 w A l) (hn : l.length = k) (hl : k ≤ 1000000000000) (hc : okE n s h bud base = true) (hp : pOk rg ex s = true) :
    Calls Tryz.prog 55 #[cfgE n s h t bud base wait, thrV (.slice A k c) rg ex, .bool push, .int .u64 v, .iface T (.pointer (some ⟨x, 0, none⟩))] w fun e w' => ∃ p a cq, e = .returned (.pointer (some ⟨p, 0, none⟩)) ∧ St w0 (opB p n s h t bud base wait (.slice a k cq) rg ex push v 0 0 (.iface T (.pointer (some ⟨x, 0, none⟩))) 0 false :: row32 (.slice a k cq) l :: L) w' := by
  have H := Lib.hid (show St w0 (boxA (w.heap.size + 1) #[.slice A k c, .int .i64 rg, .int .i64 ex] 43 :: boxA w.heap.size #[.int .i64 n, .int .i64 s, .int .i64 h, .int .u32 t, .int .i64 bud, .int .i64 base, .int .u64 wait] 27 :: L) ((w.alloc (.cells #[.int .i64 n, .int .i64 s, .int .i64 h, .int .u32 t, .int .i64 bud, .int .i64 base, .int .u64 wait] 27)).alloc (.cells #[.slice A k c, .int .i64 rg, .int .i64 ex] 43)) from by have h0 := (hS.alloc #[.int .i64 n, .int .i64 s, .int .i64 h, .int .u32 t, .int .i64 bud, .int .i64 base, .int .u64 wait] 27).alloc #[.slice A k c, .int .i64 rg, .int .i64 ex] 43; rw [World.size_alloc] at h0; exact h0)
  have HR := Lib.hid ((hr.kept (bl_alloc (bl_refl _) _)).kept (bl_alloc (bl_refl _) _) : Rd32 ((w.alloc (.cells #[.int .i64 n, .int .i64 s, .int .i64 h, .int .u32 t, .int .i64 bud, .int .i64 base, .int .u64 wait] 27)).alloc (.cells #[.slice A k c, .int .i64 rg, .int .i64 ex] 43)) A l)
  have HN := Lib.hid hn
  have HC : Hid (∀ w, Calls Tryz.prog 15 #[cfgE n s h t bud base wait] w fun e w' => e = .returned (.int .i64 0) ∧ Below w.heap.size w w') := Lib.hid fun w => by
    have h1 := e_check_any n s h t bud base wait w
    rw [if_pos hc] at h1
    exact h1
  have HP : Hid (∀ w, Calls Tryz.prog 84 #[polV rg ex, .int .i64 s] w fun e w' => e = .returned (.bool true) ∧ Below w.heap.size w w') := Lib.hid fun w => by
    have h1 := right_any rg ex s w
    rw [hp] at h1
    exact h1
  have HCS : Hid (∀ (L' : List Asn) (i j : Nat) (w' : World), St w0 L' w' → L'[i]? = some (boxA (w.heap.size + 1) #[.slice A k c, .int .i64 rg, .int .i64 ex] 43) → L'[j]? = some (boxA w.heap.size #[.int .i64 n, .int .i64 s, .int .i64 h, .int .u32 t, .int .i64 bud, .int .i64 base, .int .u64 wait] 27) → w'.cell? ⟨w.heap.size, 0, none⟩ = some (.int .i64 n) ∧ w'.cell? ⟨w.heap.size, 1, none⟩ = some (.int .i64 s) ∧ w'.cell? ⟨w.heap.size, 2, none⟩ = some (.int .i64 h) ∧ w'.cell? ⟨w.heap.size, 3, none⟩ = some (.int .u32 t) ∧ w'.cell? ⟨w.heap.size, 4, none⟩ = some (.int .i64 bud) ∧ w'.cell? ⟨w.heap.size, 5, none⟩ = some (.int .i64 base) ∧ w'.cell? ⟨w.heap.size, 6, none⟩ = some (.int .u64 wait) ∧ w'.cell? ⟨w.heap.size + 1, 0, none⟩ = some (.slice A k c) ∧ w'.cell? ⟨w.heap.size + 1, 1, none⟩ = some (.int .i64 rg) ∧ w'.cell? ⟨w.heap.size + 1, 2, none⟩ = some (.int .i64 ex)) := Lib.hid fun L' i j w' hh e1 e2 => by
    obtain ⟨⟨f0, f1, f2⟩, _⟩ := cells3 (hh.cells i e1)
    obtain ⟨⟨d0, d1, d2, d3, d4, d5, d6⟩, _⟩ := cells7 (hh.cells j e2)
    exact ⟨d0, d1, d2, d3, d4, d5, d6, f0, f1, f2⟩
  clear hS hr hn
  go_enter Tryz.func55, Tryz.ntmps55
  go_upto_region 1 with (fail)
  go_region_held3 (fun w' => w'.cell? ⟨w.heap.size, 0, none⟩ = some (.int .i64 n) ∧ w'.cell? ⟨w.heap.size, 1, none⟩ = some (.int .i64 s) ∧ w'.cell? ⟨w.heap.size, 2, none⟩ = some (.int .i64 h) ∧ w'.cell? ⟨w.heap.size, 3, none⟩ = some (.int .u32 t) ∧ w'.cell? ⟨w.heap.size, 4, none⟩ = some (.int .i64 bud) ∧ w'.cell? ⟨w.heap.size, 5, none⟩ = some (.int .i64 base) ∧ w'.cell? ⟨w.heap.size, 6, none⟩ = some (.int .u64 wait) ∧ w'.cell? ⟨w.heap.size + 1, 0, none⟩ = some (.slice A k c) ∧ w'.cell? ⟨w.heap.size + 1, 1, none⟩ = some (.int .i64 rg) ∧ w'.cell? ⟨w.heap.size + 1, 2, none⟩ = some (.int .i64 ex)) (first | exact HCS.out _ 2 3 _ (H2.out.alloc _ _) rfl rfl | exact HCS.out _ 1 2 _ H2.out rfl rfl | exact HCS.out _ 0 1 _ H.out.drew rfl rfl | exact HCS.out _ 0 1 _ H.out rfl rfl) ((go_at_call 62; refine (clone32 A k c l H.out.drew (HR.out.kept (bl_drew (bl_refl _))) HN.out hl).mono ?_; rintro e w2 ⟨a, cq, rfl, kk⟩; (have H2 := Lib.hid kk); clear kk))
  have h3 := H2.out.alloc #[.int .i64 n, .int .i64 s, .int .i64 h, .int .u32 t, .int .i64 bud, .int .i64 base, .int .u64 wait, .slice a k cq, .int .i64 rg, .int .i64 ex, .bool push, .int .u64 v, .int .u32 0, .int .i64 0, .iface T (.pointer (some ⟨x, 0, none⟩)), .int .i64 0, .bool false] 124
  generalize hb : w2.heap.size = b at *
  generalize w2.alloc (.cells #[.int .i64 n, .int .i64 s, .int .i64 h, .int .u32 t, .int .i64 bud, .int .i64 base, .int .u64 wait, .slice a k cq, .int .i64 rg, .int .i64 ex, .bool push, .int .u64 v, .int .u32 0, .int .i64 0, .iface T (.pointer (some ⟨x, 0, none⟩)), .int .i64 0, .bool false] 124) = W at *
  have H3 := Lib.hid h3
  (obtain ⟨⟨d0, d1, d2, d3, d4, d5, d6⟩, ld⟩ := cells7 (h3.cells 3 rfl))
  (obtain ⟨⟨f0, f1, f2⟩, lf⟩ := cells3 (h3.cells 2 rfl))
  obtain ⟨⟨c0, c1, c2, c3, c4, c5, c6, c7, c8, c9, c10, c11, c12, c13, c14, c15, c16⟩, ⟨z7, z8, z9, z11, z12, z13, z14, z15, z16⟩, lp⟩ := cells17 (h3.cells 0 rfl)
  clear h3
  go_wp2_with (first | ((have _h := H4); go_at_call 84; refine (HP.out _).mono ?_; rintro e w5 ⟨rfl, kk⟩; (have H5 := Lib.hid (H4.out.below kk)); clear kk _h; clear c0 c1 c2 c3 c4 c5 c6 c7 c8 c9 c10 c11 c12 c13 c14 c15 c16 z7 z8 z9 z11 z12 z13 z14 z15 z16 lp; obtain ⟨⟨c0, c1, c2, c3, c4, c5, c6, c7, c8, c9, c10, c11, c12, c13, c14, c15, c16⟩, ⟨z7, z8, z9, z11, z12, z13, z14, z15, z16⟩, lp⟩ := cells17 (H5.out.cells 0 rfl)) | (go_at_call 15; refine (HC.out _).mono ?_; rintro e w4 ⟨rfl, kk⟩; (have H4 := Lib.hid (H3.out.below kk)); clear kk; clear d0 d1 d2 d3 d4 d5 d6 ld f0 f1 f2 lf; (obtain ⟨⟨d0, d1, d2, d3, d4, d5, d6⟩, ld⟩ := cells7 (H4.out.cells 3 rfl)); (obtain ⟨⟨f0, f1, f2⟩, lf⟩ := cells3 (H4.out.cells 2 rfl)); clear c0 c1 c2 c3 c4 c5 c6 c7 c8 c9 c10 c11 c12 c13 c14 c15 c16 z7 z8 z9 z11 z12 z13 z14 z15 z16 lp; obtain ⟨⟨c0, c1, c2, c3, c4, c5, c6, c7, c8, c9, c10, c11, c12, c13, c14, c15, c16⟩, ⟨z7, z8, z9, z11, z12, z13, z14, z15, z16⟩, lp⟩ := cells17 (H4.out.cells 0 rfl)))
  go_ret
  exact ⟨b, a, cq, rfl, (show St w0 (opB b n s h t bud base wait (.slice a k cq) rg ex push v 0 0 (.iface T (.pointer (some ⟨x, 0, none⟩))) 0 false :: row32 (.slice a k cq) l :: _ :: _ :: L) _ from H5.out).re 4 [0, 1]⟩

set_option maxHeartbeats 8000000 in
theorem o_begun_pol {w0 w : World} {L : List Asn} (n s h t bud base wait : Int) (A : Option Addr) (k c : Nat) (l : List Int) (rg ex : Int) (push : Bool) (v : Int) (T : TypeId) (x : Nat) (hS : St w0 L w) (hr : Rd32 w A l) (hn : l.length = k) (hl : k ≤ 1000000000000) (hc : okE n s h bud base = true) (hp : pOk rg ex s = false) :
    Calls Tryz.prog 55 #[cfgE n s h t bud base wait, thrV (.slice A k c) rg ex, .bool push, .int .u64 v, .iface T (.pointer (some ⟨x, 0, none⟩))] w fun e w' => ∃ p a cq, e = .returned (.pointer (some ⟨p, 0, none⟩)) ∧ St w0 (opB p n s h t bud base wait (.slice a k cq) rg ex push v 0 0 (.iface T (.pointer (some ⟨x, 0, none⟩))) 5 false :: row32 (.slice a k cq) l :: L) w' := by
  have H := Lib.hid (show St w0 (boxA (w.heap.size + 1) #[.slice A k c, .int .i64 rg, .int .i64 ex] 43 :: boxA w.heap.size #[.int .i64 n, .int .i64 s, .int .i64 h, .int .u32 t, .int .i64 bud, .int .i64 base, .int .u64 wait] 27 :: L) ((w.alloc (.cells #[.int .i64 n, .int .i64 s, .int .i64 h, .int .u32 t, .int .i64 bud, .int .i64 base, .int .u64 wait] 27)).alloc (.cells #[.slice A k c, .int .i64 rg, .int .i64 ex] 43)) from by have h0 := (hS.alloc #[.int .i64 n, .int .i64 s, .int .i64 h, .int .u32 t, .int .i64 bud, .int .i64 base, .int .u64 wait] 27).alloc #[.slice A k c, .int .i64 rg, .int .i64 ex] 43; rw [World.size_alloc] at h0; exact h0)
  have HR := Lib.hid ((hr.kept (bl_alloc (bl_refl _) _)).kept (bl_alloc (bl_refl _) _) : Rd32 ((w.alloc (.cells #[.int .i64 n, .int .i64 s, .int .i64 h, .int .u32 t, .int .i64 bud, .int .i64 base, .int .u64 wait] 27)).alloc (.cells #[.slice A k c, .int .i64 rg, .int .i64 ex] 43)) A l)
  have HN := Lib.hid hn
  have HC : Hid (∀ w, Calls Tryz.prog 15 #[cfgE n s h t bud base wait] w fun e w' => e = .returned (.int .i64 0) ∧ Below w.heap.size w w') := Lib.hid fun w => by
    have h1 := e_check_any n s h t bud base wait w
    rw [if_pos hc] at h1
    exact h1
  have HP : Hid (∀ w, Calls Tryz.prog 84 #[polV rg ex, .int .i64 s] w fun e w' => e = .returned (.bool false) ∧ Below w.heap.size w w') := Lib.hid fun w => by
    have h1 := right_any rg ex s w
    rw [hp] at h1
    exact h1
  have HCS : Hid (∀ (L' : List Asn) (i j : Nat) (w' : World), St w0 L' w' → L'[i]? = some (boxA (w.heap.size + 1) #[.slice A k c, .int .i64 rg, .int .i64 ex] 43) → L'[j]? = some (boxA w.heap.size #[.int .i64 n, .int .i64 s, .int .i64 h, .int .u32 t, .int .i64 bud, .int .i64 base, .int .u64 wait] 27) → w'.cell? ⟨w.heap.size, 0, none⟩ = some (.int .i64 n) ∧ w'.cell? ⟨w.heap.size, 1, none⟩ = some (.int .i64 s) ∧ w'.cell? ⟨w.heap.size, 2, none⟩ = some (.int .i64 h) ∧ w'.cell? ⟨w.heap.size, 3, none⟩ = some (.int .u32 t) ∧ w'.cell? ⟨w.heap.size, 4, none⟩ = some (.int .i64 bud) ∧ w'.cell? ⟨w.heap.size, 5, none⟩ = some (.int .i64 base) ∧ w'.cell? ⟨w.heap.size, 6, none⟩ = some (.int .u64 wait) ∧ w'.cell? ⟨w.heap.size + 1, 0, none⟩ = some (.slice A k c) ∧ w'.cell? ⟨w.heap.size + 1, 1, none⟩ = some (.int .i64 rg) ∧ w'.cell? ⟨w.heap.size + 1, 2, none⟩ = some (.int .i64 ex)) := Lib.hid fun L' i j w' hh e1 e2 => by
    obtain ⟨⟨f0, f1, f2⟩, _⟩ := cells3 (hh.cells i e1)
    obtain ⟨⟨d0, d1, d2, d3, d4, d5, d6⟩, _⟩ := cells7 (hh.cells j e2)
    exact ⟨d0, d1, d2, d3, d4, d5, d6, f0, f1, f2⟩
  clear hS hr hn
  go_enter Tryz.func55, Tryz.ntmps55
  go_upto_region 1 with (fail)
  go_region_held3 (fun w' => w'.cell? ⟨w.heap.size, 0, none⟩ = some (.int .i64 n) ∧ w'.cell? ⟨w.heap.size, 1, none⟩ = some (.int .i64 s) ∧ w'.cell? ⟨w.heap.size, 2, none⟩ = some (.int .i64 h) ∧ w'.cell? ⟨w.heap.size, 3, none⟩ = some (.int .u32 t) ∧ w'.cell? ⟨w.heap.size, 4, none⟩ = some (.int .i64 bud) ∧ w'.cell? ⟨w.heap.size, 5, none⟩ = some (.int .i64 base) ∧ w'.cell? ⟨w.heap.size, 6, none⟩ = some (.int .u64 wait) ∧ w'.cell? ⟨w.heap.size + 1, 0, none⟩ = some (.slice A k c) ∧ w'.cell? ⟨w.heap.size + 1, 1, none⟩ = some (.int .i64 rg) ∧ w'.cell? ⟨w.heap.size + 1, 2, none⟩ = some (.int .i64 ex)) (first | exact HCS.out _ 2 3 _ (H2.out.alloc _ _) rfl rfl | exact HCS.out _ 1 2 _ H2.out rfl rfl | exact HCS.out _ 0 1 _ H.out.drew rfl rfl | exact HCS.out _ 0 1 _ H.out rfl rfl) ((go_at_call 62; refine (clone32 A k c l H.out.drew (HR.out.kept (bl_drew (bl_refl _))) HN.out hl).mono ?_; rintro e w2 ⟨a, cq, rfl, kk⟩; (have H2 := Lib.hid kk); clear kk))
  have h3 := H2.out.alloc #[.int .i64 n, .int .i64 s, .int .i64 h, .int .u32 t, .int .i64 bud, .int .i64 base, .int .u64 wait, .slice a k cq, .int .i64 rg, .int .i64 ex, .bool push, .int .u64 v, .int .u32 0, .int .i64 0, .iface T (.pointer (some ⟨x, 0, none⟩)), .int .i64 0, .bool false] 124
  generalize hb : w2.heap.size = b at *
  generalize w2.alloc (.cells #[.int .i64 n, .int .i64 s, .int .i64 h, .int .u32 t, .int .i64 bud, .int .i64 base, .int .u64 wait, .slice a k cq, .int .i64 rg, .int .i64 ex, .bool push, .int .u64 v, .int .u32 0, .int .i64 0, .iface T (.pointer (some ⟨x, 0, none⟩)), .int .i64 0, .bool false] 124) = W at *
  have H3 := Lib.hid h3
  (obtain ⟨⟨d0, d1, d2, d3, d4, d5, d6⟩, ld⟩ := cells7 (h3.cells 3 rfl))
  (obtain ⟨⟨f0, f1, f2⟩, lf⟩ := cells3 (h3.cells 2 rfl))
  obtain ⟨⟨c0, c1, c2, c3, c4, c5, c6, c7, c8, c9, c10, c11, c12, c13, c14, c15, c16⟩, ⟨z7, z8, z9, z11, z12, z13, z14, z15, z16⟩, lp⟩ := cells17 (h3.cells 0 rfl)
  clear h3
  go_wp2_with (first | ((have _h := H4); go_at_call 84; refine (HP.out _).mono ?_; rintro e w5 ⟨rfl, kk⟩; (have H5 := Lib.hid (H4.out.below kk)); clear kk _h; clear c0 c1 c2 c3 c4 c5 c6 c7 c8 c9 c10 c11 c12 c13 c14 c15 c16 z7 z8 z9 z11 z12 z13 z14 z15 z16 lp; obtain ⟨⟨c0, c1, c2, c3, c4, c5, c6, c7, c8, c9, c10, c11, c12, c13, c14, c15, c16⟩, ⟨z7, z8, z9, z11, z12, z13, z14, z15, z16⟩, lp⟩ := cells17 (H5.out.cells 0 rfl)) | (go_at_call 15; refine (HC.out _).mono ?_; rintro e w4 ⟨rfl, kk⟩; (have H4 := Lib.hid (H3.out.below kk)); clear kk; clear d0 d1 d2 d3 d4 d5 d6 ld f0 f1 f2 lf; (obtain ⟨⟨d0, d1, d2, d3, d4, d5, d6⟩, ld⟩ := cells7 (H4.out.cells 3 rfl)); (obtain ⟨⟨f0, f1, f2⟩, lf⟩ := cells3 (H4.out.cells 2 rfl)); clear c0 c1 c2 c3 c4 c5 c6 c7 c8 c9 c10 c11 c12 c13 c14 c15 c16 z7 z8 z9 z11 z12 z13 z14 z15 z16 lp; obtain ⟨⟨c0, c1, c2, c3, c4, c5, c6, c7, c8, c9, c10, c11, c12, c13, c14, c15, c16⟩, ⟨z7, z8, z9, z11, z12, z13, z14, z15, z16⟩, lp⟩ := cells17 (H4.out.cells 0 rfl)))
  go_ret
  exact ⟨b, a, cq, rfl, (show St w0 (opB b n s h t bud base wait (.slice a k cq) rg ex push v 0 0 (.iface T (.pointer (some ⟨x, 0, none⟩))) 5 false :: row32 (.slice a k cq) l :: _ :: _ :: L) _ from (H5.out.setAt 0 rfl 15 (.int .i64 5))).re 4 [0, 1]⟩

set_option maxHeartbeats 8000000 in
theorem o_begun_cfg {w0 w : World} {L : List Asn} (n s h t bud base wait : Int) (A : Option Addr) (k c : Nat) (l : List Int) (rg ex : Int) (push : Bool) (v : Int) (T : TypeId) (x : Nat) (hS : St w0 L w) (hr : Rd32 w A l) (hn : l.length = k) (hl : k ≤ 1000000000000) (hc : ¬ okE n s h bud base = true) :
    Calls Tryz.prog 55 #[cfgE n s h t bud base wait, thrV (.slice A k c) rg ex, .bool push, .int .u64 v, .iface T (.pointer (some ⟨x, 0, none⟩))] w fun e w' => ∃ p a cq, e = .returned (.pointer (some ⟨p, 0, none⟩)) ∧ St w0 (opB p n s h t bud base wait (.slice a k cq) rg ex push v 0 0 (.iface T (.pointer (some ⟨x, 0, none⟩))) 5 false :: row32 (.slice a k cq) l :: L) w' := by
  have H := Lib.hid (show St w0 (boxA (w.heap.size + 1) #[.slice A k c, .int .i64 rg, .int .i64 ex] 43 :: boxA w.heap.size #[.int .i64 n, .int .i64 s, .int .i64 h, .int .u32 t, .int .i64 bud, .int .i64 base, .int .u64 wait] 27 :: L) ((w.alloc (.cells #[.int .i64 n, .int .i64 s, .int .i64 h, .int .u32 t, .int .i64 bud, .int .i64 base, .int .u64 wait] 27)).alloc (.cells #[.slice A k c, .int .i64 rg, .int .i64 ex] 43)) from by have h0 := (hS.alloc #[.int .i64 n, .int .i64 s, .int .i64 h, .int .u32 t, .int .i64 bud, .int .i64 base, .int .u64 wait] 27).alloc #[.slice A k c, .int .i64 rg, .int .i64 ex] 43; rw [World.size_alloc] at h0; exact h0)
  have HR := Lib.hid ((hr.kept (bl_alloc (bl_refl _) _)).kept (bl_alloc (bl_refl _) _) : Rd32 ((w.alloc (.cells #[.int .i64 n, .int .i64 s, .int .i64 h, .int .u32 t, .int .i64 bud, .int .i64 base, .int .u64 wait] 27)).alloc (.cells #[.slice A k c, .int .i64 rg, .int .i64 ex] 43)) A l)
  have HN := Lib.hid hn
  have HC : Hid (∀ w, Calls Tryz.prog 15 #[cfgE n s h t bud base wait] w fun e w' => e = .returned (.int .i64 1) ∧ Below w.heap.size w w') := Lib.hid fun w => by
    have h1 := e_check_any n s h t bud base wait w
    rw [if_neg hc] at h1
    exact h1
  have HCS : Hid (∀ (L' : List Asn) (i j : Nat) (w' : World), St w0 L' w' → L'[i]? = some (boxA (w.heap.size + 1) #[.slice A k c, .int .i64 rg, .int .i64 ex] 43) → L'[j]? = some (boxA w.heap.size #[.int .i64 n, .int .i64 s, .int .i64 h, .int .u32 t, .int .i64 bud, .int .i64 base, .int .u64 wait] 27) → w'.cell? ⟨w.heap.size, 0, none⟩ = some (.int .i64 n) ∧ w'.cell? ⟨w.heap.size, 1, none⟩ = some (.int .i64 s) ∧ w'.cell? ⟨w.heap.size, 2, none⟩ = some (.int .i64 h) ∧ w'.cell? ⟨w.heap.size, 3, none⟩ = some (.int .u32 t) ∧ w'.cell? ⟨w.heap.size, 4, none⟩ = some (.int .i64 bud) ∧ w'.cell? ⟨w.heap.size, 5, none⟩ = some (.int .i64 base) ∧ w'.cell? ⟨w.heap.size, 6, none⟩ = some (.int .u64 wait) ∧ w'.cell? ⟨w.heap.size + 1, 0, none⟩ = some (.slice A k c) ∧ w'.cell? ⟨w.heap.size + 1, 1, none⟩ = some (.int .i64 rg) ∧ w'.cell? ⟨w.heap.size + 1, 2, none⟩ = some (.int .i64 ex)) := Lib.hid fun L' i j w' hh e1 e2 => by
    obtain ⟨⟨f0, f1, f2⟩, _⟩ := cells3 (hh.cells i e1)
    obtain ⟨⟨d0, d1, d2, d3, d4, d5, d6⟩, _⟩ := cells7 (hh.cells j e2)
    exact ⟨d0, d1, d2, d3, d4, d5, d6, f0, f1, f2⟩
  clear hS hr hn
  go_enter Tryz.func55, Tryz.ntmps55
  go_upto_region 1 with (fail)
  go_region_held3 (fun w' => w'.cell? ⟨w.heap.size, 0, none⟩ = some (.int .i64 n) ∧ w'.cell? ⟨w.heap.size, 1, none⟩ = some (.int .i64 s) ∧ w'.cell? ⟨w.heap.size, 2, none⟩ = some (.int .i64 h) ∧ w'.cell? ⟨w.heap.size, 3, none⟩ = some (.int .u32 t) ∧ w'.cell? ⟨w.heap.size, 4, none⟩ = some (.int .i64 bud) ∧ w'.cell? ⟨w.heap.size, 5, none⟩ = some (.int .i64 base) ∧ w'.cell? ⟨w.heap.size, 6, none⟩ = some (.int .u64 wait) ∧ w'.cell? ⟨w.heap.size + 1, 0, none⟩ = some (.slice A k c) ∧ w'.cell? ⟨w.heap.size + 1, 1, none⟩ = some (.int .i64 rg) ∧ w'.cell? ⟨w.heap.size + 1, 2, none⟩ = some (.int .i64 ex)) (first | exact HCS.out _ 2 3 _ (H2.out.alloc _ _) rfl rfl | exact HCS.out _ 1 2 _ H2.out rfl rfl | exact HCS.out _ 0 1 _ H.out.drew rfl rfl | exact HCS.out _ 0 1 _ H.out rfl rfl) ((go_at_call 62; refine (clone32 A k c l H.out.drew (HR.out.kept (bl_drew (bl_refl _))) HN.out hl).mono ?_; rintro e w2 ⟨a, cq, rfl, kk⟩; (have H2 := Lib.hid kk); clear kk))
  have h3 := H2.out.alloc #[.int .i64 n, .int .i64 s, .int .i64 h, .int .u32 t, .int .i64 bud, .int .i64 base, .int .u64 wait, .slice a k cq, .int .i64 rg, .int .i64 ex, .bool push, .int .u64 v, .int .u32 0, .int .i64 0, .iface T (.pointer (some ⟨x, 0, none⟩)), .int .i64 0, .bool false] 124
  generalize hb : w2.heap.size = b at *
  generalize w2.alloc (.cells #[.int .i64 n, .int .i64 s, .int .i64 h, .int .u32 t, .int .i64 bud, .int .i64 base, .int .u64 wait, .slice a k cq, .int .i64 rg, .int .i64 ex, .bool push, .int .u64 v, .int .u32 0, .int .i64 0, .iface T (.pointer (some ⟨x, 0, none⟩)), .int .i64 0, .bool false] 124) = W at *
  have H3 := Lib.hid h3
  (obtain ⟨⟨d0, d1, d2, d3, d4, d5, d6⟩, ld⟩ := cells7 (h3.cells 3 rfl))
  (obtain ⟨⟨f0, f1, f2⟩, lf⟩ := cells3 (h3.cells 2 rfl))
  obtain ⟨⟨c0, c1, c2, c3, c4, c5, c6, c7, c8, c9, c10, c11, c12, c13, c14, c15, c16⟩, ⟨z7, z8, z9, z11, z12, z13, z14, z15, z16⟩, lp⟩ := cells17 (h3.cells 0 rfl)
  clear h3
  go_wp2_with (first | (go_at_call 15; refine (HC.out _).mono ?_; rintro e w4 ⟨rfl, kk⟩; (have H4 := Lib.hid (H3.out.below kk)); clear kk; clear d0 d1 d2 d3 d4 d5 d6 ld f0 f1 f2 lf; (obtain ⟨⟨d0, d1, d2, d3, d4, d5, d6⟩, ld⟩ := cells7 (H4.out.cells 3 rfl)); (obtain ⟨⟨f0, f1, f2⟩, lf⟩ := cells3 (H4.out.cells 2 rfl)); clear c0 c1 c2 c3 c4 c5 c6 c7 c8 c9 c10 c11 c12 c13 c14 c15 c16 z7 z8 z9 z11 z12 z13 z14 z15 z16 lp; obtain ⟨⟨c0, c1, c2, c3, c4, c5, c6, c7, c8, c9, c10, c11, c12, c13, c14, c15, c16⟩, ⟨z7, z8, z9, z11, z12, z13, z14, z15, z16⟩, lp⟩ := cells17 (H4.out.cells 0 rfl)))
  go_ret
  exact ⟨b, a, cq, rfl, (show St w0 (opB b n s h t bud base wait (.slice a k cq) rg ex push v 0 0 (.iface T (.pointer (some ⟨x, 0, none⟩))) 5 false :: row32 (.slice a k cq) l :: _ :: _ :: L) _ from (H4.out.setAt 0 rfl 15 (.int .i64 5))).re 4 [0, 1]⟩
end Go.Proofs.YtgfeagggkplegaaGreat
