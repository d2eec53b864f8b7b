/-
  ebstack: operations that are made; what an operation holds.
-/
import Derived.Test.YtgfeagggkplegaaGreatOpN
import Derived.Test.YtgfeagggkplegaaGreatOpS
namespace Go.Proofs.YtgfeagggkplegaaGreat
open Go.RowKit
set_option linter.unusedVariables false
set_option linter.unusedSimpArgs false

/-- A state that lies beside all that was there. -/
theorem St.beside {w0 w w' : World} {L : List Asn} {a : Asn} (h : St w0 L w) (k : St w [a] w') : St w0 (a :: L) w' := by
  obtain ⟨hb, F, ho, hh⟩ := k
  refine h.more hb ?_
  refine a.mono (hh 0 a rfl) fun b hlt hf => ⟨ho.lo 0 b hf, rfl⟩
def stE (n s h bud base rg ex : Int) : Int := if okE n s h bud base = true ∧ pOk rg ex s = true then 0 else 5
theorem o_begun_any {w0 w : World} {L : List Asn} (n s h t bud base wait : Int) (A : Option Addr) (k c : Nat) (l : List Int) (rg ex : Int) (push : Bool) (v : Int) (T : TypeId) (x : Nat) (hS : St w0 L w) (hr : Rd32 w A l) (hn : l.length = k) (hl : k ≤ 1000000000000) :
    Calls Tryz.prog 55 #[cfgE n s h t bud base wait, thrV (.slice A k c) rg ex, .bool push, .int .u64 v, .iface T (.pointer (some ⟨x, 0, none⟩))] w fun e w' => ∃ p a cq, e = .returned (.pointer (some ⟨p, 0, none⟩)) ∧ St w0 (opB p n s h t bud base wait (.slice a k cq) rg ex push v 0 0 (.iface T (.pointer (some ⟨x, 0, none⟩))) (stE n s h bud base rg ex) false :: row32 (.slice a k cq) l :: L) w' := by
  unfold stE
  by_cases hc : okE n s h bud base = true
  · cases hp : pOk rg ex s with
    | true => rw [if_pos ⟨hc, rfl⟩]; exact o_begun_ok n s h t bud base wait A k c l rg ex push v T x hS hr hn hl hc hp
    | false => rw [if_neg (fun q => by cases q.2)]; exact o_begun_pol n s h t bud base wait A k c l rg ex push v T x hS hr hn hl hc hp
  · rw [if_neg (fun q => hc q.1)]; exact o_begun_cfg n s h t bud base wait A k c l rg ex push v T x hS hr hn hl hc
/-- A push, a pop that is made. -/
def newPushM (n s h t bud base wait : Int) (l : List Int) (rg ex v st : Int) : OM := ⟨n, s, h, t, bud, base, wait, l, rg, ex, true, v, 0, 0, .take (newAT n s h t bud l), st, false⟩
def newPopM (n s h t bud base wait : Int) (l : List Int) (rg ex st : Int) : OM := ⟨n, s, h, t, bud, base, wait, l, rg, ex, false, 0, 0, 0, .tk (newTk n s h t 0), st, false⟩

set_option maxHeartbeats 8000000 in
theorem op_newpush_w (n s h t bud base wait : Int) (A : Option Addr) (k c : Nat) (l : List Int) (rg ex v : Int) (w : World) (hr : Rd32 w A l) (hn : l.length = k) (hl : k ≤ 1000000000000) :
    Calls Tryz.prog 16 #[cfgE n s h t bud base wait, thrV (.slice A k c) rg ex, .int .u64 v] w fun e w' => ∃ p, e = .returned (.pointer (some ⟨p, 0, none⟩)) ∧ St w [opA p (newPushM n s h t bud base wait l rg ex v (stE n s h bud base rg ex))] w' := by
  have H := Lib.hid (show St w [boxA (w.heap.size + 1) #[.slice A k c, .int .i64 rg, .int .i64 ex] 43, boxA w.heap.size #[.int .i64 n, .int .i64 s, .int .i64 h, .int .u32 t, .int .i64 bud, .int .i64 base, .int .u64 wait] 27] ((w.alloc (.cells #[.int .i64 n, .int .i64 s, .int .i64 h, .int .u32 t, .int .i64 bud, .int .i64 base, .int .u64 wait] 27)).alloc (.cells #[.slice A k c, .int .i64 rg, .int .i64 ex] 43)) from by have h0 := ((St.nil w).alloc #[.int .i64 n, .int .i64 s, .int .i64 h, .int .u32 t, .int .i64 bud, .int .i64 base, .int .u64 wait] 27).alloc #[.slice A k c, .int .i64 rg, .int .i64 ex] 43; rw [World.size_alloc] at h0; exact h0)
  have HR0 := Lib.hid hr
  have HR := Lib.hid ((hr.kept (bl_alloc (bl_refl _) _)).kept (bl_alloc (bl_refl _) _) : Rd32 ((w.alloc (.cells #[.int .i64 n, .int .i64 s, .int .i64 h, .int .u32 t, .int .i64 bud, .int .i64 base, .int .u64 wait] 27)).alloc (.cells #[.slice A k c, .int .i64 rg, .int .i64 ex] 43)) A l)
  have HN := Lib.hid hn
  have HCS : Hid (∀ (L' : List Asn) (i j : Nat) (w' : World), St w L' w' → L'[i]? = some (boxA (w.heap.size + 1) #[.slice A k c, .int .i64 rg, .int .i64 ex] 43) → L'[j]? = some (boxA w.heap.size #[.int .i64 n, .int .i64 s, .int .i64 h, .int .u32 t, .int .i64 bud, .int .i64 base, .int .u64 wait] 27) → w'.cell? ⟨w.heap.size, 0, none⟩ = some (.int .i64 n) ∧ w'.cell? ⟨w.heap.size, 1, none⟩ = some (.int .i64 s) ∧ w'.cell? ⟨w.heap.size, 2, none⟩ = some (.int .i64 h) ∧ w'.cell? ⟨w.heap.size, 3, none⟩ = some (.int .u32 t) ∧ w'.cell? ⟨w.heap.size, 4, none⟩ = some (.int .i64 bud) ∧ w'.cell? ⟨w.heap.size, 5, none⟩ = some (.int .i64 base) ∧ w'.cell? ⟨w.heap.size, 6, none⟩ = some (.int .u64 wait) ∧ w'.cell? ⟨w.heap.size + 1, 0, none⟩ = some (.slice A k c) ∧ w'.cell? ⟨w.heap.size + 1, 1, none⟩ = some (.int .i64 rg) ∧ w'.cell? ⟨w.heap.size + 1, 2, none⟩ = some (.int .i64 ex)) := Lib.hid fun L' i j w' hh e1 e2 => by
    obtain ⟨⟨f0, f1, f2⟩, _⟩ := cells3 (hh.cells i e1)
    obtain ⟨⟨d0, d1, d2, d3, d4, d5, d6⟩, _⟩ := cells7 (hh.cells j e2)
    exact ⟨d0, d1, d2, d3, d4, d5, d6, f0, f1, f2⟩
  clear hr hn
  go_enter Tryz.func16, Tryz.ntmps16
  go_upto_region 1 with (fail)
  go_region_held3 (fun w' => w'.cell? ⟨w.heap.size, 0, none⟩ = some (.int .i64 n) ∧ w'.cell? ⟨w.heap.size, 1, none⟩ = some (.int .i64 s) ∧ w'.cell? ⟨w.heap.size, 2, none⟩ = some (.int .i64 h) ∧ w'.cell? ⟨w.heap.size, 3, none⟩ = some (.int .u32 t) ∧ w'.cell? ⟨w.heap.size, 4, none⟩ = some (.int .i64 bud) ∧ w'.cell? ⟨w.heap.size, 5, none⟩ = some (.int .i64 base) ∧ w'.cell? ⟨w.heap.size, 6, none⟩ = some (.int .u64 wait) ∧ w'.cell? ⟨w.heap.size + 1, 0, none⟩ = some (.slice A k c) ∧ w'.cell? ⟨w.heap.size + 1, 1, none⟩ = some (.int .i64 rg) ∧ w'.cell? ⟨w.heap.size + 1, 2, none⟩ = some (.int .i64 ex)) (first | exact HCS.out _ 3 4 _ H3.out rfl rfl | exact HCS.out _ 1 2 _ H2.out rfl rfl | exact HCS.out _ 0 1 _ H.out.drew rfl rfl | exact HCS.out _ 0 1 _ H.out rfl rfl) (first | ((have _h := H2); go_at_call 55; refine (o_begun_any n s h t bud base wait A k c l rg ex true v 119 x H2.out (HR0.out.kept H2.out.bel) HN.out hl).mono ?_; rintro e w3 ⟨p, a, cq, rfl, kk⟩; (have H3 := Lib.hid kk); clear kk _h) | (go_at_call 56; refine (atake_new n s h t bud A k c l H.out.drew (HR.out.kept (bl_drew (bl_refl _))) HN.out hl).mono ?_; rintro e w2 ⟨x, rfl, kk⟩; (have H2 := Lib.hid kk); clear kk))
  go_wp2
  go_ret
  refine ⟨p, rfl, ?_⟩
  have h4 := H3.out
  rw [← HN.out] at h4
  exact opA_close (S := newPushM n s h t bud base wait l rg ex v (stE n s h bud base rg ex)) ⟨a, cq, x⟩ (h4.re 5 [0, 1, 2])

theorem op_newpush {w0 w : World} {L : List Asn} (n s h t bud base wait : Int) (A : Option Addr) (k c : Nat) (l : List Int) (rg ex v : Int) (hS : St w0 L w) (hr : Rd32 w A l) (hn : l.length = k) (hl : k ≤ 1000000000000) :
    Calls Tryz.prog 16 #[cfgE n s h t bud base wait, thrV (.slice A k c) rg ex, .int .u64 v] w fun e w' => ∃ p, e = .returned (.pointer (some ⟨p, 0, none⟩)) ∧ St w0 (opA p (newPushM n s h t bud base wait l rg ex v (stE n s h bud base rg ex)) :: L) w' :=
  (op_newpush_w n s h t bud base wait A k c l rg ex v w hr hn hl).mono fun e w' q => by
    obtain ⟨p, q1, q2⟩ := q
    exact ⟨p, q1, hS.beside q2⟩

set_option maxHeartbeats 8000000 in
theorem op_newpop_w (n s h t bud base wait : Int) (A : Option Addr) (k c : Nat) (l : List Int) (rg ex : Int) (w : World) (hr : Rd32 w A l) (hn : l.length = k) (hl : k ≤ 1000000000000) :
    Calls Tryz.prog 17 #[cfgE n s h t bud base wait, thrV (.slice A k c) rg ex] w fun e w' => ∃ p, e = .returned (.pointer (some ⟨p, 0, none⟩)) ∧ St w [opA p (newPopM n s h t bud base wait l rg ex (stE n s h bud base rg ex))] w' := by
  have H := Lib.hid (show St w [boxA (w.heap.size + 1) #[.slice A k c, .int .i64 rg, .int .i64 ex] 43, boxA w.heap.size #[.int .i64 n, .int .i64 s, .int .i64 h, .int .u32 t, .int .i64 bud, .int .i64 base, .int .u64 wait] 27] ((w.alloc (.cells #[.int .i64 n, .int .i64 s, .int .i64 h, .int .u32 t, .int .i64 bud, .int .i64 base, .int .u64 wait] 27)).alloc (.cells #[.slice A k c, .int .i64 rg, .int .i64 ex] 43)) from by have h0 := ((St.nil w).alloc #[.int .i64 n, .int .i64 s, .int .i64 h, .int .u32 t, .int .i64 bud, .int .i64 base, .int .u64 wait] 27).alloc #[.slice A k c, .int .i64 rg, .int .i64 ex] 43; rw [World.size_alloc] at h0; exact h0)
  have HR0 := Lib.hid hr
  have HR := Lib.hid ((hr.kept (bl_alloc (bl_refl _) _)).kept (bl_alloc (bl_refl _) _) : Rd32 ((w.alloc (.cells #[.int .i64 n, .int .i64 s, .int .i64 h, .int .u32 t, .int .i64 bud, .int .i64 base, .int .u64 wait] 27)).alloc (.cells #[.slice A k c, .int .i64 rg, .int .i64 ex] 43)) A l)
  have HN := Lib.hid hn
  have HCS : Hid (∀ (L' : List Asn) (i j : Nat) (w' : World), St w L' w' → L'[i]? = some (boxA (w.heap.size + 1) #[.slice A k c, .int .i64 rg, .int .i64 ex] 43) → L'[j]? = some (boxA w.heap.size #[.int .i64 n, .int .i64 s, .int .i64 h, .int .u32 t, .int .i64 bud, .int .i64 base, .int .u64 wait] 27) → w'.cell? ⟨w.heap.size, 0, none⟩ = some (.int .i64 n) ∧ w'.cell? ⟨w.heap.size, 1, none⟩ = some (.int .i64 s) ∧ w'.cell? ⟨w.heap.size, 2, none⟩ = some (.int .i64 h) ∧ w'.cell? ⟨w.heap.size, 3, none⟩ = some (.int .u32 t) ∧ w'.cell? ⟨w.heap.size, 4, none⟩ = some (.int .i64 bud) ∧ w'.cell? ⟨w.heap.size, 5, none⟩ = some (.int .i64 base) ∧ w'.cell? ⟨w.heap.size, 6, none⟩ = some (.int .u64 wait) ∧ w'.cell? ⟨w.heap.size + 1, 0, none⟩ = some (.slice A k c) ∧ w'.cell? ⟨w.heap.size + 1, 1, none⟩ = some (.int .i64 rg) ∧ w'.cell? ⟨w.heap.size + 1, 2, none⟩ = some (.int .i64 ex)) := Lib.hid fun L' i j w' hh e1 e2 => by
    obtain ⟨⟨f0, f1, f2⟩, _⟩ := cells3 (hh.cells i e1)
    obtain ⟨⟨d0, d1, d2, d3, d4, d5, d6⟩, _⟩ := cells7 (hh.cells j e2)
    exact ⟨d0, d1, d2, d3, d4, d5, d6, f0, f1, f2⟩
  clear hr hn
  go_enter Tryz.func17, Tryz.ntmps17
  go_upto_region 1 with (fail)
  go_region_held3 (fun w' => w'.cell? ⟨w.heap.size, 0, none⟩ = some (.int .i64 n) ∧ w'.cell? ⟨w.heap.size, 1, none⟩ = some (.int .i64 s) ∧ w'.cell? ⟨w.heap.size, 2, none⟩ = some (.int .i64 h) ∧ w'.cell? ⟨w.heap.size, 3, none⟩ = some (.int .u32 t) ∧ w'.cell? ⟨w.heap.size, 4, none⟩ = some (.int .i64 bud) ∧ w'.cell? ⟨w.heap.size, 5, none⟩ = some (.int .i64 base) ∧ w'.cell? ⟨w.heap.size, 6, none⟩ = some (.int .u64 wait) ∧ w'.cell? ⟨w.heap.size + 1, 0, none⟩ = some (.slice A k c) ∧ w'.cell? ⟨w.heap.size + 1, 1, none⟩ = some (.int .i64 rg) ∧ w'.cell? ⟨w.heap.size + 1, 2, none⟩ = some (.int .i64 ex)) (first | exact HCS.out _ 3 4 _ H3.out rfl rfl | exact HCS.out _ 1 2 _ H2.out rfl rfl | exact HCS.out _ 0 1 _ H.out.drew rfl rfl | exact HCS.out _ 0 1 _ H.out rfl rfl) (first | ((have _h := H2); go_at_call 55; refine (o_begun_any n s h t bud base wait A k c l rg ex false 0 121 x H2.out (HR0.out.kept H2.out.bel) HN.out hl).mono ?_; rintro e w3 ⟨p, a, cq, rfl, kk⟩; (have H3 := Lib.hid kk); clear kk _h) | (go_at_call 57; refine (take_new n s h t 0 H.out.drew).mono ?_; rintro e w2 ⟨x, rfl, kk⟩; (have H2 := Lib.hid kk); clear kk))
  go_wp2
  go_ret
  refine ⟨p, rfl, ?_⟩
  have h4 := H3.out
  rw [← HN.out] at h4
  exact opA_close (S := newPopM n s h t bud base wait l rg ex (stE n s h bud base rg ex)) ⟨a, cq, x⟩ (h4.re 5 [0, 1, 2])

theorem op_newpop {w0 w : World} {L : List Asn} (n s h t bud base wait : Int) (A : Option Addr) (k c : Nat) (l : List Int) (rg ex : Int) (hS : St w0 L w) (hr : Rd32 w A l) (hn : l.length = k) (hl : k ≤ 1000000000000) :
    Calls Tryz.prog 17 #[cfgE n s h t bud base wait, thrV (.slice A k c) rg ex] w fun e w' => ∃ p, e = .returned (.pointer (some ⟨p, 0, none⟩)) ∧ St w0 (opA p (newPopM n s h t bud base wait l rg ex (stE n s h bud base rg ex)) :: L) w' :=
  (op_newpop_w n s h t bud base wait A k c l rg ex w hr hn hl).mono fun e w' q => by
    obtain ⟨p, q1, q2⟩ := q
    exact ⟨p, q1, hS.beside q2⟩

def HeldPost (w : World) (l : List Int) (e : Ending) (w' : World) : Prop := ∃ a c, e = .returned (.slice a l.length c) ∧ Rd32 w' a l ∧ l.length ≤ c ∧ Below w.heap.size w w'
theorem heldOne {w : World} {b : Nat} {x : Int} {e : TypeId} (h : w.heap[b]? = some (.cells #[.int .u32 x] e (0, 0))) : Rd32 w (some ⟨b, 0, none⟩) [x] :=
  ⟨fun e => (by cases e), fun _ => ⟨_, rfl, fun j u hu => by
    cases j with
    | zero => rw [add_zero', cell_of h]; simpa [u32V] using hu
    | succ j => simp at hu⟩⟩

set_option maxHeartbeats 8000000 in
theorem o_held_take_0 {w0 w : World} {p : Nat} {L : List Asn} {n s h t bud base wait : Int} {sv : Value} {rg ex : Int} {push : Bool} {v failed : Int} {st : Int} {retry : Bool} {x : Nat}   (A : Option Addr) (N C : Nat) (hS : St w0 (opB p n s h t bud base wait sv rg ex push v 0 failed (ptI x) st retry :: L) w) :
    Calls Tryz.prog 20 #[.pointer (some ⟨p, 0, none⟩), .slice A N C] w (HeldPost w []) := by
  have hI := is_take_visit
  obtain ⟨⟨c0, c1, c2, c3, c4, c5, c6, c7, c8, c9, c10, c11, c12, c13, c14, c15, c16⟩, ⟨z7, z8, z9, z11, z12, z13, z14, z15, z16⟩, lp⟩ := cells17 (hS.cells 0 rfl)
  clear hS
  go_enter Tryz.func20, Tryz.ntmps20
  go_wp2
  go_ret
  exact ⟨none, 0, rfl, Rd32.nil _, Nat.le_refl _, by first | exact bl_refl _ | exact HB.out⟩

set_option maxHeartbeats 8000000 in
theorem o_held_take_1 {w0 w : World} {p : Nat} {L : List Asn} {n s h t bud base wait : Int} {sv : Value} {rg ex : Int} {push : Bool} {v i failed : Int} {st : Int} {retry : Bool} {x : Nat}   (A : Option Addr) (N C : Nat) (hS : St w0 (opB p n s h t bud base wait sv rg ex push v i failed (ptI x) st retry :: L) w) (hi : (i == 0) = false) :
    Calls Tryz.prog 20 #[.pointer (some ⟨p, 0, none⟩), .slice A N C] w (HeldPost w [i]) := by
  have hI := is_take_visit
  obtain ⟨⟨c0, c1, c2, c3, c4, c5, c6, c7, c8, c9, c10, c11, c12, c13, c14, c15, c16⟩, ⟨z7, z8, z9, z11, z12, z13, z14, z15, z16⟩, lp⟩ := cells17 (hS.cells 0 rfl)
  clear hS
  go_enter Tryz.func20, Tryz.ntmps20
  go_wp2
  go_ret
  exact ⟨some ⟨w.heap.size, 0, none⟩, 1, rfl, heldOne (heap_new rfl), Nat.le_refl _, by first | exact bl_alloc (bl_refl _) _ | exact bl_alloc HB.out _⟩

set_option maxHeartbeats 8000000 in
theorem o_held_give_0 {w0 w : World} {p : Nat} {L : List Asn} {n s h t bud base wait : Int} {sv : Value} {rg ex : Int} {push : Bool} {v failed : Int} {st : Int} {retry : Bool} {x : Nat}   (A : Option Addr) (N C : Nat) (hS : St w0 (opB p n s h t bud base wait sv rg ex push v 0 failed (pgI x) st retry :: L) w) :
    Calls Tryz.prog 20 #[.pointer (some ⟨p, 0, none⟩), .slice A N C] w (HeldPost w []) := by
  have hI := is_give_visit
  obtain ⟨⟨c0, c1, c2, c3, c4, c5, c6, c7, c8, c9, c10, c11, c12, c13, c14, c15, c16⟩, ⟨z7, z8, z9, z11, z12, z13, z14, z15, z16⟩, lp⟩ := cells17 (hS.cells 0 rfl)
  clear hS
  go_enter Tryz.func20, Tryz.ntmps20
  go_wp2
  go_ret
  exact ⟨none, 0, rfl, Rd32.nil _, Nat.le_refl _, by first | exact bl_refl _ | exact HB.out⟩

set_option maxHeartbeats 8000000 in
theorem o_held_give_1 {w0 w : World} {p : Nat} {L : List Asn} {n s h t bud base wait : Int} {sv : Value} {rg ex : Int} {push : Bool} {v i failed : Int} {st : Int} {retry : Bool} {x : Nat}   (A : Option Addr) (N C : Nat) (hS : St w0 (opB p n s h t bud base wait sv rg ex push v i failed (pgI x) st retry :: L) w) (hi : (i == 0) = false) :
    Calls Tryz.prog 20 #[.pointer (some ⟨p, 0, none⟩), .slice A N C] w (HeldPost w [i]) := by
  have hI := is_give_visit
  obtain ⟨⟨c0, c1, c2, c3, c4, c5, c6, c7, c8, c9, c10, c11, c12, c13, c14, c15, c16⟩, ⟨z7, z8, z9, z11, z12, z13, z14, z15, z16⟩, lp⟩ := cells17 (hS.cells 0 rfl)
  clear hS
  go_enter Tryz.func20, Tryz.ntmps20
  go_wp2
  go_ret
  exact ⟨some ⟨w.heap.size, 0, none⟩, 1, rfl, heldOne (heap_new rfl), Nat.le_refl _, by first | exact bl_alloc (bl_refl _) _ | exact bl_alloc HB.out _⟩

set_option maxHeartbeats 8000000 in
theorem o_held_tkT_0 {w0 w : World} {p : Nat} {L : List Asn} {n s h t bud base wait : Int} {sv : Value} {rg ex : Int} {push : Bool} {v failed : Int} {st : Int} {retry : Bool} {x : Nat}   (A : Option Addr) (N C : Nat) (hS : St w0 (opB p n s h t bud base wait sv rg ex push v 0 failed (tkI x) st retry :: L) w) :
    Calls Tryz.prog 20 #[.pointer (some ⟨p, 0, none⟩), .slice A N C] w (HeldPost w []) := by
  have hI := is_tkT_visit
  obtain ⟨⟨c0, c1, c2, c3, c4, c5, c6, c7, c8, c9, c10, c11, c12, c13, c14, c15, c16⟩, ⟨z7, z8, z9, z11, z12, z13, z14, z15, z16⟩, lp⟩ := cells17 (hS.cells 0 rfl)
  clear hS
  go_enter Tryz.func20, Tryz.ntmps20
  go_wp2
  go_ret
  exact ⟨none, 0, rfl, Rd32.nil _, Nat.le_refl _, by first | exact bl_refl _ | exact HB.out⟩

set_option maxHeartbeats 8000000 in
theorem o_held_tkT_1 {w0 w : World} {p : Nat} {L : List Asn} {n s h t bud base wait : Int} {sv : Value} {rg ex : Int} {push : Bool} {v i failed : Int} {st : Int} {retry : Bool} {x : Nat}   (A : Option Addr) (N C : Nat) (hS : St w0 (opB p n s h t bud base wait sv rg ex push v i failed (tkI x) st retry :: L) w) (hi : (i == 0) = false) :
    Calls Tryz.prog 20 #[.pointer (some ⟨p, 0, none⟩), .slice A N C] w (HeldPost w [i]) := by
  have hI := is_tkT_visit
  obtain ⟨⟨c0, c1, c2, c3, c4, c5, c6, c7, c8, c9, c10, c11, c12, c13, c14, c15, c16⟩, ⟨z7, z8, z9, z11, z12, z13, z14, z15, z16⟩, lp⟩ := cells17 (hS.cells 0 rfl)
  clear hS
  go_enter Tryz.func20, Tryz.ntmps20
  go_wp2
  go_ret
  exact ⟨some ⟨w.heap.size, 0, none⟩, 1, rfl, heldOne (heap_new rfl), Nat.le_refl _, by first | exact bl_alloc (bl_refl _) _ | exact bl_alloc HB.out _⟩

set_option maxHeartbeats 8000000 in
theorem o_held_tkG_0 {w0 w : World} {p : Nat} {L : List Asn} {n s h t bud base wait : Int} {sv : Value} {rg ex : Int} {push : Bool} {v failed : Int} {st : Int} {retry : Bool} {x : Nat}   (A : Option Addr) (N C : Nat) (hS : St w0 (opB p n s h t bud base wait sv rg ex push v 0 failed (gvI x) st retry :: L) w) :
    Calls Tryz.prog 20 #[.pointer (some ⟨p, 0, none⟩), .slice A N C] w (HeldPost w []) := by
  have hI := is_tkG_visit
  obtain ⟨⟨c0, c1, c2, c3, c4, c5, c6, c7, c8, c9, c10, c11, c12, c13, c14, c15, c16⟩, ⟨z7, z8, z9, z11, z12, z13, z14, z15, z16⟩, lp⟩ := cells17 (hS.cells 0 rfl)
  clear hS
  go_enter Tryz.func20, Tryz.ntmps20
  go_wp2
  go_ret
  exact ⟨none, 0, rfl, Rd32.nil _, Nat.le_refl _, by first | exact bl_refl _ | exact HB.out⟩

set_option maxHeartbeats 8000000 in
theorem o_held_tkG_1 {w0 w : World} {p : Nat} {L : List Asn} {n s h t bud base wait : Int} {sv : Value} {rg ex : Int} {push : Bool} {v i failed : Int} {st : Int} {retry : Bool} {x : Nat}   (A : Option Addr) (N C : Nat) (hS : St w0 (opB p n s h t bud base wait sv rg ex push v i failed (gvI x) st retry :: L) w) (hi : (i == 0) = false) :
    Calls Tryz.prog 20 #[.pointer (some ⟨p, 0, none⟩), .slice A N C] w (HeldPost w [i]) := by
  have hI := is_tkG_visit
  obtain ⟨⟨c0, c1, c2, c3, c4, c5, c6, c7, c8, c9, c10, c11, c12, c13, c14, c15, c16⟩, ⟨z7, z8, z9, z11, z12, z13, z14, z15, z16⟩, lp⟩ := cells17 (hS.cells 0 rfl)
  clear hS
  go_enter Tryz.func20, Tryz.ntmps20
  go_wp2
  go_ret
  exact ⟨some ⟨w.heap.size, 0, none⟩, 1, rfl, heldOne (heap_new rfl), Nat.le_refl _, by first | exact bl_alloc (bl_refl _) _ | exact bl_alloc HB.out _⟩

set_option maxHeartbeats 8000000 in
theorem o_held_acc_0 {w0 w : World} {p : Nat} {L : List Asn} {n s h t bud base wait : Int} {sv : Value} {rg ex : Int} {push : Bool} {v failed : Int} {st : Int} {retry : Bool}  {a : Int} {wr : Bool} (A : Option Addr) (N C : Nat) (hS : St w0 (opB p n s h t bud base wait sv rg ex push v 0 failed (paI a wr) st retry :: L) w) :
    Calls Tryz.prog 20 #[.pointer (some ⟨p, 0, none⟩), .slice A N C] w (HeldPost w []) := by
  have hI := is_acc_visit
  obtain ⟨⟨c0, c1, c2, c3, c4, c5, c6, c7, c8, c9, c10, c11, c12, c13, c14, c15, c16⟩, ⟨z7, z8, z9, z11, z12, z13, z14, z15, z16⟩, lp⟩ := cells17 (hS.cells 0 rfl)
  clear hS
  go_enter Tryz.func20, Tryz.ntmps20
  go_wp2
  go_ret
  exact ⟨none, 0, rfl, Rd32.nil _, Nat.le_refl _, by first | exact bl_refl _ | exact HB.out⟩

set_option maxHeartbeats 8000000 in
theorem o_held_acc_1 {w0 w : World} {p : Nat} {L : List Asn} {n s h t bud base wait : Int} {sv : Value} {rg ex : Int} {push : Bool} {v i failed : Int} {st : Int} {retry : Bool}  {a : Int} {wr : Bool} (A : Option Addr) (N C : Nat) (hS : St w0 (opB p n s h t bud base wait sv rg ex push v i failed (paI a wr) st retry :: L) w) (hi : (i == 0) = false) :
    Calls Tryz.prog 20 #[.pointer (some ⟨p, 0, none⟩), .slice A N C] w (HeldPost w [i]) := by
  have hI := is_acc_visit
  obtain ⟨⟨c0, c1, c2, c3, c4, c5, c6, c7, c8, c9, c10, c11, c12, c13, c14, c15, c16⟩, ⟨z7, z8, z9, z11, z12, z13, z14, z15, z16⟩, lp⟩ := cells17 (hS.cells 0 rfl)
  clear hS
  go_enter Tryz.func20, Tryz.ntmps20
  go_wp2
  go_ret
  exact ⟨some ⟨w.heap.size, 0, none⟩, 1, rfl, heldOne (heap_new rfl), Nat.le_refl _, by first | exact bl_alloc (bl_refl _) _ | exact bl_alloc HB.out _⟩

set_option maxHeartbeats 8000000 in
theorem o_held_over_0 {w0 w : World} {p : Nat} {L : List Asn} {n s h t bud base wait : Int} {sv : Value} {rg ex : Int} {push : Bool} {v failed : Int} {st : Int} {retry : Bool} {x : Nat}   {m : Asn} {E : EM}   (A : Option Addr) (N C : Nat) (hS : St w0 (m :: opB p n s h t bud base wait sv rg ex push v 0 failed (pvI x) st retry :: emA x E :: L) w) (h0 : (st == 0) = false) :
    Calls Tryz.prog 20 #[.pointer (some ⟨p, 0, none⟩), .slice A N C] w (HeldPost w []) := by
  have H := Lib.hid hS
  have hI := is_visit_visit
  obtain ⟨⟨c0, c1, c2, c3, c4, c5, c6, c7, c8, c9, c10, c11, c12, c13, c14, c15, c16⟩, ⟨z7, z8, z9, z11, z12, z13, z14, z15, z16⟩, lp⟩ := cells17 (hS.cells 1 rfl)
  clear hS
  go_enter Tryz.func20, Tryz.ntmps20
  go_wp2
  go_ret
  exact ⟨none, 0, rfl, Rd32.nil _, Nat.le_refl _, by first | exact bl_refl _ | exact HB.out⟩

set_option maxHeartbeats 8000000 in
theorem o_held_unmet_0 {w0 w : World} {p : Nat} {L : List Asn} {n s h t bud base wait : Int} {sv : Value} {rg ex : Int} {push : Bool} {v failed : Int}  {retry : Bool} {x : Nat}   {m : Asn} {E : EM} {ws : List Int} {NN kk : Nat} (A : Option Addr) (N C : Nat) (hS : St w0 (m :: opB p n s h t bud base wait sv rg ex push v 0 failed (pvI x) 0 retry :: emA x E :: L) w) (hok : E.ok NN kk) (hrd : RdU w A ws) (hln : ws.length = N) (hmt : E.met ws = false) :
    Calls Tryz.prog 20 #[.pointer (some ⟨p, 0, none⟩), .slice A N C] w (HeldPost w []) := by
  have H := Lib.hid hS
  have hI := is_visit_visit
  have HOK := Lib.hid hok
  have HRD := Lib.hid hrd
  have HLN := Lib.hid hln
  have HMT := Lib.hid hmt
  clear hok hmt
  clear hrd hln
  obtain ⟨⟨c0, c1, c2, c3, c4, c5, c6, c7, c8, c9, c10, c11, c12, c13, c14, c15, c16⟩, ⟨z7, z8, z9, z11, z12, z13, z14, z15, z16⟩, lp⟩ := cells17 (hS.cells 1 rfl)
  clear hS
  go_enter Tryz.func20, Tryz.ntmps20
  go_wp2_with (first | (go_at_call 59; refine (e_met A N C NN kk ws false H.out HOK.out HRD.out HLN.out HMT.out).mono ?_; rintro e w1 ⟨rfl, hb⟩; (have HB := Lib.hid hb); (have H1 := Lib.hid (H.out.below hb)); clear hb; clear c0 c1 c2 c3 c4 c5 c6 c7 c8 c9 c10 c11 c12 c13 c14 c15 c16 z7 z8 z9 z11 z12 z13 z14 z15 z16 lp; obtain ⟨⟨c0, c1, c2, c3, c4, c5, c6, c7, c8, c9, c10, c11, c12, c13, c14, c15, c16⟩, ⟨z7, z8, z9, z11, z12, z13, z14, z15, z16⟩, lp⟩ := cells17 (H1.out.cells 1 rfl)))
  go_ret
  exact ⟨none, 0, rfl, Rd32.nil _, Nat.le_refl _, by first | exact bl_refl _ | exact HB.out⟩

set_option maxHeartbeats 8000000 in
theorem o_held_over_1 {w0 w : World} {p : Nat} {L : List Asn} {n s h t bud base wait : Int} {sv : Value} {rg ex : Int} {push : Bool} {v i failed : Int} {st : Int} {retry : Bool} {x : Nat}   {m : Asn} {E : EM}   (A : Option Addr) (N C : Nat) (hS : St w0 (m :: opB p n s h t bud base wait sv rg ex push v i failed (pvI x) st retry :: emA x E :: L) w) (h0 : (st == 0) = false) (hi : (i == 0) = false) :
    Calls Tryz.prog 20 #[.pointer (some ⟨p, 0, none⟩), .slice A N C] w (HeldPost w [i]) := by
  have H := Lib.hid hS
  have hI := is_visit_visit
  obtain ⟨⟨c0, c1, c2, c3, c4, c5, c6, c7, c8, c9, c10, c11, c12, c13, c14, c15, c16⟩, ⟨z7, z8, z9, z11, z12, z13, z14, z15, z16⟩, lp⟩ := cells17 (hS.cells 1 rfl)
  clear hS
  go_enter Tryz.func20, Tryz.ntmps20
  go_wp2
  go_ret
  exact ⟨some ⟨w.heap.size, 0, none⟩, 1, rfl, heldOne (heap_new rfl), Nat.le_refl _, by first | exact bl_alloc (bl_refl _) _ | exact bl_alloc HB.out _⟩

set_option maxHeartbeats 8000000 in
theorem o_held_unmet_1 {w0 w : World} {p : Nat} {L : List Asn} {n s h t bud base wait : Int} {sv : Value} {rg ex : Int} {push : Bool} {v i failed : Int}  {retry : Bool} {x : Nat}   {m : Asn} {E : EM} {ws : List Int} {NN kk : Nat} (A : Option Addr) (N C : Nat) (hS : St w0 (m :: opB p n s h t bud base wait sv rg ex push v i failed (pvI x) 0 retry :: emA x E :: L) w) (hok : E.ok NN kk) (hrd : RdU w A ws) (hln : ws.length = N) (hmt : E.met ws = false) (hi : (i == 0) = false) :
    Calls Tryz.prog 20 #[.pointer (some ⟨p, 0, none⟩), .slice A N C] w (HeldPost w [i]) := by
  have H := Lib.hid hS
  have hI := is_visit_visit
  have HOK := Lib.hid hok
  have HRD := Lib.hid hrd
  have HLN := Lib.hid hln
  have HMT := Lib.hid hmt
  clear hok hmt
  clear hrd hln
  obtain ⟨⟨c0, c1, c2, c3, c4, c5, c6, c7, c8, c9, c10, c11, c12, c13, c14, c15, c16⟩, ⟨z7, z8, z9, z11, z12, z13, z14, z15, z16⟩, lp⟩ := cells17 (hS.cells 1 rfl)
  clear hS
  go_enter Tryz.func20, Tryz.ntmps20
  go_wp2_with (first | (go_at_call 59; refine (e_met A N C NN kk ws false H.out HOK.out HRD.out HLN.out HMT.out).mono ?_; rintro e w1 ⟨rfl, hb⟩; (have HB := Lib.hid hb); (have H1 := Lib.hid (H.out.below hb)); clear hb; clear c0 c1 c2 c3 c4 c5 c6 c7 c8 c9 c10 c11 c12 c13 c14 c15 c16 z7 z8 z9 z11 z12 z13 z14 z15 z16 lp; obtain ⟨⟨c0, c1, c2, c3, c4, c5, c6, c7, c8, c9, c10, c11, c12, c13, c14, c15, c16⟩, ⟨z7, z8, z9, z11, z12, z13, z14, z15, z16⟩, lp⟩ := cells17 (H1.out.cells 1 rfl)))
  go_ret
  exact ⟨some ⟨w1.heap.size, 0, none⟩, 1, rfl, heldOne (heap_new rfl), Nat.le_refl _, by first | exact bl_alloc (bl_refl _) _ | exact bl_alloc HB.out _⟩

set_option maxHeartbeats 8000000 in
theorem o_held_metpush {w0 w : World} {p : Nat} {L : List Asn} {n s h t bud base wait : Int} {sv : Value} {rg ex : Int}  {v i failed : Int}  {retry : Bool} {x : Nat}   {m : Asn} {E : EM} {ws : List Int} {NN kk : Nat} (A : Option Addr) (N C : Nat) (hS : St w0 (m :: opB p n s h t bud base wait sv rg ex true v i failed (pvI x) 0 retry :: emA x E :: L) w) (hok : E.ok NN kk) (hrd : RdU w A ws) (hln : ws.length = N) (hmt : E.met ws = true) :
    Calls Tryz.prog 20 #[.pointer (some ⟨p, 0, none⟩), .slice A N C] w (HeldPost w []) := by
  have H := Lib.hid hS
  have hI := is_visit_visit
  have HOK := Lib.hid hok
  have HRD := Lib.hid hrd
  have HLN := Lib.hid hln
  have HMT := Lib.hid hmt
  clear hok hmt
  clear hrd hln
  obtain ⟨⟨c0, c1, c2, c3, c4, c5, c6, c7, c8, c9, c10, c11, c12, c13, c14, c15, c16⟩, ⟨z7, z8, z9, z11, z12, z13, z14, z15, z16⟩, lp⟩ := cells17 (hS.cells 1 rfl)
  clear hS
  go_enter Tryz.func20, Tryz.ntmps20
  go_wp2_with (first | (go_at_call 59; refine (e_met A N C NN kk ws true H.out HOK.out HRD.out HLN.out HMT.out).mono ?_; rintro e w1 ⟨rfl, hb⟩; (have HB := Lib.hid hb); (have H1 := Lib.hid (H.out.below hb)); clear hb; clear c0 c1 c2 c3 c4 c5 c6 c7 c8 c9 c10 c11 c12 c13 c14 c15 c16 z7 z8 z9 z11 z12 z13 z14 z15 z16 lp; obtain ⟨⟨c0, c1, c2, c3, c4, c5, c6, c7, c8, c9, c10, c11, c12, c13, c14, c15, c16⟩, ⟨z7, z8, z9, z11, z12, z13, z14, z15, z16⟩, lp⟩ := cells17 (H1.out.cells 1 rfl)))
  go_ret
  exact ⟨none, 0, rfl, Rd32.nil _, Nat.le_refl _, by first | exact bl_refl _ | exact HB.out⟩

set_option maxHeartbeats 8000000 in
theorem o_held_metpop_0 {w0 w : World} {p : Nat} {L : List Asn} {n s h t bud base wait : Int} {sv : Value} {rg ex : Int}  {v i failed : Int}  {retry : Bool} {x : Nat}   {m : Asn} {E : EM} {ws : List Int} {NN kk : Nat} (A : Option Addr) (N C : Nat) (hS : St w0 (m :: opB p n s h t bud base wait sv rg ex false v i failed (pvI x) 0 retry :: emA x E :: L) w) (hok : E.ok NN kk) (hrd : RdU w A ws) (hln : ws.length = N) (hmt : E.met ws = true) (ad : Addr) (hA : A = some ad) (j : Nat) (q : Int) (hpl : E.pl = (j : Int)) (hj : j < N) (hNC : N ≤ C) (hq : w.cell? (ad.add j) = some (.int .u64 q)) (q0 : 0 ≤ q) (q1 : q < 18446744073709551616) (hix : sIx q = 0) :
    Calls Tryz.prog 20 #[.pointer (some ⟨p, 0, none⟩), .slice A N C] w (HeldPost w []) := by
  have H := Lib.hid hS
  have hI := is_visit_visit
  have HOK := Lib.hid hok
  have HRD := Lib.hid hrd
  have HLN := Lib.hid hln
  have HMT := Lib.hid hmt
  clear hok hmt
  subst hA
  have HPL := Lib.hid hpl
  have HIX := Lib.hid hix
  have HQ := Lib.hid (fun (w' : World) (hb : Below w.heap.size w w') => (hb.cell (World.block_lt_of_cell? _ _ hq)).trans hq)
  have j0 : (0 : Int) ≤ (j : Int) := by omega
  have j1 : (j : Int) < (N : Int) := by omega
  clear hrd hln hpl hix hq
  obtain ⟨⟨c0, c1, c2, c3, c4, c5, c6, c7, c8, c9, c10, c11, c12, c13, c14, c15, c16⟩, ⟨z7, z8, z9, z11, z12, z13, z14, z15, z16⟩, lp⟩ := cells17 (hS.cells 1 rfl)
  clear hS
  go_enter Tryz.func20, Tryz.ntmps20
  go_wp2_with (first | ((have _h := HP1); go_at_call 60; refine (slot_index q 0 _ HIX.out q0 q1).mono ?_; rintro e w3 ⟨rfl, hb⟩; (have HB3 := Lib.hid (HB.out.trans (hb.mono HB.out.size))); clear hb _h HB; (have HB := HB3)) | ((have _h := HB); go_at_call 61; refine (e_place H1.out 2 rfl).mono ?_; rintro e w2 ⟨rfl, rfl⟩; rw [HPL.out]; (have HP1 : True := trivial); clear _h) | (go_at_call 59; refine (e_met (some ad) N C NN kk ws true H.out HOK.out HRD.out HLN.out HMT.out).mono ?_; rintro e w1 ⟨rfl, hb⟩; (have hq1 := HQ.out _ hb); (have HB := Lib.hid hb); (have H1 := Lib.hid (H.out.below hb)); clear hb; clear c0 c1 c2 c3 c4 c5 c6 c7 c8 c9 c10 c11 c12 c13 c14 c15 c16 z7 z8 z9 z11 z12 z13 z14 z15 z16 lp; obtain ⟨⟨c0, c1, c2, c3, c4, c5, c6, c7, c8, c9, c10, c11, c12, c13, c14, c15, c16⟩, ⟨z7, z8, z9, z11, z12, z13, z14, z15, z16⟩, lp⟩ := cells17 (H1.out.cells 1 rfl)))
  go_ret
  exact ⟨none, 0, rfl, Rd32.nil _, Nat.le_refl _, by first | exact bl_refl _ | exact HB.out⟩

set_option maxHeartbeats 8000000 in
theorem o_held_metpop_1 {w0 w : World} {p : Nat} {L : List Asn} {n s h t bud base wait : Int} {sv : Value} {rg ex : Int}  {v i failed : Int}  {retry : Bool} {x : Nat}   {m : Asn} {y : Int} {E : EM} {ws : List Int} {NN kk : Nat} (A : Option Addr) (N C : Nat) (hS : St w0 (m :: opB p n s h t bud base wait sv rg ex false v i failed (pvI x) 0 retry :: emA x E :: L) w) (hok : E.ok NN kk) (hrd : RdU w A ws) (hln : ws.length = N) (hmt : E.met ws = true) (ad : Addr) (hA : A = some ad) (j : Nat) (q : Int) (hpl : E.pl = (j : Int)) (hj : j < N) (hNC : N ≤ C) (hq : w.cell? (ad.add j) = some (.int .u64 q)) (q0 : 0 ≤ q) (q1 : q < 18446744073709551616) (hix : sIx q = y) (hi : (y == 0) = false) :
    Calls Tryz.prog 20 #[.pointer (some ⟨p, 0, none⟩), .slice A N C] w (HeldPost w [y]) := by
  have H := Lib.hid hS
  have hI := is_visit_visit
  have HOK := Lib.hid hok
  have HRD := Lib.hid hrd
  have HLN := Lib.hid hln
  have HMT := Lib.hid hmt
  clear hok hmt
  subst hA
  have HPL := Lib.hid hpl
  have HIX := Lib.hid hix
  have HQ := Lib.hid (fun (w' : World) (hb : Below w.heap.size w w') => (hb.cell (World.block_lt_of_cell? _ _ hq)).trans hq)
  have j0 : (0 : Int) ≤ (j : Int) := by omega
  have j1 : (j : Int) < (N : Int) := by omega
  clear hrd hln hpl hix hq
  obtain ⟨⟨c0, c1, c2, c3, c4, c5, c6, c7, c8, c9, c10, c11, c12, c13, c14, c15, c16⟩, ⟨z7, z8, z9, z11, z12, z13, z14, z15, z16⟩, lp⟩ := cells17 (hS.cells 1 rfl)
  clear hS
  go_enter Tryz.func20, Tryz.ntmps20
  go_wp2_with (first | ((have _h := HP1); go_at_call 60; refine (slot_index q y _ HIX.out q0 q1).mono ?_; rintro e w3 ⟨rfl, hb⟩; (have HB3 := Lib.hid (HB.out.trans (hb.mono HB.out.size))); clear hb _h HB; (have HB := HB3)) | ((have _h := HB); go_at_call 61; refine (e_place H1.out 2 rfl).mono ?_; rintro e w2 ⟨rfl, rfl⟩; rw [HPL.out]; (have HP1 : True := trivial); clear _h) | (go_at_call 59; refine (e_met (some ad) N C NN kk ws true H.out HOK.out HRD.out HLN.out HMT.out).mono ?_; rintro e w1 ⟨rfl, hb⟩; (have hq1 := HQ.out _ hb); (have HB := Lib.hid hb); (have H1 := Lib.hid (H.out.below hb)); clear hb; clear c0 c1 c2 c3 c4 c5 c6 c7 c8 c9 c10 c11 c12 c13 c14 c15 c16 z7 z8 z9 z11 z12 z13 z14 z15 z16 lp; obtain ⟨⟨c0, c1, c2, c3, c4, c5, c6, c7, c8, c9, c10, c11, c12, c13, c14, c15, c16⟩, ⟨z7, z8, z9, z11, z12, z13, z14, z15, z16⟩, lp⟩ := cells17 (H1.out.cells 1 rfl)))
  go_ret
  exact ⟨some ⟨w3.heap.size, 0, none⟩, 1, rfl, heldOne (heap_new rfl), Nat.le_refl _, by first | exact bl_alloc (bl_refl _) _ | exact bl_alloc HB.out _⟩

theorem held_if {w0 w : World} {l : List Asn} {i : Int} {P : List Int → Prop} (h0 : i = 0 → P []) (h1 : i ≠ 0 → P [i]) : P (if i = 0 then [] else [i]) := by
  by_cases c : i = 0
  · rw [if_pos c]; exact h0 c
  · rw [if_neg c]; exact h1 c
/-- What an operation holds, if these are the words. -/
theorem op_held {w0 w : World} {p : Nat} {S : OM} {L : List Asn} {ws : List Int} {NN kk : Nat} (A : Option Addr) (N C : Nat) (hS : St w0 (opA p S :: L) w) (hok : S.ok NN kk) (hrd : RdU w A ws) (hln : ws.length = N) (hNC : N ≤ C) (hpl : ∀ E, S.part = .visit E → S.st = 0 → E.met ws = true → 0 ≤ E.pl ∧ E.pl < N) (hrg : ∀ x ∈ ws, 0 ≤ x ∧ x < 18446744073709551616) :
    Calls Tryz.prog 20 #[.pointer (some ⟨p, 0, none⟩), .slice A N C] w (HeldPost w (S.held ws)) := by
  obtain ⟨x, h1⟩ := opA_open hS
  obtain ⟨n, s, h, t, bud, base, wait, shelf, rg, ex, push, v, i, failed, part, st, retry⟩ := S
  unfold OM.held
  cases part with
  | take B => exact held_if (w0 := w0) (w := w) (l := L) (P := fun l => Calls _ _ _ w (HeldPost w l)) (fun c => by dsimp only [OM.heldI] at c; subst c; exact o_held_take_0 A N C h1) (fun c => o_held_take_1 A N C h1 (by simpa [OM.heldI] using c))
  | give B => exact held_if (w0 := w0) (w := w) (l := L) (P := fun l => Calls _ _ _ w (HeldPost w l)) (fun c => by dsimp only [OM.heldI] at c; subst c; exact o_held_give_0 A N C h1) (fun c => o_held_give_1 A N C h1 (by simpa [OM.heldI] using c))
  | acc a wr => exact held_if (w0 := w0) (w := w) (l := L) (P := fun l => Calls _ _ _ w (HeldPost w l)) (fun c => by dsimp only [OM.heldI] at c; subst c; exact o_held_acc_0 A N C h1) (fun c => o_held_acc_1 A N C h1 (by simpa [OM.heldI] using c))
  | tk T =>
    cases hg : T.give with
    | true =>
      rw [show partV x.2.2 (.tk T) = gvI x.2.2 from partV_gv _ hg] at h1
      exact held_if (w0 := w0) (w := w) (l := L) (P := fun l => Calls _ _ _ w (HeldPost w l)) (fun c => by dsimp only [OM.heldI] at c; subst c; exact o_held_tkG_0 A N C h1) (fun c => o_held_tkG_1 A N C h1 (by simpa [OM.heldI] using c))
    | false =>
      rw [show partV x.2.2 (.tk T) = tkI x.2.2 from partV_tk _ hg] at h1
      exact held_if (w0 := w0) (w := w) (l := L) (P := fun l => Calls _ _ _ w (HeldPost w l)) (fun c => by dsimp only [OM.heldI] at c; subst c; exact o_held_tkT_0 A N C h1) (fun c => o_held_tkT_1 A N C h1 (by simpa [OM.heldI] using c))
  | visit E =>
    have h2 := h1.re 3 [1, 0, 2]
    by_cases h0 : st = 0
    · subst h0
      have hE : E.ok NN kk := (hok.live rfl).2.2.2.2.2.2.2.2.1
      cases hm : E.met ws with
      | false =>
        have e : OM.heldI ⟨n, s, h, t, bud, base, wait, shelf, rg, ex, push, v, i, failed, .visit E, 0, retry⟩ ws = i := by simp [OM.heldI, hm]
        rw [e]
        exact held_if (w0 := w0) (w := w) (l := L) (P := fun l => Calls _ _ _ w (HeldPost w l)) (fun c => by subst c; exact o_held_unmet_0 A N C h2 hE hrd hln hm) (fun c => o_held_unmet_1 A N C h2 hE hrd hln hm (by simpa using c))
      | true =>
        cases push with
        | true =>
          have e : OM.heldI ⟨n, s, h, t, bud, base, wait, shelf, rg, ex, true, v, i, failed, .visit E, 0, retry⟩ ws = 0 := by simp [OM.heldI, hm]
          rw [e, if_pos rfl]
          exact o_held_metpush A N C h2 hE hrd hln hm
        | false =>
          have e : OM.heldI ⟨n, s, h, t, bud, base, wait, shelf, rg, ex, false, v, i, failed, .visit E, 0, retry⟩ ws = sIx (rdW ws E.pl.toNat) := by simp [OM.heldI, hm]
          rw [e]
          obtain ⟨p0, p1⟩ := hpl E rfl rfl hm
          obtain ⟨j, hj⟩ := Int.eq_ofNat_of_zero_le p0
          have hjN : j < N := by omega
          obtain ⟨ad, hA, hc⟩ := hrd.cellA (k := j) (by omega)
          have hjw : rdW ws E.pl.toNat = rdW ws j := by rw [hj]; rfl
          rw [hjw]
          have hq := rdW_rng hrg (show j < ws.length by omega)
          exact held_if (w0 := w0) (w := w) (l := L) (P := fun l => Calls _ _ _ w (HeldPost w l)) (fun c => o_held_metpop_0 A N C h2 hE hrd hln hm ad hA j _ hj hjN hNC hc hq.1 hq.2 c) (fun c => o_held_metpop_1 A N C h2 hE hrd hln hm ad hA j _ hj hjN hNC hc hq.1 hq.2 rfl (by simpa using c))
    · have e : OM.heldI ⟨n, s, h, t, bud, base, wait, shelf, rg, ex, push, v, i, failed, .visit E, st, retry⟩ ws = i := by simp [OM.heldI, h0]
      rw [e]
      exact held_if (w0 := w0) (w := w) (l := L) (P := fun l => Calls _ _ _ w (HeldPost w l)) (fun c => by subst c; exact o_held_over_0 A N C h2 (by simpa using h0)) (fun c => o_held_over_1 A N C h2 (by simpa using h0) (by simpa using c))
end Go.Proofs.YtgfeagggkplegaaGreat
