/-
  arena's machines that are made.
-/
import Derived.Test.YtgfeagggkplegaaGreatArM
namespace Go.Proofs.YtgfeagggkplegaaGreat
open Go.RowKit
set_option linter.unusedVariables false
set_option linter.unusedSimpArgs false

def newAT (n s h t budget : Int) (l : List Int) : AM := ⟨n, s, h, t, false, max budget 0, l, 0, none, 0, 0⟩
def newAG (n s h t budget : Int) (l : List Int) (i : Int) : AM := ⟨n, s, h, t, true, max budget 0, l, i, none, 0, 0⟩
theorem newAT_ok {n s h t budget : Int} {l : List Int} (N : Nat) (hb : budget ≤ 9223372036854775807) (hl : l.length < 1000000000000) (hr : ∀ x ∈ l, 0 ≤ x ∧ x < 4294967296) : (newAT n s h t budget l).ok N :=
  ⟨Int.le_refl _, by show (0 : Int) < _; decide, by show -1 ≤ max budget 0; omega, by show max budget 0 ≤ _; omega, fun _ => by show 0 ≤ max budget 0; omega, Nat.le_of_lt hl, fun _ => hl, hr, Int.le_refl _, by show (0 : Int) < _; decide, fun T e => by cases e⟩
theorem newAG_ok {n s h t budget i : Int} {l : List Int} (N : Nat) (hb : budget ≤ 9223372036854775807) (hl : l.length < 1000000000000) (hr : ∀ x ∈ l, 0 ≤ x ∧ x < 4294967296) (i0 : 0 ≤ i) (i1 : i < 4294967296) : (newAG n s h t budget l i).ok N :=
  ⟨i0, i1, by show -1 ≤ max budget 0; omega, by show max budget 0 ≤ _; omega, fun _ => by show 0 ≤ max budget 0; omega, Nat.le_of_lt hl, fun _ => hl, hr, Int.le_refl _, by show (0 : Int) < _; decide, fun T e => by cases e⟩
set_option maxHeartbeats 4000000 in
/-- Tries that begin. -/
theorem begun_is {w0 w : World} {L : List Asn} (budget : Int) (A : Option Addr) (n c : Nat) (l : List Int) (g : Fn) (cap : Array Value) (hS : St w0 L w) (hr : Rd32 w A l) (hn : l.length = n) (hl : n ≤ 1000000000000) :
    Calls Tryz.prog 85 #[.int .i64 budget, .slice A n c, .func g #[] cap] w fun e w' => ∃ a c', e = .returned (.agg #[.int .i64 (max budget 0), .slice a n c', .func g #[] cap, .nilIface, .int .i64 0, .int .u32 0]) ∧ St w0 (row32 (.slice a n c') l :: L) w' := by
  have H := Lib.hid hS
  have HR := Lib.hid hr
  have HN := Lib.hid hn
  clear hS hr hn
  go_enter Tryz.func85, Tryz.ntmps85
  go_wp2_with (go_at_call 62; refine (clone32 A n c l (H.out.alloc _ _) (HR.out.kept (bl_alloc (bl_refl _) _)) HN.out hl).mono ?_; rintro e w2 ⟨a, c', rfl, h⟩; (have H2 := Lib.hid h); (have hbx := h.cells 1 rfl); (obtain ⟨⟨c0, c1, c2, c3, c4, c5⟩, ⟨z0, z1, z3, z4, z5⟩, lt0⟩ := cellsA6 hbx); (have z2 := free_of hbx 2); clear h hbx)
  have h9 : St w0 (row32 (.slice a n c') l :: boxA w.heap.size #[.int .i64 (max budget 0), .slice a n c', .func g #[] cap, .nilIface, .int .i64 0, .int .u32 0] 172 :: L) ((((((w2.setCell ⟨w.heap.size, 0, none⟩ (.int .i64 (max budget 0))).setCell ⟨w.heap.size, 1, none⟩ (.slice a n c')).setCell ⟨w.heap.size, 2, none⟩ (.func g #[] cap)).setCell ⟨w.heap.size, 3, none⟩ .nilIface).setCell ⟨w.heap.size, 4, none⟩ (.int .i64 0)).setCell ⟨w.heap.size, 5, none⟩ (.int .u32 0)) := (((((H2.out.setAt 1 rfl 0 (.int .i64 (max budget 0))).setAt 1 rfl 1 (.slice a n c')).setAt 1 rfl 2 (.func g #[] cap)).setAt 1 rfl 3 .nilIface).setAt 1 rfl 4 (.int .i64 0)).setAt 1 rfl 5 (.int .u32 0)
  generalize ((((((w2.setCell ⟨w.heap.size, 0, none⟩ (.int .i64 (max budget 0))).setCell ⟨w.heap.size, 1, none⟩ (.slice a n c')).setCell ⟨w.heap.size, 2, none⟩ (.func g #[] cap)).setCell ⟨w.heap.size, 3, none⟩ .nilIface).setCell ⟨w.heap.size, 4, none⟩ (.int .i64 0)).setCell ⟨w.heap.size, 5, none⟩ (.int .u32 0)) = W at *
  clear c0 c1 c2 c3 c4 c5
  obtain ⟨⟨c0, c1, c2, c3, c4, c5⟩, _, _⟩ := cellsA6 (h9.cells 1 rfl)
  refine bodyPost_ret (by simp [results, Tryz.results85, go_sem, c0, c1, c2, c3, c4, c5]; try rfl) rfl ?_
  exact ⟨a, c', rfl, h9.re 2 [0]⟩
set_option maxHeartbeats 4000000 in
theorem atake_new {w0 w : World} {L : List Asn} (n s h t budget : Int) (A : Option Addr) (k c : Nat) (l : List Int) (hS : St w0 L w) (hr : Rd32 w A l) (hn : l.length = k) (hl : k ≤ 1000000000000) :
    Calls Tryz.prog 56 #[.agg #[.int .i64 n, .int .i64 s, .int .i64 h, .int .u32 t], .int .i64 budget, .slice A k c] w fun e w' => ∃ p, e = .returned (.pointer (some ⟨p, 0, none⟩)) ∧ St w0 (arA p (newAT n s h t budget l) :: L) w' := by
  have hmf : ∀ (fn : Fn) (first cap : Array Value) (w : World), (Instr.makeFunc fn first cap).run Tryz.prog w = .ok (.func fn first cap) w := fun _ _ _ _ => rfl
  have H := Lib.hid hS
  have HR := Lib.hid hr
  have HN := Lib.hid hn
  clear hS hr hn
  go_enter Tryz.func56, Tryz.ntmps56
  go_wp2_with (go_at_call 85; refine (begun_is budget A k c l _ _ (H.out.alloc #[.int .i64 n, .int .i64 s, .int .i64 h, .int .u32 t] 24) (HR.out.kept (bl_alloc (bl_refl _) _)) HN.out hl).mono ?_; rintro e w2 ⟨a, c', rfl, h⟩; (have H2 := Lib.hid h); clear h)
  go_ret
  refine ⟨_, rfl, ?_⟩
  have h5 := H2.out.alloc #[.int .i64 (max budget 0), .slice a k c', tkF w.heap.size, .nilIface, .int .i64 0, .int .u32 0] 175
  have h6 : St w0 (factA True :: atB w2.heap.size (max budget 0) (.slice a k c') (tkF w.heap.size) .nilIface 0 0 :: row32 (.slice a k c') l :: bxC w.heap.size n s h t :: L) _ := h5.factI trivial
  rw [← HN.out] at h6
  rw [← HN.out]
  exact (arA_tn h6).tail
set_option maxHeartbeats 4000000 in
theorem agive_new {w0 w : World} {L : List Asn} (n s h t budget i : Int) (A : Option Addr) (k c : Nat) (l : List Int) (hS : St w0 L w) (hr : Rd32 w A l) (hn : l.length = k) (hl : k ≤ 1000000000000) :
    Calls Tryz.prog 142 #[.agg #[.int .i64 n, .int .i64 s, .int .i64 h, .int .u32 t], .int .i64 budget, .slice A k c, .int .u32 i] w fun e w' => ∃ p, e = .returned (.pointer (some ⟨p, 0, none⟩)) ∧ St w0 (arA p (newAG n s h t budget l i) :: L) w' := by
  have hmf : ∀ (fn : Fn) (first cap : Array Value) (w : World), (Instr.makeFunc fn first cap).run Tryz.prog w = .ok (.func fn first cap) w := fun _ _ _ _ => rfl
  have h1 := (hS.alloc #[.int .i64 n, .int .i64 s, .int .i64 h, .int .u32 t] 24).alloc #[.int .u32 i] 22
  have hr1 : Rd32 ((w.alloc (.cells #[.int .i64 n, .int .i64 s, .int .i64 h, .int .u32 t] 24)).alloc (.cells #[.int .u32 i] 22)) A l := (hr.kept (bl_alloc (bl_refl _) _)).kept (bl_alloc (bl_refl _) _)
  have H := Lib.hid h1
  have HR := Lib.hid hr1
  have HN := Lib.hid hn
  have hc := cell_of (h1.cells 0 rfl) 0
  clear hS hr hn h1 hr1
  go_enter Tryz.func142, Tryz.ntmps142
  go_wp2
  obtain ⟨bi, hbi⟩ : ∃ bi, w.heap.size + 1 = bi := ⟨_, rfl⟩
  try simp only [World.size_alloc, hbi] at hc H ⊢
  generalize (w.alloc (.cells #[.int .i64 n, .int .i64 s, .int .i64 h, .int .u32 t] 24)).alloc (.cells #[.int .u32 i] 22) = W at *
  go_region_held3 (fun w' => w'.cell? ⟨bi, 0, none⟩ = some (.int .u32 i)) (first | exact hc | exact hd | exact cell_of ((H2.out.alloc _ _).cells 2 rfl) 0) ((go_at_call 85; refine (begun_is budget A k c l _ _ H.out.drew (HR.out.kept (bl_drew (bl_refl _))) HN.out hl).mono ?_; rintro e w2 ⟨a, c', rfl, h⟩; (have H2 := Lib.hid h); (have hd := cell_of (h.cells 1 rfl) 0); clear h))
  all_goals go_wp2
  all_goals go_ret
  all_goals (
    refine ⟨_, rfl, ?_⟩
    have h5 := H2.out.alloc #[.int .i64 (max budget 0), .slice a k c', gvF w.heap.size bi, .nilIface, .int .i64 0, .int .u32 0, .int .u32 i] 226
    have h6 : St w0 (factA True :: agB w2.heap.size (max budget 0) (.slice a k c') (gvF w.heap.size bi) .nilIface 0 0 i :: row32 (.slice a k c') l :: bxC w.heap.size n s h t :: bxN bi i :: L) _ := St.factI trivial (h5.re 4 [0, 1, 3, 2])
    rw [← HN.out] at h6
    rw [← HN.out]
    exact (arA_gn h6).tail)
end Go.Proofs.YtgfeagggkplegaaGreat
