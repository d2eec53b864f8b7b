/-
  A memory's words as a new row; a memory that is made.
-/
import Derived.Test.YtdhkppijeocaoaaMemMore
namespace Go.Proofs.Ytdhkppijeocaoaa
open Go.RowKit
set_option linter.unusedVariables false
set_option linter.unusedSimpArgs false

/-- A slice of words that can be read. -/
structure RdU (w : World) (A : Option Addr) (ws : List Int) : Prop where
  nil : A = none → ws.length = 0
  at_ : 0 < ws.length → ∃ ad, A = some ad ∧ ∀ j u, (ws.map fun x => Value.int .u64 x)[j]? = some u → w.cell? (ad.add j) = some u
theorem RdU.kept {w w' : World} {A : Option Addr} {ws : List Int} (h : RdU w A ws) (hb : Below w.heap.size w w') : RdU w' A ws :=
  ⟨h.nil, fun h0 => by
    obtain ⟨ad, e, hc⟩ := h.at_ h0
    exact ⟨ad, e, fun j u hu => by
      have h2 := hc j u hu
      rw [hb.cell (World.block_lt_of_cell? w _ h2)]
      exact h2⟩⟩
theorem u64_one (ws : List Int) : ∀ u ∈ ws.map (fun x => Value.int .u64 x), u.oneCell' = true := by
  intro u hu
  obtain ⟨x, _, rfl⟩ := List.mem_map.1 hu
  rfl
theorem RdU.clone {w : World} {A : Option Addr} {ws : List Int} (h : RdU w A ws) (hl : ws.length ≤ 17592186044416) (c : Nat) :
    Calls Try.prog 34 #[.slice A ws.length c] w (ClonePost_u64 w ws.length (ws.map fun x => Value.int .u64 x)) :=
  clone_any_u64 A ws.length c _ w (by simp) h.at_ (u64_one ws) (by omega) (by unfold maxLen; omega) h.nil
theorem mem_rdU {own : Nat → Nat} {t p : Nat} {ws : List Int} {ns : List Note} {w : World} (h : IsMem own t w p ws ns) : ∃ A c nv, w.heap[p]? = some (.cells #[.slice A ws.length c, nv] 82 (0, 0)) ∧ RdU w A ws := by
  obtain ⟨A, c, nv, hP, hn, hb, hg⟩ := h.body
  refine ⟨A, c, nv, hP, ⟨fun e => ?_, fun h0 => ?_⟩⟩
  · rcases hg with e1 | ⟨g, cur, e1, _⟩
    · rw [e1]; rfl
    · rw [e] at e1; cases e1
  · obtain ⟨A', c', nv', hP', h2⟩ := words_read h
    rw [hP] at hP'
    simp only [Option.some.injEq, Obj.cells.injEq, Array.mk.injEq, List.cons.injEq, Value.slice.injEq] at hP'
    obtain ⟨⟨⟨rfl, _, _⟩, _⟩, _⟩ := hP'
    exact h2 h0
set_option maxHeartbeats 1000000 in
theorem words_any (own : Nat → Nat) (t p : Nat) (ws : List Int) (ns : List Note) (w : World) (h : IsMem own t w p ws ns) :
    Calls Try.prog 16 #[.pointer (some ⟨p, 0, none⟩)] w (WordsPost w ws) := by
  obtain ⟨A, c, nv, hP, hr⟩ := mem_rdU h
  obtain ⟨c0, c1, _, _⟩ := cells2 hP
  have hl := h.len
  have HC := Lib.hid (hr.clone (by omega) c)
  clear hP h hr
  go_enter Try.func16, Try.ntmps16
  go_wp2_with (go_at_call 34; refine HC.out.mono ?_; rintro e w' ⟨v, rfl, ho, hb, a, c', rfl⟩; (have HO := Lib.hid ho); (have HB := Lib.hid hb); clear ho hb)
  go_ret
  exact ⟨_, rfl, HO.out, HB.out, _, _, rfl⟩

/-- A memory that is made. -/
def NewPost (own : Nat → Nat) (t : Nat) (w : World) (ws : List Int) (e : Ending) (w' : World) : Prop :=
  ∃ p own', e = .returned (.tuple #[.pointer (some ⟨p, 0, none⟩), .int .i64 0]) ∧ w.heap.size ≤ p ∧ Fr own own' (fun _ => False) w w' ∧ IsMem own' t w' p ws []
theorem Below.fr_new {own : Nat → Nat} {t : Nat} {w w' : World} (h : Below w.heap.size w w') : Fr own (fun b => if b < w.heap.size then own b else t) (fun _ => False) w w' :=
  ⟨⟨h.os, h.tape, h.output, h.size⟩, fun b hb _ => h.block b hb, fun b hb => by simp [hb]⟩
theorem mem_made {own : Nat → Nat} {t : Nat} {w w1 : World} {ws : List Int} {a : Option Addr} {c : Nat} (hl : ws.length ≤ 1024) (hr : ∀ x ∈ ws, 0 ≤ x ∧ x < 18446744073709551616) (hb : Below w.heap.size w w1)
    (ho : w1.ownsRow w.heap.size 41 1 (.slice a ws.length c) ws.length (ws.map fun x => Value.int .u64 x)) :
    IsMem (fun b => if b < w.heap.size then own b else t) t (w1.alloc (.cells #[.slice a ws.length c, .slice none 0 0] 82)) w1.heap.size ws [] := by
  have hs := hb.size
  refine ⟨hl, hr, by simp only [show ¬ w1.heap.size < w.heap.size by omega, if_false], a, c, .slice none 0 0, heap_new rfl, World.ownsRow_nil _ _ _ _, (fun b e => by cases e), ?_⟩
  rcases ho.2 with ⟨e, e0⟩ | ⟨g, cap, cur, e, hg, hh, h1, h2, h3, h4⟩
  · exact .inl (List.eq_nil_of_length_eq_zero e0)
  · simp only [Value.slice.injEq] at e
    obtain ⟨rfl, _, rfl⟩ := e
    have lg := lt_of_heap hh
    refine .inr ⟨g, cur, rfl, by simp only [show ¬ g < w.heap.size by omega, if_false], by omega, by rw [heap_old lg]; exact hh, ?_, by simp [Value.ownBlock]⟩
    rw [Nat.mul_one] at h4
    exact h4
set_option maxHeartbeats 1000000 in
theorem new_ok (own : Nat → Nat) (t : Nat) (A : Option Addr) (c : Nat) (ws : List Int) (w : World) (hr : RdU w A ws) (hl : ws.length ≤ 1024) (hv : ∀ x ∈ ws, 0 ≤ x ∧ x < 18446744073709551616) :
    Calls Try.prog 12 #[.slice A ws.length c] w (NewPost own t w ws) := by
  have d0 : decide ((1024 : Int) < ws.length) = false := decide_eq_false (by omega)
  have HC := Lib.hid (hr.clone (by omega) c)
  have HV := Lib.hid hv
  have HL := Lib.hid hl
  clear hv hr hl
  go_enter Try.func12, Try.ntmps12
  go_wp2_with (go_at_call 34; refine HC.out.mono ?_; rintro e w' ⟨v, rfl, ho, hb, a, c', rfl⟩; (have HO := Lib.hid ho); (have HB := Lib.hid hb); clear ho hb)
  go_ret2
  exact ⟨_, _, rfl, HB.out.size, Below.fr_new (bl_alloc HB.out _), mem_made HL.out HV.out HB.out HO.out⟩
set_option maxHeartbeats 1000000 in
theorem new_no (A : Option Addr) (n c : Nat) (w : World) (hl : 1024 < n) :
    Calls Try.prog 12 #[.slice A n c] w fun e w' => e = .returned (.tuple #[.pointer none, .int .i64 1]) ∧ w' = w := by
  have d0 : decide ((1024 : Int) < n) = true := decide_eq_true (by omega)
  go_enter Try.func12, Try.ntmps12
  go_wp2
  go_ret2
  exact ⟨rfl, rfl⟩
end Go.Proofs.Ytdhkppijeocaoaa
