/-
  Fresh words, as a call tells them; a memory and two Takes side by side.
-/
import Derived.Test.YtdhkppijeocaoaaTakes
import Derived.Test.YtdhkppijeocaoaaCTaglistFirst
namespace Go.Proofs.Ytdhkppijeocaoaa
open Go.RowKit Go.Proofs.YtdhkppijeocaoaaW.PrintWords Go.Proofs.Ytdhkppijeocaoaa.Pl Go.Proofs.Ytdhkppijeocaoaa.PTaglistFirst Go.Proofs.Ytdhkppijeocaoaa.CTaglistFirst
set_option linter.unusedVariables false
set_option linter.unusedSimpArgs false

theorem row_rdU {w : World} {base : Nat} {a : Option Addr} {c : Nat} {ws : List Int} (ho : w.ownsRow base 41 1 (.slice a ws.length c) ws.length (ws.map fun x => Value.int .u64 x)) : RdU w a ws ∧ ws.length ≤ c := by
  rcases ho.2 with ⟨e, e0⟩ | ⟨g, cap, cur, e, hg, hh, h1, h2, h3, h4⟩
  · simp only [Value.slice.injEq] at e
    obtain ⟨rfl, _, rfl⟩ := e
    exact ⟨⟨fun _ => e0, fun h => by omega⟩, by omega⟩
  · simp only [Value.slice.injEq] at e
    obtain ⟨rfl, _, rfl⟩ := e
    refine ⟨⟨fun e => (by simp at e), fun h0 => ⟨_, rfl, fun j u hu => ?_⟩⟩, by omega⟩
    rw [Nat.mul_one] at h4
    rw [add_zero', cell_of hh]
    rw [← h4] at hu
    have hj : j < ws.length := by
      rcases Nat.lt_or_ge j ws.length with h5 | h5
      · exact h5
      · rw [List.getElem?_take, if_neg (by omega)] at hu; cases hu
    rw [List.getElem?_take, if_pos hj] at hu
    simpa using hu
theorem NewPost.elim {own : Nat → Nat} {t : Nat} {w w' : World} {ws : List Int} {e : Ending} (h : NewPost own t w ws e w') : ∃ p own', e = .returned (.tuple #[.pointer (some ⟨p, 0, none⟩), .int .i64 0]) ∧ w.heap.size ≤ p ∧ Fr own own' (fun _ => False) w w' ∧ IsMem own' t w' p ws [] := h
/-- One memory that is new since a law began. -/
structure Solo (w : World) (o : Nat → Nat) (w' : World) (p : Nat) (ws : List Int) (ns : List Note) : Prop where
  bel : Below w.heap.size w w'
  tag : ∀ b, b < w.heap.size → o b = 0
  mem : IsMem o 1 w' p ws ns
theorem solo_of {w w1 w2 : World} {ws : List Int} {e : Ending} (hb : Below w.heap.size w w1) (h : NewPost (fun _ => 0) 1 w1 ws e w2) : ∃ p o, e = .returned (.tuple #[.pointer (some ⟨p, 0, none⟩), .int .i64 0]) ∧ Solo w o w2 p ws [] := by
  obtain ⟨p, o, rfl, hp, hf, hm⟩ := h.elim
  refine ⟨p, o, rfl, hb.trans ⟨hf.str.os, hf.str.tape, hf.str.output, hf.str.size, fun b hb' => hf.keep b (by have := hb.size; omega) (fun h => h)⟩, fun b hb' => ?_, hm⟩
  have := hb.size
  exact hf.ext b (by omega)
def WordsRd (w : World) (ws : List Int) (n : Nat) (e : Ending) (w' : World) : Prop := ∃ al c', e = .returned (.slice al n c') ∧ RdU w' al ws ∧ n ≤ c' ∧ Below w.heap.size w w'
theorem words_rd (own : Nat → Nat) (t p n : Nat) (ws : List Int) (ns : List Note) (w : World) (h : IsMem own t w p ws ns) (hn : ws.length = n) :
    Calls Try.prog 16 #[.pointer (some ⟨p, 0, none⟩)] w (WordsRd w ws n) := by
  subst hn
  refine (words_any own t p ws ns w h).mono ?_
  rintro e w' ⟨v, rfl, ho, hb, a, c, rfl⟩
  obtain ⟨h1, h2⟩ := row_rdU ho
  exact ⟨a, c, rfl, h1, h2, hb⟩
def FreshPost (w : World) (N : Nat) (ws : List Int) (e : Ending) (w' : World) : Prop := ∃ A c, e = .returned (.tuple #[.slice A N c, .int .i64 0]) ∧ RdU w' A ws ∧ N ≤ c ∧ Below w.heap.size w w'
theorem fresh_call (n s h N : Nat) (t : Int) (w : World) (hk : okC n s h = true) (t0 : 0 ≤ t) (t1 : t < 4294967296) (hN : N = 2 + 2 * n + s + h) :
    Calls Try.prog 11 #[.agg #[.int .i64 n, .int .i64 s, .int .i64 h, .int .u32 t]] w (FreshPost w N (freshL n s h t n s)) := by
  refine (layout_Fresh.calls 200 n s h t _ _ w (fresh_eq n s h t hk t0 t1 200 (Nat.le_refl _))).mono ?_
  rintro e w' ⟨v, rfl, hr, hb⟩
  obtain ⟨A, c, rfl, hc, _⟩ := Kd.R_reads hr
  have ho := Kd.own_of_R hr
  obtain ⟨h1, h2⟩ := row_rdU (ws := freshL n s h t n s) ho
  rw [freshL_length, ← hN] at *
  exact ⟨A, c, rfl, h1, hc, hb⟩
/-- A memory and two Takes that are new since a law began. -/
structure Trio (w : World) (o : Nat → Nat) (w' : World) (q p1 p2 : Nat) (S1 S2 : TM) (ws : List Int) (ns : List Note) : Prop where
  bel : Below w.heap.size w w'
  tag : ∀ b, b < w.heap.size → o b = 0
  mem : IsMem o 1 w' q ws ns
  a : IsTake o 2 w' p1 S1
  b : IsTake o 3 w' p2 S2
theorem Fr.bel {w w1 w2 : World} {o o2 : Nat → Nat} {T : Nat → Prop} (hb : Below w.heap.size w w1) (ht : ∀ b, b < w.heap.size → o b = 0) (f : Fr o o2 T w1 w2) (h0 : ¬ T 0) : Below w.heap.size w w2 ∧ ∀ b, b < w.heap.size → o2 b = 0 := by
  have hs := hb.size
  exact ⟨hb.trans ⟨f.str.os, f.str.tape, f.str.output, f.str.size, fun b hb' => f.keep b (by omega) (by rw [ht b hb']; exact h0)⟩, fun b hb' => (f.ext b (by omega)).trans (ht b hb')⟩
theorem Trio.stepA {w w1 w2 : World} {o : Nat → Nat} {q p1 p2 : Nat} {S1 S2 S' : TM} {ws ws' : List Int} {ns ns' : List Note} (h : Trio w o w1 q p1 p2 S1 S2 ws ns) (k : TkPost o 2 1 p1 q S' ws' ns' w1 w2) : ∃ o2, Trio w o2 w2 q p1 p2 S' S2 ws' ns' := by
  obtain ⟨o2, f, ha, hm⟩ := k
  obtain ⟨h1, h2⟩ := Fr.bel h.bel h.tag f (by decide)
  exact ⟨o2, h1, h2, hm, ha, h.b.kept f (by decide)⟩
theorem Trio.stepB {w w1 w2 : World} {o : Nat → Nat} {q p1 p2 : Nat} {S1 S2 S' : TM} {ws ws' : List Int} {ns ns' : List Note} (h : Trio w o w1 q p1 p2 S1 S2 ws ns) (k : TkPost o 3 1 p2 q S' ws' ns' w1 w2) : ∃ o2, Trio w o2 w2 q p1 p2 S1 S' ws' ns' := by
  obtain ⟨o2, f, ha, hm⟩ := k
  obtain ⟨h1, h2⟩ := Fr.bel h.bel h.tag f (by decide)
  exact ⟨o2, h1, h2, hm, h.a.kept f (by decide), ha⟩
theorem Trio.below {w w1 w2 : World} {o : Nat → Nat} {q p1 p2 : Nat} {S1 S2 : TM} {ws : List Int} {ns : List Note} (h : Trio w o w1 q p1 p2 S1 S2 ws ns) (hb : Below w1.heap.size w1 w2) : Trio w o w2 q p1 p2 S1 S2 ws ns :=
  ⟨h.bel.trans (hb.mono h.bel.size), h.tag, h.mem.below hb, h.a.below hb, h.b.below hb⟩
/-- A memory and one Take. -/
structure Pair1 (w : World) (o : Nat → Nat) (w' : World) (q p1 : Nat) (S1 : TM) (ws : List Int) (ns : List Note) : Prop where
  bel : Below w.heap.size w w'
  tag : ∀ b, b < w.heap.size → o b = 0
  mem : IsMem o 1 w' q ws ns
  a : IsTake o 2 w' p1 S1
theorem Solo.take {w w1 w2 : World} {o : Nat → Nat} {q : Nat} {n s h t a : Int} {ws : List Int} {ns : List Note} {e : Ending} (k : Solo w o w1 q ws ns) (hm : TakeMade o 2 n s h t a w1 e w2) : ∃ p1 o2, e = .returned (.pointer (some ⟨p1, 0, none⟩)) ∧ Pair1 w o2 w2 q p1 ⟨n, s, h, t, a, 0, 0, .first, 0⟩ ws ns := by
  obtain ⟨p, o2, rfl, hp, f, ht⟩ := hm
  obtain ⟨h1, h2⟩ := Fr.bel k.bel k.tag f (fun h => h)
  exact ⟨p, o2, rfl, h1, h2, k.mem.kept f (fun h => h), ht⟩
theorem Pair1.take {w w1 w2 : World} {o : Nat → Nat} {q p1 : Nat} {S1 : TM} {n s h t a : Int} {ws : List Int} {ns : List Note} {e : Ending} (k : Pair1 w o w1 q p1 S1 ws ns) (hm : TakeMade o 3 n s h t a w1 e w2) : ∃ p2 o2, e = .returned (.pointer (some ⟨p2, 0, none⟩)) ∧ Trio w o2 w2 q p1 p2 S1 ⟨n, s, h, t, a, 0, 0, .first, 0⟩ ws ns := by
  obtain ⟨p, o2, rfl, hp, f, ht⟩ := hm
  obtain ⟨h1, h2⟩ := Fr.bel k.bel k.tag f (fun h => h)
  exact ⟨p, o2, rfl, h1, h2, k.mem.kept f (fun h => h), k.a.kept f (fun h => h), ht⟩
end Go.Proofs.Ytdhkppijeocaoaa
