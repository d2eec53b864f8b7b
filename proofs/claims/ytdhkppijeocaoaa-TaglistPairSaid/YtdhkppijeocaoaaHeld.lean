/-
  A row of words that is held, of tag 0: it stays through the steps of machines.
-/
import Derived.Test.YtdhkppijeocaoaaPairLaw
namespace Go.Proofs.Ytdhkppijeocaoaa
open Go.RowKit Go.Proofs.YtdhkppijeocaoaaW.PrintWords Go.Proofs.Ytdhkppijeocaoaa.Pl
set_option linter.unusedVariables false
set_option linter.unusedSimpArgs false

structure Held (o : Nat → Nat) (w : World) (A : Option Addr) (ws : List Int) : Prop where
  rd : RdU w A ws
  tag : ∀ ad, A = some ad → 0 < ws.length → o ad.block = 0 ∧ ad.block < w.heap.size
theorem Held.fr {o o' : Nat → Nat} {T : Nat → Prop} {w w' : World} {A : Option Addr} {ws : List Int} (h : Held o w A ws) (f : Fr o o' T w w') (h0 : ¬ T 0) : Held o' w' A ws := by
  refine ⟨⟨h.rd.nil, fun hl => ?_⟩, fun ad e hl => ?_⟩
  · obtain ⟨ad, rfl, hc⟩ := h.rd.at_ hl
    obtain ⟨t0, l0⟩ := h.tag ad rfl hl
    refine ⟨ad, rfl, fun j u hu => ?_⟩
    have e : (ad.add j).block = ad.block := by unfold Addr.add; split <;> rfl
    rw [World.cell?_of_block (w := w) (f.keep _ (by rw [e]; exact l0) (by rw [e, t0]; exact h0)), hc j u hu]
  · obtain ⟨t0, l0⟩ := h.tag ad e hl
    exact ⟨(f.ext _ l0).trans t0, Nat.lt_of_lt_of_le l0 f.str.size⟩
theorem Held.below {o : Nat → Nat} {w w' : World} {A : Option Addr} {ws : List Int} (h : Held o w A ws) (hb : Below w.heap.size w w') : Held o w' A ws := h.fr (Fr.below (T := fun _ => False) hb) (fun h => h)
def WordsHeld (w : World) (q N : Nat) (ws : List Int) (ns : List Note) (e : Ending) (w' : World) : Prop := ∃ A c o', e = .returned (.slice A N c) ∧ Solo w o' w' q ws ns ∧ Held o' w' A ws ∧ N ≤ c
theorem words_held {w w1 : World} {o : Nat → Nat} {q N : Nat} {ws : List Int} {ns : List Note} (h : Solo w o w1 q ws ns) (hN : ws.length = N) :
    Calls Try.prog 16 #[.pointer (some ⟨q, 0, none⟩)] w1 (WordsHeld w q N ws ns) := by
  subst hN
  refine (words_any o 1 q ws ns w1 h.mem).mono ?_
  rintro e w' ⟨v, rfl, ho, hb, a, c, rfl⟩
  obtain ⟨h1, h2⟩ := row_rdU ho
  have f := Below.fr_new (own := o) (t := 0) hb
  obtain ⟨b1, b2⟩ := Fr.bel h.bel h.tag f (fun h => h)
  refine ⟨a, c, _, rfl, ⟨b1, b2, h.mem.kept f (fun h => h)⟩, ⟨h1, fun ad e hl => ?_⟩, h2⟩
  subst e
  rcases ho.2 with ⟨e1, _⟩ | ⟨g, cap, cur, e1, hg, hh, _⟩
  · cases e1
  · simp only [Value.slice.injEq, Option.some.injEq] at e1
    obtain ⟨rfl, _, _⟩ := e1
    exact ⟨by simp [show ¬ g < w1.heap.size by omega], lt_of_heap hh⟩
theorem Solo.takeH {w w1 w2 : World} {o : Nat → Nat} {q : Nat} {n s h t a : Int} {ws vs : List Int} {ns : List Note} {A : Option Addr} {e : Ending} (k : Solo w o w1 q ws ns) (hh : Held o w1 A vs) (hm : TakeMade o 2 n s h t a w1 e w2) : ∃ p1 o2, e = .returned (.pointer (some ⟨p1, 0, none⟩)) ∧ Pair1 w o2 w2 q p1 ⟨n, s, h, t, a, 0, 0, .first, 0⟩ ws ns ∧ Held o2 w2 A vs := by
  obtain ⟨p, o2, rfl, hp, f, ht⟩ := hm
  obtain ⟨h1, h2⟩ := Fr.bel k.bel k.tag f (fun h => h)
  exact ⟨p, o2, rfl, ⟨h1, h2, k.mem.kept f (fun h => h), ht⟩, hh.fr f (fun h => h)⟩
theorem Pair1.giveH {w w1 w2 : World} {o : Nat → Nat} {q p1 : Nat} {S1 : TM} {n s h t a i : Int} {ws vs : List Int} {ns : List Note} {A : Option Addr} {e : Ending} (k : Pair1 w o w1 q p1 S1 ws ns) (hh : Held o w1 A vs) (hm : GiveMade o 3 n s h t a i w1 e w2) : ∃ p2 o2, e = .returned (.pointer (some ⟨p2, 0, none⟩)) ∧ PG w o2 w2 q p1 p2 S1 ⟨n, s, h, t, a, i, 0, .first, 0⟩ ws ns ∧ Held o2 w2 A vs := by
  obtain ⟨p, o2, rfl, hp, f, ht⟩ := hm
  obtain ⟨h1, h2⟩ := Fr.bel k.bel k.tag f (fun h => h)
  exact ⟨p, o2, rfl, ⟨h1, h2, k.mem.kept f (fun h => h), k.a.kept f (fun h => h), ht⟩, hh.fr f (fun h => h)⟩
theorem PG.stepAH {w w1 w2 : World} {o : Nat → Nat} {q p1 p2 : Nat} {S1 S2 S' : TM} {ws ws' vs : List Int} {ns ns' : List Note} {A : Option Addr} (h : PG w o w1 q p1 p2 S1 S2 ws ns) (hh : Held o w1 A vs) (k : TkPost o 2 1 p1 q S' ws' ns' w1 w2) : ∃ o2, PG w o2 w2 q p1 p2 S' S2 ws' ns' ∧ Held o2 w2 A vs := by
  obtain ⟨o2, f, ha, hm⟩ := k
  obtain ⟨h1, h2⟩ := Fr.bel h.bel h.tag f (by decide)
  exact ⟨o2, ⟨h1, h2, hm, ha, h.g.kept f (by decide)⟩, hh.fr f (by decide)⟩
theorem PG.stepGH {w w1 w2 : World} {o : Nat → Nat} {q p1 p2 : Nat} {S1 S2 S' : TM} {ws ws' vs : List Int} {ns ns' : List Note} {A : Option Addr} (h : PG w o w1 q p1 p2 S1 S2 ws ns) (hh : Held o w1 A vs) (k : GvPost o 3 1 p2 q S' ws' ns' w1 w2) : ∃ o2, PG w o2 w2 q p1 p2 S1 S' ws' ns' ∧ Held o2 w2 A vs := by
  obtain ⟨o2, f, ha, hm⟩ := k
  obtain ⟨h1, h2⟩ := Fr.bel h.bel h.tag f (by decide)
  exact ⟨o2, ⟨h1, h2, hm, h.a.kept f (by decide), ha⟩, hh.fr f (by decide)⟩
end Go.Proofs.Ytdhkppijeocaoaa
