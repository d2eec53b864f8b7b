/-
  A memory as an object: what it holds, whose its blocks are, and what an access leaves of it.
-/
import Derived.Test.YtdhkppijeocaoaaAccLoad
import Derived.Test.YtdhkppijeocaoaaAccStore
import Derived.Test.YtdhkppijeocaoaaAccSwap
import Derived.Test.YtdhkppijeocaoaaAccMiss
namespace Go.Proofs.Ytdhkppijeocaoaa
open Go.RowKit
set_option linter.unusedVariables false
set_option linter.unusedSimpArgs false

/-- Whose a block is: a letter for each object. Fr: all blocks of others are as they were, and no block has changed hands. -/
structure Fr (own own' : Nat → Nat) (T : Nat → Prop) (w w' : World) : Prop where
  str : Str w w'
  keep : ∀ b, b < w.heap.size → ¬ T (own b) → w'.heap[b]? = w.heap[b]?
  ext : ∀ b, b < w.heap.size → own' b = own b
theorem Fr.refl (own : Nat → Nat) (T : Nat → Prop) (w : World) : Fr own own T w w := ⟨Str.refl _, fun _ _ _ => rfl, fun _ _ => rfl⟩
theorem Fr.trans {o o1 o2 : Nat → Nat} {T : Nat → Prop} {w w1 w2 : World} (h : Fr o o1 T w w1) (k : Fr o1 o2 T w1 w2) : Fr o o2 T w w2 :=
  ⟨h.str.trans k.str, fun b hb ht => (k.keep b (Nat.lt_of_lt_of_le hb h.str.size) (by rw [h.ext b hb]; exact ht)).trans (h.keep b hb ht), fun b hb => (k.ext b (Nat.lt_of_lt_of_le hb h.str.size)).trans (h.ext b hb)⟩
theorem Fr.below {own : Nat → Nat} {T : Nat → Prop} {w w' : World} (h : Below w.heap.size w w') : Fr own own T w w' :=
  ⟨⟨h.os, h.tape, h.output, h.size⟩, fun b hb _ => h.block b hb, fun _ _ => rfl⟩
theorem Fr.more {o o1 : Nat → Nat} {T U : Nat → Prop} {w w1 : World} (h : Fr o o1 T w w1) (hu : ∀ x, T x → U x) : Fr o o1 U w w1 := ⟨h.str, fun b hb ht => h.keep b hb fun c => ht (hu _ c), h.ext⟩

/-- An access that was noted. -/
structure Note where
  kind : Int
  at_ : Int
  old : Int
  new : Int
  ok : Bool
def Note.cells (a : Note) : List Value := [.int .u8 a.kind, .int .i64 a.at_, .int .u64 a.old, .int .u64 a.new, .bool a.ok]
def noteCells (ns : List Note) : List Value := ns.flatMap Note.cells
theorem noteCells_snoc (ns : List Note) (a : Note) : noteCells (ns ++ [a]) = noteCells ns ++ a.cells := by simp [noteCells]

structure IsMem (own : Nat → Nat) (t : Nat) (w : World) (p : Nat) (ws : List Int) (ns : List Note) : Prop where
  len : ws.length ≤ 1024
  rng : ∀ x ∈ ws, 0 ≤ x ∧ x < 18446744073709551616
  mine : own p = t
  body : ∃ A c nv, w.heap[p]? = some (.cells #[.slice A ws.length c, nv] 82 (0, 0)) ∧ w.ownsRow 0 115 5 nv ns.length (noteCells ns) ∧ (∀ b, nv.ownBlock = some b → own b = t ∧ b ≠ p) ∧
    (ws = [] ∨ ∃ g cur, A = some ⟨g, 0, none⟩ ∧ own g = t ∧ p ≠ g ∧ w.heap[g]? = some (.cells cur 41 (0, 0)) ∧ cur.toList.take ws.length = ws.map (fun x => .int .u64 x) ∧ nv.ownBlock ≠ some g)

theorem IsMem.kept {own own' : Nat → Nat} {t : Nat} {T : Nat → Prop} {w w' : World} {p : Nat} {ws : List Int} {ns : List Note} (h : IsMem own t w p ws ns) (f : Fr own own' T w w') (ht : ¬ T t) : IsMem own' t w' p ws ns := by
  obtain ⟨A, c, nv, hP, hn, hb, hg⟩ := h.body
  have lp := lt_of_heap hP
  refine ⟨h.len, h.rng, (f.ext p lp).trans h.mine, A, c, nv, (f.keep p lp (by rw [h.mine]; exact ht)).trans hP, own_of_block hn fun b e => f.keep b (hn.lt b e).2 (by rw [(hb b e).1]; exact ht), fun b e => ⟨(f.ext b (hn.lt b e).2).trans (hb b e).1, (hb b e).2⟩, ?_⟩
  rcases hg with e | ⟨g, cur, e1, e2, e3, e4, e5, e6⟩
  · exact .inl e
  · have lg := lt_of_heap e4
    exact .inr ⟨g, cur, e1, (f.ext g lg).trans e2, e3, (f.keep g lg (by rw [e2]; exact ht)).trans e4, e5, e6⟩
theorem IsMem.below {own : Nat → Nat} {t : Nat} {w w' : World} {p : Nat} {ws : List Int} {ns : List Note} (h : IsMem own t w p ws ns) (f : Below w.heap.size w w') : IsMem own t w' p ws ns :=
  h.kept (T := fun _ => False) (Fr.below f) (fun h => h)

theorem take_set {l : List Value} {n i : Nat} (v : Value) (h : i < n) : (l.set i v).take n = (l.take n).set i v := by
  rw [List.take_set]
/-- What an access within the memory leaves. -/
theorem IsMem.acc {own : Nat → Nat} {t : Nat} {w w' : World} {p g c : Nat} {nv : Value} {cur : Array Value} {ws : List Int} {ns : List Note} {i : Nat} {x : Int} {a : Note}
    (h : IsMem own t w p ws ns) (hn : w.ownsRow 0 115 5 nv ns.length (noteCells ns)) (hb : ∀ b, nv.ownBlock = some b → own b = t ∧ b ≠ p) (hg : own g = t) (lg : g < w.heap.size) (lp : p < w.heap.size) (hpg : p ≠ g) (hng : nv.ownBlock ≠ some g)
    (hcur : cur.toList.take ws.length = ws.map (fun x => .int .u64 x)) (hi : i < ws.length) (x0 : 0 ≤ x) (x1 : x < 18446744073709551616)
    (post : AccPost w w' p g (.slice (some ⟨g, 0, none⟩) ws.length c) nv cur ns.length (noteCells ns) i (.int .u64 x) a.cells) :
    ∃ own', Fr own own' (· = t) w w' ∧ IsMem own' t w' p (ws.set i x) (ns ++ [a]) := by
  obtain ⟨nv', k1, k2, b, k3, k4⟩ := post.notes
  have hex : ∀ b, b < w.heap.size → (fun b => if b < w.heap.size then own b else t) b = own b := fun b hb => by simp [hb]
  have hbn : own b = t ∨ w.heap.size ≤ b := k4.imp (fun e => (hb b e).1) id
  refine ⟨fun b => if b < w.heap.size then own b else t, ⟨post.str, fun b hb' ht => post.keep b hb' (fun e => ht (e ▸ h.mine)) (fun e => ht (e ▸ hg)) (fun e => ht (hb b e.symm).1), hex⟩, ?_⟩
  refine ⟨by rw [List.length_set]; exact h.len, fun y hy => ?_, (hex p lp).trans h.mine, some ⟨g, 0, none⟩, c, nv', by rw [List.length_set]; exact k1, by rw [noteCells_snoc, List.length_append]; exact k2, fun b' e => ?_, .inr ⟨g, cur.setIfInBounds i (.int .u64 x), rfl, (hex g lg).trans hg, hpg, post.words, ?_, ?_⟩⟩
  · rcases List.mem_or_eq_of_mem_set hy with h1 | h1
    · exact h.rng y h1
    · subst h1; exact ⟨x0, x1⟩
  · rw [k3] at e
    obtain rfl := Option.some.inj e
    refine ⟨?_, fun e => ?_⟩
    · by_cases c : b < w.heap.size
      · simp only [c, if_true]
        exact hbn.elim id fun h => by omega
      · simp only [c, if_false]
    · subst e
      exact k4.elim (fun e => (hb _ e).2 rfl) fun e => by omega
  · rw [Array.toList_setIfInBounds, List.length_set, take_set _ hi, hcur, List.map_set]
  · rw [k3]
    intro e
    obtain rfl := Option.some.inj e
    exact k4.elim (fun e => hng e) fun e => by omega
end Go.Proofs.Ytdhkppijeocaoaa
