/-
  What the laws on bounds alone need: worlds by their blocks, states, Check, bound's functions, chapter 21's config.
-/
import Derived.Test.YtkcpfoghjoalnaaProg
import Derived.Test.YtkcpfoghjoalnaaBase
import Derived.BigRegion
import Derived.Deep.RegionHeld3
import Derived.Deep.RegionLaw
import Derived.Deep.RegionLawGrows
import Derived.Deep.AppendLies
import Derived.Deep.LoopGhost
import Derived.Deep.DeepCutAuto
import Derived.KernelRfl
import Derived.WalkSpells
import Derived.Lib.SliceRun
import Derived.Lib.MinMax
namespace Go.Proofs.Ytkcpfoghjoalnaa
open Go.RowKit
set_option linter.unusedVariables false
set_option linter.unusedSimpArgs false

theorem heap_new {w : World} {o : Obj} {b : Nat} (h : w.heap.size = b) : (w.alloc o).heap[b]? = some o := by
  subst h
  show (w.heap.push o)[w.heap.size]? = _
  simp
theorem heap_old {w : World} {o : Obj} {b : Nat} (h : b < w.heap.size) : (w.alloc o).heap[b]? = w.heap[b]? := Below.heap_alloc _ _ _ h
theorem heap_set_ne {w : World} {a : Addr} {v : Value} {b : Nat} (h : b ≠ a.block) : (w.setCell a v).heap[b]? = w.heap[b]? := Below.heap_setCell _ _ _ _ h
theorem heap_set {w : World} {g o : Nat} {v : Value} {c : Array Value} {e : TypeId} {f : Nat × Nat} (h : w.heap[g]? = some (.cells c e f)) : (w.setCell ⟨g, o, none⟩ v).heap[g]? = some (.cells (c.setIfInBounds o v) e f) := by
  simp only [World.setCell, Array.getElem?_modify, if_true, h, Option.map_some]
  rfl
theorem heap_drew (w : World) : w.drew.heap = w.heap := rfl
theorem heap_size_set (w : World) (a : Addr) (v : Value) : (w.setCell a v).heap.size = w.heap.size := by simp [World.setCell]
theorem heap_size_drew (w : World) : w.drew.heap.size = w.heap.size := rfl
theorem own_drew {w : World} {base : Nat} {e : TypeId} {size : Nat} {v : Value} {n : Nat} {xs : List Value} (h : w.ownsRow base e size v n xs) : w.drew.ownsRow base e size v n xs := h
theorem own_of_block {w w' : World} {base : Nat} {e : TypeId} {size : Nat} {v : Value} {n : Nat} {xs : List Value} (h : w.ownsRow base e size v n xs) (hb : ∀ b, v.ownBlock = some b → w'.heap[b]? = w.heap[b]?) : w'.ownsRow base e size v n xs := by
  refine ⟨h.1, ?_⟩
  rcases h.2 with e | ⟨g, cap, cur, hv, hb', hh, r⟩
  · exact .inl e
  · refine .inr ⟨g, cap, cur, hv, hb', ?_, r⟩
    rw [hb g (by subst hv; rfl)]
    exact hh
theorem own_set {w : World} {base : Nat} {e : TypeId} {size : Nat} {v : Value} {n : Nat} {xs : List Value} (h : w.ownsRow base e size v n xs) {a : Addr} (ha : v.ownBlock ≠ some a.block) (u : Value) : (w.setCell a u).ownsRow base e size v n xs :=
  own_of_block h fun b hb => heap_set_ne fun e => ha (by rw [hb, e])
theorem cell_of {w : World} {b : Nat} {c : Array Value} {e : TypeId} {f : Nat × Nat} (h : w.heap[b]? = some (.cells c e f)) (o : Nat) : w.cell? ⟨b, o, none⟩ = c[o]? := by simp [World.cell?, h]
theorem free_of {w : World} {b : Nat} {c : Array Value} {e : TypeId} (h : w.heap[b]? = some (.cells c e (0, 0))) (o : Nat) : w.frozen? ⟨b, o, none⟩ = false := by simp [World.frozen?, h]
theorem lt_of_heap {w : World} {b : Nat} {o : Obj} (h : w.heap[b]? = some o) : b < w.heap.size := by
  rcases Nat.lt_or_ge b w.heap.size with h1 | h1
  · exact h1
  · rw [Array.getElem?_eq_none h1] at h; cases h
theorem cells2 {w : World} {b : Nat} {a0 a1 : Value} {e : TypeId} (h : w.heap[b]? = some (.cells #[a0, a1] e (0, 0))) : w.cell? ⟨b, 0, none⟩ = some a0 ∧ w.cell? ⟨b, 1, none⟩ = some a1 ∧ w.frozen? ⟨b, 0, none⟩ = false ∧ w.frozen? ⟨b, 1, none⟩ = false :=
  ⟨cell_of h 0, cell_of h 1, free_of h 0, free_of h 1⟩
/-- The streams are as they were, and no block has gone. -/
structure Str (w w' : World) : Prop where
  os : w'.os = w.os
  tape : w'.tape = w.tape
  output : w'.output = w.output
  size : w.heap.size ≤ w'.heap.size
theorem Str.refl (w : World) : Str w w := ⟨rfl, rfl, rfl, Nat.le_refl _⟩
theorem Str.trans {a b c : World} (h : Str a b) (k : Str b c) : Str a c := ⟨k.os.trans h.os, k.tape.trans h.tape, k.output.trans h.output, Nat.le_trans h.size k.size⟩
theorem Str.alloc {a w : World} (h : Str a w) (o : Obj) : Str a (w.alloc o) := h.trans ⟨rfl, rfl, rfl, by simp⟩
theorem Str.set {a w : World} (h : Str a w) (p : Addr) (v : Value) : Str a (w.setCell p v) := h.trans ⟨rfl, rfl, rfl, by rw [heap_size_set]; exact Nat.le_refl _⟩
theorem Str.drew {a w : World} (h : Str a w) : Str a w.drew := ⟨h.os, h.tape, h.output, h.size⟩
theorem Str.grown {a w w' : World} {row : Option Nat} (h : Str a w) (g : w.grownBy w' row) : Str a w' := h.trans ⟨g.os, g.tape, g.output, g.size⟩
theorem Str.below {a w w' : World} {B : Nat} (h : Str a w) (g : Below B w w') : Str a w' := h.trans ⟨g.os, g.tape, g.output, g.size⟩
/-- A thing in the heap: what holds of its blocks. -/
structure Asn where
  P : (Nat → Prop) → World → Prop
  mono : ∀ {fp fp' : Nat → Prop} {w w' : World}, P fp w → (∀ b, b < w.heap.size → fp b → fp' b ∧ w'.heap[b]? = w.heap[b]?) → P fp' w'

/-- The blocks of the things: their own, new since w0, there. -/
structure Own (w0 w : World) (F : Nat → Nat → Prop) : Prop where
  lo : ∀ k b, F k b → w0.heap.size ≤ b
  hi : ∀ k b, F k b → b < w.heap.size
  one : ∀ k j b, F k b → F j b → k = j
def Holds (l : List Asn) (F : Nat → Nat → Prop) (w : World) : Prop := ∀ (k : Nat) (a : Asn), l[k]? = some a → a.P (F k) w
/-- The state l, since w0. -/
def St (w0 : World) (l : List Asn) (w : World) : Prop := Below w0.heap.size w0 w ∧ ∃ F, Own w0 w F ∧ Holds l F w

theorem St.bel {w0 w : World} {l : List Asn} (h : St w0 l w) : Below w0.heap.size w0 w := h.1
theorem St.nil (w : World) : St w [] w := ⟨Below.refl _ _, fun _ _ => False, ⟨fun _ _ h => h.elim, fun _ _ h => h.elim, fun _ _ _ h => h.elim⟩, fun k a h => by simp at h⟩
theorem St.map {w0 w : World} {l l' : List Asn} (h : St w0 l w) (f : Nat → Nat) (hf : ∀ i j, f i = f j → i = j) (hl : ∀ j a, l'[j]? = some a → l[f j]? = some a) : St w0 l' w := by
  obtain ⟨hb, F, ho, hh⟩ := h
  exact ⟨hb, fun k => F (f k), ⟨fun k => ho.lo _, fun k => ho.hi _, fun k j b h1 h2 => hf _ _ (ho.one _ _ _ h1 h2)⟩, fun k a e => hh _ _ (hl k a e)⟩
theorem perm_map {l l' : List Asn} (h : l.Perm l') : ∃ f : Nat → Nat, (∀ i j, f i = f j → i = j) ∧ ∀ j, l'[j]? = l[f j]? := by
  induction h with
  | nil => exact ⟨id, fun _ _ h => h, fun _ => rfl⟩
  | cons x _ ih =>
    obtain ⟨f, h1, h2⟩ := ih
    refine ⟨fun j => match j with | 0 => 0 | j + 1 => f j + 1, fun i j e => ?_, fun j => ?_⟩
    · cases i <;> cases j <;> simp at e
      · rfl
      · rw [h1 _ _ e]
    · cases j
      · rfl
      · simpa using h2 _
  | swap x y l =>
    refine ⟨fun j => match j with | 0 => 1 | 1 => 0 | j + 2 => j + 2, fun i j e => ?_, fun j => ?_⟩
    · match i, j with
      | 0, 0 => rfl
      | 0, 1 => simp at e
      | 0, j + 2 => simp at e
      | 1, 0 => simp at e
      | 1, 1 => rfl
      | 1, j + 2 => simp at e
      | i + 2, 0 => simp at e
      | i + 2, 1 => simp at e
      | i + 2, j + 2 => simpa using e
    · match j with
      | 0 => rfl
      | 1 => rfl
      | j + 2 => rfl
  | trans _ _ ih1 ih2 =>
    obtain ⟨f, f1, f2⟩ := ih1
    obtain ⟨g, g1, g2⟩ := ih2
    exact ⟨fun j => f (g j), fun i j e => g1 _ _ (f1 _ _ e), fun j => (g2 j).trans (f2 _)⟩
theorem St.perm {w0 w : World} {l l' : List Asn} (h : St w0 l w) (p : l.Perm l') : St w0 l' w := by
  obtain ⟨f, h1, h2⟩ := perm_map p
  exact h.map f h1 fun j a e => by rw [← h2]; exact e
theorem St.swap {w0 w : World} {a b : Asn} {l : List Asn} (h : St w0 (a :: b :: l) w) : St w0 (b :: a :: l) w := h.perm (List.Perm.swap _ _ _)
theorem St.tail {w0 w : World} {a : Asn} {l : List Asn} (h : St w0 (a :: l) w) : St w0 l w := h.map (· + 1) (fun i j e => by omega) fun j a e => by simpa using e
theorem cons_erase_perm {l : List Asn} : ∀ {k : Nat} (h : k < l.length), (l[k] :: l.eraseIdx k).Perm l := by
  induction l with
  | nil => intro k h; simp at h
  | cons x l ih =>
    intro k h
    cases k with
    | zero => simp
    | succ k =>
      have hk : k < l.length := by simpa using h
      exact (List.Perm.swap _ _ _).trans ((ih hk).cons x)
/-- Without the second one. -/
theorem St.drop1 {w0 w : World} {a b : Asn} {l : List Asn} (h : St w0 (a :: b :: l) w) : St w0 (a :: l) w := h.swap.tail
theorem St.drop2 {w0 w : World} {a b c : Asn} {l : List Asn} (h : St w0 (a :: b :: c :: l) w) : St w0 (a :: l) w := h.drop1.drop1
theorem St.drop2' {w0 w : World} {m a b c : Asn} {l : List Asn} (h : St w0 (m :: a :: b :: c :: l) w) : St w0 (m :: a :: l) w :=
  h.map (fun j => if j < 2 then j else j + 2) (fun i j e => by by_cases c : i < 2 <;> by_cases d : j < 2 <;> simp only [c, d, if_true, if_false] at e <;> omega) fun j x e => by
    match j with
    | 0 => exact e
    | 1 => exact e
    | j + 2 => exact e
theorem St.drop1' {w0 w : World} {m a b : Asn} {l : List Asn} (h : St w0 (m :: a :: b :: l) w) : St w0 (m :: a :: l) w :=
  h.perm (((List.Perm.swap _ _ _).cons m).trans (List.Perm.swap _ _ _)) |>.tail
theorem St.drop45 {w0 w : World} {m a b c d e : Asn} {l : List Asn} (h : St w0 (m :: a :: b :: c :: d :: e :: l) w) : St w0 (m :: a :: b :: c :: l) w :=
  h.map (fun j => if j < 4 then j else j + 2) (fun i j e => by by_cases c : i < 4 <;> by_cases d : j < 4 <;> simp only [c, d, if_true, if_false] at e <;> omega) fun j x e => by
    match j with
    | 0 => exact e
    | 1 => exact e
    | 2 => exact e
    | 3 => exact e
    | j + 4 => exact e
theorem St.rot3 {w0 w : World} {a b c : Asn} {l : List Asn} (h : St w0 (a :: b :: c :: l) w) : St w0 (b :: c :: a :: l) w :=
  h.perm ((List.Perm.swap b a _).trans ((List.Perm.swap c a _).cons b))
/-- Two new ones behind the first two. -/
theorem St.rot4 {w0 w : World} {a b c d : Asn} {l : List Asn} (h : St w0 (a :: b :: c :: d :: l) w) : St w0 (c :: d :: b :: a :: l) w :=
  h.perm (((List.Perm.swap _ _ _).trans ((((List.Perm.swap c a _).cons b).trans (List.Perm.swap c b _)).trans ((((List.Perm.swap d a l).cons b).trans (List.Perm.swap d b _)).cons c))))
theorem St.front {w0 w : World} {l : List Asn} (h : St w0 l w) (k : Nat) {a : Asn} (e : l[k]? = some a) : St w0 (a :: l.eraseIdx k) w := by
  obtain ⟨hk, rfl⟩ := List.getElem?_eq_some_iff.1 e
  exact h.perm (cons_erase_perm hk).symm
theorem set_erase (l : List Asn) (k : Nat) (a : Asn) : (l.set k a).eraseIdx k = l.eraseIdx k := by
  induction l generalizing k with
  | nil => rfl
  | cons x l ih => cases k with
    | zero => rfl
    | succ k => show x :: (l.set k a).eraseIdx k = x :: l.eraseIdx k; rw [ih]
theorem St.back {w0 w : World} {l : List Asn} {a : Asn} (k : Nat) (hk : k < l.length) (h : St w0 (a :: l.eraseIdx k) w) : St w0 (l.set k a) w := by
  have e : (l.set k a).eraseIdx k = l.eraseIdx k := set_erase l k a
  refine h.perm ?_
  rw [← e]
  have hk' : k < (l.set k a).length := by simpa using hk
  have := cons_erase_perm hk'
  simpa using this
/-- Behind what only makes memory. -/
theorem St.below {w0 w w' : World} {l : List Asn} (h : St w0 l w) (hb : Below w.heap.size w w') : St w0 l w' := by
  obtain ⟨hb0, F, ho, hh⟩ := h
  exact ⟨hb0.trans (hb.mono hb0.size), F, ⟨ho.lo, fun k b hf => Nat.lt_of_lt_of_le (ho.hi k b hf) hb.size, ho.one⟩, fun k a e => a.mono (hh k a e) fun b hlt hf => ⟨hf, hb.block b hlt⟩⟩
theorem St.drew {w0 w : World} {l : List Asn} (h : St w0 l w) : St w0 l w.drew := h.below (bl_drew (bl_refl w))
theorem St.drewN {w0 w : World} {l : List Asn} (h : St w0 l w) (n : Nat) : St w0 l (w.drewN n) := h.below (bl_drewN (bl_refl w) n)
/-- The world before the beginning may be forgotten. -/
theorem St.from_ {w0 w1 w : World} {l : List Asn} (h : St w1 l w) (hb : Below w0.heap.size w0 w1) : St w0 l w := by
  obtain ⟨hb1, F, ho, hh⟩ := h
  exact ⟨hb.trans (hb1.mono hb.size), F, ⟨fun k b hf => Nat.le_trans hb.size (ho.lo k b hf), ho.hi, ho.one⟩, hh⟩
/-- The first thing, with its blocks; it may become another one. -/
theorem St.opens {w0 w : World} {a : Asn} {l : List Asn} (h : St w0 (a :: l) w) : ∃ fp : Nat → Prop, a.P fp w ∧ ∀ (a' : Asn) (w' : World), (∃ fp' : Nat → Prop, a'.P fp' w' ∧ (∀ b, fp' b → b < w.heap.size → fp b) ∧ Str w w' ∧ ∀ b, b < w.heap.size → ¬ fp b → w'.heap[b]? = w.heap[b]?) → St w0 (a' :: l) w' := by
  obtain ⟨hb0, F, ho, hh⟩ := h
  refine ⟨F 0, hh 0 a rfl, fun a' w' hc => ?_⟩
  obtain ⟨fp', h1, h2, h3, h4⟩ := hc
  have old : ∀ b, b < w0.heap.size → w'.heap[b]? = w.heap[b]? := fun b hb => h4 b (Nat.lt_of_lt_of_le hb hb0.size) fun hf => by have := ho.lo 0 b hf; omega
  have oth : ∀ k b, F (k + 1) b → w'.heap[b]? = w.heap[b]? := fun k b hf => h4 b (ho.hi _ _ hf) fun h0 => by have := ho.one _ _ _ hf h0; omega
  refine ⟨⟨h3.os.trans hb0.os, h3.tape.trans hb0.tape, h3.output.trans hb0.output, Nat.le_trans hb0.size h3.size, fun b hb => (old b hb).trans (hb0.block b hb)⟩,
    fun k b => match k with | 0 => fp' b ∧ b < w'.heap.size ∧ w0.heap.size ≤ b | k + 1 => F (k + 1) b, ⟨fun k b hf => ?_, fun k b hf => ?_, fun k j b h1 h5 => ?_⟩, fun k x e => ?_⟩
  · cases k
    · exact hf.2.2
    · exact ho.lo _ _ hf
  · cases k
    · exact hf.2.1
    · exact Nat.lt_of_lt_of_le (ho.hi _ _ hf) h3.size
  · cases k <;> cases j
    · rfl
    · have := ho.one _ _ _ (h2 b h1.1 (ho.hi _ _ h5)) h5; omega
    · have := ho.one _ _ _ h1 (h2 b h5.1 (ho.hi _ _ h1)); omega
    · exact ho.one _ _ _ h1 h5
  · cases k with
    | zero =>
      simp only [List.getElem?_cons_zero, Option.some.injEq] at e
      subst e
      refine a'.mono h1 fun b hlt hf => ⟨⟨hf, hlt, ?_⟩, rfl⟩
      rcases Nat.lt_or_ge b w.heap.size with h6 | h6
      · exact ho.lo 0 b (h2 b hf h6)
      · have := hb0.size; omega
    | succ k =>
      simp only [List.getElem?_cons_succ] at e
      exact x.mono (hh (k + 1) x (by simpa using e)) fun b hlt hf => ⟨hf, oth k b hf⟩
theorem St.change {w0 w w' : World} {a a' : Asn} {l : List Asn} (h : St w0 (a :: l) w)
    (hc : ∀ fp : Nat → Prop, a.P fp w → ∃ fp' : Nat → Prop, a'.P fp' w' ∧ (∀ b, fp' b → b < w.heap.size → fp b) ∧ Str w w' ∧ ∀ b, b < w.heap.size → ¬ fp b → w'.heap[b]? = w.heap[b]?) : St w0 (a' :: l) w' := by
  obtain ⟨fp, h1, h2⟩ := h.opens
  exact h2 a' w' (hc fp h1)
/-- A thing that is new. -/
theorem St.more {w0 w w' : World} {a : Asn} {l : List Asn} (h : St w0 l w) (hb : Below w.heap.size w w') (ha : a.P (fun b => w.heap.size ≤ b) w') : St w0 (a :: l) w' := by
  obtain ⟨hb0, F, ho, hh⟩ := h
  refine ⟨hb0.trans (hb.mono hb0.size), fun k b => match k with | 0 => w.heap.size ≤ b ∧ b < w'.heap.size | k + 1 => F k b, ⟨fun k b hf => ?_, fun k b hf => ?_, fun k j b h1 h5 => ?_⟩, fun k x e => ?_⟩
  · cases k
    · exact Nat.le_trans hb0.size hf.1
    · exact ho.lo _ _ hf
  · cases k
    · exact hf.2
    · exact Nat.lt_of_lt_of_le (ho.hi _ _ hf) hb.size
  · cases k <;> cases j
    · rfl
    · have := ho.hi _ _ h5; have := h1.1; omega
    · have := ho.hi _ _ h1; have := h5.1; omega
    · rw [ho.one _ _ _ h1 h5]
  · cases k with
    | zero =>
      simp only [List.getElem?_cons_zero, Option.some.injEq] at e
      subst e
      exact a.mono ha fun b hlt hf => ⟨⟨hf, hlt⟩, rfl⟩
    | succ k =>
      simp only [List.getElem?_cons_succ] at e
      exact x.mono (hh k x e) fun b hlt hf => ⟨hf, hb.block b hlt⟩

/-- A block of cells. -/
def boxA (p : Nat) (c : Array Value) (T : TypeId) : Asn := ⟨fun fp w => fp p ∧ w.heap[p]? = some (.cells c T (0, 0)), fun h k => by
  have l := lt_of_heap h.2
  exact ⟨(k p l h.1).1, (k p l h.1).2.trans h.2⟩⟩
theorem St.cells {w0 w : World} {l : List Asn} (h : St w0 l w) (k : Nat) {p : Nat} {c : Array Value} {T : TypeId} (e : l[k]? = some (boxA p c T)) : w.heap[p]? = some (.cells c T (0, 0)) := by
  obtain ⟨_, F, _, hh⟩ := h
  exact (hh k _ e).2
theorem St.set {w0 w : World} {p : Nat} {c : Array Value} {T : TypeId} {l : List Asn} (h : St w0 (boxA p c T :: l) w) (k : Nat) (v : Value) : St w0 (boxA p (c.setIfInBounds k v) T :: l) (w.setCell ⟨p, k, none⟩ v) :=
  h.change fun fp hp => ⟨fp, ⟨hp.1, heap_set hp.2⟩, fun b hb _ => hb, (Str.refl w).set _ _, fun b _ hb => heap_set_ne fun e => hb (by rw [e]; exact hp.1)⟩
theorem St.alloc {w0 w : World} {l : List Asn} (h : St w0 l w) (c : Array Value) (T : TypeId) : St w0 (boxA w.heap.size c T :: l) (w.alloc (.cells c T)) :=
  h.more (bl_alloc (bl_refl w) _) ⟨Nat.le_refl _, heap_new rfl⟩
theorem St.setAt {w0 w : World} {l : List Asn} (h : St w0 l w) (k : Nat) {p : Nat} {c : Array Value} {T : TypeId} (e : l[k]? = some (boxA p c T)) (j : Nat) (v : Value) : St w0 (l.set k (boxA p (c.setIfInBounds j v) T)) (w.setCell ⟨p, j, none⟩ v) :=
  ((h.front k e).set j v).back k (List.getElem?_eq_some_iff.1 e).1
def okC (n s h : Int) : Bool := decide (1 ≤ n ∧ n ≤ 64 ∧ 0 ≤ s ∧ s ≤ 16 ∧ 0 ≤ h ∧ h ≤ 64)
theorem okC_bounds {n s h : Int} (hk : okC n s h = true) : 1 ≤ n ∧ n ≤ 64 ∧ 0 ≤ s ∧ s ≤ 16 ∧ 0 ≤ h ∧ h ≤ 64 := by simpa [okC] using hk
abbrev cfgV (n s h t : Int) : Value := .agg #[.int .i64 n, .int .i64 s, .int .i64 h, .int .u32 t]

set_option maxHeartbeats 400000 in
theorem check_any (n s h t : Int) (w : World) :
    Calls Try.prog 17 #[cfgV n s h t] w fun e w' => e = .returned (.int .i64 (if okC n s h = true then 0 else 1)) ∧ Below w.heap.size w w' := by
  unfold okC
  by_cases h1 : n < 1
  · rw [if_neg (by simp; omega)]
    go_enter Try.func17, Try.ntmps17
    go_wp2
    go_ret
    exact ⟨rfl, bl_alloc (bl_refl _) _⟩
  by_cases h2 : 64 < n
  · rw [if_neg (by simp; omega)]
    go_enter Try.func17, Try.ntmps17
    go_wp2
    go_ret
    exact ⟨rfl, bl_alloc (bl_refl _) _⟩
  by_cases h3 : s < 0
  · rw [if_neg (by simp; omega)]
    go_enter Try.func17, Try.ntmps17
    go_wp2
    go_ret
    exact ⟨rfl, bl_alloc (bl_refl _) _⟩
  by_cases h4 : 16 < s
  · rw [if_neg (by simp; omega)]
    go_enter Try.func17, Try.ntmps17
    go_wp2
    go_ret
    exact ⟨rfl, bl_alloc (bl_refl _) _⟩
  by_cases h5 : h < 0
  · rw [if_neg (by simp; omega)]
    go_enter Try.func17, Try.ntmps17
    go_wp2
    go_ret
    exact ⟨rfl, bl_alloc (bl_refl _) _⟩
  by_cases h6 : 64 < h
  · rw [if_neg (by simp; omega)]
    go_enter Try.func17, Try.ntmps17
    go_wp2
    go_ret
    exact ⟨rfl, bl_alloc (bl_refl _) _⟩
  · rw [if_pos (by simp; omega)]
    go_enter Try.func17, Try.ntmps17
    go_wp2
    go_ret
    exact ⟨rfl, bl_alloc (bl_refl _) _⟩

end Go.Proofs.Ytkcpfoghjoalnaa
namespace Go.Proofs.Ytkcpfoghjoalnaa
open Go.RowKit
set_option linter.unusedVariables false
set_option linter.unusedSimpArgs false


theorem check_yes (n s h t : Int) (w : World) (hk : okC n s h = true) :
    Calls Try.prog 17 #[.agg #[.int .i64 n, .int .i64 s, .int .i64 h, .int .u32 t]] w fun e w' => e = .returned (.int .i64 0) ∧ Below w.heap.size w w' := by
  have := check_any n s h t w
  rw [if_pos hk] at this
  exact this
theorem check_no (n s h t : Int) (w : World) (hk : okC n s h = false) :
    Calls Try.prog 17 #[.agg #[.int .i64 n, .int .i64 s, .int .i64 h, .int .u32 t]] w fun e w' => e = .returned (.int .i64 1) ∧ Below w.heap.size w w' := by
  have := check_any n s h t w
  rw [if_neg (by simp [hk])] at this
  exact this
theorem cells4 {w : World} {b : Nat} {a0 a1 a2 a3 : Value} {e : TypeId} (h : w.heap[b]? = some (.cells #[a0, a1, a2, a3] e (0, 0))) : w.cell? ⟨b, 0, none⟩ = some a0 ∧ w.cell? ⟨b, 1, none⟩ = some a1 ∧ w.cell? ⟨b, 2, none⟩ = some a2 ∧ w.cell? ⟨b, 3, none⟩ = some a3 := ⟨cell_of h 0, cell_of h 1, cell_of h 2, cell_of h 3⟩

def pickI (c n : Int) : Int := (if c < 0 then -(c + 1) else c) % n
theorem pickI_rng {c n : Int} (h : 0 < n) : 0 ≤ pickI c n ∧ pickI c n < n := ⟨Int.emod_nonneg _ (by omega), Int.emod_lt_of_pos _ h⟩
def okE (n s h bud base : Int) : Bool := okC n s h && decide (0 ≤ bud ∧ bud ≤ 16 ∧ 1 ≤ base ∧ base ≤ 64)
abbrev cfgE (n s h t bud base wait : Int) : Value := .agg #[.int .i64 n, .int .i64 s, .int .i64 h, .int .u32 t, .int .i64 bud, .int .i64 base, .int .u64 wait]
abbrev thrV (sv : Value) (rg ex : Int) : Value := .agg #[sv, .int .i64 rg, .int .i64 ex]
theorem cells7 {w : World} {b : Nat} {a0 a1 a2 a3 a4 a5 a6 : Value} {e : TypeId} (h : w.heap[b]? = some (.cells #[a0, a1, a2, a3, a4, a5, a6] e (0, 0))) : (w.cell? ⟨b, 0, none⟩ = some a0 ∧ w.cell? ⟨b, 1, none⟩ = some a1 ∧ w.cell? ⟨b, 2, none⟩ = some a2 ∧ w.cell? ⟨b, 3, none⟩ = some a3 ∧ w.cell? ⟨b, 4, none⟩ = some a4 ∧ w.cell? ⟨b, 5, none⟩ = some a5 ∧ w.cell? ⟨b, 6, none⟩ = some a6) ∧ b < w.heap.size := ⟨⟨cell_of h 0, cell_of h 1, cell_of h 2, cell_of h 3, cell_of h 4, cell_of h 5, cell_of h 6⟩, lt_of_heap h⟩

set_option maxHeartbeats 2000000 in
theorem e_check_no (n s h t bud base wait : Int) (w : World) (hk : okC n s h = false) :
    Calls Try.prog 15 #[cfgE n s h t bud base wait] w fun e w' => e = .returned (.int .i64 1) ∧ Below w.heap.size w w' := by
  go_enter Try.func15, Try.ntmps15
  go_wp2_with (go_at_call 17; refine (check_no n s h t _ hk).mono ?_; rintro e w1 ⟨rfl, k⟩; (have H1 := Lib.hid k); clear k; (have hb := (heap_new rfl : (w.alloc (.cells #[.int .i64 n, .int .i64 s, .int .i64 h, .int .u32 t, .int .i64 bud, .int .i64 base, .int .u64 wait] 28)).heap[w.heap.size]? = _)); (have hb2 := (H1.out.block w.heap.size (by simp)).trans hb); (obtain ⟨⟨d0, d1, d2, d3, d4, d5, d6⟩, ld⟩ := cells7 (hb2)); clear hb hb2)
  go_ret
  exact ⟨rfl, (bl_alloc (bl_refl w) _).trans (H1.out.mono (by simp))⟩

set_option maxHeartbeats 2000000 in
theorem e_check_b0 (n s h t bud base wait : Int) (w : World) (hk : okC n s h = true) (h0 : bud < 0) :
    Calls Try.prog 15 #[cfgE n s h t bud base wait] w fun e w' => e = .returned (.int .i64 1) ∧ Below w.heap.size w w' := by
  have g1 : decide (bud < 0) = true := decide_eq_true (by omega)
  go_enter Try.func15, Try.ntmps15
  go_wp2_with (go_at_call 17; refine (check_yes n s h t _ hk).mono ?_; rintro e w1 ⟨rfl, k⟩; (have H1 := Lib.hid k); clear k; (have hb := (heap_new rfl : (w.alloc (.cells #[.int .i64 n, .int .i64 s, .int .i64 h, .int .u32 t, .int .i64 bud, .int .i64 base, .int .u64 wait] 28)).heap[w.heap.size]? = _)); (have hb2 := (H1.out.block w.heap.size (by simp)).trans hb); (obtain ⟨⟨d0, d1, d2, d3, d4, d5, d6⟩, ld⟩ := cells7 (hb2)); clear hb hb2)
  go_ret
  exact ⟨rfl, (bl_alloc (bl_refl w) _).trans (H1.out.mono (by simp))⟩

set_option maxHeartbeats 2000000 in
theorem e_check_b1 (n s h t bud base wait : Int) (w : World) (hk : okC n s h = true) (h0 : 16 < bud) :
    Calls Try.prog 15 #[cfgE n s h t bud base wait] w fun e w' => e = .returned (.int .i64 1) ∧ Below w.heap.size w w' := by
  have g1 : decide (bud < 0) = false := decide_eq_false (by omega)
  have g2 : decide (16 < bud) = true := decide_eq_true (by omega)
  go_enter Try.func15, Try.ntmps15
  go_wp2_with (go_at_call 17; refine (check_yes n s h t _ hk).mono ?_; rintro e w1 ⟨rfl, k⟩; (have H1 := Lib.hid k); clear k; (have hb := (heap_new rfl : (w.alloc (.cells #[.int .i64 n, .int .i64 s, .int .i64 h, .int .u32 t, .int .i64 bud, .int .i64 base, .int .u64 wait] 28)).heap[w.heap.size]? = _)); (have hb2 := (H1.out.block w.heap.size (by simp)).trans hb); (obtain ⟨⟨d0, d1, d2, d3, d4, d5, d6⟩, ld⟩ := cells7 (hb2)); clear hb hb2)
  go_ret
  exact ⟨rfl, (bl_alloc (bl_refl w) _).trans (H1.out.mono (by simp))⟩

set_option maxHeartbeats 2000000 in
theorem e_check_x0 (n s h t bud base wait : Int) (w : World) (hk : okC n s h = true) (h0 : 0 ≤ bud) (h1 : bud ≤ 16) (h2 : base < 1) :
    Calls Try.prog 15 #[cfgE n s h t bud base wait] w fun e w' => e = .returned (.int .i64 1) ∧ Below w.heap.size w w' := by
  have g1 : decide (bud < 0) = false := decide_eq_false (by omega)
  have g2 : decide (16 < bud) = false := decide_eq_false (by omega)
  have g3 : decide (base < 1) = true := decide_eq_true (by omega)
  go_enter Try.func15, Try.ntmps15
  go_wp2_with (go_at_call 17; refine (check_yes n s h t _ hk).mono ?_; rintro e w1 ⟨rfl, k⟩; (have H1 := Lib.hid k); clear k; (have hb := (heap_new rfl : (w.alloc (.cells #[.int .i64 n, .int .i64 s, .int .i64 h, .int .u32 t, .int .i64 bud, .int .i64 base, .int .u64 wait] 28)).heap[w.heap.size]? = _)); (have hb2 := (H1.out.block w.heap.size (by simp)).trans hb); (obtain ⟨⟨d0, d1, d2, d3, d4, d5, d6⟩, ld⟩ := cells7 (hb2)); clear hb hb2)
  go_ret
  exact ⟨rfl, (bl_alloc (bl_refl w) _).trans (H1.out.mono (by simp))⟩

set_option maxHeartbeats 2000000 in
theorem e_check_x1 (n s h t bud base wait : Int) (w : World) (hk : okC n s h = true) (h0 : 0 ≤ bud) (h1 : bud ≤ 16) (h2 : 64 < base) :
    Calls Try.prog 15 #[cfgE n s h t bud base wait] w fun e w' => e = .returned (.int .i64 1) ∧ Below w.heap.size w w' := by
  have g1 : decide (bud < 0) = false := decide_eq_false (by omega)
  have g2 : decide (16 < bud) = false := decide_eq_false (by omega)
  have g3 : decide (base < 1) = false := decide_eq_false (by omega)
  have g4 : decide (64 < base) = true := decide_eq_true (by omega)
  go_enter Try.func15, Try.ntmps15
  go_wp2_with (go_at_call 17; refine (check_yes n s h t _ hk).mono ?_; rintro e w1 ⟨rfl, k⟩; (have H1 := Lib.hid k); clear k; (have hb := (heap_new rfl : (w.alloc (.cells #[.int .i64 n, .int .i64 s, .int .i64 h, .int .u32 t, .int .i64 bud, .int .i64 base, .int .u64 wait] 28)).heap[w.heap.size]? = _)); (have hb2 := (H1.out.block w.heap.size (by simp)).trans hb); (obtain ⟨⟨d0, d1, d2, d3, d4, d5, d6⟩, ld⟩ := cells7 (hb2)); clear hb hb2)
  go_ret
  exact ⟨rfl, (bl_alloc (bl_refl w) _).trans (H1.out.mono (by simp))⟩

set_option maxHeartbeats 2000000 in
theorem e_check_ok (n s h t bud base wait : Int) (w : World) (hk : okC n s h = true) (h0 : 0 ≤ bud) (h1 : bud ≤ 16) (h2 : 1 ≤ base) (h3 : base ≤ 64) :
    Calls Try.prog 15 #[cfgE n s h t bud base wait] w fun e w' => e = .returned (.int .i64 0) ∧ Below w.heap.size w w' := by
  have g1 : decide (bud < 0) = false := decide_eq_false (by omega)
  have g2 : decide (16 < bud) = false := decide_eq_false (by omega)
  have g3 : decide (base < 1) = false := decide_eq_false (by omega)
  have g4 : decide (64 < base) = false := decide_eq_false (by omega)
  go_enter Try.func15, Try.ntmps15
  go_wp2_with (go_at_call 17; refine (check_yes n s h t _ hk).mono ?_; rintro e w1 ⟨rfl, k⟩; (have H1 := Lib.hid k); clear k; (have hb := (heap_new rfl : (w.alloc (.cells #[.int .i64 n, .int .i64 s, .int .i64 h, .int .u32 t, .int .i64 bud, .int .i64 base, .int .u64 wait] 28)).heap[w.heap.size]? = _)); (have hb2 := (H1.out.block w.heap.size (by simp)).trans hb); (obtain ⟨⟨d0, d1, d2, d3, d4, d5, d6⟩, ld⟩ := cells7 (hb2)); clear hb hb2)
  go_ret
  exact ⟨rfl, (bl_alloc (bl_refl w) _).trans (H1.out.mono (by simp))⟩

theorem okE_iff {n s h bud base : Int} : okE n s h bud base = true ↔ okC n s h = true ∧ 0 ≤ bud ∧ bud ≤ 16 ∧ 1 ≤ base ∧ base ≤ 64 := by simp [okE]
theorem e_check_any (n s h t bud base wait : Int) (w : World) :
    Calls Try.prog 15 #[cfgE n s h t bud base wait] w fun e w' => e = .returned (.int .i64 (if okE n s h bud base = true then 0 else 1)) ∧ Below w.heap.size w w' := by
  cases hk : okC n s h with
  | false => rw [if_neg (fun c => by rw [okE_iff, hk] at c; cases c.1)]; exact e_check_no n s h t bud base wait w hk
  | true =>
    by_cases h0 : bud < 0
    · rw [if_neg (fun c => by rw [okE_iff] at c; omega)]; exact e_check_b0 n s h t bud base wait w hk h0
    by_cases h1 : 16 < bud
    · rw [if_neg (fun c => by rw [okE_iff] at c; omega)]; exact e_check_b1 n s h t bud base wait w hk h1
    by_cases h2 : base < 1
    · rw [if_neg (fun c => by rw [okE_iff] at c; omega)]; exact e_check_x0 n s h t bud base wait w hk (by omega) (by omega) h2
    by_cases h3 : 64 < base
    · rw [if_neg (fun c => by rw [okE_iff] at c; omega)]; exact e_check_x1 n s h t bud base wait w hk (by omega) (by omega) h3
    · rw [if_pos (okE_iff.2 ⟨hk, by omega, by omega, by omega, by omega⟩)]; exact e_check_ok n s h t bud base wait w hk (by omega) (by omega) (by omega) (by omega)

theorem add_zero' (g j : Nat) : (⟨g, 0, none⟩ : Addr).add j = ⟨g, j, none⟩ := by unfold Addr.add; split <;> simp_all
def sumN (xs : List Int) : Nat → Int
  | 0 => 0
  | k + 1 => sumN xs k + xs.getD k 0
def bVis (s : Int) : Int := if s = 0 then 0 else 69
def bPush (s bud : Int) : Int := 9 * (bud + 1) + 1 + bud * bVis s
def bPop (s bud : Int) : Int := 6 * (bud + 1) + 1 + bud * bVis s
theorem bVis_rng (s : Int) : 0 ≤ bVis s ∧ bVis s ≤ 69 := by unfold bVis; split <;> omega
theorem bMul {s bud : Int} (b0 : 0 ≤ bud) (b1 : bud ≤ 16) : 0 ≤ bud * bVis s ∧ bud * bVis s ≤ 1104 := by
  have h := bVis_rng s
  refine ⟨Int.mul_nonneg b0 h.1, ?_⟩
  have := Int.mul_le_mul b1 h.2 h.1 (by decide)
  omega
theorem sumN_rng {xs : List Int} (h : ∀ j, 0 ≤ xs.getD j 0 ∧ xs.getD j 0 ≤ 1000000) : ∀ k, 0 ≤ sumN xs k ∧ sumN xs k ≤ 1000000 * k
  | 0 => ⟨Int.le_refl _, by simp [sumN]⟩
  | k + 1 => by
    have h1 := sumN_rng h k
    have h2 := h k
    unfold sumN
    omega
theorem chk_ok {n s h t bud base wait : Int} (hok : okE n s h bud base = true) (w : World) : Calls Try.prog 15 #[cfgE n s h t bud base wait] w fun e w' => e = .returned (.int .i64 0) ∧ Below w.heap.size w w' := by
  have h1 := e_check_any n s h t bud base wait w
  rw [if_pos hok] at h1
  exact h1
set_option maxHeartbeats 4000000 in
theorem bsum (xs : List Int) (m : Nat) (A : Option Addr) (c : Nat) (x : Int) (n s h t bud base wait : Int) (w : World) (hok : okE n s h bud base = true) (hm : m ≤ 20) (hA : ∀ j, j < m → ∃ ad, A = some ad ∧ w.cell? (ad.add j) = some (.int .i64 (xs.getD j 0))) (hx : sumN xs m = x) (hr : ∀ j, 0 ≤ xs.getD j 0 ∧ xs.getD j 0 ≤ 1000000) :
    Calls Try.prog 12 #[cfgE n s h t bud base wait, .slice A m c] w fun e w' => e = .returned (.int .i64 x) ∧ Below w.heap.size w w' := by
  have HCK := Lib.hid (fun w => chk_ok (t := t) (wait := wait) hok w)
  have H := Lib.hid ((St.nil w).alloc #[.int .i64 n, .int .i64 s, .int .i64 h, .int .u32 t, .int .i64 bud, .int .i64 base, .int .u64 wait] 28)
  have HA := Lib.hid hA
  have HX := Lib.hid hx
  have HR := Lib.hid hr
  obtain ⟨⟨d0, d1, d2, d3, d4, d5, d6⟩, ld⟩ := cells7 (H.out.cells 0 rfl)
  clear hA hx hr hok
  go_enter Try.func12, Try.ntmps12
  go_wp2
  generalize hW : w.alloc (.cells #[.int .i64 n, .int .i64 s, .int .i64 h, .int .u32 t, .int .i64 bud, .int .i64 base, .int .u64 wait] 28) = W at *
  have HBW : Hid (Below w.heap.size w W) := Lib.hid (by rw [← hW]; exact bl_alloc (bl_refl _) _)
  clear hW
  go_loopg [5, 10] m (fun kq y z w' => ∃ j : Nat, y = .int .i64 (sumN xs j) ∧ z = .int .i64 (j : Int) ∧ j + kq = m ∧ w' = W)
  case atStart => exact ⟨0, rfl, rfl, by omega, rfl⟩
  case round =>
    obtain ⟨j, rfl, rfl, hj, rfl⟩ := hrel
    cases gk with
    | zero =>
      obtain rfl : j = m := by omega
      have c1 : decide ((j : Int) < (j : Int)) = false := by simp
      rw [HX.out]
      go_wp2_with (go_at_call 15; refine (HCK.out _).mono ?_; rintro e w1 ⟨rfl, k⟩; (have HB1 := Lib.hid k); clear k)
      go_ret
      exact ⟨rfl, HBW.out.trans (HB1.out.mono HBW.out.size)⟩
    | succ kk =>
      have c1 : decide ((j : Int) < (m : Int)) = true := decide_eq_true (by omega)
      obtain ⟨ad, rfl, hc⟩ := HA.out j (by omega)
      have hc2 := (HBW.out.cell (World.block_lt_of_cell? _ _ hc)).trans hc
      have i0 : (0 : Int) ≤ (j : Int) := by omega
      have i1 : (j : Int) < (m : Int) := by omega
      have r1 := sumN_rng HR.out j
      have r2 := HR.out j
      have ew : IntKind.i64.wrap (sumN xs j + xs.getD j 0) = sumN xs (j + 1) := by
        show _ = sumN xs j + xs.getD j 0
        rw [IntKind.wrap_i64]
        omega
      generalize xs.getD j 0 = xj at *
      clear hc r1 r2
      go_wp2
      go_roundg kk
      case measure => omega
      case rel => exact ⟨j + 1, by rfl, by rfl, by omega, rfl⟩
set_option maxRecDepth 20000 in
set_option maxHeartbeats 8000000 in
theorem b_tries (n s h t bud base wait : Int) (w : World) (hok : okE n s h bud base = true) :
    Calls Try.prog 13 #[cfgE n s h t bud base wait] w fun e w' => e = .returned (.int .i64 (3 * (bud + 1))) ∧ Below w.heap.size w w' := by
  obtain ⟨_, b0, b1, _⟩ := okE_iff.1 hok
  have HOK := Lib.hid hok
  have HBW : Hid (Below w.heap.size w (w.alloc (.cells #[.int .i64 n, .int .i64 s, .int .i64 h, .int .u32 t, .int .i64 bud, .int .i64 base, .int .u64 wait] 28))) := Lib.hid (bl_alloc (bl_refl _) _)
  have HCS : Hid (∀ w', Below ((w.alloc (.cells #[.int .i64 n, .int .i64 s, .int .i64 h, .int .u32 t, .int .i64 bud, .int .i64 base, .int .u64 wait] 28))).heap.size ((w.alloc (.cells #[.int .i64 n, .int .i64 s, .int .i64 h, .int .u32 t, .int .i64 bud, .int .i64 base, .int .u64 wait] 28))) w' → w'.cell? ⟨w.heap.size, 0, none⟩ = some (.int .i64 n) ∧ w'.cell? ⟨w.heap.size, 1, none⟩ = some (.int .i64 s) ∧ w'.cell? ⟨w.heap.size, 2, none⟩ = some (.int .i64 h) ∧ w'.cell? ⟨w.heap.size, 3, none⟩ = some (.int .u32 t) ∧ w'.cell? ⟨w.heap.size, 4, none⟩ = some (.int .i64 bud) ∧ w'.cell? ⟨w.heap.size, 5, none⟩ = some (.int .i64 base) ∧ w'.cell? ⟨w.heap.size, 6, none⟩ = some (.int .u64 wait)) := Lib.hid fun w' hb => (cells7 ((hb.block w.heap.size (by simp)).trans (heap_new rfl))).1
  obtain ⟨d0, d1, d2, d3, d4, d5, d6⟩ := HCS.out (w.alloc (.cells #[.int .i64 n, .int .i64 s, .int .i64 h, .int .u32 t, .int .i64 bud, .int .i64 base, .int .u64 wait] 28)) (bl_refl _)
  have e1 : IntKind.i64.wrap (bud + 1) = bud + 1 := by rw [IntKind.wrap_i64]; omega
  have e2 : IntKind.i64.wrap (3 * (bud + 1)) = 3 * (bud + 1) := by rw [IntKind.wrap_i64]; omega
  clear hok
  go_enter Try.func13, Try.ntmps13
  go_wp2
  go_ret
  exact ⟨rfl, bl_alloc (bl_refl _) _⟩
theorem lit_cells {w : World} {b : Nat} {xs : List Int} {e : TypeId} (h : w.heap[b]? = some (.cells (xs.map fun x => Value.int .i64 x).toArray e (0, 0))) : ∀ j, j < xs.length → ∃ ad, (some ⟨b, 0, none⟩ : Option Addr) = some ad ∧ w.cell? (ad.add j) = some (.int .i64 (xs.getD j 0)) := fun j hj =>
  ⟨_, rfl, by rw [add_zero', cell_of h]; simp [hj]⟩
theorem lit_645 {w : World} {b : Nat} {e : TypeId} (h : w.heap[b]? = some (.cells #[.int .i64 64, .int .i64 5] e (0, 0))) : ∀ j, j < 2 → ∃ ad, (some ⟨b, 0, none⟩ : Option Addr) = some ad ∧ w.cell? (ad.add j) = some (.int .i64 (([64, 5] : List Int).getD j 0)) := fun j hj =>
  ⟨_, rfl, by
    rw [add_zero', cell_of h]
    match j, hj with
    | 0, _ => rfl
    | 1, _ => rfl⟩
set_option maxRecDepth 20000 in
set_option maxHeartbeats 8000000 in
theorem b_visit0 (n s h t bud base wait : Int) (w : World) (hok : okE n s h bud base = true) (hs : s = 0) :
    Calls Try.prog 16 #[cfgE n s h t bud base wait] w fun e w' => e = .returned (.int .i64 0) ∧ Below w.heap.size w w' := by
  obtain ⟨_, b0, b1, _⟩ := okE_iff.1 hok
  have HOK := Lib.hid hok
  have HBW : Hid (Below w.heap.size w (w.alloc (.cells #[.int .i64 n, .int .i64 s, .int .i64 h, .int .u32 t, .int .i64 bud, .int .i64 base, .int .u64 wait] 28))) := Lib.hid (bl_alloc (bl_refl _) _)
  have HCS : Hid (∀ w', Below ((w.alloc (.cells #[.int .i64 n, .int .i64 s, .int .i64 h, .int .u32 t, .int .i64 bud, .int .i64 base, .int .u64 wait] 28))).heap.size ((w.alloc (.cells #[.int .i64 n, .int .i64 s, .int .i64 h, .int .u32 t, .int .i64 bud, .int .i64 base, .int .u64 wait] 28))) w' → w'.cell? ⟨w.heap.size, 0, none⟩ = some (.int .i64 n) ∧ w'.cell? ⟨w.heap.size, 1, none⟩ = some (.int .i64 s) ∧ w'.cell? ⟨w.heap.size, 2, none⟩ = some (.int .i64 h) ∧ w'.cell? ⟨w.heap.size, 3, none⟩ = some (.int .u32 t) ∧ w'.cell? ⟨w.heap.size, 4, none⟩ = some (.int .i64 bud) ∧ w'.cell? ⟨w.heap.size, 5, none⟩ = some (.int .i64 base) ∧ w'.cell? ⟨w.heap.size, 6, none⟩ = some (.int .u64 wait)) := Lib.hid fun w' hb => (cells7 ((hb.block w.heap.size (by simp)).trans (heap_new rfl))).1
  obtain ⟨d0, d1, d2, d3, d4, d5, d6⟩ := HCS.out (w.alloc (.cells #[.int .i64 n, .int .i64 s, .int .i64 h, .int .u32 t, .int .i64 bud, .int .i64 base, .int .u64 wait] 28)) (bl_refl _)
  have z0 : (s == 0) = true := by simp; exact hs
  clear hok
  go_enter Try.func16, Try.ntmps16
  go_wp2
  go_ret
  exact ⟨rfl, bl_alloc (bl_refl _) _⟩
set_option maxRecDepth 20000 in
set_option maxHeartbeats 8000000 in
theorem b_visit1 (n s h t bud base wait : Int) (w : World) (hok : okE n s h bud base = true) (hs : s ≠ 0) (x : Int) (hx : x = 69) :
    Calls Try.prog 16 #[cfgE n s h t bud base wait] w fun e w' => e = .returned (.int .i64 x) ∧ Below w.heap.size w w' := by
  obtain ⟨_, b0, b1, _⟩ := okE_iff.1 hok
  have HOK := Lib.hid hok
  have HBW : Hid (Below w.heap.size w (w.alloc (.cells #[.int .i64 n, .int .i64 s, .int .i64 h, .int .u32 t, .int .i64 bud, .int .i64 base, .int .u64 wait] 28))) := Lib.hid (bl_alloc (bl_refl _) _)
  have HCS : Hid (∀ w', Below ((w.alloc (.cells #[.int .i64 n, .int .i64 s, .int .i64 h, .int .u32 t, .int .i64 bud, .int .i64 base, .int .u64 wait] 28))).heap.size ((w.alloc (.cells #[.int .i64 n, .int .i64 s, .int .i64 h, .int .u32 t, .int .i64 bud, .int .i64 base, .int .u64 wait] 28))) w' → w'.cell? ⟨w.heap.size, 0, none⟩ = some (.int .i64 n) ∧ w'.cell? ⟨w.heap.size, 1, none⟩ = some (.int .i64 s) ∧ w'.cell? ⟨w.heap.size, 2, none⟩ = some (.int .i64 h) ∧ w'.cell? ⟨w.heap.size, 3, none⟩ = some (.int .u32 t) ∧ w'.cell? ⟨w.heap.size, 4, none⟩ = some (.int .i64 bud) ∧ w'.cell? ⟨w.heap.size, 5, none⟩ = some (.int .i64 base) ∧ w'.cell? ⟨w.heap.size, 6, none⟩ = some (.int .u64 wait)) := Lib.hid fun w' hb => (cells7 ((hb.block w.heap.size (by simp)).trans (heap_new rfl))).1
  obtain ⟨d0, d1, d2, d3, d4, d5, d6⟩ := HCS.out (w.alloc (.cells #[.int .i64 n, .int .i64 s, .int .i64 h, .int .u32 t, .int .i64 bud, .int .i64 base, .int .u64 wait] 28)) (bl_refl _)
  have z0 : (s == 0) = false := by simp; exact hs
  have HSX : sumN [64, 5] 2 = x := by rw [hx]; simp [sumN]
  have HRR : ∀ j, 0 ≤ ([64, 5] : List Int).getD j 0 ∧ ([64, 5] : List Int).getD j 0 ≤ 1000000 := fun j => by match j with | 0 => exact ⟨by decide, by decide⟩ | 1 => exact ⟨by decide, by decide⟩ | j + 2 => exact ⟨by simp, by simp⟩
  have HS2 := Lib.hid HSX
  have HL := Lib.hid (lit_645 (w := ((w.alloc (.cells #[.int .i64 n, .int .i64 s, .int .i64 h, .int .u32 t, .int .i64 bud, .int .i64 base, .int .u64 wait] 28))).alloc (.cells #[.int .i64 64, .int .i64 5] 3)) (b := w.heap.size + 1) (e := 3) (by have h0 := ((St.nil w).alloc #[.int .i64 n, .int .i64 s, .int .i64 h, .int .u32 t, .int .i64 bud, .int .i64 base, .int .u64 wait] 28).alloc #[.int .i64 64, .int .i64 5] 3; rw [World.size_alloc] at h0; exact h0.cells 0 rfl))
  have HR2 := Lib.hid HRR
  clear HSX HRR hx
  clear hok
  go_enter Try.func16, Try.ntmps16
  go_wp2_with (go_at_call 12; refine (bsum [64, 5] 2 (some ⟨w.heap.size + 1, 0, none⟩) 2 x n s h t bud base wait _ HOK.out (by decide) HL.out HS2.out HR2.out).mono ?_; rintro e w1 ⟨rfl, k⟩; (have HB1 := Lib.hid k); clear k)
  go_ret
  exact ⟨rfl, HBW.out.trans (((bl_alloc (bl_refl (w.alloc (.cells #[.int .i64 n, .int .i64 s, .int .i64 h, .int .u32 t, .int .i64 bud, .int .i64 base, .int .u64 wait] 28))) _).trans (HB1.out.mono (by simp))).mono HBW.out.size)⟩
theorem b_visit (n s h t bud base wait : Int) (w : World) (hok : okE n s h bud base = true) :
    Calls Try.prog 16 #[cfgE n s h t bud base wait] w fun e w' => e = .returned (.int .i64 (bVis s)) ∧ Below w.heap.size w w' := by
  unfold bVis
  by_cases hs : s = 0
  · rw [if_pos hs]; exact b_visit0 n s h t bud base wait w hok hs
  · rw [if_neg hs]; exact b_visit1 n s h t bud base wait w hok hs _ rfl
set_option maxRecDepth 20000 in
set_option maxHeartbeats 8000000 in
theorem b_visits (n s h t bud base wait : Int) (w : World) (hok : okE n s h bud base = true) :
    Calls Try.prog 14 #[cfgE n s h t bud base wait] w fun e w' => e = .returned (.int .i64 (bud * bVis s)) ∧ Below w.heap.size w w' := by
  obtain ⟨_, b0, b1, _⟩ := okE_iff.1 hok
  have HOK := Lib.hid hok
  have HBW : Hid (Below w.heap.size w (w.alloc (.cells #[.int .i64 n, .int .i64 s, .int .i64 h, .int .u32 t, .int .i64 bud, .int .i64 base, .int .u64 wait] 28))) := Lib.hid (bl_alloc (bl_refl _) _)
  have HCS : Hid (∀ w', Below ((w.alloc (.cells #[.int .i64 n, .int .i64 s, .int .i64 h, .int .u32 t, .int .i64 bud, .int .i64 base, .int .u64 wait] 28))).heap.size ((w.alloc (.cells #[.int .i64 n, .int .i64 s, .int .i64 h, .int .u32 t, .int .i64 bud, .int .i64 base, .int .u64 wait] 28))) w' → w'.cell? ⟨w.heap.size, 0, none⟩ = some (.int .i64 n) ∧ w'.cell? ⟨w.heap.size, 1, none⟩ = some (.int .i64 s) ∧ w'.cell? ⟨w.heap.size, 2, none⟩ = some (.int .i64 h) ∧ w'.cell? ⟨w.heap.size, 3, none⟩ = some (.int .u32 t) ∧ w'.cell? ⟨w.heap.size, 4, none⟩ = some (.int .i64 bud) ∧ w'.cell? ⟨w.heap.size, 5, none⟩ = some (.int .i64 base) ∧ w'.cell? ⟨w.heap.size, 6, none⟩ = some (.int .u64 wait)) := Lib.hid fun w' hb => (cells7 ((hb.block w.heap.size (by simp)).trans (heap_new rfl))).1
  obtain ⟨d0, d1, d2, d3, d4, d5, d6⟩ := HCS.out (w.alloc (.cells #[.int .i64 n, .int .i64 s, .int .i64 h, .int .u32 t, .int .i64 bud, .int .i64 base, .int .u64 wait] 28)) (bl_refl _)
  have hm := bMul (s := s) b0 b1
  have e1 : IntKind.i64.wrap (bud * bVis s) = bud * bVis s := by rw [IntKind.wrap_i64]; omega
  have HV := Lib.hid (fun w => b_visit n s h t bud base wait w HOK.out)
  generalize bVis s = bv at *
  clear hok
  go_enter Try.func14, Try.ntmps14
  go_upto_region 1 with (fail)
  go_region_held3 (fun w' => w'.cell? ⟨w.heap.size, 0, none⟩ = some (.int .i64 n) ∧ w'.cell? ⟨w.heap.size, 1, none⟩ = some (.int .i64 s) ∧ w'.cell? ⟨w.heap.size, 2, none⟩ = some (.int .i64 h) ∧ w'.cell? ⟨w.heap.size, 3, none⟩ = some (.int .u32 t) ∧ w'.cell? ⟨w.heap.size, 4, none⟩ = some (.int .i64 bud) ∧ w'.cell? ⟨w.heap.size, 5, none⟩ = some (.int .i64 base) ∧ w'.cell? ⟨w.heap.size, 6, none⟩ = some (.int .u64 wait)) (first | exact HCS.out _ H1.out | exact HCS.out _ (bl_drew (bl_refl _)) | exact HCS.out _ (bl_refl _)) (first | (go_at_call 16; refine (HV.out _).mono ?_; rintro e w1 ⟨rfl, k⟩; (have H1 := Lib.hid ((bl_drew (bl_refl (w.alloc (.cells #[.int .i64 n, .int .i64 s, .int .i64 h, .int .u32 t, .int .i64 bud, .int .i64 base, .int .u64 wait] 28)))).trans k)); clear k))
  go_wp2
  go_ret
  exact ⟨rfl, HBW.out.trans (H1.out.mono HBW.out.size)⟩
set_option maxRecDepth 20000 in
set_option maxHeartbeats 8000000 in
theorem b_push (n s h t bud base wait : Int) (w : World) (hok : okE n s h bud base = true) :
    Calls Try.prog 7 #[cfgE n s h t bud base wait] w fun e w' => e = .returned (.int .i64 (bPush s bud)) ∧ Below w.heap.size w w' := by
  obtain ⟨_, b0, b1, _⟩ := okE_iff.1 hok
  have HOK := Lib.hid hok
  have HBW : Hid (Below w.heap.size w (w.alloc (.cells #[.int .i64 n, .int .i64 s, .int .i64 h, .int .u32 t, .int .i64 bud, .int .i64 base, .int .u64 wait] 28))) := Lib.hid (bl_alloc (bl_refl _) _)
  have HCS : Hid (∀ w', Below ((w.alloc (.cells #[.int .i64 n, .int .i64 s, .int .i64 h, .int .u32 t, .int .i64 bud, .int .i64 base, .int .u64 wait] 28))).heap.size ((w.alloc (.cells #[.int .i64 n, .int .i64 s, .int .i64 h, .int .u32 t, .int .i64 bud, .int .i64 base, .int .u64 wait] 28))) w' → w'.cell? ⟨w.heap.size, 0, none⟩ = some (.int .i64 n) ∧ w'.cell? ⟨w.heap.size, 1, none⟩ = some (.int .i64 s) ∧ w'.cell? ⟨w.heap.size, 2, none⟩ = some (.int .i64 h) ∧ w'.cell? ⟨w.heap.size, 3, none⟩ = some (.int .u32 t) ∧ w'.cell? ⟨w.heap.size, 4, none⟩ = some (.int .i64 bud) ∧ w'.cell? ⟨w.heap.size, 5, none⟩ = some (.int .i64 base) ∧ w'.cell? ⟨w.heap.size, 6, none⟩ = some (.int .u64 wait)) := Lib.hid fun w' hb => (cells7 ((hb.block w.heap.size (by simp)).trans (heap_new rfl))).1
  obtain ⟨d0, d1, d2, d3, d4, d5, d6⟩ := HCS.out (w.alloc (.cells #[.int .i64 n, .int .i64 s, .int .i64 h, .int .u32 t, .int .i64 bud, .int .i64 base, .int .u64 wait] 28)) (bl_refl _)
  have hm := bMul (s := s) b0 b1
  obtain ⟨tr, htr⟩ : ∃ tr, 3 * (bud + 1) = tr := ⟨_, rfl⟩
  obtain ⟨vi, hvi⟩ : ∃ vi, bud * bVis s = vi := ⟨_, rfl⟩
  obtain ⟨tot, htot⟩ : ∃ tot, (bPush s bud) = tot := ⟨_, rfl⟩
  have HTOT : Hid (sumN [tr, 1, tr, vi, tr] 5 = tot) := Lib.hid (by
    rw [← htot]
    unfold bPush
    rw [hvi]
    simp only [sumN, List.getD_cons_zero, List.getD_cons_succ]
    omega)
  rw [hvi] at hm
  have HT := Lib.hid (fun w => b_tries n s h t bud base wait w HOK.out)
  have HV := Lib.hid (fun w => b_visits n s h t bud base wait w HOK.out)
  rw [htr] at HT
  rw [hvi] at HV
  rw [htot]
  clear htot hvi
  clear hok
  go_enter Try.func7, Try.ntmps7
  go_upto_region 1 with (fail)
  go_region_held3 (fun w' => w'.cell? ⟨w.heap.size, 0, none⟩ = some (.int .i64 n) ∧ w'.cell? ⟨w.heap.size, 1, none⟩ = some (.int .i64 s) ∧ w'.cell? ⟨w.heap.size, 2, none⟩ = some (.int .i64 h) ∧ w'.cell? ⟨w.heap.size, 3, none⟩ = some (.int .u32 t) ∧ w'.cell? ⟨w.heap.size, 4, none⟩ = some (.int .i64 bud) ∧ w'.cell? ⟨w.heap.size, 5, none⟩ = some (.int .i64 base) ∧ w'.cell? ⟨w.heap.size, 6, none⟩ = some (.int .u64 wait)) (first | exact HCS.out _ H5.out | exact HCS.out _ (H4.out.trans ((bl_alloc (bl_refl w4) _).mono H4.out.size)) | exact HCS.out _ H4.out | exact HCS.out _ H3.out | exact HCS.out _ H2.out | exact HCS.out _ H1.out | exact HCS.out _ (bl_drew (bl_refl _)) | exact HCS.out _ (bl_refl _)) (first | ((have _h := H4); go_at_call 12; refine (bsum [tr, 1, tr, vi, tr] 5 (some ⟨_, 0, none⟩) 5 tot n s h t bud base wait _ HOK.out (by decide) (lit_cells (xs := [tr, 1, tr, vi, tr]) (heap_new rfl)) HTOT.out (fun j => by match j with | 0 => exact ⟨by show (0 : Int) ≤ tr; omega, by show tr ≤ 1000000; omega⟩ | 1 => exact ⟨by show (0 : Int) ≤ 1; omega, by show 1 ≤ 1000000; omega⟩ | 2 => exact ⟨by show (0 : Int) ≤ tr; omega, by show tr ≤ 1000000; omega⟩ | 3 => exact ⟨by show (0 : Int) ≤ vi; omega, by show vi ≤ 1000000; omega⟩ | 4 => exact ⟨by show (0 : Int) ≤ tr; omega, by show tr ≤ 1000000; omega⟩ | j + 5 => exact ⟨by simp, by simp⟩)).mono ?_; rintro e w5 ⟨rfl, kk⟩; (have H5 := Lib.hid (H4.out.trans (((bl_alloc (bl_refl w4) _).trans (kk.mono (by simp))).mono H4.out.size))); clear kk _h) | ((have _h := H3); go_at_call 13; refine (HT.out _).mono ?_; rintro e w4 ⟨rfl, kk⟩; (have H4 := Lib.hid (H3.out.trans (kk.mono H3.out.size))); clear kk _h) | ((have _h := H2); go_at_call 14; refine (HV.out _).mono ?_; rintro e w3 ⟨rfl, kk⟩; (have H3 := Lib.hid (H2.out.trans (kk.mono H2.out.size))); clear kk _h) | ((have _h := H1); go_at_call 13; refine (HT.out _).mono ?_; rintro e w2 ⟨rfl, kk⟩; (have H2 := Lib.hid (H1.out.trans (kk.mono H1.out.size))); clear kk _h) | (go_at_call 13; refine (HT.out _).mono ?_; rintro e w1 ⟨rfl, kk⟩; (have H1 := Lib.hid ((bl_drew (bl_refl (w.alloc (.cells #[.int .i64 n, .int .i64 s, .int .i64 h, .int .u32 t, .int .i64 bud, .int .i64 base, .int .u64 wait] 28)))).trans kk)); clear kk))
  go_wp2
  go_ret
  exact ⟨rfl, HBW.out.trans (H5.out.mono HBW.out.size)⟩
set_option maxRecDepth 20000 in
set_option maxHeartbeats 8000000 in
theorem b_pop (n s h t bud base wait : Int) (w : World) (hok : okE n s h bud base = true) :
    Calls Try.prog 8 #[cfgE n s h t bud base wait] w fun e w' => e = .returned (.int .i64 (bPop s bud)) ∧ Below w.heap.size w w' := by
  obtain ⟨_, b0, b1, _⟩ := okE_iff.1 hok
  have HOK := Lib.hid hok
  have HBW : Hid (Below w.heap.size w (w.alloc (.cells #[.int .i64 n, .int .i64 s, .int .i64 h, .int .u32 t, .int .i64 bud, .int .i64 base, .int .u64 wait] 28))) := Lib.hid (bl_alloc (bl_refl _) _)
  have HCS : Hid (∀ w', Below ((w.alloc (.cells #[.int .i64 n, .int .i64 s, .int .i64 h, .int .u32 t, .int .i64 bud, .int .i64 base, .int .u64 wait] 28))).heap.size ((w.alloc (.cells #[.int .i64 n, .int .i64 s, .int .i64 h, .int .u32 t, .int .i64 bud, .int .i64 base, .int .u64 wait] 28))) w' → w'.cell? ⟨w.heap.size, 0, none⟩ = some (.int .i64 n) ∧ w'.cell? ⟨w.heap.size, 1, none⟩ = some (.int .i64 s) ∧ w'.cell? ⟨w.heap.size, 2, none⟩ = some (.int .i64 h) ∧ w'.cell? ⟨w.heap.size, 3, none⟩ = some (.int .u32 t) ∧ w'.cell? ⟨w.heap.size, 4, none⟩ = some (.int .i64 bud) ∧ w'.cell? ⟨w.heap.size, 5, none⟩ = some (.int .i64 base) ∧ w'.cell? ⟨w.heap.size, 6, none⟩ = some (.int .u64 wait)) := Lib.hid fun w' hb => (cells7 ((hb.block w.heap.size (by simp)).trans (heap_new rfl))).1
  obtain ⟨d0, d1, d2, d3, d4, d5, d6⟩ := HCS.out (w.alloc (.cells #[.int .i64 n, .int .i64 s, .int .i64 h, .int .u32 t, .int .i64 bud, .int .i64 base, .int .u64 wait] 28)) (bl_refl _)
  have hm := bMul (s := s) b0 b1
  obtain ⟨tr, htr⟩ : ∃ tr, 3 * (bud + 1) = tr := ⟨_, rfl⟩
  obtain ⟨vi, hvi⟩ : ∃ vi, bud * bVis s = vi := ⟨_, rfl⟩
  obtain ⟨tot, htot⟩ : ∃ tot, (bPop s bud) = tot := ⟨_, rfl⟩
  have HTOT : Hid (sumN [tr, vi, 1, tr] 4 = tot) := Lib.hid (by
    rw [← htot]
    unfold bPop
    rw [hvi]
    simp only [sumN, List.getD_cons_zero, List.getD_cons_succ]
    omega)
  rw [hvi] at hm
  have HT := Lib.hid (fun w => b_tries n s h t bud base wait w HOK.out)
  have HV := Lib.hid (fun w => b_visits n s h t bud base wait w HOK.out)
  rw [htr] at HT
  rw [hvi] at HV
  rw [htot]
  clear htot hvi
  clear hok
  go_enter Try.func8, Try.ntmps8
  go_upto_region 1 with (fail)
  go_region_held3 (fun w' => w'.cell? ⟨w.heap.size, 0, none⟩ = some (.int .i64 n) ∧ w'.cell? ⟨w.heap.size, 1, none⟩ = some (.int .i64 s) ∧ w'.cell? ⟨w.heap.size, 2, none⟩ = some (.int .i64 h) ∧ w'.cell? ⟨w.heap.size, 3, none⟩ = some (.int .u32 t) ∧ w'.cell? ⟨w.heap.size, 4, none⟩ = some (.int .i64 bud) ∧ w'.cell? ⟨w.heap.size, 5, none⟩ = some (.int .i64 base) ∧ w'.cell? ⟨w.heap.size, 6, none⟩ = some (.int .u64 wait)) (first | exact HCS.out _ H4.out | exact HCS.out _ (H3.out.trans ((bl_alloc (bl_refl w3) _).mono H3.out.size)) | exact HCS.out _ H3.out | exact HCS.out _ H2.out | exact HCS.out _ H1.out | exact HCS.out _ (bl_drew (bl_refl _)) | exact HCS.out _ (bl_refl _)) (first | ((have _h := H3); go_at_call 12; refine (bsum [tr, vi, 1, tr] 4 (some ⟨_, 0, none⟩) 4 tot n s h t bud base wait _ HOK.out (by decide) (lit_cells (xs := [tr, vi, 1, tr]) (heap_new rfl)) HTOT.out (fun j => by match j with | 0 => exact ⟨by show (0 : Int) ≤ tr; omega, by show tr ≤ 1000000; omega⟩ | 1 => exact ⟨by show (0 : Int) ≤ vi; omega, by show vi ≤ 1000000; omega⟩ | 2 => exact ⟨by show (0 : Int) ≤ 1; omega, by show 1 ≤ 1000000; omega⟩ | 3 => exact ⟨by show (0 : Int) ≤ tr; omega, by show tr ≤ 1000000; omega⟩ | j + 4 => exact ⟨by simp, by simp⟩)).mono ?_; rintro e w4 ⟨rfl, kk⟩; (have H4 := Lib.hid (H3.out.trans (((bl_alloc (bl_refl w3) _).trans (kk.mono (by simp))).mono H3.out.size))); clear kk _h) | ((have _h := H2); go_at_call 13; refine (HT.out _).mono ?_; rintro e w3 ⟨rfl, kk⟩; (have H3 := Lib.hid (H2.out.trans (kk.mono H2.out.size))); clear kk _h) | ((have _h := H1); go_at_call 14; refine (HV.out _).mono ?_; rintro e w2 ⟨rfl, kk⟩; (have H2 := Lib.hid (H1.out.trans (kk.mono H1.out.size))); clear kk _h) | (go_at_call 13; refine (HT.out _).mono ?_; rintro e w1 ⟨rfl, kk⟩; (have H1 := Lib.hid ((bl_drew (bl_refl (w.alloc (.cells #[.int .i64 n, .int .i64 s, .int .i64 h, .int .u32 t, .int .i64 bud, .int .i64 base, .int .u64 wait] 28)))).trans kk)); clear kk))
  go_wp2
  go_ret
  exact ⟨rfl, HBW.out.trans (H4.out.mono HBW.out.size)⟩
set_option maxRecDepth 20000 in
set_option maxHeartbeats 8000000 in
theorem b_acquire (n s h t bud base wait : Int) (w : World) (hok : okE n s h bud base = true) :
    Calls Try.prog 10 #[cfgE n s h t bud base wait] w fun e w' => e = .returned (.int .i64 (bPop s bud + 1)) ∧ Below w.heap.size w w' := by
  obtain ⟨_, b0, b1, _⟩ := okE_iff.1 hok
  have HOK := Lib.hid hok
  have HBW : Hid (Below w.heap.size w (w.alloc (.cells #[.int .i64 n, .int .i64 s, .int .i64 h, .int .u32 t, .int .i64 bud, .int .i64 base, .int .u64 wait] 28))) := Lib.hid (bl_alloc (bl_refl _) _)
  have HCS : Hid (∀ w', Below ((w.alloc (.cells #[.int .i64 n, .int .i64 s, .int .i64 h, .int .u32 t, .int .i64 bud, .int .i64 base, .int .u64 wait] 28))).heap.size ((w.alloc (.cells #[.int .i64 n, .int .i64 s, .int .i64 h, .int .u32 t, .int .i64 bud, .int .i64 base, .int .u64 wait] 28))) w' → w'.cell? ⟨w.heap.size, 0, none⟩ = some (.int .i64 n) ∧ w'.cell? ⟨w.heap.size, 1, none⟩ = some (.int .i64 s) ∧ w'.cell? ⟨w.heap.size, 2, none⟩ = some (.int .i64 h) ∧ w'.cell? ⟨w.heap.size, 3, none⟩ = some (.int .u32 t) ∧ w'.cell? ⟨w.heap.size, 4, none⟩ = some (.int .i64 bud) ∧ w'.cell? ⟨w.heap.size, 5, none⟩ = some (.int .i64 base) ∧ w'.cell? ⟨w.heap.size, 6, none⟩ = some (.int .u64 wait)) := Lib.hid fun w' hb => (cells7 ((hb.block w.heap.size (by simp)).trans (heap_new rfl))).1
  obtain ⟨d0, d1, d2, d3, d4, d5, d6⟩ := HCS.out (w.alloc (.cells #[.int .i64 n, .int .i64 s, .int .i64 h, .int .u32 t, .int .i64 bud, .int .i64 base, .int .u64 wait] 28)) (bl_refl _)
  have hm := bMul (s := s) b0 b1
  have HQ := Lib.hid (fun w => b_pop n s h t bud base wait w HOK.out)
  have HU := Lib.hid (fun w => b_push n s h t bud base wait w HOK.out)
  have hpu : 0 ≤ bPush s bud ∧ bPush s bud ≤ 10000 := by unfold bPush; omega
  have hpo : 0 ≤ bPop s bud ∧ bPop s bud ≤ 10000 := by unfold bPop; omega
  generalize bPush s bud = pu at *
  generalize bPop s bud = po at *
  obtain ⟨tot, htot⟩ : ∃ tot, po + 1 = tot := ⟨_, rfl⟩
  have HTOT : Hid (sumN [po, 1] 2 = tot) := Lib.hid (by
    rw [← htot]
    simp only [sumN, List.getD_cons_zero, List.getD_cons_succ]
    omega)
  rw [htot]
  clear htot
  clear hok
  go_enter Try.func10, Try.ntmps10
  go_upto_region 1 with (fail)
  go_region_held3 (fun w' => w'.cell? ⟨w.heap.size, 0, none⟩ = some (.int .i64 n) ∧ w'.cell? ⟨w.heap.size, 1, none⟩ = some (.int .i64 s) ∧ w'.cell? ⟨w.heap.size, 2, none⟩ = some (.int .i64 h) ∧ w'.cell? ⟨w.heap.size, 3, none⟩ = some (.int .u32 t) ∧ w'.cell? ⟨w.heap.size, 4, none⟩ = some (.int .i64 bud) ∧ w'.cell? ⟨w.heap.size, 5, none⟩ = some (.int .i64 base) ∧ w'.cell? ⟨w.heap.size, 6, none⟩ = some (.int .u64 wait)) (first | exact HCS.out _ H2.out | exact HCS.out _ (H1.out.trans ((bl_alloc (bl_refl w1) _).mono H1.out.size)) | exact HCS.out _ H1.out | exact HCS.out _ (bl_drew (bl_refl _)) | exact HCS.out _ (bl_refl _)) (first | ((have _h := H1); go_at_call 12; refine (bsum [po, 1] 2 (some ⟨_, 0, none⟩) 2 tot n s h t bud base wait _ HOK.out (by decide) (lit_cells (xs := [po, 1]) (heap_new rfl)) HTOT.out (fun j => by match j with | 0 => exact ⟨by show (0 : Int) ≤ po; omega, by show po ≤ 1000000; omega⟩ | 1 => exact ⟨by show (0 : Int) ≤ 1; omega, by show 1 ≤ 1000000; omega⟩ | j + 2 => exact ⟨by simp, by simp⟩)).mono ?_; rintro e w2 ⟨rfl, kk⟩; (have H2 := Lib.hid (H1.out.trans (((bl_alloc (bl_refl w1) _).trans (kk.mono (by simp))).mono H1.out.size))); clear kk _h) | (go_at_call 8; refine (HQ.out _).mono ?_; rintro e w1 ⟨rfl, kk⟩; (have H1 := Lib.hid ((bl_drew (bl_refl (w.alloc (.cells #[.int .i64 n, .int .i64 s, .int .i64 h, .int .u32 t, .int .i64 bud, .int .i64 base, .int .u64 wait] 28)))).trans kk)); clear kk))
  go_wp2
  go_ret
  exact ⟨rfl, HBW.out.trans (H2.out.mono HBW.out.size)⟩
set_option maxRecDepth 20000 in
set_option maxHeartbeats 8000000 in
theorem b_release (n s h t bud base wait : Int) (w : World) (hok : okE n s h bud base = true) :
    Calls Try.prog 11 #[cfgE n s h t bud base wait] w fun e w' => e = .returned (.int .i64 (bPush s bud + 3)) ∧ Below w.heap.size w w' := by
  obtain ⟨_, b0, b1, _⟩ := okE_iff.1 hok
  have HOK := Lib.hid hok
  have HBW : Hid (Below w.heap.size w (w.alloc (.cells #[.int .i64 n, .int .i64 s, .int .i64 h, .int .u32 t, .int .i64 bud, .int .i64 base, .int .u64 wait] 28))) := Lib.hid (bl_alloc (bl_refl _) _)
  have HCS : Hid (∀ w', Below ((w.alloc (.cells #[.int .i64 n, .int .i64 s, .int .i64 h, .int .u32 t, .int .i64 bud, .int .i64 base, .int .u64 wait] 28))).heap.size ((w.alloc (.cells #[.int .i64 n, .int .i64 s, .int .i64 h, .int .u32 t, .int .i64 bud, .int .i64 base, .int .u64 wait] 28))) w' → w'.cell? ⟨w.heap.size, 0, none⟩ = some (.int .i64 n) ∧ w'.cell? ⟨w.heap.size, 1, none⟩ = some (.int .i64 s) ∧ w'.cell? ⟨w.heap.size, 2, none⟩ = some (.int .i64 h) ∧ w'.cell? ⟨w.heap.size, 3, none⟩ = some (.int .u32 t) ∧ w'.cell? ⟨w.heap.size, 4, none⟩ = some (.int .i64 bud) ∧ w'.cell? ⟨w.heap.size, 5, none⟩ = some (.int .i64 base) ∧ w'.cell? ⟨w.heap.size, 6, none⟩ = some (.int .u64 wait)) := Lib.hid fun w' hb => (cells7 ((hb.block w.heap.size (by simp)).trans (heap_new rfl))).1
  obtain ⟨d0, d1, d2, d3, d4, d5, d6⟩ := HCS.out (w.alloc (.cells #[.int .i64 n, .int .i64 s, .int .i64 h, .int .u32 t, .int .i64 bud, .int .i64 base, .int .u64 wait] 28)) (bl_refl _)
  have hm := bMul (s := s) b0 b1
  have HQ := Lib.hid (fun w => b_pop n s h t bud base wait w HOK.out)
  have HU := Lib.hid (fun w => b_push n s h t bud base wait w HOK.out)
  have hpu : 0 ≤ bPush s bud ∧ bPush s bud ≤ 10000 := by unfold bPush; omega
  have hpo : 0 ≤ bPop s bud ∧ bPop s bud ≤ 10000 := by unfold bPop; omega
  generalize bPush s bud = pu at *
  generalize bPop s bud = po at *
  obtain ⟨tot, htot⟩ : ∃ tot, pu + 3 = tot := ⟨_, rfl⟩
  have HTOT : Hid (sumN [1, 1, pu, 1] 4 = tot) := Lib.hid (by
    rw [← htot]
    simp only [sumN, List.getD_cons_zero, List.getD_cons_succ]
    omega)
  rw [htot]
  clear htot
  clear hok
  go_enter Try.func11, Try.ntmps11
  go_upto_region 1 with (fail)
  go_region_held3 (fun w' => w'.cell? ⟨w.heap.size, 0, none⟩ = some (.int .i64 n) ∧ w'.cell? ⟨w.heap.size, 1, none⟩ = some (.int .i64 s) ∧ w'.cell? ⟨w.heap.size, 2, none⟩ = some (.int .i64 h) ∧ w'.cell? ⟨w.heap.size, 3, none⟩ = some (.int .u32 t) ∧ w'.cell? ⟨w.heap.size, 4, none⟩ = some (.int .i64 bud) ∧ w'.cell? ⟨w.heap.size, 5, none⟩ = some (.int .i64 base) ∧ w'.cell? ⟨w.heap.size, 6, none⟩ = some (.int .u64 wait)) (first | exact HCS.out _ H2.out | exact HCS.out _ (H1.out.trans ((bl_alloc (bl_refl w1) _).mono H1.out.size)) | exact HCS.out _ H1.out | exact HCS.out _ (bl_drew (bl_refl _)) | exact HCS.out _ (bl_refl _)) (first | ((have _h := H1); go_at_call 12; refine (bsum [1, 1, pu, 1] 4 (some ⟨_, 0, none⟩) 4 tot n s h t bud base wait _ HOK.out (by decide) (lit_cells (xs := [1, 1, pu, 1]) (heap_new rfl)) HTOT.out (fun j => by match j with | 0 => exact ⟨by show (0 : Int) ≤ 1; omega, by show 1 ≤ 1000000; omega⟩ | 1 => exact ⟨by show (0 : Int) ≤ 1; omega, by show 1 ≤ 1000000; omega⟩ | 2 => exact ⟨by show (0 : Int) ≤ pu; omega, by show pu ≤ 1000000; omega⟩ | 3 => exact ⟨by show (0 : Int) ≤ 1; omega, by show 1 ≤ 1000000; omega⟩ | j + 4 => exact ⟨by simp, by simp⟩)).mono ?_; rintro e w2 ⟨rfl, kk⟩; (have H2 := Lib.hid (H1.out.trans (((bl_alloc (bl_refl w1) _).trans (kk.mono (by simp))).mono H1.out.size))); clear kk _h) | (go_at_call 7; refine (HU.out _).mono ?_; rintro e w1 ⟨rfl, kk⟩; (have H1 := Lib.hid ((bl_drew (bl_refl (w.alloc (.cells #[.int .i64 n, .int .i64 s, .int .i64 h, .int .u32 t, .int .i64 bud, .int .i64 base, .int .u64 wait] 28)))).trans kk)); clear kk))
  go_wp2
  go_ret
  exact ⟨rfl, HBW.out.trans (H2.out.mono HBW.out.size)⟩
theorem pick21_is (c n k : Int) (w : World) (hk : pickI c n = k) (h0 : 0 < n) (h1 : n < 9223372036854775808) (c0 : -9223372036854775808 ≤ c) (c1 : c < 9223372036854775808) :
    Calls Try.prog 6 #[.int .i64 c, .int .i64 n] w fun e w' => e = .returned (.int .i64 k) ∧ w = w' := by
  subst hk
  by_cases hc : c < 0
  · have e : pickI c n = (-(c + 1)) % n := by simp [pickI, hc]
    rw [e]
    have d0 : decide (c < 0) = true := decide_eq_true hc
    have b1 : 0 ≤ -(c + 1) := by omega
    have b2 : -(c + 1) < 9223372036854775808 := by omega
    have b3 : -9223372036854775808 ≤ c + 1 := by omega
    have b4 : (-(c + 1)).tmod n = (-(c + 1)) % n := Int.tmod_eq_emod_of_nonneg b1
    go_enter Try.func6, Try.ntmps6
    go_wp2
    go_ret
    exact ⟨rfl, rfl⟩
  · have e : pickI c n = c % n := by simp [pickI, hc]
    rw [e]
    have d0 : decide (c < 0) = false := decide_eq_false hc
    have b1 : 0 ≤ c := by omega
    go_enter Try.func6, Try.ntmps6
    go_wp2
    go_ret
    exact ⟨rfl, rfl⟩
theorem cfg21_is (a b c d n s bud base : Int) (w : World) (hn : 1 + pickI a 6 = n) (hs : pickI b 4 = s) (hb : pickI c 17 = bud) (hm : 1 + pickI d 64 = base) (a0 : -9223372036854775808 ≤ a) (a1 : a < 9223372036854775808) (b0 : -9223372036854775808 ≤ b) (b1 : b < 9223372036854775808) (c0 : -9223372036854775808 ≤ c) (c1 : c < 9223372036854775808) (d0 : -9223372036854775808 ≤ d) (d1 : d < 9223372036854775808) :
    Calls Try.prog 5 #[.int .i64 a, .int .i64 b, .int .i64 c, .int .i64 d] w fun e w' => e = .returned (cfgE n s 0 5 bud base 1152921504606846976) ∧ Below w.heap.size w w' := by
  have r1 := pickI_rng (c := a) (n := 6) (by decide)
  have r2 := pickI_rng (c := d) (n := 64) (by decide)
  obtain ⟨k, hk⟩ : ∃ k, pickI a 6 = k := ⟨_, rfl⟩
  obtain ⟨m, hm2⟩ : ∃ m, pickI d 64 = m := ⟨_, rfl⟩
  rw [hk] at hn r1
  rw [hm2] at hm r2
  obtain ⟨r0, r1⟩ := r1
  obtain ⟨r2, r4⟩ := r2
  have HK := Lib.hid hk
  have HS := Lib.hid hs
  have HB := Lib.hid hb
  have HM := Lib.hid hm2
  clear hk hs hb hm2
  subst hn hm
  have e1 : IntKind.i64.wrap (1 + k) = 1 + k := by rw [IntKind.wrap_i64]; omega
  have e2 : IntKind.i64.wrap (1 + m) = 1 + m := by rw [IntKind.wrap_i64]; omega
  go_enter Try.func5, Try.ntmps5
  go_wp2_with (first | ((have _h := A3); go_at_call 6; refine (pick21_is d 64 m _ HM.out (by decide) (by decide) d0 d1).mono ?_; rintro e w1 ⟨rfl, rfl⟩; (have A4 : True := trivial)) | ((have _h := A2); go_at_call 6; refine (pick21_is c 17 bud _ HB.out (by decide) (by decide) c0 c1).mono ?_; rintro e w1 ⟨rfl, rfl⟩; (have A3 : True := trivial)) | ((have _h := A1); go_at_call 6; refine (pick21_is b 4 s _ HS.out (by decide) (by decide) b0 b1).mono ?_; rintro e w1 ⟨rfl, rfl⟩; (have A2 : True := trivial)) | (go_at_call 6; refine (pick21_is a 6 k _ HK.out (by decide) (by decide) a0 a1).mono ?_; rintro e w1 ⟨rfl, rfl⟩; (have A1 : True := trivial)))
  go_returns
  exact ⟨rfl, by go_grown⟩
theorem b_window (th x : Int) (n s h t bud base wait : Int) (w : World) (hok : okE n s h bud base = true) (hh : h = 0) (h0 : 0 ≤ th) (h1 : th ≤ 1073741824) (hx : th * bPush s bud = x) :
    Calls Try.prog 9 #[cfgE n s h t bud base wait, .int .i64 th] w fun e w' => e = .returned (.int .i64 x) ∧ Below w.heap.size w w' := by
  obtain ⟨_, b0, b1, _⟩ := okE_iff.1 hok
  have hm := bMul (s := s) b0 b1
  have HP := Lib.hid (fun w => b_push n s h t bud base wait w hok)
  have hb : 0 ≤ bPush s bud ∧ bPush s bud ≤ 10000 := by unfold bPush; omega
  generalize bPush s bud = bp at *
  have hxr : 0 ≤ x ∧ x ≤ 1073741824 * 10000 := by
    rw [← hx]
    exact ⟨Int.mul_nonneg h0 hb.1, Int.le_trans (Int.mul_le_mul h1 hb.2 hb.1 (by decide)) (Int.le_refl _)⟩
  have e1 : IntKind.i64.wrap (th * bp) = x := by rw [hx, IntKind.wrap_i64]; omega
  have e2 : max th 0 = th := by omega
  subst hh
  clear hx hok hm
  go_enter Try.func9, Try.ntmps9
  go_wp2_with (go_at_call 7; refine (HP.out _).mono ?_; rintro e w1 ⟨rfl, k⟩; (have HB1 := Lib.hid k); clear k)
  go_ret
  exact ⟨rfl, (bl_alloc (bl_refl _) _).trans (HB1.out.mono (by simp))⟩
set_option maxRecDepth 20000 in
set_option maxHeartbeats 8000000 in
theorem shown21 (w : World) : Calls Try.prog 4 #[] w fun e w' => e = .returned (.bool true) ∧ Below w.heap.size w w' := by
  have H := Lib.hid (St.nil w)
  go_enter Try.func4, Try.ntmps4
  go_wp2_with (first | ((have _h := H6); go_at_call 9; refine (b_window 3 30 2 0 0 5 0 1 1152921504606846976 _ (by decide) rfl (by decide) (by decide) (by decide)).mono ?_; rintro e w7 ⟨rfl, hb⟩; (have H7 := Lib.hid (H6.out.below hb)); clear hb; clear _h) | ((have _h := H5); go_at_call 8; refine (b_pop 2 1 0 5 2 1 1152921504606846976 _ (by decide)).mono ?_; rintro e w6 ⟨rfl, hb⟩; (have H6 := Lib.hid (H5.out.below hb)); clear hb; clear d0 d1 d2 d3 d4 d5 d6 ld f0 f1 f2 f3 f4 f5 f6 lf; (obtain ⟨⟨d0, d1, d2, d3, d4, d5, d6⟩, ld⟩ := cells7 (H6.out.cells 1 rfl)); (obtain ⟨⟨f0, f1, f2, f3, f4, f5, f6⟩, lf⟩ := cells7 (H6.out.cells 0 rfl)); clear _h) | ((have _h := H4); go_at_call 7; refine (b_push 2 1 0 5 2 1 1152921504606846976 _ (by decide)).mono ?_; rintro e w5 ⟨rfl, hb⟩; (have H5 := Lib.hid (H4.out.below hb)); clear hb; clear d0 d1 d2 d3 d4 d5 d6 ld f0 f1 f2 f3 f4 f5 f6 lf; (obtain ⟨⟨d0, d1, d2, d3, d4, d5, d6⟩, ld⟩ := cells7 (H5.out.cells 1 rfl)); (obtain ⟨⟨f0, f1, f2, f3, f4, f5, f6⟩, lf⟩ := cells7 (H5.out.cells 0 rfl)); clear _h) | ((have _h := H3); go_at_call 8; refine (b_pop 2 0 0 5 0 1 1152921504606846976 _ (by decide)).mono ?_; rintro e w4 ⟨rfl, hb⟩; (have H4 := Lib.hid (H3.out.below hb)); clear hb; clear d0 d1 d2 d3 d4 d5 d6 ld f0 f1 f2 f3 f4 f5 f6 lf; (obtain ⟨⟨d0, d1, d2, d3, d4, d5, d6⟩, ld⟩ := cells7 (H4.out.cells 1 rfl)); (obtain ⟨⟨f0, f1, f2, f3, f4, f5, f6⟩, lf⟩ := cells7 (H4.out.cells 0 rfl)); clear _h) | ((have _h := H2); go_at_call 7; refine (b_push 2 0 0 5 0 1 1152921504606846976 _ (by decide)).mono ?_; rintro e w3 ⟨rfl, hb⟩; (have H3 := Lib.hid (H2.out.below hb)); clear hb; clear d0 d1 d2 d3 d4 d5 d6 ld f0 f1 f2 f3 f4 f5 f6 lf; (obtain ⟨⟨d0, d1, d2, d3, d4, d5, d6⟩, ld⟩ := cells7 (H3.out.cells 1 rfl)); (obtain ⟨⟨f0, f1, f2, f3, f4, f5, f6⟩, lf⟩ := cells7 (H3.out.cells 0 rfl)); clear _h) | ((have _h := H1); go_at_call 5; refine (cfg21_is 1 1 2 0 2 1 2 1 _ rfl rfl rfl rfl (by decide) (by decide) (by decide) (by decide) (by decide) (by decide) (by decide) (by decide)).mono ?_; rintro e w2 ⟨rfl, hb⟩; (have H2 := Lib.hid ((H1.out.below hb).alloc #[.int .i64 2, .int .i64 1, .int .i64 0, .int .u32 5, .int .i64 2, .int .i64 1, .int .u64 1152921504606846976] 28)); clear hb; clear d0 d1 d2 d3 d4 d5 d6 ld; (obtain ⟨⟨d0, d1, d2, d3, d4, d5, d6⟩, ld⟩ := cells7 (H2.out.cells 1 rfl)); (obtain ⟨⟨f0, f1, f2, f3, f4, f5, f6⟩, lf⟩ := cells7 (H2.out.cells 0 rfl)); clear _h) | ((have _h := H); go_at_call 5; refine (cfg21_is 1 0 0 0 2 0 0 1 _ rfl rfl rfl rfl (by decide) (by decide) (by decide) (by decide) (by decide) (by decide) (by decide) (by decide)).mono ?_; rintro e w1 ⟨rfl, hb⟩; (have H1 := Lib.hid ((H.out.below hb).alloc #[.int .i64 2, .int .i64 0, .int .i64 0, .int .u32 5, .int .i64 0, .int .i64 1, .int .u64 1152921504606846976] 28)); clear hb; (obtain ⟨⟨d0, d1, d2, d3, d4, d5, d6⟩, ld⟩ := cells7 (H1.out.cells 0 rfl)); clear _h))
  go_ret
  exact ⟨rfl, H7.out.bel⟩
end Go.Proofs.Ytkcpfoghjoalnaa
