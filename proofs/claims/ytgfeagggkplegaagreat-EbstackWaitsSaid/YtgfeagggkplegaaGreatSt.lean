/-
  A state: a row of things that lie in the heap, each with blocks of its own; all that was there in the beginning is as it was.
-/
import Derived.Test.YtgfeagggkplegaaGreatMemory
namespace Go.Proofs.YtgfeagggkplegaaGreat
open Go.RowKit
set_option linter.unusedVariables false
set_option linter.unusedSimpArgs false

/-- A thing in the heap: what holds of its blocks. -/
structure Asn where
  P : (Nat → Prop) → World → Prop
  mono : ∀ {fp fp' : Nat → Prop} {w w' : World}, P fp w → (∀ b, b < w.heap.size → fp b → fp' b ∧ w'.heap[b]? = w.heap[b]?) → P fp' w'

/-- The blocks of the things: their own, new since w0, there. -/
structure Own (w0 w : World) (F : Nat → Nat → Prop) : Prop where
  lo : ∀ k b, F k b → w0.heap.size ≤ b
  hi : ∀ k b, F k b → b < w.heap.size
  one : ∀ k j b, F k b → F j b → k = j
def Holds (l : List Asn) (F : Nat → Nat → Prop) (w : World) : Prop := ∀ (k : Nat) (a : Asn), l[k]? = some a → a.P (F k) w
/-- The state l, since w0. -/
def St (w0 : World) (l : List Asn) (w : World) : Prop := Below w0.heap.size w0 w ∧ ∃ F, Own w0 w F ∧ Holds l F w

theorem St.bel {w0 w : World} {l : List Asn} (h : St w0 l w) : Below w0.heap.size w0 w := h.1
theorem St.nil (w : World) : St w [] w := ⟨Below.refl _ _, fun _ _ => False, ⟨fun _ _ h => h.elim, fun _ _ h => h.elim, fun _ _ _ h => h.elim⟩, fun k a h => by simp at h⟩
theorem St.map {w0 w : World} {l l' : List Asn} (h : St w0 l w) (f : Nat → Nat) (hf : ∀ i j, f i = f j → i = j) (hl : ∀ j a, l'[j]? = some a → l[f j]? = some a) : St w0 l' w := by
  obtain ⟨hb, F, ho, hh⟩ := h
  exact ⟨hb, fun k => F (f k), ⟨fun k => ho.lo _, fun k => ho.hi _, fun k j b h1 h2 => hf _ _ (ho.one _ _ _ h1 h2)⟩, fun k a e => hh _ _ (hl k a e)⟩
theorem perm_map {l l' : List Asn} (h : l.Perm l') : ∃ f : Nat → Nat, (∀ i j, f i = f j → i = j) ∧ ∀ j, l'[j]? = l[f j]? := by
  induction h with
  | nil => exact ⟨id, fun _ _ h => h, fun _ => rfl⟩
  | cons x _ ih =>
    obtain ⟨f, h1, h2⟩ := ih
    refine ⟨fun j => match j with | 0 => 0 | j + 1 => f j + 1, fun i j e => ?_, fun j => ?_⟩
    · cases i <;> cases j <;> simp at e
      · rfl
      · rw [h1 _ _ e]
    · cases j
      · rfl
      · simpa using h2 _
  | swap x y l =>
    refine ⟨fun j => match j with | 0 => 1 | 1 => 0 | j + 2 => j + 2, fun i j e => ?_, fun j => ?_⟩
    · match i, j with
      | 0, 0 => rfl
      | 0, 1 => simp at e
      | 0, j + 2 => simp at e
      | 1, 0 => simp at e
      | 1, 1 => rfl
      | 1, j + 2 => simp at e
      | i + 2, 0 => simp at e
      | i + 2, 1 => simp at e
      | i + 2, j + 2 => simpa using e
    · match j with
      | 0 => rfl
      | 1 => rfl
      | j + 2 => rfl
  | trans _ _ ih1 ih2 =>
    obtain ⟨f, f1, f2⟩ := ih1
    obtain ⟨g, g1, g2⟩ := ih2
    exact ⟨fun j => f (g j), fun i j e => g1 _ _ (f1 _ _ e), fun j => (g2 j).trans (f2 _)⟩
theorem St.perm {w0 w : World} {l l' : List Asn} (h : St w0 l w) (p : l.Perm l') : St w0 l' w := by
  obtain ⟨f, h1, h2⟩ := perm_map p
  exact h.map f h1 fun j a e => by rw [← h2]; exact e
theorem St.swap {w0 w : World} {a b : Asn} {l : List Asn} (h : St w0 (a :: b :: l) w) : St w0 (b :: a :: l) w := h.perm (List.Perm.swap _ _ _)
theorem St.tail {w0 w : World} {a : Asn} {l : List Asn} (h : St w0 (a :: l) w) : St w0 l w := h.map (· + 1) (fun i j e => by omega) fun j a e => by simpa using e
theorem cons_erase_perm {l : List Asn} : ∀ {k : Nat} (h : k < l.length), (l[k] :: l.eraseIdx k).Perm l := by
  induction l with
  | nil => intro k h; simp at h
  | cons x l ih =>
    intro k h
    cases k with
    | zero => simp
    | succ k =>
      have hk : k < l.length := by simpa using h
      exact (List.Perm.swap _ _ _).trans ((ih hk).cons x)
/-- Without the second one. -/
theorem St.drop1 {w0 w : World} {a b : Asn} {l : List Asn} (h : St w0 (a :: b :: l) w) : St w0 (a :: l) w := h.swap.tail
theorem St.drop2 {w0 w : World} {a b c : Asn} {l : List Asn} (h : St w0 (a :: b :: c :: l) w) : St w0 (a :: l) w := h.drop1.drop1
theorem St.drop2' {w0 w : World} {m a b c : Asn} {l : List Asn} (h : St w0 (m :: a :: b :: c :: l) w) : St w0 (m :: a :: l) w :=
  h.map (fun j => if j < 2 then j else j + 2) (fun i j e => by by_cases c : i < 2 <;> by_cases d : j < 2 <;> simp only [c, d, if_true, if_false] at e <;> omega) fun j x e => by
    match j with
    | 0 => exact e
    | 1 => exact e
    | j + 2 => exact e
theorem St.drop1' {w0 w : World} {m a b : Asn} {l : List Asn} (h : St w0 (m :: a :: b :: l) w) : St w0 (m :: a :: l) w :=
  h.perm (((List.Perm.swap _ _ _).cons m).trans (List.Perm.swap _ _ _)) |>.tail
theorem St.drop45 {w0 w : World} {m a b c d e : Asn} {l : List Asn} (h : St w0 (m :: a :: b :: c :: d :: e :: l) w) : St w0 (m :: a :: b :: c :: l) w :=
  h.map (fun j => if j < 4 then j else j + 2) (fun i j e => by by_cases c : i < 4 <;> by_cases d : j < 4 <;> simp only [c, d, if_true, if_false] at e <;> omega) fun j x e => by
    match j with
    | 0 => exact e
    | 1 => exact e
    | 2 => exact e
    | 3 => exact e
    | j + 4 => exact e
theorem St.rot3 {w0 w : World} {a b c : Asn} {l : List Asn} (h : St w0 (a :: b :: c :: l) w) : St w0 (b :: c :: a :: l) w :=
  h.perm ((List.Perm.swap b a _).trans ((List.Perm.swap c a _).cons b))
/-- Two new ones behind the first two. -/
theorem St.rot4 {w0 w : World} {a b c d : Asn} {l : List Asn} (h : St w0 (a :: b :: c :: d :: l) w) : St w0 (c :: d :: b :: a :: l) w :=
  h.perm (((List.Perm.swap _ _ _).trans ((((List.Perm.swap c a _).cons b).trans (List.Perm.swap c b _)).trans ((((List.Perm.swap d a l).cons b).trans (List.Perm.swap d b _)).cons c))))
theorem St.front {w0 w : World} {l : List Asn} (h : St w0 l w) (k : Nat) {a : Asn} (e : l[k]? = some a) : St w0 (a :: l.eraseIdx k) w := by
  obtain ⟨hk, rfl⟩ := List.getElem?_eq_some_iff.1 e
  exact h.perm (cons_erase_perm hk).symm
theorem set_erase (l : List Asn) (k : Nat) (a : Asn) : (l.set k a).eraseIdx k = l.eraseIdx k := by
  induction l generalizing k with
  | nil => rfl
  | cons x l ih => cases k with
    | zero => rfl
    | succ k => show x :: (l.set k a).eraseIdx k = x :: l.eraseIdx k; rw [ih]
theorem St.back {w0 w : World} {l : List Asn} {a : Asn} (k : Nat) (hk : k < l.length) (h : St w0 (a :: l.eraseIdx k) w) : St w0 (l.set k a) w := by
  have e : (l.set k a).eraseIdx k = l.eraseIdx k := set_erase l k a
  refine h.perm ?_
  rw [← e]
  have hk' : k < (l.set k a).length := by simpa using hk
  have := cons_erase_perm hk'
  simpa using this
/-- Behind what only makes memory. -/
theorem St.below {w0 w w' : World} {l : List Asn} (h : St w0 l w) (hb : Below w.heap.size w w') : St w0 l w' := by
  obtain ⟨hb0, F, ho, hh⟩ := h
  exact ⟨hb0.trans (hb.mono hb0.size), F, ⟨ho.lo, fun k b hf => Nat.lt_of_lt_of_le (ho.hi k b hf) hb.size, ho.one⟩, fun k a e => a.mono (hh k a e) fun b hlt hf => ⟨hf, hb.block b hlt⟩⟩
theorem St.drew {w0 w : World} {l : List Asn} (h : St w0 l w) : St w0 l w.drew := h.below (bl_drew (bl_refl w))
theorem St.drewN {w0 w : World} {l : List Asn} (h : St w0 l w) (n : Nat) : St w0 l (w.drewN n) := h.below (bl_drewN (bl_refl w) n)
/-- The world before the beginning may be forgotten. -/
theorem St.from_ {w0 w1 w : World} {l : List Asn} (h : St w1 l w) (hb : Below w0.heap.size w0 w1) : St w0 l w := by
  obtain ⟨hb1, F, ho, hh⟩ := h
  exact ⟨hb.trans (hb1.mono hb.size), F, ⟨fun k b hf => Nat.le_trans hb.size (ho.lo k b hf), ho.hi, ho.one⟩, hh⟩
/-- The first thing, with its blocks; it may become another one. -/
theorem St.opens {w0 w : World} {a : Asn} {l : List Asn} (h : St w0 (a :: l) w) : ∃ fp : Nat → Prop, a.P fp w ∧ ∀ (a' : Asn) (w' : World), (∃ fp' : Nat → Prop, a'.P fp' w' ∧ (∀ b, fp' b → b < w.heap.size → fp b) ∧ Str w w' ∧ ∀ b, b < w.heap.size → ¬ fp b → w'.heap[b]? = w.heap[b]?) → St w0 (a' :: l) w' := by
  obtain ⟨hb0, F, ho, hh⟩ := h
  refine ⟨F 0, hh 0 a rfl, fun a' w' hc => ?_⟩
  obtain ⟨fp', h1, h2, h3, h4⟩ := hc
  have old : ∀ b, b < w0.heap.size → w'.heap[b]? = w.heap[b]? := fun b hb => h4 b (Nat.lt_of_lt_of_le hb hb0.size) fun hf => by have := ho.lo 0 b hf; omega
  have oth : ∀ k b, F (k + 1) b → w'.heap[b]? = w.heap[b]? := fun k b hf => h4 b (ho.hi _ _ hf) fun h0 => by have := ho.one _ _ _ hf h0; omega
  refine ⟨⟨h3.os.trans hb0.os, h3.tape.trans hb0.tape, h3.output.trans hb0.output, Nat.le_trans hb0.size h3.size, fun b hb => (old b hb).trans (hb0.block b hb)⟩,
    fun k b => match k with | 0 => fp' b ∧ b < w'.heap.size ∧ w0.heap.size ≤ b | k + 1 => F (k + 1) b, ⟨fun k b hf => ?_, fun k b hf => ?_, fun k j b h1 h5 => ?_⟩, fun k x e => ?_⟩
  · cases k
    · exact hf.2.2
    · exact ho.lo _ _ hf
  · cases k
    · exact hf.2.1
    · exact Nat.lt_of_lt_of_le (ho.hi _ _ hf) h3.size
  · cases k <;> cases j
    · rfl
    · have := ho.one _ _ _ (h2 b h1.1 (ho.hi _ _ h5)) h5; omega
    · have := ho.one _ _ _ h1 (h2 b h5.1 (ho.hi _ _ h1)); omega
    · exact ho.one _ _ _ h1 h5
  · cases k with
    | zero =>
      simp only [List.getElem?_cons_zero, Option.some.injEq] at e
      subst e
      refine a'.mono h1 fun b hlt hf => ⟨⟨hf, hlt, ?_⟩, rfl⟩
      rcases Nat.lt_or_ge b w.heap.size with h6 | h6
      · exact ho.lo 0 b (h2 b hf h6)
      · have := hb0.size; omega
    | succ k =>
      simp only [List.getElem?_cons_succ] at e
      exact x.mono (hh (k + 1) x (by simpa using e)) fun b hlt hf => ⟨hf, oth k b hf⟩
theorem St.change {w0 w w' : World} {a a' : Asn} {l : List Asn} (h : St w0 (a :: l) w)
    (hc : ∀ fp : Nat → Prop, a.P fp w → ∃ fp' : Nat → Prop, a'.P fp' w' ∧ (∀ b, fp' b → b < w.heap.size → fp b) ∧ Str w w' ∧ ∀ b, b < w.heap.size → ¬ fp b → w'.heap[b]? = w.heap[b]?) : St w0 (a' :: l) w' := by
  obtain ⟨fp, h1, h2⟩ := h.opens
  exact h2 a' w' (hc fp h1)
/-- A thing that is new. -/
theorem St.more {w0 w w' : World} {a : Asn} {l : List Asn} (h : St w0 l w) (hb : Below w.heap.size w w') (ha : a.P (fun b => w.heap.size ≤ b) w') : St w0 (a :: l) w' := by
  obtain ⟨hb0, F, ho, hh⟩ := h
  refine ⟨hb0.trans (hb.mono hb0.size), fun k b => match k with | 0 => w.heap.size ≤ b ∧ b < w'.heap.size | k + 1 => F k b, ⟨fun k b hf => ?_, fun k b hf => ?_, fun k j b h1 h5 => ?_⟩, fun k x e => ?_⟩
  · cases k
    · exact Nat.le_trans hb0.size hf.1
    · exact ho.lo _ _ hf
  · cases k
    · exact hf.2
    · exact Nat.lt_of_lt_of_le (ho.hi _ _ hf) hb.size
  · cases k <;> cases j
    · rfl
    · have := ho.hi _ _ h5; have := h1.1; omega
    · have := ho.hi _ _ h1; have := h5.1; omega
    · rw [ho.one _ _ _ h1 h5]
  · cases k with
    | zero =>
      simp only [List.getElem?_cons_zero, Option.some.injEq] at e
      subst e
      exact a.mono ha fun b hlt hf => ⟨⟨hf, hlt⟩, rfl⟩
    | succ k =>
      simp only [List.getElem?_cons_succ] at e
      exact x.mono (hh k x e) fun b hlt hf => ⟨hf, hb.block b hlt⟩

/-- A block of cells. -/
def boxA (p : Nat) (c : Array Value) (T : TypeId) : Asn := ⟨fun fp w => fp p ∧ w.heap[p]? = some (.cells c T (0, 0)), fun h k => by
  have l := lt_of_heap h.2
  exact ⟨(k p l h.1).1, (k p l h.1).2.trans h.2⟩⟩
/-- A row of one's own. -/
def rowA (e : TypeId) (size : Nat) (v : Value) (n : Nat) (xs : List Value) : Asn := ⟨fun fp w => w.ownsRow 0 e size v n xs ∧ ∀ b, v.ownBlock = some b → fp b, fun h k => ⟨own_of_block h.1 fun b hb => (k b (h.1.lt b hb).2 (h.2 b hb)).2, fun b hb => (k b (h.1.lt b hb).2 (h.2 b hb)).1⟩⟩
/-- A fact. -/
def factA (p : Prop) : Asn := ⟨fun _ _ => p, fun h _ => h⟩
def exA {α : Type} (f : α → Asn) : Asn := ⟨fun fp w => ∃ x, (f x).P fp w, fun h k => h.imp fun x hx => (f x).mono hx k⟩
/-- Some things as one. -/
def starA (l : List Asn) : Asn := ⟨fun fp w => ∃ F : Nat → Nat → Prop, (∀ k b, F k b → fp b) ∧ (∀ k j b, F k b → F j b → k = j) ∧ Holds l F w, fun h k => by
  obtain ⟨F, h1, h2, h3⟩ := h
  rename_i fp fp' w w'
  exact ⟨fun k b => F k b ∧ b < w.heap.size, fun j b hf => (k b hf.2 (h1 j b hf.1)).1, fun i j b hf hg => h2 _ _ _ hf.1 hg.1, fun j a e => a.mono (h3 j a e) fun b hlt hf => ⟨⟨hf, hlt⟩, (k b hlt (h1 j b hf)).2⟩⟩⟩
/-- A memory. -/
noncomputable def memA (q : Nat) (ws : List Int) (ns : List Note) : Asn := ⟨fun fp w => ∃ own : Nat → Nat, (∀ b, own b = 1 → fp b) ∧ IsMem own 1 w q ws ns, fun {fp fp' w w'} h k => by
  obtain ⟨own, h1, h2⟩ := h
  classical
  obtain ⟨A, c, nv, hP, hn, hb, hg⟩ := h2.body
  have lp := lt_of_heap hP
  refine ⟨fun b => if b < w.heap.size then own b else 0, fun b e => ?_, ⟨h2.len, h2.rng, by simp only [lp, if_true]; exact h2.mine, A, c, nv, (k q lp (h1 q h2.mine)).2.trans hP, own_of_block hn fun b e => (k b (hn.lt b e).2 (h1 b (hb b e).1)).2, fun b e => ⟨by have := (hn.lt b e).2; simp only [this, if_true]; exact (hb b e).1, (hb b e).2⟩, ?_⟩⟩
  · by_cases c : b < w.heap.size
    · simp only [c, if_true] at e
      exact (k b c (h1 b e)).1
    · simp only [c, if_false] at e; omega
  · rcases hg with e | ⟨g, cur, e1, e2, e3, e4, e5, e6⟩
    · exact .inl e
    · have lg := lt_of_heap e4
      exact .inr ⟨g, cur, e1, by simp only [lg, if_true]; exact e2, e3, (k g lg (h1 g e2)).2.trans e4, e5, e6⟩⟩

theorem St.cells {w0 w : World} {l : List Asn} (h : St w0 l w) (k : Nat) {p : Nat} {c : Array Value} {T : TypeId} (e : l[k]? = some (boxA p c T)) : w.heap[p]? = some (.cells c T (0, 0)) := by
  obtain ⟨_, F, _, hh⟩ := h
  exact (hh k _ e).2
theorem St.ex {w0 w : World} {α : Type} {f : α → Asn} {l : List Asn} (h : St w0 (exA f :: l) w) : ∃ x, St w0 (f x :: l) w := by
  obtain ⟨hb, F, ho, hh⟩ := h
  obtain ⟨x, hx⟩ := hh 0 _ rfl
  refine ⟨x, hb, F, ho, fun k a e => ?_⟩
  cases k with
  | zero => simp only [List.getElem?_cons_zero, Option.some.injEq] at e; subst e; exact hx
  | succ k => exact hh (k + 1) a (by simpa using e)
theorem St.unex {w0 w : World} {α : Type} {f : α → Asn} {l : List Asn} (x : α) (h : St w0 (f x :: l) w) : St w0 (exA f :: l) w := by
  obtain ⟨hb, F, ho, hh⟩ := h
  refine ⟨hb, F, ho, fun k a e => ?_⟩
  cases k with
  | zero => simp only [List.getElem?_cons_zero, Option.some.injEq] at e; subst e; exact ⟨x, hh 0 _ rfl⟩
  | succ k => exact hh (k + 1) a (by simpa using e)
theorem St.fact {w0 w : World} {p : Prop} {l : List Asn} (h : St w0 (factA p :: l) w) : p := by
  obtain ⟨hb, F, ho, hh⟩ := h
  exact hh 0 _ rfl
theorem St.factI {w0 w : World} {p : Prop} {l : List Asn} (hp : p) (h : St w0 l w) : St w0 (factA p :: l) w := h.more (bl_refl w) hp
theorem St.unstar {w0 w : World} {m l : List Asn} (h : St w0 (starA m :: l) w) : St w0 (m ++ l) w := by
  obtain ⟨hb, F, ho, hh⟩ := h
  obtain ⟨G, h1, h2, h3⟩ := hh 0 _ rfl
  refine ⟨hb, fun k b => if k < m.length then G k b else F (k - m.length + 1) b, ⟨fun k b hf => ?_, fun k b hf => ?_, fun k j b hf hg => ?_⟩, fun k a e => ?_⟩
  · by_cases c : k < m.length
    · simp only [c, if_true] at hf; exact ho.lo _ _ (h1 _ _ hf)
    · simp only [c, if_false] at hf; exact ho.lo _ _ hf
  · by_cases c : k < m.length
    · simp only [c, if_true] at hf; exact ho.hi _ _ (h1 _ _ hf)
    · simp only [c, if_false] at hf; exact ho.hi _ _ hf
  · by_cases c : k < m.length <;> by_cases d : j < m.length <;> simp only [c, d, if_true, if_false] at hf hg
    · exact h2 _ _ _ hf hg
    · have := ho.one _ _ _ (h1 _ _ hf) hg; omega
    · have := ho.one _ _ _ hf (h1 _ _ hg); omega
    · have := ho.one _ _ _ hf hg; omega
  · by_cases c : k < m.length
    · simp only [c, if_true]
      rw [List.getElem?_append_left c] at e
      exact h3 k a e
    · simp only [c, if_false]
      rw [List.getElem?_append_right (by omega)] at e
      exact hh _ a (by simpa using e)
theorem St.star {w0 w : World} (m : List Asn) {l : List Asn} (h : St w0 (m ++ l) w) : St w0 (starA m :: l) w := by
  obtain ⟨hb, F, ho, hh⟩ := h
  refine ⟨hb, fun k b => match k with | 0 => ∃ j, j < m.length ∧ F j b | k + 1 => F (k + m.length) b, ⟨fun k b hf => ?_, fun k b hf => ?_, fun k j b hf hg => ?_⟩, fun k a e => ?_⟩
  · cases k with
    | zero => obtain ⟨j, _, hf⟩ := hf; exact ho.lo _ _ hf
    | succ k => exact ho.lo _ _ hf
  · cases k with
    | zero => obtain ⟨j, _, hf⟩ := hf; exact ho.hi _ _ hf
    | succ k => exact ho.hi _ _ hf
  · cases k <;> cases j
    · rfl
    · obtain ⟨i, hi, hf⟩ := hf; have := ho.one _ _ _ hf hg; omega
    · obtain ⟨i, hi, hg⟩ := hg; have := ho.one _ _ _ hf hg; omega
    · have := ho.one _ _ _ hf hg; omega
  · cases k with
    | zero =>
      simp only [List.getElem?_cons_zero, Option.some.injEq] at e
      subst e
      refine ⟨fun k b => k < m.length ∧ F k b, fun k b hf => ⟨k, hf⟩, fun k j b hf hg => ho.one _ _ _ hf.2 hg.2, fun k a e => ?_⟩
      have hk : k < m.length := (List.getElem?_eq_some_iff.1 e).1
      exact a.mono (hh k a (by rw [List.getElem?_append_left hk]; exact e)) fun b _ hf => ⟨⟨hk, hf⟩, rfl⟩
    | succ k => exact hh _ a (by simp only [List.getElem?_cons_succ] at e; rw [List.getElem?_append_right (by omega)]; simpa using e)
theorem St.set {w0 w : World} {p : Nat} {c : Array Value} {T : TypeId} {l : List Asn} (h : St w0 (boxA p c T :: l) w) (k : Nat) (v : Value) : St w0 (boxA p (c.setIfInBounds k v) T :: l) (w.setCell ⟨p, k, none⟩ v) :=
  h.change fun fp hp => ⟨fp, ⟨hp.1, heap_set hp.2⟩, fun b hb _ => hb, (Str.refl w).set _ _, fun b _ hb => heap_set_ne fun e => hb (by rw [e]; exact hp.1)⟩
theorem St.alloc {w0 w : World} {l : List Asn} (h : St w0 l w) (c : Array Value) (T : TypeId) : St w0 (boxA w.heap.size c T :: l) (w.alloc (.cells c T)) :=
  h.more (bl_alloc (bl_refl w) _) ⟨Nat.le_refl _, heap_new rfl⟩
theorem St.setAt {w0 w : World} {l : List Asn} (h : St w0 l w) (k : Nat) {p : Nat} {c : Array Value} {T : TypeId} (e : l[k]? = some (boxA p c T)) (j : Nat) (v : Value) : St w0 (l.set k (boxA p (c.setIfInBounds j v) T)) (w.setCell ⟨p, j, none⟩ v) :=
  ((h.front k e).set j v).back k (List.getElem?_eq_some_iff.1 e).1
/-- A memory, and what an access leaves. -/
theorem St.mem {w0 w : World} {q : Nat} {ws : List Int} {ns : List Note} {l : List Asn} (h : St w0 (memA q ws ns :: l) w) : ∃ own : Nat → Nat, IsMem own 1 w q ws ns ∧ ∀ ws' ns' w', MemPost own 1 w q ws' ns' w' → St w0 (memA q ws' ns' :: l) w' := by
  obtain ⟨fp, ⟨own, h1, h2⟩, hc⟩ := h.opens
  refine ⟨own, h2, fun ws' ns' w' hp => hc _ _ ?_⟩
  obtain ⟨o, hf, hm⟩ := hp
  exact ⟨fun b => o b = 1, ⟨o, fun _ e => e, hm⟩, fun b e hb => h1 b (by rw [← hf.ext b hb]; exact e), hf.str, fun b hb hn => hf.keep b hb fun e => hn (h1 b e)⟩
theorem St.len {w0 w : World} {q : Nat} {ws : List Int} {ns : List Note} {l : List Asn} (h : St w0 (memA q ws ns :: l) w) : ws.length ≤ 1024 := by
  obtain ⟨own, h1, _⟩ := h.mem
  exact h1.len
theorem St.rng {w0 w : World} {q : Nat} {ws : List Int} {ns : List Note} {l : List Asn} (h : St w0 (memA q ws ns :: l) w) {i : Nat} (hi : i < ws.length) : 0 ≤ rdW ws i ∧ rdW ws i < 18446744073709551616 := by
  obtain ⟨own, h1, _⟩ := h.mem
  exact rdW_rng h1.rng hi
theorem load_st {w0 w : World} {q : Nat} {ws : List Int} {ns : List Note} {l : List Asn} (h : St w0 (memA q ws ns :: l) w) (i : Nat) (x : Int) (hx : rdW ws i = x) (hi : i < ws.length) (hk : ns.length ≤ 1000000000000) :
    Calls Tryz.prog 106 #[.pointer (some ⟨q, 0, none⟩), .int .i64 i] w fun e w' => e = .returned (.tuple #[.int .u64 x, .int .i64 0]) ∧ St w0 (memA q ws (ns ++ [⟨108, i, x, x, true⟩]) :: l) w' := by
  subst hx
  obtain ⟨own, h1, h2⟩ := h.mem
  exact (load_in own 1 q ws ns i w h1 hi hk).mono fun e w' k => ⟨k.1, h2 _ _ _ k.2⟩
theorem load_no {w0 w : World} {q : Nat} {ws : List Int} {ns : List Note} {l : List Asn} (h : St w0 (memA q ws ns :: l) w) (i : Int) (hi : i < 0 ∨ (ws.length : Int) ≤ i) :
    Calls Tryz.prog 106 #[.pointer (some ⟨q, 0, none⟩), .int .i64 i] w fun e w' => e = .returned (.tuple #[.int .u64 0, .int .i64 2]) ∧ St w0 (memA q ws ns :: l) w' := by
  obtain ⟨own, h1, h2⟩ := h.mem
  exact (load_out own 1 q ws ns i w h1 hi).mono fun e w' k => ⟨k.1, h.below k.2⟩
theorem store_st {w0 w : World} {q : Nat} {ws : List Int} {ns : List Note} {l : List Asn} (h : St w0 (memA q ws ns :: l) w) (i : Nat) (x v : Int) (hx : rdW ws i = x) (hi : i < ws.length) (hk : ns.length ≤ 1000000000000) (v0 : 0 ≤ v) (v1 : v < 18446744073709551616) :
    Calls Tryz.prog 32 #[.pointer (some ⟨q, 0, none⟩), .int .i64 i, .int .u64 v] w fun e w' => e = .returned (.int .i64 0) ∧ St w0 (memA q (ws.set i v) (ns ++ [⟨115, i, x, v, true⟩]) :: l) w' := by
  subst hx
  obtain ⟨own, h1, h2⟩ := h.mem
  exact (store_in own 1 q ws ns i v w h1 hi hk v0 v1).mono fun e w' k => ⟨k.1, h2 _ _ _ k.2⟩
theorem store_no {w0 w : World} {q : Nat} {ws : List Int} {ns : List Note} {l : List Asn} (h : St w0 (memA q ws ns :: l) w) (i v : Int) (hi : i < 0 ∨ (ws.length : Int) ≤ i) :
    Calls Tryz.prog 32 #[.pointer (some ⟨q, 0, none⟩), .int .i64 i, .int .u64 v] w fun e w' => e = .returned (.int .i64 2) ∧ St w0 (memA q ws ns :: l) w' := by
  obtain ⟨own, h1, h2⟩ := h.mem
  exact (store_out own 1 q ws ns i v w h1 hi).mono fun e w' k => ⟨k.1, h.below k.2⟩
theorem swap_st {w0 w : World} {q : Nat} {ws : List Int} {ns : List Note} {l : List Asn} (h : St w0 (memA q ws ns :: l) w) (i : Nat) (x v : Int) (hx : rdW ws i = x) (hi : i < ws.length) (hk : ns.length ≤ 1000000000000) (v0 : 0 ≤ v) (v1 : v < 18446744073709551616) :
    Calls Tryz.prog 157 #[.pointer (some ⟨q, 0, none⟩), .int .i64 i, .int .u64 x, .int .u64 v] w fun e w' => e = .returned (.tuple #[.bool true, .int .i64 0]) ∧ St w0 (memA q (ws.set i v) (ns ++ [⟨99, i, x, v, true⟩]) :: l) w' := by
  subst hx
  obtain ⟨own, h1, h2⟩ := h.mem
  exact (swap_in own 1 q ws ns i v w h1 hi hk v0 v1).mono fun e w' k => ⟨k.1, h2 _ _ _ k.2⟩
theorem swap_lost {w0 w : World} {q : Nat} {ws : List Int} {ns : List Note} {l : List Asn} (h : St w0 (memA q ws ns :: l) w) (i : Nat) (x old v : Int) (hx : rdW ws i = x) (hi : i < ws.length) (hk : ns.length ≤ 1000000000000) (hne : (x == old) = false) :
    Calls Tryz.prog 157 #[.pointer (some ⟨q, 0, none⟩), .int .i64 i, .int .u64 old, .int .u64 v] w fun e w' => e = .returned (.tuple #[.bool false, .int .i64 0]) ∧ St w0 (memA q ws (ns ++ [⟨99, i, x, x, false⟩]) :: l) w' := by
  subst hx
  obtain ⟨own, h1, h2⟩ := h.mem
  exact (swap_miss own 1 q ws ns i old v w h1 hi hk hne).mono fun e w' k => ⟨k.1, h2 _ _ _ k.2⟩
theorem swap_no {w0 w : World} {q : Nat} {ws : List Int} {ns : List Note} {l : List Asn} (h : St w0 (memA q ws ns :: l) w) (i u v : Int) (hi : i < 0 ∨ (ws.length : Int) ≤ i) :
    Calls Tryz.prog 157 #[.pointer (some ⟨q, 0, none⟩), .int .i64 i, .int .u64 u, .int .u64 v] w fun e w' => e = .returned (.tuple #[.bool false, .int .i64 2]) ∧ St w0 (memA q ws ns :: l) w' := by
  obtain ⟨own, h1, h2⟩ := h.mem
  exact (swap_out own 1 q ws ns i u v w h1 hi).mono fun e w' k => ⟨k.1, h.below k.2⟩
theorem count_st {w0 w : World} {q : Nat} {ws : List Int} {ns : List Note} {l : List Asn} (h : St w0 (memA q ws ns :: l) w) (n : Int) (hn : (ns.length : Int) = n) :
    Calls Tryz.prog 19 #[.pointer (some ⟨q, 0, none⟩)] w fun e w' => e = .returned (.int .i64 n) ∧ w = w' := by
  subst hn
  obtain ⟨own, h1, h2⟩ := h.mem
  exact (count_any own 1 q ws ns w h1).mono fun e w' k => ⟨k.1, k.2.symm⟩
theorem row_rdU {w : World} {base : Nat} {a : Option Addr} {c : Nat} {ws : List Int} (ho : w.ownsRow base 25 1 (.slice a ws.length c) ws.length (ws.map fun x => Value.int .u64 x)) : RdU w a ws ∧ ws.length ≤ c := by
  rcases ho.2 with ⟨e, e0⟩ | ⟨g, cap, cur, e, hg, hh, h1, h2, h3, h4⟩
  · simp only [Value.slice.injEq] at e
    obtain ⟨rfl, _, rfl⟩ := e
    exact ⟨⟨fun _ => e0, fun h => by omega⟩, by omega⟩
  · simp only [Value.slice.injEq] at e
    obtain ⟨rfl, _, rfl⟩ := e
    refine ⟨⟨fun e => (by simp at e), fun h0 => ⟨_, rfl, fun j u hu => ?_⟩⟩, by omega⟩
    rw [Nat.mul_one] at h4
    rw [add_zero', cell_of hh]
    rw [← h4] at hu
    have hj : j < ws.length := by
      rcases Nat.lt_or_ge j ws.length with h5 | h5
      · exact h5
      · rw [List.getElem?_take, if_neg (by omega)] at hu; cases hu
    rw [List.getElem?_take, if_pos hj] at hu
    simpa using hu
theorem RdU.cellA {w : World} {A : Option Addr} {ws : List Int} (h : RdU w A ws) {k : Nat} (hk : k < ws.length) : ∃ ad, A = some ad ∧ w.cell? (ad.add k) = some (.int .u64 (rdW ws k)) := by
  obtain ⟨ad, rfl, hc⟩ := h.at_ (by omega)
  refine ⟨ad, rfl, hc k _ ?_⟩
  rw [List.getElem?_map, List.getElem?_eq_getElem hk]
  simp [rdW, hk]
theorem rdW_set (ws : List Int) (i : Nat) (v : Int) (h : i < ws.length) : rdW (ws.set i v) i = v := by simp [rdW, h]
theorem rdW_other (ws : List Int) (i j : Nat) (v : Int) (h : j ≠ i) : rdW (ws.set i v) j = rdW ws j := by simp [rdW, List.getElem?_set, h.symm]
/-- A memory's words, as a slice that can be read. -/
def WordsRd (w : World) (ws : List Int) (n : Nat) (e : Ending) (w' : World) : Prop := ∃ al c', e = .returned (.slice al n c') ∧ RdU w' al ws ∧ n ≤ c' ∧ Below w.heap.size w w'
theorem words_st {w0 w : World} {q : Nat} {ws : List Int} {ns : List Note} {l : List Asn} (h : St w0 (memA q ws ns :: l) w) (n : Nat) (hn : ws.length = n) :
    Calls Tryz.prog 21 #[.pointer (some ⟨q, 0, none⟩)] w (WordsRd w ws n) := by
  subst hn
  obtain ⟨own, h1, h2⟩ := h.mem
  refine (words_any own 1 q ws ns w h1).mono ?_
  rintro e w' ⟨v, rfl, ho, hb, a, c, rfl⟩
  obtain ⟨h3, h4⟩ := row_rdU ho
  exact ⟨a, c, rfl, h3, h4, hb⟩
/-- A memory that is made. -/
theorem new_st {w0 w : World} {l : List Asn} (h : St w0 l w) (A : Option Addr) (c N : Nat) (ws : List Int) (hr : RdU w A ws) (hl : N ≤ 1024) (hv : ∀ x ∈ ws, 0 ≤ x ∧ x < 18446744073709551616) (hN : ws.length = N) :
    Calls Tryz.prog 13 #[.slice A N c] w fun e w' => ∃ q, e = .returned (.tuple #[.pointer (some ⟨q, 0, none⟩), .int .i64 0]) ∧ St w0 (memA q ws [] :: l) w' := by
  subst hN
  refine (new_ok (fun _ => 0) 1 A c ws w hr hl hv).mono ?_
  rintro e w' ⟨p, o, rfl, hp, hf, hm⟩
  have hb : Below w.heap.size w w' := ⟨hf.str.os, hf.str.tape, hf.str.output, hf.str.size, fun b hb => hf.keep b hb (fun h => h)⟩
  refine ⟨p, rfl, h.more hb ⟨o, fun b e => ?_, hm⟩⟩
  rcases Nat.lt_or_ge b w.heap.size with h1 | h1
  · have := hf.ext b h1; omega
  · exact h1
end Go.Proofs.YtgfeagggkplegaaGreat
