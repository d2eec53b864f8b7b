/-
  Rows of a state: reading, writing, appending, making; many things of one kind.
-/
import Derived.Test.YtgfeagggkplegaaGreatSt
namespace Go.Proofs.YtgfeagggkplegaaGreat
open Go.RowKit
set_option linter.unusedVariables false
set_option linter.unusedSimpArgs false

/-- A row that has a block. -/
abbrev rowG (g c : Nat) (e : TypeId) (size n : Nat) (xs : List Value) : Asn := rowA e size (.slice (some ⟨g, 0, none⟩) n c) n xs
theorem St.row {w0 w : World} {l : List Asn} (h : St w0 l w) (j : Nat) {g c n size : Nat} {e : TypeId} {xs : List Value} (he : l[j]? = some (rowG g c e size n xs)) : w.ownsRow 0 e size (.slice (some ⟨g, 0, none⟩) n c) n xs := by
  obtain ⟨_, F, _, hh⟩ := h
  exact (hh j _ he).1
theorem row_block {w : World} {g c n size : Nat} {e : TypeId} {xs : List Value} (h : w.ownsRow 0 e size (.slice (some ⟨g, 0, none⟩) n c) n xs) :
    ∃ cur, w.heap[g]? = some (.cells cur e (0, 0)) ∧ n ≤ c ∧ cur.size = c * size ∧ cur.toList.take (n * size) = xs ∧ xs.length = n * size := by
  obtain ⟨h1, h2 | ⟨g', cap, cur, hv, _, hh, h3, h4, h5, h6⟩⟩ := h
  · cases h2.1
  · simp only [Value.slice.injEq, Option.some.injEq, Addr.mk.injEq] at hv
    obtain ⟨⟨rfl, _⟩, _, rfl⟩ := hv
    exact ⟨cur, hh, h3, h5, h6, h1⟩
/-- A cell of a row. -/
theorem St.at_ {w0 w : World} {l : List Asn} (h : St w0 l w) (j : Nat) {g c n size : Nat} {e : TypeId} {xs : List Value} (he : l[j]? = some (rowG g c e size n xs)) (k : Nat) {u : Value} (hu : xs[k]? = some u) : w.cell? ⟨g, k, none⟩ = some u ∧ w.frozen? ⟨g, k, none⟩ = false := by
  obtain ⟨cur, hh, _, _, h4, h5⟩ := row_block (h.row j he)
  refine ⟨?_, free_of hh k⟩
  rw [cell_of hh k]
  have hk : k < n * size := by rw [← h5]; exact (List.getElem?_eq_some_iff.1 hu).1
  rw [← h4, List.getElem?_take, if_pos hk] at hu
  simpa using hu
theorem St.row_lt {w0 w : World} {l : List Asn} (h : St w0 l w) (j : Nat) {g c n size : Nat} {e : TypeId} {xs : List Value} (he : l[j]? = some (rowG g c e size n xs)) : g < w.heap.size ∧ n ≤ c := by
  obtain ⟨cur, hh, h1, _⟩ := row_block (h.row j he)
  exact ⟨lt_of_heap hh, h1⟩
/-- A store into a row. -/
theorem St.rowSet0 {w0 w : World} {l : List Asn} {g c n size : Nat} {e : TypeId} {xs : List Value} (h : St w0 (rowG g c e size n xs :: l) w) (k : Nat) (hk : k < n * size) (u : Value) : St w0 (rowG g c e size n (xs.set k u) :: l) (w.setCell ⟨g, k, none⟩ u) := by
  refine h.change fun fp hp => ⟨fp, ⟨?_, hp.2⟩, fun b hb _ => hb, (Str.refl w).set _ _, fun b _ hb => heap_set_ne fun e => hb (by rw [e]; exact hp.2 g rfl)⟩
  obtain ⟨h1, h2 | ⟨g', cap, cur, hv, h0, hh, h3, h4, h5, h6⟩⟩ := hp.1
  · cases h2.1
  · simp only [Value.slice.injEq, Option.some.injEq, Addr.mk.injEq] at hv
    obtain ⟨⟨rfl, _⟩, _, rfl⟩ := hv
    refine ⟨by simpa using h1, .inr ⟨g, c, cur.setIfInBounds k u, rfl, h0, heap_set hh, h3, h4, by simpa using h5, ?_⟩⟩
    rw [Array.toList_setIfInBounds, take_set _ hk, h6]
theorem St.rowSet {w0 w : World} {l : List Asn} (h : St w0 l w) (j : Nat) {g c n size : Nat} {e : TypeId} {xs : List Value} (he : l[j]? = some (rowG g c e size n xs)) (k : Nat) (hk : k < n * size) (u : Value) : St w0 (l.set j (rowG g c e size n (xs.set k u))) (w.setCell ⟨g, k, none⟩ u) :=
  ((h.front j he).rowSet0 k hk u).back j (List.getElem?_eq_some_iff.1 he).1
/-- What an append to the first row leaves. -/
theorem St.append {w0 w w' : World} {l : List Asn} {e : TypeId} {size n n' : Nat} {v : Value} {xs xs' : List Value} {g c : Nat} (h : St w0 (rowA e size v n xs :: l) w) (ho : w'.ownsRow 0 e size (.slice (some ⟨g, 0, none⟩) n' c) n' xs') (hg : w.grownBy w' v.ownBlock) (hat : v.ownBlock = some g ∨ g = w.heap.size) : St w0 (rowG g c e size n' xs' :: l) w' := by
  refine h.change fun fp hp => ⟨fun b => b = g, ⟨ho, fun b hb => by cases hb; rfl⟩, fun b hb hlt => ?_, ⟨hg.os, hg.tape, hg.output, hg.size⟩, fun b hb hn => hg.block b hb fun hv => hn (hp.2 b hv.symm)⟩
  subst hb
  rcases hat with h1 | h1
  · exact hp.2 _ h1
  · omega
/-- An empty row, without a block. -/
theorem St.rowNil {w0 w : World} {l : List Asn} (h : St w0 l w) (e : TypeId) (size : Nat) : St w0 (rowA e size (.slice none 0 0) 0 [] :: l) w := h.more (bl_refl w) ⟨World.ownsRow_nil _ _ _ _, fun b hb => by cases hb⟩
/-- A row that is made. -/
theorem St.made {w0 w w' : World} {l : List Asn} {e : TypeId} {size n c : Nat} {xs : List Value} (h : St w0 l w) (ho : w'.ownsRow w.heap.size e size (.slice (some ⟨w.heap.size, 0, none⟩) n c) n xs) (hg : w.grownBy w' none) : St w0 (rowG w.heap.size c e size n xs :: l) w' := by
  refine h.more ⟨hg.os, hg.tape, hg.output, hg.size, fun b hb => hg.block b hb (by simp)⟩ ⟨⟨ho.1, ?_⟩, fun b hb => by cases hb; exact Nat.le_refl _⟩
  exact ho.2.imp id fun ⟨g, cap, cur, h1, h2, h3⟩ => ⟨g, cap, cur, h1, Nat.zero_le _, h3⟩
/-- Many things of one kind: the k-th to the front, and back. -/
def manyA {σ : Type} (f : Nat → σ → Asn) (ps : List Nat) (Ss : List σ) : List Asn := List.zipWith f ps Ss
theorem many_get {σ : Type} {f : Nat → σ → Asn} {ps : List Nat} {Ss : List σ} {k p : Nat} {S : σ} (hp : ps[k]? = some p) (hS : Ss[k]? = some S) : (manyA f ps Ss)[k]? = some (f p S) := by
  simp [manyA, List.getElem?_zipWith, hp, hS]
theorem many_set {σ : Type} {f : Nat → σ → Asn} : ∀ {ps : List Nat} {Ss : List σ} {k p : Nat} {S' : σ}, ps[k]? = some p → (manyA f ps Ss).set k (f p S') = manyA f ps (Ss.set k S')
  | [], Ss, k, p, S', h => by simp at h
  | q :: ps, [], k, p, S', h => by simp [manyA]
  | q :: ps, T :: Ss, 0, p, S', h => by
    simp only [List.getElem?_cons_zero, Option.some.injEq] at h
    subst h
    rfl
  | q :: ps, T :: Ss, k + 1, p, S', h => by
    simp only [List.getElem?_cons_succ] at h
    have := many_set (f := f) (Ss := Ss) (S' := S') h
    simp only [manyA, List.zipWith_cons_cons, List.set_cons_succ] at this ⊢
    rw [this]
theorem many_snoc {σ : Type} {f : Nat → σ → Asn} {ps : List Nat} {Ss : List σ} {p : Nat} {S : σ} (h : ps.length = Ss.length) : manyA f (ps ++ [p]) (Ss ++ [S]) = manyA f ps Ss ++ [f p S] := by
  simp [manyA, List.zipWith_append h]
theorem St.pick {w0 w : World} {m : Asn} {A : List Asn} {σ : Type} {f : Nat → σ → Asn} {ps : List Nat} {Ss : List σ} {k p : Nat} {S : σ} (h : St w0 (m :: (A ++ manyA f ps Ss)) w) (hp : ps[k]? = some p) (hS : Ss[k]? = some S) :
    ∃ R, St w0 (m :: f p S :: R) w ∧ ∀ w1 w' m' S', St w1 (m' :: f p S' :: R) w' → St w1 (m' :: (A ++ manyA f ps (Ss.set k S'))) w' := by
  have e : (m :: (A ++ manyA f ps Ss))[1 + A.length + k]? = some (f p S) := by
    rw [show 1 + A.length + k = (A.length + k) + 1 by omega, List.getElem?_cons_succ, List.getElem?_append_right (by omega), show A.length + k - A.length = k by omega]
    exact many_get hp hS
  have hk : k < (manyA f ps Ss).length := (List.getElem?_eq_some_iff.1 (many_get (f := f) hp hS)).1
  have h1 := h.front _ e
  have e2 : (m :: (A ++ manyA f ps Ss)).eraseIdx (1 + A.length + k) = m :: (A ++ (manyA f ps Ss).eraseIdx k) := by
    rw [show 1 + A.length + k = (A.length + k) + 1 by omega, List.eraseIdx_cons_succ, List.eraseIdx_append_of_length_le (by omega), show A.length + k - A.length = k by omega]
  rw [e2] at h1
  refine ⟨A ++ (manyA f ps Ss).eraseIdx k, h1.swap, fun w1 w' m' S' h2 => ?_⟩
  have h3 := h2.swap
  have e3 : (m' :: (A ++ manyA f ps Ss)).eraseIdx (1 + A.length + k) = m' :: (A ++ (manyA f ps Ss).eraseIdx k) := by
    rw [show 1 + A.length + k = (A.length + k) + 1 by omega, List.eraseIdx_cons_succ, List.eraseIdx_append_of_length_le (by omega), show A.length + k - A.length = k by omega]
  rw [← e3] at h3
  have h4 := h3.back (1 + A.length + k) (by simp; omega)
  rw [show 1 + A.length + k = (A.length + k) + 1 by omega, List.set_cons_succ, List.set_append_right _ _ (by omega), show A.length + k - A.length = k by omega, many_set hp] at h4
  exact h4
/-- One more of them. -/
theorem St.snoc {w0 w : World} {m : Asn} {A : List Asn} {σ : Type} {f : Nat → σ → Asn} {ps : List Nat} {Ss : List σ} {p : Nat} {S : σ} (h : St w0 (m :: f p S :: (A ++ manyA f ps Ss)) w) (hl : ps.length = Ss.length) : St w0 (m :: (A ++ manyA f (ps ++ [p]) (Ss ++ [S]))) w := by
  rw [many_snoc hl]
  refine h.perm (List.Perm.cons m ?_)
  have : (f p S :: (A ++ manyA f ps Ss)).Perm ((A ++ manyA f ps Ss) ++ [f p S]) := (List.perm_append_singleton _ _).symm
  rw [List.append_assoc] at this
  exact this
end Go.Proofs.YtgfeagggkplegaaGreat
