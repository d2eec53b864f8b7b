/-
  More on rows and states: what laws of many machines use.
-/
import Derived.Test.YtgfeagggkplegaaGreatRow
namespace Go.Proofs.YtgfeagggkplegaaGreat
open Go.RowKit
set_option linter.unusedVariables false
set_option linter.unusedSimpArgs false

def ptrV (p : Nat) : Value := .pointer (some ⟨p, 0, none⟩)
def i64V (x : Int) : Value := .int .i64 x
theorem set_same {α : Type} {l : List α} {k : Nat} {a : α} (h : l[k]? = some a) : l.set k a = l := by
  obtain ⟨hk, rfl⟩ := List.getElem?_eq_some_iff.1 h
  exact List.set_getElem_self hk
theorem getE {α : Type} {l : List α} {k : Nat} (h : k < l.length) : ∃ a, l[k]? = some a := ⟨l[k], List.getElem?_eq_getElem h⟩

theorem set_get {α : Type} {l : List α} {k j : Nat} {a b : α} (h : (l.set k a)[j]? = some b) (hk : k < l.length) : (j = k ∧ b = a) ∨ (j ≠ k ∧ l[j]? = some b) := by
  by_cases e : j = k
  · subst e
    rw [List.getElem?_set_self hk] at h
    exact .inl ⟨rfl, (Option.some.inj h).symm⟩
  · rw [List.getElem?_set_ne (fun c => e c.symm)] at h
    exact .inr ⟨e, h⟩
theorem St.rowOf {w0 w : World} {l : List Asn} (h : St w0 l w) (j : Nat) {v : Value} {n size : Nat} {e : TypeId} {xs : List Value} (he : l[j]? = some (rowA e size v n xs)) : w.ownsRow 0 e size v n xs := by
  obtain ⟨_, F, _, hh⟩ := h
  exact (hh j _ he).1
theorem St.ne {w0 w : World} {l : List Asn} (h : St w0 l w) (i j : Nat) (hij : i ≠ j) {g c n size g' c' n' size' : Nat} {e e' : TypeId} {xs xs' : List Value} (h1 : l[i]? = some (rowG g c e size n xs)) (h2 : l[j]? = some (rowG g' c' e' size' n' xs')) : g ≠ g' := by
  obtain ⟨_, F, ho, hh⟩ := h
  have a := (hh i _ h1).2 g rfl
  have b := (hh j _ h2).2 g' rfl
  intro e
  subst e
  exact hij (ho.one _ _ _ a b)
theorem row_some {w : World} {e : TypeId} {size n : Nat} {v : Value} {xs : List Value} (h : w.ownsRow 0 e size v n xs) (hn : 0 < n) : ∃ g c, v = .slice (some ⟨g, 0, none⟩) n c := by
  rcases h.2 with ⟨_, h2⟩ | ⟨g, cap, cur, hv, _⟩
  · omega
  · exact ⟨g, cap, hv⟩
theorem row_is {w : World} {e : TypeId} {size n : Nat} {v : Value} {xs : List Value} (h : w.ownsRow 0 e size v n xs) : ∃ A c, v = .slice A n c ∧ n ≤ maxLen := by
  rcases h.2 with ⟨h1, h2⟩ | ⟨g, cap, cur, hv, _, _, h3, h4, _⟩
  · exact ⟨none, 0, by rw [h1, h2], by unfold maxLen; omega⟩
  · exact ⟨_, cap, hv, by omega⟩
theorem made_one (v : Value) (n : Nat) : (madeCells #[v] (n * 1)).toList = List.replicate n v := by
  apply List.ext_getElem
  · simp [madeCells]
  · intro i h1 h2
    simp [madeCells, Nat.mod_one]
theorem set_kept {α : Type} {l : List α} {k : Nat} {a : α} (h : l[k]? = some a) : l.set k a = l := by
  apply List.ext_getElem?
  intro j
  rw [List.getElem?_set]
  by_cases e : k = j
  · subst e
    obtain ⟨hk, e⟩ := List.getElem?_eq_some_iff.1 h
    simp [hk, e]
  · simp [e]
theorem St.pairUp {w0 w : World} {m a b : Asn} {L : List Asn} (h : St w0 (m :: b :: a :: L) w) : St w0 (m :: starA [a, b] :: L) w := by
  have h1 : St w0 ([a, b] ++ m :: L) w := h.perm (by
    show List.Perm (m :: b :: a :: L) (a :: b :: m :: L)
    exact ((List.Perm.swap a b L).cons m).trans ((List.Perm.swap a m (b :: L)).trans ((List.Perm.swap b m L).cons a)))
  exact h1.star.swap
theorem St.rot5 {w0 w : World} {a b c d e : Asn} {L : List Asn} (h : St w0 (a :: b :: c :: d :: e :: L) w) : St w0 (b :: c :: d :: e :: a :: L) w := h.perm
  ((List.Perm.swap b a _).trans (((List.Perm.swap c a _).trans (((List.Perm.swap d a _).trans ((List.Perm.swap e a _).cons d)).cons c)).cons b))
theorem St.rot6 {w0 w : World} {a b c d e f : Asn} {L : List Asn} (h : St w0 (a :: b :: c :: d :: e :: f :: L) w) : St w0 (b :: c :: d :: e :: f :: a :: L) w := h.perm
  ((List.Perm.swap b a _).trans (((List.Perm.swap c a _).trans (((List.Perm.swap d a _).trans (((List.Perm.swap e a _).trans ((List.Perm.swap f a _).cons e)).cons d)).cons c)).cons b))
theorem St.pick2 {w0 w : World} {m : Asn} {A : List Asn} {σ : Type} {f : Nat → σ → Asn} {ps : List Nat} {Ss : List σ} {k p : Nat} {S : σ} (h : St w0 (m :: (A ++ manyA f ps Ss)) w) (hp : ps[k]? = some p) (hS : Ss[k]? = some S) :
    ∃ R, St w0 (m :: f p S :: (A ++ R)) w ∧ ∀ w1 w' m' S', St w1 (m' :: f p S' :: (A ++ R)) w' → St w1 (m' :: (A ++ manyA f ps (Ss.set k S'))) w' := by
  have e : (m :: (A ++ manyA f ps Ss))[1 + A.length + k]? = some (f p S) := by
    rw [show 1 + A.length + k = (A.length + k) + 1 by omega, List.getElem?_cons_succ, List.getElem?_append_right (by omega), show A.length + k - A.length = k by omega]
    exact many_get hp hS
  have hk : k < (manyA f ps Ss).length := (List.getElem?_eq_some_iff.1 (many_get (f := f) hp hS)).1
  have h1 := h.front _ e
  have e2 : (m :: (A ++ manyA f ps Ss)).eraseIdx (1 + A.length + k) = m :: (A ++ (manyA f ps Ss).eraseIdx k) := by
    rw [show 1 + A.length + k = (A.length + k) + 1 by omega, List.eraseIdx_cons_succ, List.eraseIdx_append_of_length_le (by omega), show A.length + k - A.length = k by omega]
  rw [e2] at h1
  refine ⟨(manyA f ps Ss).eraseIdx k, h1.swap, fun w1 w' m' S' h2 => ?_⟩
  have h3 := h2.swap
  have e3 : (m' :: (A ++ manyA f ps Ss)).eraseIdx (1 + A.length + k) = m' :: (A ++ (manyA f ps Ss).eraseIdx k) := by
    rw [show 1 + A.length + k = (A.length + k) + 1 by omega, List.eraseIdx_cons_succ, List.eraseIdx_append_of_length_le (by omega), show A.length + k - A.length = k by omega]
  rw [← e3] at h3
  have h4 := h3.back (1 + A.length + k) (by simp; omega)
  rw [show 1 + A.length + k = (A.length + k) + 1 by omega, List.set_cons_succ, List.set_append_right _ _ (by omega), show A.length + k - A.length = k by omega, many_set hp] at h4
  exact h4
theorem St.rot4' {w0 w : World} {a b c d : Asn} {L : List Asn} (h : St w0 (a :: b :: c :: d :: L) w) : St w0 (b :: c :: d :: a :: L) w := h.perm
  ((List.Perm.swap b a _).trans (((List.Perm.swap c a _).trans ((List.Perm.swap d a _).cons c)).cons b))
theorem St.sw12 {w0 w : World} {m a b : Asn} {l : List Asn} (h : St w0 (m :: a :: b :: l) w) : St w0 (m :: b :: a :: l) w := h.perm ((List.Perm.swap b a l).cons m)
/-- Two and two: each side of a pair apart. -/
theorem St.duo {w0 w : World} {a b c d : Asn} {R : List Asn} (h : St w0 (starA [a, b] :: starA [c, d] :: R) w) : St w0 (a :: c :: b :: d :: R) w := by
  have h1 : St w0 ([a, b] ++ starA [c, d] :: R) w := h.unstar
  have h2 : St w0 (starA [c, d] :: a :: b :: R) w := h1.perm (((List.Perm.swap (starA [c, d]) b R).cons a).trans (List.Perm.swap (starA [c, d]) a (b :: R)))
  have h3 : St w0 ([c, d] ++ a :: b :: R) w := h2.unstar
  exact h3.perm (by
    show List.Perm (c :: d :: a :: b :: R) (a :: c :: b :: d :: R)
    exact (((List.Perm.swap a d (b :: R)).cons c).trans (List.Perm.swap a c (d :: b :: R))).trans (((List.Perm.swap b d R).cons c).cons a))
theorem St.unduo {w0 w : World} {a b c d : Asn} {R : List Asn} (h : St w0 (a :: c :: b :: d :: R) w) : St w0 (starA [a, b] :: starA [c, d] :: R) w := by
  have h1 : St w0 ([c, d] ++ a :: b :: R) w := h.perm (by
    show List.Perm (a :: c :: b :: d :: R) (c :: d :: a :: b :: R)
    exact ((((List.Perm.swap a d (b :: R)).cons c).trans (List.Perm.swap a c (d :: b :: R))).trans (((List.Perm.swap b d R).cons c).cons a)).symm)
  have h2 : St w0 (starA [c, d] :: a :: b :: R) w := h1.star
  have h3 : St w0 ([a, b] ++ starA [c, d] :: R) w := h2.perm (((List.Perm.swap (starA [c, d]) b R).cons a).trans (List.Perm.swap (starA [c, d]) a (b :: R))).symm
  exact h3.star
theorem St.turn4 {w0 w : World} {a c b d : Asn} {R : List Asn} (h : St w0 (a :: c :: b :: d :: R) w) : St w0 (b :: d :: a :: c :: R) w := h.perm (by
  exact ((((List.Perm.swap b c (d :: R)).cons a).trans (List.Perm.swap b a (c :: d :: R))).trans ((((List.Perm.swap d c R).cons a).trans (List.Perm.swap d a (c :: R))).cons b)))

theorem cells1 {w : World} {b : Nat} {a0 : Value} {e : TypeId} (h : w.heap[b]? = some (.cells #[a0] e (0, 0))) : w.cell? ⟨b, 0, none⟩ = some a0 ∧ w.frozen? ⟨b, 0, none⟩ = false ∧ b < w.heap.size := ⟨cell_of h 0, free_of h 0, lt_of_heap h⟩
end Go.Proofs.YtgfeagggkplegaaGreat
