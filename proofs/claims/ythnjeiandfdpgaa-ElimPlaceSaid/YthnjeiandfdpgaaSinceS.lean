/-
  A memory's notes since some time.
-/
import Derived.Test.YthnjeiandfdpgaaRow2
namespace Go.Proofs.Ythnjeiandfdpgaa
open Go.RowKit
set_option linter.unusedVariables false
set_option linter.unusedSimpArgs false

theorem noteCells_len (ns : List Note) : (noteCells ns).length = ns.length * 5 := by
  induction ns with
  | nil => rfl
  | cons a l ih => simp only [noteCells, List.flatMap_cons, List.length_append] at ih ⊢; rw [ih]; simp [Note.cells]; omega
theorem noteCells_drop (ns : List Note) (j : Nat) : noteCells (ns.drop j) = (noteCells ns).drop (j * 5) := by
  induction ns generalizing j with
  | nil => simp [noteCells]
  | cons a l ih =>
    cases j with
    | zero => simp
    | succ j =>
      simp only [List.drop_succ_cons]
      rw [ih]
      show _ = (a.cells ++ noteCells l).drop ((j + 1) * 5)
      rw [List.drop_append, show (j + 1) * 5 = j * 5 + 5 by omega]
      simp [Note.cells]
theorem noteCells_one (ns : List Note) : ∀ u ∈ noteCells ns, u.oneCell' = true := by
  intro u hu
  obtain ⟨a, _, h⟩ := List.mem_flatMap.1 hu
  simp only [Note.cells, List.mem_cons, List.not_mem_nil, or_false] at h
  rcases h with rfl | rfl | rfl | rfl | rfl <;> rfl

set_option maxHeartbeats 1000000 in
theorem since_nil (p : Nat) (n y : Int) (A : Value) (w : World) (hP : w.heap[p]? = some (.cells #[A, .slice none 0 0] 107 (0, 0))) (h1 : (if n < 0 then 0 else n) = y) (h2 : (if (0 : Int) < y then 0 else y) = 0) :
    Calls Try.prog 22 #[.pointer (some ⟨p, 0, none⟩), .int .i64 n] w (ClonePost_acc w.drew 0 []) := by
  obtain ⟨c0, c1, _, _⟩ := cells2 hP
  have lt0 := lt_of_heap hP
  clear hP
  have HC := Lib.hid (fun w' => clone_any_acc none 0 0 [] w' rfl (fun h => by cases h) (fun u h => by cases h) (by decide) (by decide) (fun _ => rfl))
  go_enter Try.func22, Try.ntmps22
  go_wp2
  go_region_held3 (fun w' => w'.cell? ⟨p, 1, none⟩ = some (.slice none 0 0)) (first | exact c1 | exact (HB.out.cell lt0).trans c1) ((go_at_call 47; refine (HC.out _).mono ?_; rintro e w' ⟨v, rfl, ho, hb, a, c', rfl⟩; (have HO := Lib.hid ho); (have HB := Lib.hid hb); clear ho hb))
  all_goals go_wp2
  all_goals go_ret
  all_goals exact ⟨_, rfl, HO.out, HB.out, _, _, rfl⟩

set_option maxHeartbeats 1000000 in
theorem since_some (p g L cap k : Nat) (n y : Int) (A : Value) (B : Option Addr) (ns : List Note) (w : World) (hP : w.heap[p]? = some (.cells #[A, .slice (some ⟨g, 0, none⟩) L cap] 107 (0, 0))) (h1 : (if n < 0 then 0 else n) = y) (h2 : (if (L : Int) < y then (L : Int) else y) = (k : Int))
    (h3 : (if cap = k then some (⟨g, 0, none⟩ : Addr) else some ⟨g, k * 5, none⟩) = B) (hk0 : (0 : Int) ≤ k) (hk : (k : Int) ≤ L) (hc : (L : Int) ≤ cap)
    (hC : ∀ w', w'.heap = w.heap → Calls Try.prog 47 #[.slice B (L - k) (cap - k)] w' (ClonePost_acc w' (L - k) (noteCells (ns.drop k)))) :
    Calls Try.prog 22 #[.pointer (some ⟨p, 0, none⟩), .int .i64 n] w (ClonePost_acc w.drew (L - k) (noteCells (ns.drop k))) := by
  obtain ⟨c0, c1, _, _⟩ := cells2 hP
  have lt0 := lt_of_heap hP
  clear hP
  have HC := Lib.hid hC
  clear hC
  go_enter Try.func22, Try.ntmps22
  go_wp2
  go_region_held3 (fun w' => w'.cell? ⟨p, 1, none⟩ = some (.slice (some ⟨g, 0, none⟩) L cap)) (first | exact c1 | exact (HB.out.cell lt0).trans c1) ((go_at_call 47; refine (HC.out w.drew rfl).mono ?_; rintro e w' ⟨v, rfl, ho, hb, a, c', rfl⟩; (have HO := Lib.hid ho); (have HB := Lib.hid hb); clear ho hb))
  all_goals go_wp2
  all_goals go_ret
  all_goals exact ⟨_, rfl, HO.out, HB.out, _, _, rfl⟩

/-- The notes since some time, in a row of their own. -/
def SincePost (w : World) (ms : List Note) (e : Ending) (w' : World) : Prop :=
  ∃ a c, e = .returned (.slice a ms.length c) ∧ w'.ownsRow w.heap.size 51 5 (.slice a ms.length c) ms.length (noteCells ms) ∧ Below w.heap.size w w'
theorem ClonePost_acc.since {w : World} {L k : Nat} {ns : List Note} {e : Ending} {w' : World} (hL : ns.length = L) (h : ClonePost_acc w.drew (L - k) (noteCells (ns.drop k)) e w') : SincePost w (ns.drop k) e w' := by
  obtain ⟨v, rfl, ho, hb, a, c, rfl⟩ := h
  have hl : (ns.drop k).length = L - k := by simp [hL]
  refine ⟨a, c, by rw [hl], by rw [hl]; exact ho, ?_⟩
  exact ⟨hb.os, hb.tape, hb.output, hb.size, hb.block⟩
theorem since_any (own : Nat → Nat) (t p : Nat) (ws : List Int) (ns : List Note) (n : Int) (k : Nat) (w : World) (h : IsMem own t w p ws ns) (hlen : ns.length ≤ 1000000) (hk : n < 0 ∧ k = 0 ∨ (ns.length : Int) < n ∧ k = ns.length ∨ n = (k : Int) ∧ k ≤ ns.length) :
    Calls Try.prog 22 #[.pointer (some ⟨p, 0, none⟩), .int .i64 n] w (SincePost w (ns.drop k)) := by
  obtain ⟨A, c, nv, hP, hn, hb, hg⟩ := h.body
  obtain ⟨y, h1⟩ : ∃ y, (if n < 0 then (0 : Int) else n) = y := ⟨_, rfl⟩
  have h2 : (if (ns.length : Int) < y then (ns.length : Int) else y) = (k : Int) := by
    subst h1
    split <;> split at * <;> omega
  have hkl : k ≤ ns.length := by omega
  rcases hn.2 with ⟨rfl, e0⟩ | ⟨g, cap, cur, rfl, hg0, hh, hc1, hc2, hc3, hc4⟩
  · obtain rfl : k = 0 := by omega
    refine (since_nil p n y _ w hP h1 (by rw [e0] at h2; exact h2)).mono fun e w' hp => ?_
    have : ns = [] := List.eq_nil_of_length_eq_zero e0
    subst this
    exact ClonePost_acc.since (L := 0) (k := 0) rfl hp
  · refine (since_some p g ns.length cap k n y _ _ ns w hP h1 h2 rfl (by omega) (by omega) (by omega) fun w' hw => ?_).mono fun e w' hp => ClonePost_acc.since rfl hp
    refine clone_any_acc _ _ _ _ _ ?_ ?_ (noteCells_one _) (by omega) (by unfold maxLen; omega) ?_
    · rw [noteCells_len]; simp
    · intro h0
      refine ⟨⟨g, k * 5, none⟩, if_neg (by omega), fun j u hu => ?_⟩
      rw [noteCells_drop, List.getElem?_drop, ← hc4] at hu
      have : (⟨g, k * 5, none⟩ : Addr).add j = ⟨g, k * 5 + j, none⟩ := by unfold Addr.add; split <;> simp_all
      rw [this, cell_of (by rw [hw]; exact hh)]
      rw [List.getElem?_take] at hu
      split at hu
      · simpa using hu
      · cases hu
    · intro e
      split at e <;> cases e
/-- The notes since some time, as a row of the state. -/
theorem since_st {w0 w : World} {q : Nat} {ws : List Int} {ns : List Note} {l : List Asn} (h : St w0 (memA q ws ns :: l) w) (n : Int) (k m : Nat) (hlen : ns.length ≤ 1000000) (hk : n < 0 ∧ k = 0 ∨ (ns.length : Int) < n ∧ k = ns.length ∨ n = (k : Int) ∧ k ≤ ns.length) (hm : (ns.drop k).length = m) :
    Calls Try.prog 22 #[.pointer (some ⟨q, 0, none⟩), .int .i64 n] w fun e w' => ∃ a c, e = .returned (.slice a m c) ∧ St w0 (rowA 51 5 (.slice a m c) m (noteCells (ns.drop k)) :: memA q ws ns :: l) w' := by
  subst hm
  obtain ⟨own, h1, _⟩ := h.mem
  refine (since_any own 1 q ws ns n k w h1 hlen hk).mono ?_
  rintro e w' ⟨a, c, rfl, ho, hb⟩
  refine ⟨a, c, rfl, h.more hb ⟨⟨ho.1, ho.2.imp id fun ⟨g, cap, cur, x1, x2, x3⟩ => ⟨g, cap, cur, x1, Nat.zero_le _, x3⟩⟩, fun b e => ?_⟩⟩
  rcases ho.2 with ⟨e1, _⟩ | ⟨g, cap, cur, x1, x2, x3⟩
  · rw [e1] at e; cases e
  · rw [x1] at e; cases e; exact x2
end Go.Proofs.Ythnjeiandfdpgaa
