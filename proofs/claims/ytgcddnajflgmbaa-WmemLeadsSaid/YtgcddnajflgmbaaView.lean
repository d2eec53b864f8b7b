/-
  What is read of the document's memory; words that are the same; the words of a memory.
-/
import Derived.Test.YtgcddnajflgmbaaSameNotes
import Derived.Test.YtgcddnajflgmbaaCuts
namespace Go.Proofs.Ytgcddnajflgmbaa
open Go.RowKit Go.Proofs.YtgcddnajflgmbaaW.PrintWords
set_option linter.unusedVariables false
set_option linter.unusedSimpArgs false

theorem IsRef.view {own : Nat → Nat} {t p : Nat} {ws : List Int} {ns : List Note} {w : World} (h : IsRef own t w p ws ns) :
    ∃ A c N cN, w.heap[p]? = some (.cells #[.slice A ws.length c, .slice N ns.length cN] 57 (0, 0)) ∧ RdU w A ws ∧ RdNotes w N ns ∧ ns.length ≤ cN ∧ (N = none ∧ cN = 0 ∧ ns.length = 0 ∨ ∃ g, N = some ⟨g, 0, none⟩) := by
  obtain ⟨A, c, nv, hP, hn, hb, hg⟩ := h.body
  obtain ⟨N, cN, rfl, hle, hN⟩ : ∃ N cN, nv = .slice N ns.length cN ∧ ns.length ≤ cN ∧ (N = none ∧ cN = 0 ∧ ns.length = 0 ∨ ∃ g, N = some ⟨g, 0, none⟩) := by
    rcases hn.2 with ⟨rfl, e0⟩ | ⟨g, cap, cur, rfl, _, _, h1, _⟩
    · exact ⟨none, 0, by rw [e0], by omega, .inl ⟨rfl, rfl, e0⟩⟩
    · exact ⟨_, cap, rfl, h1, .inr ⟨g, rfl⟩⟩
  refine ⟨A, c, N, cN, hP, ⟨fun e => ?_, fun h0 => ?_⟩, rdNotes hn, hle, hN⟩
  · rcases hg with e1 | ⟨g, cur, e1, _⟩
    · rw [e1]; rfl
    · rw [e] at e1; cases e1
  · rcases hg with e | ⟨g, cur, rfl, e2, e3, e4, e5, e6⟩
    · subst e; cases h0
    · refine ⟨_, rfl, fun j u hu => ?_⟩
      rw [add_zero', cell_of e4]
      rw [← e5] at hu
      have hj : j < ws.length := by
        rcases Nat.lt_or_ge j ws.length with h1 | h1
        · exact h1
        · rw [List.getElem?_take, if_neg (by omega)] at hu; cases hu
      rw [List.getElem?_take, if_pos hj] at hu
      simpa using hu
theorem RdNotes.drop {w : World} {g L cN k : Nat} {ns : List Note} {B : Option Addr} (h : RdNotes w (some ⟨g, 0, none⟩) ns) (hL : ns.length = L) (hc : L ≤ cN) (hB : (if cN = k then some (⟨g, 0, none⟩ : Addr) else some ⟨g, k * 5, none⟩) = B) : RdNotes w B (ns.drop k) := by
  intro j a ha
  rw [List.getElem?_drop] at ha
  obtain ⟨ad, e, hlt, hcell⟩ := h _ _ ha
  cases e
  have hj := (List.getElem?_eq_some_iff.1 ha).1
  rw [if_neg (by omega)] at hB
  refine ⟨⟨g, k * 5, none⟩, hB.symm, hlt, fun t v ht => ?_⟩
  have := hcell t v ht
  rw [add_zero'] at this
  have e2 : (⟨g, k * 5, none⟩ : Addr).add (j * 5 + t) = ⟨g, k * 5 + (j * 5 + t), none⟩ := by unfold Addr.add; split <;> simp_all
  rw [e2, show k * 5 + (j * 5 + t) = (k + j) * 5 + t by omega]
  exact this
def SinceIt (w : World) (ms : List Note) (L : Nat) (e : Ending) (w' : World) : Prop :=
  ∃ a c, e = .returned (.slice a L c) ∧ RdNotes w' a ms ∧ Below w.heap.size w w'
theorem since_it (own : Nat → Nat) (t p L : Nat) (ws : List Int) (ns : List Note) (n : Int) (k : Nat) (w : World) (h : IsMem own t w p ws ns) (hL : ns.length = L) (hlen : L ≤ 1000000) (hk : n < 0 ∧ k = 0 ∨ (L : Int) < n ∧ k = L ∨ n = (k : Int) ∧ k ≤ L) :
    Calls Try.prog 20 #[.pointer (some ⟨p, 0, none⟩), .int .i64 n] w (SinceIt w (ns.drop k) (L - k)) := by
  subst hL
  refine (since_any own t p ws ns n k w h hlen hk).mono ?_
  rintro e w' ⟨a, c, rfl, ho, hb⟩
  exact ⟨a, c, by rw [List.length_drop], rdNotes ho, hb⟩
def WordsRd (w : World) (ws : List Int) (n : Nat) (e : Ending) (w' : World) : Prop := ∃ al c', e = .returned (.slice al n c') ∧ RdU w' al ws ∧ n ≤ c' ∧ Below w.heap.size w w'
theorem words_rd (own : Nat → Nat) (t p n : Nat) (ws : List Int) (ns : List Note) (w : World) (h : IsMem own t w p ws ns) (hn : ws.length = n) :
    Calls Try.prog 15 #[.pointer (some ⟨p, 0, none⟩)] w (WordsRd w ws n) := by
  subst hn
  refine (words_any own t p ws ns w h).mono ?_
  rintro e w' ⟨v, rfl, ho, hb, a, c, rfl⟩
  obtain ⟨h1, h2⟩ := row_rdU ho
  exact ⟨a, c, rfl, h1, h2, hb⟩
theorem RdU.cellA {w : World} {A : Option Addr} {ws : List Int} (h : RdU w A ws) {k : Nat} (hk : k < ws.length) : ∃ ad, A = some ad ∧ w.cell? (ad.add k) = some (.int .u64 (rdW ws k)) := by
  obtain ⟨ad, rfl, _⟩ := h.at_ (by omega)
  exact ⟨ad, rfl, h.cell hk rfl⟩
set_option maxHeartbeats 4000000 in
theorem same_rd (ws : List Int) (A B : Option Addr) (c d n : Nat) (w : World) (hn : ws.length = n) (hl : n ≤ 1000000) (ha : RdU w A ws) (hb : RdU w B ws) :
    Calls Try.prog 14 #[.slice A n c, .slice B n d] w fun e w' => e = .returned (.bool true) ∧ Below w.heap.size w w' := by
  have HA := Lib.hid ha
  have HB := Lib.hid hb
  clear ha hb
  go_enter Try.func14, Try.ntmps14
  go_wp2
  go_loopg [5] (n + 1) (fun kq x w' => ∃ j : Nat, x = .int .i64 j ∧ j ≤ n ∧ j + kq = n + 1 ∧ Below w.heap.size w w')
  case atStart => exact ⟨0, rfl, Nat.zero_le _, by omega, Below.refl _ _⟩
  case round =>
    obtain ⟨j, rfl, hj, hkj, hbj⟩ := hrel
    have HJ := Lib.hid hbj
    clear hbj
    cases gk with
    | zero => omega
    | succ k2 =>
      by_cases c6 : j < n
      · have c6b : decide ((j : Int) < n) = true := decide_eq_true (by omega)
        obtain ⟨b1, rfl, f0⟩ := (HA.out.kept HJ.out).cellA (k := j) (by omega)
        obtain ⟨b2, rfl, g0⟩ := (HB.out.kept HJ.out).cellA (k := j) (by omega)
        have r1 : (0 : Int) ≤ (j : Int) := by omega
        have r2 : (j : Int) < (n : Int) := by omega
        go_wp2
        go_quiet (fail)
        go_wp2
        go_roundg k2
        case measure => omega
        case rel => exact ⟨j + 1, rfl, by omega, by omega, HJ.out.trans ⟨rfl, rfl, rfl, Nat.le_refl _, fun _ _ => rfl⟩⟩
      · have c6b : decide ((j : Int) < n) = false := decide_eq_false (by omega)
        go_wp2
        go_ret
        exact ⟨rfl, HJ.out⟩
theorem Duo.drew {w w1 : World} {o : Nat → Nat} {p q : Nat} {ws : List Int} {ns : List Note} (h : Duo w o w1 p q ws ns) : Duo w o w1.drew p q ws ns := h.below (Below.refl _ _).drew
end Go.Proofs.Ytgcddnajflgmbaa
