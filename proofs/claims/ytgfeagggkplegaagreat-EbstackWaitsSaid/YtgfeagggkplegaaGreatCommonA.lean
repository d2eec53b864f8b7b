/-
  What the laws of several chapters share: a memory's words, picks.
-/
import Derived.Test.YtgfeagggkplegaaGreatRow2
import Derived.Deep.LoopGhost
namespace Go.Proofs.YtgfeagggkplegaaGreat
open Go.RowKit
set_option linter.unusedVariables false
set_option linter.unusedSimpArgs false

theorem lit1 {w : World} {b : Nat} {v : Int} {e : TypeId} (h : w.heap[b]? = some (.cells #[.int .u64 v] e (0, 0))) : RdU w (some ⟨b, 0, none⟩) [v] :=
  ⟨fun e => (by simp at e), fun _ => ⟨_, rfl, fun j u hu => by
    cases j with
    | zero => rw [add_zero', cell_of h]; simpa using hu
    | succ j => simp at hu⟩⟩
theorem rng1 {v : Int} (h0 : 0 ≤ v) (h1 : v < 18446744073709551616) : ∀ x ∈ [v], 0 ≤ x ∧ x < 18446744073709551616 := fun x hx => by
  obtain rfl := List.mem_singleton.1 hx
  exact ⟨h0, h1⟩
/-- A memory's words, one at least. -/
def WordsPos (w : World) (ws : List Int) (n : Nat) (e : Ending) (w' : World) : Prop := ∃ g c, e = .returned (.slice (some ⟨g, 0, none⟩) n c) ∧ (∀ j, j < n → w'.cell? ⟨g, j, none⟩ = some (.int .u64 (rdW ws j))) ∧ RdU w' (some ⟨g, 0, none⟩) ws ∧ n ≤ c ∧ Below w.heap.size w w'
theorem words_pos {w0 w : World} {q : Nat} {ws : List Int} {ns : List Note} {l : List Asn} (n : Nat) (h : St w0 (memA q ws ns :: l) w) (hn : ws.length = n) (h0 : 0 < n) :
    Calls Tryz.prog 21 #[.pointer (some ⟨q, 0, none⟩)] w (WordsPos w ws n) := by
  subst hn
  obtain ⟨own, h1, h2⟩ := h.mem
  refine (words_any own 1 q ws ns w h1).mono ?_
  rintro e w' ⟨v, rfl, ho, hb, a, c, rfl⟩
  obtain ⟨h3, h4⟩ := row_rdU ho
  have ho' := ho
  rcases ho.2 with ⟨e, e0⟩ | ⟨g, cap, cur, e, hg, hh, h5, h6, h7, h8⟩
  · omega
  · simp only [Value.slice.injEq] at e
    obtain ⟨rfl, _, rfl⟩ := e
    exact ⟨g, _, rfl, fun j hj => by
      obtain ⟨ad, e1, hc⟩ := h3.cellA hj
      cases e1
      rw [add_zero'] at hc
      exact hc, h3, h4, hb⟩
def pickI (c n : Int) : Int := (if c < 0 then -(c + 1) else c) % n
theorem pickI_rng {c n : Int} (h : 0 < n) : 0 ≤ pickI c n ∧ pickI c n < n := ⟨Int.emod_nonneg _ (by omega), Int.emod_lt_of_pos _ h⟩
theorem nil_rd (w : World) : RdU w none [] := ⟨fun _ => rfl, fun h => by simp at h⟩
end Go.Proofs.YtgfeagggkplegaaGreat
