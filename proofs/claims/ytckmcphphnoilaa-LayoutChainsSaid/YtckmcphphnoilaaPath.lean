/-
  Plain facts on paths: from a number on by a step, while the numbers are right ones, to 0.
-/
import Derived.Test.YtckmcphphnoilaaPlain
namespace Go.Proofs.Ytckmcphphnoilaa.Pl
open Go.RowKit Go.Proofs.Ytckmcphphnoilaa Go.Proofs.YtckmcphphnoilaaW.PrintWords
set_option linter.unusedVariables false

section
variable (σ : Int → Int) (V : Int → Bool)
def pth : Nat → Int → Option (List Int)
  | 0, i => if i = 0 then some [] else none
  | f + 1, i => if i = 0 then some [] else if V i = true then (pth f (σ i)).map (i :: ·) else none
end
variable {σ : Int → Int} {V : Int → Bool}

theorem pth_zero (f : Nat) : pth σ V f 0 = some [] := by cases f <;> simp [pth]
theorem pth_cons {f : Nat} {i : Int} (h0 : i ≠ 0) (hv : V i = true) : pth σ V (f + 1) i = (pth σ V f (σ i)).map (i :: ·) := by simp [pth, h0, hv]
theorem pth_inv {f : Nat} {i : Int} {l : List Int} (h : pth σ V f i = some l) : (i = 0 ∧ l = []) ∨ ∃ g l', f = g + 1 ∧ i ≠ 0 ∧ V i = true ∧ pth σ V g (σ i) = some l' ∧ l = i :: l' := by
  cases f with
  | zero =>
    by_cases e : i = 0
    · subst e
      rw [pth_zero] at h
      exact .inl ⟨rfl, (Option.some.inj h).symm⟩
    · simp [pth, e] at h
  | succ f =>
    by_cases e : i = 0
    · subst e
      rw [pth_zero] at h
      exact .inl ⟨rfl, (Option.some.inj h).symm⟩
    · right
      by_cases hv : V i = true
      · rw [pth_cons e hv] at h
        cases hp : pth σ V f (σ i) with
        | none => rw [hp] at h; simp at h
        | some l' =>
          rw [hp] at h
          simp at h
          exact ⟨f, l', rfl, e, hv, hp, h.symm⟩
      · simp [pth, e, hv] at h
theorem pth_more {f : Nat} {i : Int} {l : List Int} (h : pth σ V f i = some l) (g : Nat) (hg : l.length ≤ g) : pth σ V g i = some l := by
  induction l generalizing f g i with
  | nil =>
    rcases pth_inv h with ⟨rfl, _⟩ | ⟨_, _, _, _, _, _, e⟩
    · exact pth_zero g
    · cases e
  | cons x l ih =>
    rcases pth_inv h with ⟨_, e⟩ | ⟨f', l', rfl, h0, hv, hp, e⟩
    · cases e
    · cases e
      obtain ⟨g, rfl⟩ : ∃ m, g = m + 1 := ⟨g - 1, by simp at hg; omega⟩
      rw [pth_cons h0 hv, ih hp g (by simp at hg; omega)]
      rfl
theorem pth_length {f : Nat} {i : Int} {l : List Int} (h : pth σ V f i = some l) : l.length ≤ f := by
  induction l generalizing f i with
  | nil => simp
  | cons x l ih =>
    rcases pth_inv h with ⟨_, e⟩ | ⟨f', l', rfl, h0, hv, hp, e⟩
    · cases e
    · cases e
      have := ih hp
      simp
      omega
theorem pth_uniq {f g : Nat} {i : Int} {l m : List Int} (h : pth σ V f i = some l) (k : pth σ V g i = some m) : l = m := by
  have a := pth_more h (max l.length m.length) (Nat.le_max_left _ _)
  have b := pth_more k (max l.length m.length) (Nat.le_max_right _ _)
  rw [a] at b
  exact Option.some.inj b
theorem pth_drop {f : Nat} {i : Int} {l : List Int} (h : pth σ V f i = some l) (p q : List Int) (x : Int) (e : l = p ++ x :: q) : ∃ g, pth σ V g x = some (x :: q) := by
  induction p generalizing f i l with
  | nil =>
    subst e
    rcases pth_inv h with ⟨_, e⟩ | ⟨f', l', rfl, h0, hv, hp, e⟩
    · cases e
    · cases e
      exact ⟨f' + 1, h⟩
  | cons y p ih =>
    subst e
    rcases pth_inv h with ⟨_, e⟩ | ⟨f', l', rfl, h0, hv, hp, e⟩
    · cases e
    · cases e
      exact ih hp rfl
theorem pth_valid {f : Nat} {i : Int} {l : List Int} (h : pth σ V f i = some l) : ∀ x ∈ l, V x = true := by
  intro x hx
  obtain ⟨p, q, e⟩ := List.append_of_mem hx
  obtain ⟨g, hg⟩ := pth_drop h p q x e
  rcases pth_inv hg with ⟨_, e⟩ | ⟨f', l', rfl, h0, hv, hp, e⟩
  · cases e
  · exact hv
theorem pth_not_again {f : Nat} {i : Int} {q : List Int} (h : pth σ V f i = some (i :: q)) : i ∉ q := by
  intro hx
  obtain ⟨p, r, e⟩ := List.append_of_mem hx
  obtain ⟨g, hg⟩ := pth_drop h (i :: p) r i (by rw [e]; rfl)
  have := pth_uniq h hg
  rw [e] at this
  have := congrArg List.length this
  simp at this
  omega
theorem pth_nodup {f : Nat} {i : Int} {l : List Int} (h : pth σ V f i = some l) : l.Nodup := by
  induction l generalizing f i with
  | nil => exact List.nodup_nil
  | cons x l ih =>
    rcases pth_inv h with ⟨_, e⟩ | ⟨f', l', rfl, h0, hv, hp, e⟩
    · cases e
    · cases e
      exact List.nodup_cons.2 ⟨pth_not_again h, ih hp⟩
/-- As many pigeons as holes at most. -/
theorem nodup_le {l : List Int} (h : l.Nodup) (r : List Int) (hs : ∀ x ∈ l, x ∈ r) : l.length ≤ r.length := by
  induction l generalizing r with
  | nil => simp
  | cons a l ih =>
    obtain ⟨h1, h2⟩ := List.nodup_cons.1 h
    have ha : a ∈ r := hs a (by simp)
    have := ih h2 (r.erase a) fun x hx => by
      have hne : x ≠ a := fun e => h1 (e ▸ hx)
      exact (List.mem_erase_of_ne hne).2 (hs x (by simp [hx]))
    rw [List.length_erase_of_mem ha] at this
    have : 0 < r.length := List.length_pos_of_mem ha
    simp
    omega
theorem nodup_range {l : List Int} (h : l.Nodup) (n : Nat) (hs : ∀ x ∈ l, 1 ≤ x ∧ x ≤ n) : l.length ≤ n := by
  have := nodup_le h ((ran n).map (· + 1)) fun x hx => by
    obtain ⟨a, b⟩ := hs x hx
    simp only [ran, List.map_map, List.mem_map, List.mem_range]
    exact ⟨(x - 1).toNat, by omega, by simp only [Function.comp]; omega⟩
  rwa [List.length_map, ran_length] at this
theorem pth_short {f : Nat} {i : Int} {l : List Int} (h : pth σ V f i = some l) (n : Nat) (hV : ∀ x, V x = true → 1 ≤ x ∧ x ≤ n) : l.length ≤ n :=
  nodup_range (pth_nodup h) n fun x hx => hV x (pth_valid h x hx)

theorem pth_step {n : Nat} {i : Int} (hn : 1 ≤ n) (hV : ∀ x, V x = true → 1 ≤ x ∧ x ≤ n) (h0 : i ≠ 0) (hv : V i = true) : pth σ V n i = (pth σ V n (σ i)).map (i :: ·) := by
  obtain ⟨m, rfl⟩ : ∃ m, n = m + 1 := ⟨n - 1, by omega⟩
  rw [pth_cons h0 hv]
  cases hq : pth σ V (m + 1) (σ i) with
  | some l =>
    have h2 : pth σ V (m + 1 + 1) i = some (i :: l) := by rw [pth_cons h0 hv, hq]; rfl
    have h3 := pth_short h2 (m + 1) hV
    rw [pth_more hq m (by simp at h3; omega)]
  | none =>
    cases hp : pth σ V m (σ i) with
    | none => rfl
    | some l =>
      have := pth_more hp (m + 1) (by have := pth_length hp; omega)
      rw [hq] at this
      cases this
theorem pth_in {i : Int} {out : List Int} (hi : i ∈ out) (hl : ∃ i0, ∀ f l, pth σ V f i = some l → ∃ g, pth σ V g i0 = some (out ++ l)) (f : Nat) (h0 : i ≠ 0) : pth σ V f i = none := by
  cases hq : pth σ V f i with
  | none => rfl
  | some l =>
    obtain ⟨i0, h⟩ := hl
    obtain ⟨g, hg⟩ := h f l hq
    have hn := pth_nodup hg
    rcases pth_inv hq with ⟨e, _⟩ | ⟨_, l', _, _, _, _, rfl⟩
    · exact absurd e h0
    · exact absurd rfl ((List.nodup_append.1 hn).2.2 i hi i (by simp))

/-- The next one of a node, and whether a number is a node's. -/
def stepW (words : List Int) (i : Int) : Int := rd words (2 * i) % 4294967296
def nodeV (n : Int) (i : Int) : Bool := decide (1 ≤ i ∧ i ≤ n)
theorem nodeV_iff {n i : Int} : nodeV n i = true ↔ 1 ≤ i ∧ i ≤ n := by simp [nodeV]
theorem chainGo_eq {n s h : Int} (hk : okC n s h = true) (words : List Int) (f : Nat) : ∀ (out : List Int) (i : Int), 0 ≤ i →
    chainGo n s h words f out i = match pth (stepW words) (nodeV n) f i with | some l => (out ++ l, true) | none => ([], false) := by
  have hb := okC_bounds hk
  induction f with
  | zero =>
    intro out i hi
    by_cases e : i = 0
    · subst e
      simp [chainGo, pth]
    · simp [chainGo, pth, e]
  | succ f ih =>
    intro out i hi
    by_cases e : i = 0
    · subst e
      simp [chainGo, pth]
    · simp only [chainGo]
      rw [if_neg e]
      by_cases hv : nodeV n i = true
      · obtain ⟨v1, v2⟩ := nodeV_iff.1 hv
        rw [at0_of hk v1 v2, if_neg (by omega), pth_cons e hv, ih _ _ (Int.emod_nonneg _ (by decide))]
        show (match pth (stepW words) (nodeV n) f (stepW words i) with | some l => (out ++ [i] ++ l, true) | none => ([], false)) = _
        cases pth (stepW words) (nodeV n) f (stepW words i) <;> simp
      · have : ¬ (1 ≤ i ∧ i ≤ n) := fun h => hv (nodeV_iff.2 h)
        rw [at0_bad (by omega), if_pos (by omega)]
        simp [pth, e, hv]
/-- The chain of a right config's words from a word on. -/
theorem chainP_eq {n s h : Int} (hk : okC n s h = true) (words : List Int) (hw : (words.length : Int) = 2 + 2 * n + s + h) (w : Int) :
    chainP n s h words w = match pth (stepW words) (nodeV n) n.toNat (w % 4294967296) with | some l => (l, true) | none => ([], false) := by
  unfold chainP
  rw [if_pos ⟨hk, by unfold cellsI; rw [if_pos hk, hw]⟩, chainGo_eq hk words _ _ _ (Int.emod_nonneg _ (by decide))]
  simp
end Go.Proofs.Ytckmcphphnoilaa.Pl
