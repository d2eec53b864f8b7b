/-
  The law TaglistFirst: what two Takes of one list do, in plain terms.
-/
import Derived.Test.YtdhkppijeocaoaaShown7
namespace Go.Proofs.Ytdhkppijeocaoaa
open Go.RowKit Go.Proofs.YtdhkppijeocaoaaW.PrintWords Go.Proofs.Ytdhkppijeocaoaa.Pl
set_option linter.unusedVariables false
set_option linter.unusedSimpArgs false

theorem rdW_fresh {n s h : Nat} {t : Int} {i k p : Nat} (hp : p < 2 + 2 * n + s + h) : rdW (freshL n s h t i k) p = fv n t i k p := by simp [rdW, freshL, hp]
/-- The words that a list's first take begins at: the head is node 1, its next one x. -/
structure FW (ws0 : List Int) (n s h t x : Int) : Prop where
  len : 3 ≤ ws0.length
  h1 : rdW ws0 1 = 1 + t * 4294967296
  h2 : rdW ws0 2 = x
  at_ : atI n s h 0 (2 * (1 - 1)) = 2
  t0 : 0 ≤ t
  t1 : t < 4294967296
theorem fw_fresh (n s h : Nat) (t : Int) (hk : okC n s h = true) (t0 : 0 ≤ t) (t1 : t < 4294967296) : FW (freshL n s h t n s) n s h t (fv n t n s 2) := by
  obtain ⟨b1, b2, b3, b4, b5, b6⟩ := okC_bounds hk
  refine ⟨by rw [freshL_length]; omega, ?_, ?_, ?_, t0, t1⟩
  · rw [rdW_fresh (by omega)]; rfl
  · rw [rdW_fresh (by omega)]
  · unfold atI
    rw [if_pos ⟨hk, by decide, by show (0 : Int) < 2 * n; omega⟩]
    rfl
abbrev W0 (t : Int) : Int := 1 + t * 4294967296
abbrev W1 (t x : Int) : Int := nextW (W0 t) (x % 4294967296)
def mkT (n s h t x : Int) (l : Nat) : TM := ⟨n, s, h, t, 1, 1, W0 t, if l = 0 then .second else .last x, if l = 2 then 1 else if l = 3 then 3 else 0⟩
/-- Where both are: as long as neither did it the words are the first ones; one of both may have done it. -/
def Both7 (ws0 : List Int) (t x : Int) (lA lB : Nat) (ws : List Int) : Prop :=
  (lA ≤ 1 ∧ lB ≤ 1 ∧ ws = ws0) ∨ (lA = 2 ∧ lB ≠ 2 ∧ lB ≤ 3 ∧ ws = ws0.set 1 (W1 t x)) ∨ (lB = 2 ∧ lA ≠ 2 ∧ lA ≤ 3 ∧ ws = ws0.set 1 (W1 t x))
theorem Both7.symm {ws0 : List Int} {t x : Int} {lA lB : Nat} {ws : List Int} (h : Both7 ws0 t x lA lB ws) : Both7 ws0 t x lB lA ws := by
  rcases h with ⟨a, b, c⟩ | ⟨a, b, c, d⟩ | ⟨a, b, c, d⟩
  · exact .inl ⟨b, a, c⟩
  · exact .inr (.inr ⟨a, b, c, d⟩)
  · exact .inr (.inl ⟨a, b, c, d⟩)
theorem W1_ne {t x : Int} (t0 : 0 ≤ t) (t1 : t < 4294967296) : W1 t x ≠ W0 t := by
  unfold W1 W0 nextW
  omega
theorem set_len {ws : List Int} {i : Nat} {v : Int} : (ws.set i v).length = ws.length := List.length_set
theorem set_other {ws : List Int} {i j : Nat} {v : Int} (h : i ≠ j) : rdW (ws.set i v) j = rdW ws j := by simp [rdW, h]
theorem set_same {ws : List Int} {i : Nat} {v : Int} (h : i < ws.length) : rdW (ws.set i v) i = v := by simp [rdW, h]
structure Went (ws0 : List Int) (n s h t x : Int) (lA lB : Nat) (ws : List Int) (ns : List Note) (r : Int) (lA' : Nat) (ws' : List Int) (ns' : List Note) : Prop where
  step : TkStep (mkT n s h t x lA) ws ns r (mkT n s h t x lA') ws' ns'
  notes : ns'.length ≤ ns.length + 1
  both : Both7 ws0 t x lA' lB ws'
  up0 : 1 ≤ lA'
  up : 1 ≤ lA → 2 ≤ lA'
  stay : 2 ≤ lA → lA' = lA ∧ ws' = ws ∧ r = (if lA = 2 then 1 else 3)
theorem first_step {ws0 : List Int} {n s h t x : Int} (fw : FW ws0 n s h t x) {lA lB : Nat} {ws : List Int} (ns : List Note) (hb : Both7 ws0 t x lA lB ws) : ∃ r lA' ws' ns', Went ws0 n s h t x lA lB ws ns r lA' ws' ns' := by
  have hlen : ws.length = ws0.length := by rcases hb with ⟨_, _, rfl⟩ | ⟨_, _, _, rfl⟩ | ⟨_, _, _, rfl⟩ <;> simp
  have h2 : rdW ws 2 = x := by
    rw [← fw.h2]
    rcases hb with ⟨_, _, rfl⟩ | ⟨_, _, _, rfl⟩ | ⟨_, _, _, rfl⟩
    · rfl
    · exact set_other (by decide)
    · exact set_other (by decide)
  have l3 := fw.len
  have hl : lA ≤ 3 := by rcases hb with ⟨_, _, _⟩ | ⟨_, _, _, _⟩ | ⟨_, _, _, _⟩ <;> omega
  match lA, hl with
  | 0, _ =>
    refine ⟨0, 1, ws, ns ++ [⟨108, 2, x, x, true⟩], ?_, by simp, ?_, by omega, by omega, by omega⟩
    · have := TkStep.second (S := mkT n s h t x 0) (ws := ws) (ns := ns) 2 rfl rfl fw.at_ (by omega)
      rw [h2] at this
      exact this
    · rcases hb with ⟨a, b, c⟩ | ⟨a, b, c, d⟩ | ⟨a, b, c, d⟩
      · exact .inl ⟨by omega, b, c⟩
      · omega
      · exact .inr (.inr ⟨a, by omega, by omega, d⟩)
  | 1, _ =>
    rcases hb with ⟨a, b, rfl⟩ | ⟨a, b, c, d⟩ | ⟨a, b, c, rfl⟩
    · exact ⟨1, 2, _, _, TkStep.hit (S := mkT n s h t x 1) (ws := ws) (ns := ns) 1 x rfl rfl rfl (by omega) fw.h1, by simp, .inr (.inl ⟨rfl, by omega, by omega, rfl⟩), by omega, by omega, by omega⟩
    · omega
    · have hne : rdW (ws0.set 1 (W1 t x)) 1 ≠ (mkT n s h t x 1).w := by
        rw [set_same (by omega)]
        exact W1_ne fw.t0 fw.t1
      exact ⟨3, 3, _, _, TkStep.miss (S := mkT n s h t x 1) (ws := ws0.set 1 (W1 t x)) (ns := ns) 1 x rfl rfl rfl (by rw [set_len]; omega) hne, by simp, .inr (.inr ⟨a, by omega, by omega, rfl⟩), by omega, by omega, by omega⟩
  | 2, _ => exact ⟨1, 2, ws, ns, TkStep.over (S := mkT n s h t x 2) (ws := ws) (ns := ns) (by show (1 : Int) ≠ 0; decide), by omega, hb, by omega, by omega, fun _ => ⟨rfl, rfl, rfl⟩⟩
  | 3, _ => exact ⟨3, 3, ws, ns, TkStep.over (S := mkT n s h t x 3) (ws := ws) (ns := ns) (by show (3 : Int) ≠ 0; decide), by omega, hb, by omega, by omega, fun _ => ⟨rfl, rfl, rfl⟩⟩
theorem head_step {ws0 : List Int} {n s h t x : Int} (fw : FW ws0 n s h t x) (ns : List Note) : TkStep ⟨n, s, h, t, 1, 0, 0, .first, 0⟩ ws0 ns 0 (mkT n s h t x 0) ws0 (ns ++ [⟨108, 1, W0 t, W0 t, true⟩]) := by
  have l3 := fw.len
  have e : W0 t % 4294967296 = 1 := by unfold W0; omega
  have := TkStep.head (S := ⟨n, s, h, t, 1, 0, 0, .first, 0⟩) (ws := ws0) (ns := ns) 1 2 rfl rfl rfl (by omega) (by rw [fw.h1]; rw [show (1 + t * 4294967296) % 4294967296 = 1 from e]; decide) (by rw [fw.h1]; rw [show (1 + t * 4294967296) % 4294967296 = 1 from e]; exact fw.at_) (by decide)
  rw [fw.h1, show (1 + t * 4294967296) % 4294967296 = 1 from e] at this
  exact this
end Go.Proofs.Ytdhkppijeocaoaa
