/-
  Visits at one slot: who met whom is counted. No program here.
-/
import Derived.Test.YtpkchlmoohmfeaaVinv
namespace Go.Proofs.Ytpkchlmoohmfeaa
open Go.RowKit
set_option linter.unusedVariables false
set_option linter.unusedSimpArgs false

/-- How many of the first m. -/
def cntI (f : Nat → Bool) : Nat → Nat
  | 0 => 0
  | m + 1 => cntI f m + (f m).toNat
theorem cntI_same {f g : Nat → Bool} : ∀ {m : Nat}, (∀ j, j < m → f j = g j) → cntI f m = cntI g m
  | 0, _ => rfl
  | m + 1, h => by
    simp only [cntI]
    rw [cntI_same (m := m) fun j hj => h j (by omega), h m (by omega)]
theorem cntI_upd {f g : Nat → Bool} {k : Nat} (h : ∀ j, j ≠ k → g j = f j) : ∀ {m : Nat}, k < m → cntI g m + (f k).toNat = cntI f m + (g k).toNat
  | 0, hk => by omega
  | m + 1, hk => by
    simp only [cntI]
    by_cases e : k = m
    · subst e
      rw [cntI_same (g := f) fun j hj => h j (by omega)]
      omega
    · have := cntI_upd (m := m) h (by omega)
      rw [h m (fun c => e c.symm)]
      omega
theorem cntI_le (f : Nat → Bool) : ∀ m, cntI f m ≤ m
  | 0 => Nat.le_refl _
  | m + 1 => by
    simp only [cntI]
    have := cntI_le f m
    have : (f m).toNat ≤ 1 := by cases f m <;> decide
    omega
theorem cntI_zero {f : Nat → Bool} : ∀ {m : Nat}, (∀ j, j < m → f j = false) → cntI f m = 0
  | 0, _ => rfl
  | m + 1, h => by
    simp only [cntI]
    rw [cntI_zero fun j hj => h j (by omega), h m (by omega)]
    rfl
/-- A pop that is Done with the number p + 1; a push that is Done. -/
def popD (P : Nat → Bool) (Ss : List VM) (p k : Nat) : Bool := match Ss[k]? with | some S => S.st == 1 && !P k && S.i == (p : Int) + 1 | none => false
def pushD (Ss : List VM) (p : Nat) : Bool := match Ss[p]? with | some S => S.st == 1 | none => false
open Classical in
noncomputable def ownB (Ss : List VM) (p : Nat) : Bool := match Ss[p]? with | some S => decide S.owner | none => false
theorem ownB_iff {Ss : List VM} {p : Nat} {S : VM} (h : Ss[p]? = some S) : ownB Ss p = true ↔ S.owner := by simp [ownB, h]
/-- Who met whom: a push, or pops, of the number p + 1. -/
structure MI (P : Nat → Bool) (x : Int) (Ss : List VM) : Prop where
  has : sSt x ≠ 0 → ∃ (k : Nat) (S : VM), Ss[k]? = some S ∧ S.owner
  num : ∀ (k : Nat) (S : VM), Ss[k]? = some S → P k = false → S.st = 1 → ∃ p : Nat, p < Ss.length ∧ P p = true ∧ S.i = (p : Int) + 1
  busy : ∀ (k : Nat) (S : VM), Ss[k]? = some S → P k = false → S.owner → sSt x = 3 → ∃ p : Nat, p < Ss.length ∧ P p = true ∧ sIx x = (p : Int) + 1
  cnt : ∀ p : Nat, p < Ss.length → P p = true → ∀ (k : Nat) (S : VM), (Ss[k]? = some S → S.owner → sSt x = 3 →
      cntI (popD P Ss p) Ss.length + (if P k = false ∧ sIx x = (p : Int) + 1 then 1 else 0) = (pushD Ss p).toNat + (if p = k ∧ P k = true then 1 else 0))
  cnt0 : ∀ p : Nat, p < Ss.length → P p = true → sSt x ≠ 3 → cntI (popD P Ss p) Ss.length = (pushD Ss p).toNat
theorem popD_set {P : Nat → Bool} {Ss : List VM} {k : Nat} {S' : VM} (hk : k < Ss.length) (p j : Nat) : popD P (Ss.set k S') p j = if j = k then (S'.st == 1 && !P k && S'.i == (p : Int) + 1) else popD P Ss p j := by
  unfold popD
  by_cases e : j = k
  · subst e; rw [List.getElem?_set_self hk, if_pos rfl]
  · rw [List.getElem?_set_ne (fun c => e c.symm), if_neg e]
theorem pushD_set {Ss : List VM} {k : Nat} {S' : VM} (hk : k < Ss.length) (p : Nat) : pushD (Ss.set k S') p = if p = k then S'.st == 1 else pushD Ss p := by
  unfold pushD
  by_cases e : p = k
  · subst e; rw [List.getElem?_set_self hk, if_pos rfl]
  · rw [List.getElem?_set_ne (fun c => e c.symm), if_neg e]
theorem popD_get {P : Nat → Bool} {Ss : List VM} {k : Nat} {S : VM} (h : Ss[k]? = some S) (p : Nat) : popD P Ss p k = (S.st == 1 && !P k && S.i == (p : Int) + 1) := by simp [popD, h]
theorem pushD_get {Ss : List VM} {k : Nat} {S : VM} (h : Ss[k]? = some S) : pushD Ss k = (S.st == 1) := by simp [pushD, h]
/-- Nobody newly Done: nothing is counted. -/
theorem cnt_keep {P : Nat → Bool} {Ss : List VM} {k : Nat} {S S' : VM} (hS : Ss[k]? = some S) (h1 : S'.st = 1 → S.st = 1 ∧ S' = S) (h2 : S.st = 1 → S' = S) (p : Nat) : cntI (popD P (Ss.set k S') p) (Ss.set k S').length = cntI (popD P Ss p) Ss.length ∧ pushD (Ss.set k S') p = pushD Ss p := by
  have hk : k < Ss.length := (List.getElem?_eq_some_iff.1 hS).1
  have same : (S'.st == 1) = (S.st == 1) ∧ (S'.st = 1 → S' = S) := by
    refine ⟨?_, fun h => (h1 h).2⟩
    by_cases e : S.st = 1
    · rw [h2 e]
    · have : ¬ S'.st = 1 := fun c => e (h1 c).1
      rw [beq_eq_false_iff_ne.mpr this, beq_eq_false_iff_ne.mpr e]
  constructor
  · rw [List.length_set]
    refine cntI_same fun j _ => ?_
    rw [popD_set hk]
    split
    · rename_i e
      subst e
      rw [popD_get hS, same.1]
      by_cases e1 : S'.st = 1
      · rw [same.2 e1]
      · have : ¬ S.st = 1 := fun c => e1 (by rw [h2 c]; exact c)
        rw [beq_eq_false_iff_ne.mpr this]
        rfl
    · rfl
  · rw [pushD_set hk]
    split
    · rename_i e
      subst e
      rw [pushD_get hS, same.1]
    · rfl
theorem MI.step {n : Nat} {P : Nat → Bool} {x : Int} {Ss : List VM} {cs : List Nat} (hV : VsI n P x Ss cs) (hM : MI P x Ss) {k : Nat} {S : VM} {c : Nat} (hS : Ss[k]? = some S) (hc : cs[k]? = some c) {x' : Int} {S' : VM}
    (hd : Deed x (P k) ((k : Int) + 1) S x' S') (hov : S.st ≠ 0 → S' = S) : MI P x' (Ss.set k S') := by
  have hk : k < Ss.length := (List.getElem?_eq_some_iff.1 hS).1
  have few := hV.few
  have get : ∀ j T, (Ss.set k S')[j]? = some T → (j = k ∧ T = S') ∨ (j ≠ k ∧ Ss[j]? = some T) := fun j T h => set_get h hk
  have own1 : ∀ j T, Ss[j]? = some T → T.owner → ∃ w, Waits x w (P j) ((j : Int) + 1) := fun j T hT ho => by
    have hlt : j < cs.length := by rw [hV.len]; exact (List.getElem?_eq_some_iff.1 hT).1
    exact (hV.each j T cs[j] hT (List.getElem?_eq_getElem hlt)).owner_waits ho
  cases hd with
  | none e1 e2 e3 e4 =>
    subst e1
    have hst : S.st = 1 → S' = S := fun h => hov (by omega)
    have ck := cnt_keep (P := P) hS e4 hst
    refine ⟨fun h => ?_, fun j T hT hp h1 => ?_, fun j T hT hp ho h3 => ?_, fun p hp hpp j T hT ho h3 => ?_, fun p hp hpp h3 => ?_⟩
    · obtain ⟨j, T, hT, ho⟩ := hM.has h
      by_cases e : j = k
      · subst e
        rw [hS] at hT
        cases hT
        exact ⟨j, S', List.getElem?_set_self hk, e2 ho⟩
      · exact ⟨j, T, by rw [List.getElem?_set_ne (fun c => e c.symm)]; exact hT, ho⟩
    · rw [List.length_set]
      rcases get j T hT with ⟨rfl, rfl⟩ | ⟨_, hT⟩
      · obtain ⟨h2, rfl⟩ := e4 h1
        exact hM.num _ _ hS hp h2
      · exact hM.num _ _ hT hp h1
    · rw [List.length_set]
      rcases get j T hT with ⟨rfl, rfl⟩ | ⟨_, hT⟩
      · exact hM.busy _ _ hS hp (e3 ho) h3
      · exact hM.busy _ _ hT hp ho h3
    · rw [List.length_set] at hp
      rw [(ck p).1, (ck p).2]
      rcases get j T hT with ⟨rfl, rfl⟩ | ⟨_, hT⟩
      · exact hM.cnt p hp hpp _ _ hS (e3 ho) h3
      · exact hM.cnt p hp hpp _ _ hT ho h3
    · rw [List.length_set] at hp
      rw [(ck p).1, (ck p).2]
      exact hM.cnt0 p hp hpp h3
  | meets g1 g2 g3 g4 g5 g6 g7 =>
    have hw := sMeets_st g5
    have hx0 : sSt x ≠ 0 := by rw [hw]; cases P k <;> decide
    have hx3 : sSt x ≠ 3 := by rw [hw]; cases P k <;> decide
    have hx'3 : sSt x' = 3 := by rw [g6]; exact sSt_claim
    obtain ⟨j, T, hT, ho⟩ := hM.has hx0
    have hjk : j ≠ k := fun e => by subst e; rw [hS] at hT; cases hT; exact g1 ho
    have hjl : j < Ss.length := (List.getElem?_eq_some_iff.1 hT).1
    obtain ⟨w, hW⟩ := own1 j T hT ho
    have hxw : x = w := hW.or_.resolve_right fun e => hx3 e.1
    have hPj : P j = !P k := by
      have h5 := hW.st
      rw [← hxw, hw] at h5
      revert h5
      cases P j <;> cases P k <;> decide
    have hix : sIx x' = if P k = true then (k : Int) + 1 else sIx x := by rw [g6]; exact sIx_claim (by omega) (by omega)
    have hixj : P k = false → sIx x = (j : Int) + 1 := fun h => by
      rw [hxw]
      exact hW.ix (by rw [hPj, h]; rfl)
    have own' : ∀ i U, (Ss.set k S')[i]? = some U → U.owner → i = j := fun i U hU hO => by
      rcases get i U hU with ⟨rfl, rfl⟩ | ⟨_, hU⟩
      · exact (g2 hO).elim
      · exact hV.uniq _ _ _ _ hU hT hO ho
    have c0 := hM.cnt0
    have upd : ∀ p, cntI (popD P (Ss.set k S') p) Ss.length + 0 = cntI (popD P Ss p) Ss.length + (!P k && S'.i == (p : Int) + 1).toNat := fun p => by
      have := cntI_upd (f := popD P Ss p) (g := popD P (Ss.set k S') p) (k := k) (fun i hi => by rw [popD_set hk, if_neg hi]) hk
      rw [popD_get hS, popD_set hk, if_pos rfl, g3, g4] at this
      simpa using this
    refine ⟨fun _ => ⟨j, T, by rw [List.getElem?_set_ne hjk.symm]; exact hT, ho⟩, fun i U hU hp h1 => ?_, fun i U hU hp hO h3 => ?_, fun p hp hpp i U hU hO h3 => ?_, fun p hp hpp h3 => (h3 hx'3).elim⟩
    · rw [List.length_set]
      rcases get i U hU with ⟨rfl, rfl⟩ | ⟨_, hU⟩
      · refine ⟨j, hjl, by rw [hPj, hp]; rfl, ?_⟩
        rw [g7, hix, if_neg (by rw [hp]; decide)]
        exact hixj hp
      · exact hM.num _ _ hU hp h1
    · rw [List.length_set]
      obtain rfl := own' i U hU hO
      have hPk : P k = true := by rw [hp] at hPj; cases h : P k <;> simp [h] at hPj ⊢
      exact ⟨k, hk, hPk, by rw [hix, if_pos hPk]⟩
    · rw [List.length_set] at hp ⊢
      obtain rfl := own' i U hU hO
      have u := upd p
      have h0 := c0 p hp hpp hx3
      rw [pushD_set hk]
      by_cases hPk : P k = true
      · have hPi : P i = false := by rw [hPj, hPk]; rfl
        simp only [hPk, Bool.not_true, Bool.false_and, Bool.toNat_false, Nat.add_zero] at u
        rw [u, h0, hPi, hix, if_pos hPk]
        by_cases e : p = k
        · subst e
          rw [pushD_get hS, g3, g4]
          simp
        · have e2 : ¬ ((k : Int) + 1 = (p : Int) + 1) := by omega
          rw [if_neg e]
          simp [e2]
      · have hPk' : P k = false := by simpa using hPk
        have hPi : P i = true := by rw [hPj, hPk']; rfl
        have hpk : p ≠ k := fun e => by rw [e] at hpp; exact hPk hpp
        have hS'i : S'.i = (i : Int) + 1 := by rw [g7, hix, if_neg hPk]; exact hixj hPk'
        simp only [hPk', hS'i, Bool.not_false, Bool.true_and, Nat.add_zero] at u
        rw [if_neg hpk, u, h0, hPi]
        by_cases e : p = i
        · subst e; simp
        · have e2 : ¬ ((i : Int) + 1 = (p : Int) + 1) := by omega
          have e3 : (((i : Int) + 1) == ((p : Int) + 1)) = false := by simpa using e2
          rw [e3]
          simp [e]
  | begins g1 g2 g3 g4 =>
    have hs0 : S.st = 0 := by
      by_cases e : S.st = 0
      · exact e
      · rw [hov e] at g2; exact (g1 g2).elim
    have hst' : S'.st = 0 := g2.1
    have hx' : sSt x' = sWaits (P k) := by rw [g4]; exact sSt_offer
    have hx'3 : sSt x' ≠ 3 := by rw [hx']; cases P k <;> decide
    have hx3 : sSt x ≠ 3 := by rw [g3]; decide
    have ck := cnt_keep (P := P) (S' := S') hS (fun h => by omega) (fun h => by omega)
    refine ⟨fun _ => ⟨k, S', List.getElem?_set_self hk, g2⟩, fun j T hT hp h1 => ?_, fun j T hT hp ho h3 => (hx'3 h3).elim, fun p hp hpp j T hT ho h3 => (hx'3 h3).elim, fun p hp hpp _ => ?_⟩
    · rw [List.length_set]
      rcases get j T hT with ⟨rfl, rfl⟩ | ⟨_, hT⟩
      · omega
      · exact hM.num _ _ hT hp h1
    · rw [List.length_set] at hp
      rw [(ck p).1, (ck p).2]
      exact hM.cnt0 p hp hpp hx3
  | leaves T0 g1 g2 g3 g4 =>
    have hx'0 : sSt x' = 0 := by rw [g4]; exact sSt_clear
    have hx'3 : sSt x' ≠ 3 := by rw [hx'0]; decide
    rcases g3 with ⟨h4, hx3⟩ | ⟨h1, hx3, hi⟩
    · have ck := cnt_keep (P := P) (S' := S') hS (fun h => by omega) (fun h => by have := g1.1; omega)
      refine ⟨fun h => (h hx'0).elim, fun j T hT hp h1 => ?_, fun j T hT hp ho h3 => (hx'3 h3).elim, fun p hp hpp j T hT ho h3 => (hx'3 h3).elim, fun p hp hpp _ => ?_⟩
      · rw [List.length_set]
        rcases get j T hT with ⟨rfl, rfl⟩ | ⟨_, hT⟩
        · omega
        · exact hM.num _ _ hT hp h1
      · rw [List.length_set] at hp
        rw [(ck p).1, (ck p).2]
        exact hM.cnt0 p hp hpp hx3
    · have hs0 : S.st = 0 := g1.1
      have upd : ∀ p, cntI (popD P (Ss.set k S') p) Ss.length + 0 = cntI (popD P Ss p) Ss.length + (!P k && S'.i == (p : Int) + 1).toNat := fun p => by
        have := cntI_upd (f := popD P Ss p) (g := popD P (Ss.set k S') p) (k := k) (fun i hi => by rw [popD_set hk, if_neg hi]) hk
        rw [popD_get hS, popD_set hk, if_pos rfl, hs0, h1] at this
        simpa using this
      refine ⟨fun h => (h hx'0).elim, fun j T hT hp h2 => ?_, fun j T hT hp ho h3 => (hx'3 h3).elim, fun p hp hpp j T hT ho h3 => (hx'3 h3).elim, fun p hp hpp _ => ?_⟩
      · rw [List.length_set]
        rcases get j T hT with ⟨rfl, rfl⟩ | ⟨_, hT⟩
        · obtain ⟨p, q1, q2, q3⟩ := hM.busy _ _ hS hp g1 hx3
          exact ⟨p, q1, q2, by rw [hi, q3]⟩
        · exact hM.num _ _ hT hp h2
      · rw [List.length_set] at hp ⊢
        have h0 := hM.cnt p hp hpp k S hS g1 hx3
        have u := upd p
        rw [pushD_set hk]
        by_cases hPk : P k = true
        · simp only [hPk, Bool.not_true, Bool.false_and, Bool.toNat_false, Nat.add_zero] at u
          simp only [hPk, and_true] at h0
          rw [u]
          by_cases e : p = k
          · subst e
            rw [pushD_get hS, hs0] at h0
            rw [if_pos rfl, h1]
            simpa using h0
          · rw [if_neg e]
            simpa [e] using h0
        · have hPk' : P k = false := by simpa using hPk
          have hpk : p ≠ k := fun e => by rw [e] at hpp; exact hPk hpp
          simp only [hPk', Bool.not_false, Bool.true_and, hi, Nat.add_zero] at u
          rw [if_neg hpk, u]
          by_cases e : sIx x = (p : Int) + 1
          · simp only [hPk', e, and_self, if_true, hpk, false_and, if_false, Nat.add_zero] at h0
            rw [e]
            simpa using h0
          · have e2 : (sIx x == (p : Int) + 1) = false := by simpa using e
            simp only [hPk', e, and_false, if_false, hpk, false_and, Nat.add_zero] at h0
            rw [e2]
            simpa using h0
theorem MI.new (n : Nat) (P : Nat → Bool) (x : Int) (m : Nat) (hx : sSt x = 0) : MI P x ((List.range m).map fun k => (⟨0, P k, (k : Int) + 1, bigD, n, 0, .first, 0, false⟩ : VM)) := by
  have get : ∀ k S, ((List.range m).map fun k => (⟨0, P k, (k : Int) + 1, bigD, n, 0, .first, 0, false⟩ : VM))[k]? = some S → S = (⟨0, P k, (k : Int) + 1, bigD, n, 0, .first, 0, false⟩ : VM) := fun k S h => by
    rw [List.getElem?_map] at h
    by_cases hk : k < m
    · rw [List.getElem?_range hk] at h
      exact (Option.some.inj h).symm
    · rw [List.getElem?_eq_none (by simpa using Nat.le_of_not_lt hk)] at h
      cases h
  refine ⟨fun h => (h hx).elim, fun k S hS _ h1 => ?_, fun k S hS _ _ h3 => by omega, fun p _ _ k S _ _ h3 => by omega, fun p hp _ _ => ?_⟩
  · obtain rfl := get k S hS
    exact absurd h1 (by simp)
  · rw [cntI_zero]
    · have hp' : p < m := by simpa using hp
      rw [pushD_get (S := ⟨0, P p, (p : Int) + 1, bigD, n, 0, .first, 0, false⟩) (by rw [List.getElem?_map, List.getElem?_range hp']; rfl)]
      rfl
    · intro j hj
      have hj' : j < m := by simpa using hj
      rw [popD_get (S := ⟨0, P j, (j : Int) + 1, bigD, n, 0, .first, 0, false⟩) (by rw [List.getElem?_map, List.getElem?_range hj']; rfl)]
      rfl
theorem MI.final {P : Nat → Bool} {x : Int} {Ss : List VM} (hM : MI P x Ss) (h : ∀ (k : Nat) (S : VM), Ss[k]? = some S → S.st ≠ 0) : sSt x = 0 ∧ ∀ p : Nat, p < Ss.length → P p = true → cntI (popD P Ss p) Ss.length = (pushD Ss p).toNat := by
  have h0 : sSt x = 0 := by
    by_cases e : sSt x = 0
    · exact e
    · obtain ⟨k, S, hS, ho⟩ := hM.has e
      exact (h k S hS ho.1).elim
  exact ⟨h0, fun p hp hpp => hM.cnt0 p hp hpp (by rw [h0]; decide)⟩
/-- The row 'met' behind j visits. -/
def metRow (P : Nat → Bool) (Ss : List VM) (m j : Nat) : List Value := (List.range (m + 1)).map fun v => Value.int .i64 (if v = 0 then 0 else (cntI (popD P Ss (v - 1)) j : Nat))
theorem metRow_get (P : Nat → Bool) (Ss : List VM) (m j v : Nat) (hv : v ≤ m) : (metRow P Ss m j)[v]? = some (.int .i64 (if v = 0 then 0 else (cntI (popD P Ss (v - 1)) j : Nat))) := by
  simp [metRow, List.getElem?_range (show v < m + 1 by omega)]
theorem metRow_zero (P : Nat → Bool) (Ss : List VM) (m : Nat) : metRow P Ss m 0 = List.replicate (m + 1) (.int .i64 0) := by
  apply List.ext_getElem
  · simp [metRow]
  · intro i h1 h2
    simp [metRow, cntI]
theorem metRow_same {P : Nat → Bool} {Ss : List VM} {j : Nat} {S : VM} (hS : Ss[j]? = some S) (h : S.st ≠ 1 ∨ P j = true) (m : Nat) : metRow P Ss m (j + 1) = metRow P Ss m j := by
  unfold metRow
  apply List.map_congr_left
  intro v _
  simp only [cntI]
  rw [popD_get hS]
  rcases h with h | h
  · rw [beq_eq_false_iff_ne.mpr h]; simp
  · rw [h]; simp
theorem metRow_more {P : Nat → Bool} {Ss : List VM} {j p m : Nat} {S : VM} (hS : Ss[j]? = some S) (h1 : S.st = 1) (h2 : P j = false) (h3 : S.i = (p : Int) + 1) (hp : p < m) : metRow P Ss m (j + 1) = (metRow P Ss m j).set (p + 1) (.int .i64 ((cntI (popD P Ss p) j : Nat) + 1)) := by
  apply List.ext_getElem?
  intro v
  by_cases hv : v ≤ m
  · rw [metRow_get _ _ _ _ _ hv, List.getElem?_set]
    by_cases e : p + 1 = v
    · subst e
      have hl : p + 1 < (metRow P Ss m j).length := by simp [metRow]; omega
      have e0 : ¬ p + 1 = 0 := by omega
      simp only [hl, e0, if_true, if_false, Nat.add_sub_cancel, cntI]
      rw [popD_get hS, h1, h2, h3]
      simp
    · rw [if_neg e, metRow_get _ _ _ _ _ hv]
      by_cases e0 : v = 0
      · simp [e0]
      · rw [if_neg e0, if_neg e0]
        simp only [cntI]
        rw [popD_get hS, h3]
        have : ¬ ((p : Int) + 1 = ((v - 1 : Nat) : Int) + 1) := by omega
        rw [beq_eq_false_iff_ne.mpr this]
        simp
  · rw [List.getElem?_eq_none (by simp [metRow]; omega), List.getElem?_eq_none (by simp [metRow]; omega)]
/-- How often k comes among d turns that go round m, from T on. -/
def occ (T m k : Nat) : Nat → Nat
  | 0 => 0
  | d + 1 => occ T m k d + (if (T + d) % m = k then 1 else 0)
theorem occ_shift (T m k : Nat) : ∀ d, occ T m k (d + 1) = (if T % m = k then 1 else 0) + occ (T + 1) m k d
  | 0 => by simp [occ]
  | d + 1 => by
    have := occ_shift T m k d
    simp only [occ] at this ⊢
    rw [this, show T + 1 + d = T + (d + 1) by omega]
    omega
theorem occ_add (T m k d : Nat) : ∀ e, occ T m k (d + e) = occ T m k d + occ (T + d) m k e
  | 0 => by simp [occ]
  | e + 1 => by
    have := occ_add T m k d e
    rw [show d + (e + 1) = (d + e) + 1 by omega]
    simp only [occ]
    rw [this, show T + (d + e) = T + d + e by omega]
    omega
theorem occ_zero (m k : Nat) (hk : k < m) : ∀ d, d ≤ m → occ 0 m k d = if k < d then 1 else 0
  | 0, _ => by simp [occ]
  | d + 1, h => by
    simp only [occ]
    rw [occ_zero m k hk d (by omega), Nat.zero_add, Nat.mod_eq_of_lt (by omega)]
    split <;> split <;> split <;> omega
theorem occ_round (m k : Nat) (hk : k < m) : ∀ T, occ T m k m = 1
  | 0 => by rw [occ_zero m k hk m (Nat.le_refl _), if_pos hk]
  | T + 1 => by
    have h1 := occ_round m k hk T
    obtain ⟨m', rfl⟩ : ∃ m', m = m' + 1 := ⟨m - 1, by omega⟩
    rw [occ_shift] at h1
    simp only [occ]
    rw [show T + 1 + m' = T + (m' + 1) by omega, Nat.add_mod_right]
    omega
theorem occ_rounds (m k : Nat) (hk : k < m) (T : Nat) : ∀ r, occ T m k (r * m) = r
  | 0 => by simp [occ]
  | r + 1 => by rw [Nat.succ_mul, occ_add, occ_rounds m k hk T r, occ_round m k hk]
end Go.Proofs.Ytpkchlmoohmfeaa
