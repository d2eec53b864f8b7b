/-
  A push that stands still: what it has done behind its first steps. No program here.
-/
import Derived.Test.YtgfeagggkplegaaGreatRunP
namespace Go.Proofs.YtgfeagggkplegaaGreat
open Go.RowKit
set_option linter.unusedVariables false
set_option linter.unusedSimpArgs false

theorem take3w {nn : Nat} {s h t : Int} {ws : List Int} {a : Nat} {i : Int} {r : List Int} {T : Int} (hok : okC nn s h = true) (hl : AtL nn ws a (i :: r) T) (ha : a < ws.length) (hN : 2 + 2 * nn ≤ ws.length) : ∃ T1 T2 T3 n1 n2 n3, (newTk nn s h t a).step ws = ⟨0, T1, ws, [n1]⟩ ∧ T1.step ws = ⟨0, T2, ws, [n2]⟩ ∧ T2.step ws = ⟨1, T3, ws.set a (hdI r + (T + 1) % 4294967296 * 4294967296), [n3]⟩ ∧ T3.told 1 = i := by
  obtain ⟨hn1, hn2, _⟩ := okC_bounds hok
  obtain ⟨i1, i2⟩ := hl.rng i (by simp)
  have hw : rdW ws a = i + T % 4294967296 * 4294967296 := hl.word
  have hnx := nx_at hok i1 i2
  have hm : (i + T % 4294967296 * 4294967296) % 4294967296 = i := word_ix (by omega) (by omega)
  have h2 : rdW ws (2 * i).toNat % 4294967296 = hdI r := hl.lnk.1
  have hr := hdI_rng (nn := nn) (l := r) fun j hj => hl.rng j (by simp [hj])
  have hv := nextW_word (x := i) (T := T) (f := hdI r) (by omega) (by omega)
  have g1 : ¬ ((a : Int) < 0 ∨ (ws.length : Int) ≤ (a : Int)) := by omega
  have g2 : ¬ i = 0 := by omega
  have g3 : ¬ ((2 * i).toNat : Int) < 0 := by omega
  have g4 : ¬ (ws.length : Int) ≤ ((2 * i).toNat : Int) := by omega
  refine ⟨⟨nn, s, h, t, a, i, i + T % 4294967296 * 4294967296, false, .second, 0⟩, ⟨nn, s, h, t, a, i, i + T % 4294967296 * 4294967296, false, .last (rdW ws (2 * i).toNat), 0⟩, ⟨nn, s, h, t, a, i, i + T % 4294967296 * 4294967296, false, .last (rdW ws (2 * i).toNat), 1⟩, ldN a (rdW ws a), ldN (2 * i).toNat (rdW ws (2 * i).toNat), swN a (rdW ws a) (hdI r + (T + 1) % 4294967296 * 4294967296), ?_, ?_, ?_, rfl⟩
  · have e : (newTk nn s h t a).step ws = (newTk nn s h t a).head ws := rfl
    rw [e]
    unfold TM.head newTk
    dsimp only
    rw [if_neg (by simp), if_neg g1]
    simp only [Int.toNat_natCast, hw, hm]
    rw [if_neg g2, hnx, if_neg g3]
  · have e : TM.step ⟨nn, s, h, t, a, i, i + T % 4294967296 * 4294967296, false, .second, 0⟩ ws = TM.second ⟨nn, s, h, t, a, i, i + T % 4294967296 * 4294967296, false, .second, 0⟩ ws := rfl
    rw [e]
    unfold TM.second TM.nx
    dsimp only
    rw [hnx, if_neg g4]
    simp only [Int.toNat_natCast, Bool.false_eq_true, if_false]
  · have e : TM.step ⟨nn, s, h, t, a, i, i + T % 4294967296 * 4294967296, false, .last (rdW ws (2 * i).toNat), 0⟩ ws = TM.last ⟨nn, s, h, t, a, i, i + T % 4294967296 * 4294967296, false, .last (rdW ws (2 * i).toNat), 0⟩ (rdW ws (2 * i).toNat) ws := rfl
    rw [e]
    unfold TM.last TM.fst
    dsimp only
    simp only [Int.toNat_natCast, hw, if_true, Bool.false_eq_true, if_false, h2, hv]
theorem give2w {nn : Nat} {s h t : Int} {ws : List Int} {a : Nat} {i : Int} {l : List Int} {T : Int} (hok : okC nn s h = true) (hl : AtL nn ws a l T) (ha : a < ws.length) (h2 : a < 2) (hN : 2 + 2 * nn ≤ ws.length) (hi : 1 ≤ i ∧ i ≤ nn) : ∃ T1 T2 n1 n2, (newGv nn s h t a i).step ws = ⟨0, T1, ws, [n1]⟩ ∧ T1.step ws = ⟨0, T2, ws.set (2 * i).toNat (hdI l), [n2]⟩ := by
  obtain ⟨hn1, hn2, _⟩ := okC_bounds hok
  obtain ⟨i1, i2⟩ := hi
  have hr := hdI_rng (nn := nn) (l := l) hl.rng
  have hw : rdW ws a = hdI l + T % 4294967296 * 4294967296 := hl.word
  have hnx := nx_at hok i1 i2
  have hm : (hdI l + T % 4294967296 * 4294967296) % 4294967296 = hdI l := word_ix (by omega) (by omega)
  have hv := nextW_word (x := hdI l) (T := T) (f := i) (by omega) (by omega)
  have hne : a ≠ (2 * i).toNat := by omega
  have hw2 : rdW (ws.set (2 * i).toNat (hdI l)) a = hdI l + T % 4294967296 * 4294967296 := by rw [rdW_other _ _ _ _ hne]; exact hw
  have g1 : ¬ ((a : Int) < 0 ∨ (ws.length : Int) ≤ (a : Int)) := by omega
  have g3 : ¬ ((2 * i).toNat : Int) < 0 := by omega
  have g4 : ¬ (ws.length : Int) ≤ ((2 * i).toNat : Int) := by omega
  refine ⟨⟨nn, s, h, t, a, i, hdI l + T % 4294967296 * 4294967296, true, .second, 0⟩, ⟨nn, s, h, t, a, i, hdI l + T % 4294967296 * 4294967296, true, .last 0, 0⟩, ldN a (rdW ws a), stN (2 * i).toNat (rdW ws (2 * i).toNat) (hdI l), ?_, ?_⟩
  · have e : (newGv nn s h t a i).step ws = (newGv nn s h t a i).head ws := rfl
    rw [e]
    unfold TM.head newGv TM.nx
    dsimp only
    rw [if_pos rfl, hnx, if_neg g3, if_neg g1]
    simp only [Int.toNat_natCast, hw]
  · have e : TM.step ⟨nn, s, h, t, a, i, hdI l + T % 4294967296 * 4294967296, true, .second, 0⟩ ws = TM.second ⟨nn, s, h, t, a, i, hdI l + T % 4294967296 * 4294967296, true, .second, 0⟩ ws := rfl
    rw [e]
    unfold TM.second TM.nx
    dsimp only
    rw [hnx, if_neg g4]
    simp only [Int.toNat_natCast, if_true, hm]
/-- m steps, none of which ends it, or draws; each one access at most. -/
inductive RunN : Nat → OM → List Int → OM → List Int → Prop where
  | nil (S : OM) (ws : List Int) : RunN 0 S ws S ws
  | on {m : Nat} {S S1 S' : OM} {ws ws1 ws' : List Int} {nt : List Note} : (∀ now ds, S.step ws now ds = ⟨0, S1, ws1, nt, ds⟩) → nt.length ≤ 1 → RunN m S1 ws1 S' ws' → RunN (m + 1) S ws S' ws'
theorem RunN.inv {m : Nat} {S S' : OM} {ws ws' : List Int} (h : RunN m S ws S' ws') : (m = 0 ∧ S' = S ∧ ws' = ws) ∨ (∃ k S1 ws1 nt, m = k + 1 ∧ (∀ now ds, S.step ws now ds = ⟨0, S1, ws1, nt, ds⟩) ∧ nt.length ≤ 1 ∧ RunN k S1 ws1 S' ws') := by
  cases h with
  | nil => exact .inl ⟨rfl, rfl, rfl⟩
  | on h1 h2 h3 => exact .inr ⟨_, _, _, _, rfl, h1, h2, h3⟩
theorem push_pre {nn N : Nat} {W : Int} {ws l f V : List Int} {T0 T1 : Int} {c : OM} {i : Int} (hok : okC nn c.s c.h = true) (hcn : c.n = nn) (hN : 2 + 2 * nn ≤ N) (hp : c.push = true) (hsh : c.shelf = []) (v0 : 0 ≤ c.v) (v1 : c.v < 18446744073709551616) (h : Two nn N W ws l (i :: f) V T0 T1) (j : Nat) (hj : j ≤ 6) :
    ∃ S' ws' f' T1', RunN j (c.put c.v 0 (.take (newAT c.n c.s c.h c.t c.bud [])) 0) ws S' ws' ∧ Two nn N W ws' l f' V T0 T1' ∧ f'.length + (if S'.i = 0 then 0 else 1) = f.length + 1 ∧ S'.st = 0 ∧ (∀ E, S'.part ≠ .visit E) ∧ 0 ≤ S'.i := by
  obtain ⟨b1, b2, _⟩ := okC_bounds hok
  have hl := h.len
  have hn : nn ≤ 64 := by omega
  have hi := h.a1.rng i (by simp)
  have hif : i ∉ f := (List.nodup_cons.1 h.a1.nd).1
  have hil : i ∉ l := fun k => h.dj i k (by simp)
  obtain ⟨U1, U2, U3, n1, n2, n3, u1, u2, u3, u4⟩ := take3w (t := c.t) hok h.a1 (by omega) (by omega)
  have t0 : (newAT c.n c.s c.h c.t c.bud []).try_ = newTk c.n c.s c.h c.t 1 := rfl
  rw [hcn] at t0
  have e1 := AM.step_go (S := newAT c.n c.s c.h c.t c.bud []) (fun _ => rfl) rfl (by rw [hcn]; exact t0) u1 (by decide) (by decide)
  have e2 := AM.step_go (S := { newAT c.n c.s c.h c.t c.bud [] with now := some U1, st := 0, i := U1.told 0 }) (fun _ => rfl) rfl rfl u2 (by decide) (by decide)
  have e3 := AM.step_go (S := { newAT c.n c.s c.h c.t c.bud [] with now := some U2, st := 0, i := U2.told 0 }) (fun _ => rfl) rfl rfl u3 (by decide) (by decide)
  rw [u4] at e3
  have h1 := h.pop1 hN hn
  have hv : c.value i = ((2 * i + 1).toNat : Int) := by unfold OM.value; rw [hcn]; exact val_at hok hi.1 hi.2
  have h2 : Two nn N W ((ws.set 1 (hdI f + (T1 + 1) % 4294967296 * 4294967296)).set (2 * i + 1).toNat c.v) l f V T0 (T1 + 1) := h1.other ⟨by omega, by omega⟩ (fun j hj => ⟨by omega, fun e => hil ((show j = i by omega) ▸ hj)⟩) (fun j hj => by omega) v0 v1
  obtain ⟨G1, G2, m1, m2, g1, g2⟩ := give2w (t := c.t) (i := i) hok h2.a0 (by rw [h2.len]; omega) (by omega) (by rw [h2.len]; omega) hi
  have hh := hdI_rng h2.a0.rng
  have h3 : Two nn N W (((ws.set 1 (hdI f + (T1 + 1) % 4294967296 * 4294967296)).set (2 * i + 1).toNat c.v).set (2 * i).toNat (hdI l)) l f V T0 (T1 + 1) := h2.other ⟨by omega, by omega⟩ (fun j hj => ⟨fun e => hil ((show j = i by omega) ▸ hj), by omega⟩) (fun j hj => fun e => hif ((show j = i by omega) ▸ hj)) (by omega) (by omega)
  have s1 := fun now ds => step_takeN (c := c) (v := c.v) (i := 0) (now := now) (ds := ds) e1 hsh.symm (by decide)
  have s2 := fun now ds => step_takeN (c := c) (v := c.v) (i := 0) (now := now) (ds := ds) e2 hsh.symm (by decide)
  have s3 := fun now ds => step_take1 (c := c) (v := c.v) (i := 0) (now := now) (ds := ds) e3 hsh.symm
  have s4 : ∀ now ds, OM.step (c.put c.v i (.acc (c.value i) true) 0) (ws.set 1 (hdI f + (T1 + 1) % 4294967296 * 4294967296)) now ds = ⟨0, c.put c.v i (.tk (newGv nn c.s c.h c.t 0 i)) 0, ((ws.set 1 (hdI f + (T1 + 1) % 4294967296 * 4294967296)).set (2 * i + 1).toNat c.v), [stN (2 * i + 1).toNat (rdW (ws.set 1 (hdI f + (T1 + 1) % 4294967296 * 4294967296)) (2 * i + 1).toNat) c.v], ds⟩ := fun now ds => by rw [hv, step_write (by simp; omega), if_pos hp, hcn]
  have s5 := fun now ds => step_tkN (c := c) (v := c.v) (i := i) (now := now) (ds := ds) g1 (by decide) (by decide)
  have s6 := fun now ds => step_tkN (c := c) (v := c.v) (i := i) (now := now) (ds := ds) g2 (by decide) (by decide)
  have i0 : ¬ i = 0 := by omega
  match j, hj with
  | 0, _ => exact ⟨_, _, i :: f, T1, .nil _ _, h, by simp [OM.put], rfl, (fun E k => by cases k), Int.le_refl 0⟩
  | 1, _ => exact ⟨_, _, i :: f, T1, .on s1 (Nat.le_refl 1) (.nil _ _), h, by simp [OM.put], rfl, (fun E k => by cases k), Int.le_refl 0⟩
  | 2, _ => exact ⟨_, _, i :: f, T1, .on s1 (Nat.le_refl 1) (.on s2 (Nat.le_refl 1) (.nil _ _)), h, by simp [OM.put], rfl, (fun E k => by cases k), Int.le_refl 0⟩
  | 3, _ => exact ⟨_, _, f, T1 + 1, .on s1 (Nat.le_refl 1) (.on s2 (Nat.le_refl 1) (.on s3 (Nat.le_refl 1) (.nil _ _))), h1, by simp [OM.put, i0], rfl, (fun E k => by cases k), by show 0 ≤ i; omega⟩
  | 4, _ => exact ⟨_, _, f, T1 + 1, .on s1 (Nat.le_refl 1) (.on s2 (Nat.le_refl 1) (.on s3 (Nat.le_refl 1) (.on s4 (Nat.le_refl 1) (.nil _ _)))), h2, by simp [OM.put, i0], rfl, (fun E k => by cases k), by show 0 ≤ i; omega⟩
  | 5, _ => exact ⟨_, _, f, T1 + 1, .on s1 (Nat.le_refl 1) (.on s2 (Nat.le_refl 1) (.on s3 (Nat.le_refl 1) (.on s4 (Nat.le_refl 1) (.on s5 (Nat.le_refl 1) (.nil _ _))))), h2, by simp [OM.put, i0], rfl, (fun E k => by cases k), by show 0 ≤ i; omega⟩
  | 6, _ => exact ⟨_, _, f, T1 + 1, .on s1 (Nat.le_refl 1) (.on s2 (Nat.le_refl 1) (.on s3 (Nat.le_refl 1) (.on s4 (Nat.le_refl 1) (.on s5 (Nat.le_refl 1) (.on s6 (Nat.le_refl 1) (.nil _ _)))))), h3, by simp [OM.put, i0], rfl, (fun E k => by cases k), by show 0 ≤ i; omega⟩
end Go.Proofs.YtgfeagggkplegaaGreat
