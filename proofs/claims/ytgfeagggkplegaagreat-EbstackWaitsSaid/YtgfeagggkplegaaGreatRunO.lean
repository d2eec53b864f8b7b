/-
  An operation alone: what its steps leave, and tell. No program here.
-/
import Derived.Test.YtgfeagggkplegaaGreatOpM
import Derived.Test.YtgfeagggkplegaaGreatLst2
namespace Go.Proofs.YtgfeagggkplegaaGreat
open Go.RowKit
set_option linter.unusedVariables false
set_option linter.unusedSimpArgs false

/-- m steps more, none of which draws, each one access at most, and it has ended so. -/
inductive RunO : Nat → OM → List Int → OM → List Int → Prop where
  | last {S S' : OM} {ws ws' : List Int} {r : Int} {nt : List Note} : (∀ now ds, S.step ws now ds = ⟨r, S', ws', nt, ds⟩) → r ≠ 0 → nt.length ≤ 1 → RunO 1 S ws S' ws'
  | on {m : Nat} {S S1 S' : OM} {ws ws1 ws' : List Int} {nt : List Note} : (∀ now ds, S.step ws now ds = ⟨0, S1, ws1, nt, ds⟩) → nt.length ≤ 1 → RunO m S1 ws1 S' ws' → RunO (m + 1) S ws S' ws'
theorem RunO.inv {m : Nat} {S S' : OM} {ws ws' : List Int} (h : RunO m S ws S' ws') : (m = 1 ∧ ∃ r nt, (∀ now ds, S.step ws now ds = ⟨r, S', ws', nt, ds⟩) ∧ r ≠ 0 ∧ nt.length ≤ 1) ∨ (∃ k S1 ws1 nt, m = k + 1 ∧ (∀ now ds, S.step ws now ds = ⟨0, S1, ws1, nt, ds⟩) ∧ nt.length ≤ 1 ∧ RunO k S1 ws1 S' ws') := by
  cases h with
  | last h1 h2 h3 => exact .inl ⟨rfl, _, _, h1, h2, h3⟩
  | on h1 h2 h3 => exact .inr ⟨_, _, _, _, rfl, h1, h2, h3⟩
theorem RunO.pos {m : Nat} {S S' : OM} {ws ws' : List Int} (h : RunO m S ws S' ws') : 0 < m := by cases h <;> omega
/-- An operation at a part. -/
def OM.put (c : OM) (v i : Int) (P : OPart) (st : Int) : OM := { c with v := v, i := i, part := P, st := st }
section steps
variable {c : OM} {v i : Int} {ws ws1 : List Int} {nt : List Note} {now : Int} {ds : List Int}
theorem step_take1 {A A1 : AM} {z : Int} (he : A.step ws = ⟨1, z, A1, ws1, nt⟩) (hs : A1.shelf = c.shelf) : (c.put v i (.take A) 0).step ws now ds = ⟨0, c.put v z (.acc (c.value z) true) 0, ws1, nt, ds⟩ := by
  simp only [OM.step, OM.put, OM.pstep, OM.took, he, hs, OM.value, ne_eq, not_true_eq_false, if_false, if_true]
theorem step_takeN {A A1 : AM} {r z : Int} (he : A.step ws = ⟨r, z, A1, ws1, nt⟩) (hs : A1.shelf = c.shelf) (h1 : r ≠ 1) : (c.put v i (.take A) 0).step ws now ds = ⟨r, c.put v i (.take A1) r, ws1, nt, ds⟩ := by
  simp only [OM.step, OM.put, OM.pstep, OM.took, he, hs, h1, ne_eq, not_true_eq_false, if_false]
theorem step_write {a : Nat} (ha : a < ws.length) : (c.put v i (.acc a true) 0).step ws now ds = ⟨0, c.put v i (.tk (if c.push = true then newGv c.n c.s c.h c.t 0 i else newTk c.n c.s c.h c.t 0)) 0, ws.set a v, [stN a (rdW ws a) v], ds⟩ := by
  have g1 : ¬ ((a : Int) < 0 ∨ (ws.length : Int) ≤ (a : Int)) := by omega
  simp only [OM.step, OM.put, OM.pstep, OM.accd, OM.core, g1, ne_eq, not_true_eq_false, if_false, if_true, Int.toNat_natCast]
  try rfl
theorem step_read {a : Nat} (ha : a < ws.length) : (c.put v i (.acc a false) 0).step ws now ds = ⟨0, c.put (rdW ws a) i (.give (newAG c.n c.s c.h c.t c.bud c.shelf i)) 0, ws, [ldN a (rdW ws a)], ds⟩ := by
  have g1 : ¬ ((a : Int) < 0 ∨ (ws.length : Int) ≤ (a : Int)) := by omega
  simp only [OM.step, OM.put, OM.pstep, OM.accd, OM.back, g1, ne_eq, not_true_eq_false, if_false, if_true, Int.toNat_natCast, Bool.false_eq_true]
theorem step_give1 {A A1 : AM} {z : Int} (he : A.step ws = ⟨1, z, A1, ws1, nt⟩) (hs : A1.shelf = c.shelf) : (c.put v i (.give A) 0).step ws now ds = ⟨if c.retry = true then 6 else 1, c.put v 0 (.give A1) (if c.retry = true then 6 else 1), ws1, nt, ds⟩ := by
  simp only [OM.step, OM.put, OM.pstep, OM.gave, he, hs, ne_eq, not_true_eq_false, if_false, if_true]
  try rfl
theorem step_giveN {A A1 : AM} {r z : Int} (he : A.step ws = ⟨r, z, A1, ws1, nt⟩) (hs : A1.shelf = c.shelf) (h1 : r ≠ 1) : (c.put v i (.give A) 0).step ws now ds = ⟨r, c.put v i (.give A1) r, ws1, nt, ds⟩ := by
  simp only [OM.step, OM.put, OM.pstep, OM.gave, he, hs, h1, ne_eq, not_true_eq_false, if_false]
theorem step_tkN {T T1 : TM} {r : Int} (he : T.step ws = ⟨r, T1, ws1, nt⟩) (h1 : r ≠ 1) (h3 : r ≠ 3) : (c.put v i (.tk T) 0).step ws now ds = ⟨r, c.put v i (.tk T1) r, ws1, nt, ds⟩ := by
  simp only [OM.step, OM.put, OM.pstep, OM.tried, he, h1, h3, ne_eq, not_true_eq_false, not_false_eq_true, if_false, if_true]
theorem step_tkG {T T1 : TM} (hp : c.push = true) (he : T.step ws = ⟨1, T1, ws1, nt⟩) : (c.put v i (.tk T) 0).step ws now ds = ⟨1, c.put v 0 (.tk T1) 1, ws1, nt, ds⟩ := by
  have : (1 : Int) ≠ 3 := by decide
  simp only [OM.step, OM.put, OM.pstep, OM.tried, he, hp, this, ne_eq, not_true_eq_false, if_false, if_true]
theorem step_tkT {T T1 : TM} (hp : c.push = false) (he : T.step ws = ⟨1, T1, ws1, nt⟩) : (c.put v i (.tk T) 0).step ws now ds = ⟨0, c.put v T1.i (.acc (c.value T1.i) false) 0, ws1, nt, ds⟩ := by
  have : (1 : Int) ≠ 3 := by decide
  simp only [OM.step, OM.put, OM.pstep, OM.tried, OM.has, OM.value, TM.told, he, hp, this, ne_eq, not_true_eq_false, if_false, if_true, Bool.false_eq_true]
end steps
/-- An arena's machine's three steps by a try that is done. -/
theorem am3 {A : AM} {ws ws' : List Int} {T' : TM} {i : Int} (hsh : A.shelf = []) (hst : A.st = 0) (hn : A.now = none) (h : Run3 A.fresh ws T' ws' i) :
    ∃ A1 A2 A3 ws1 ws2 z1 z2 n1 n2 n3, A.step ws = ⟨0, z1, A1, ws1, [n1]⟩ ∧ A1.step ws1 = ⟨0, z2, A2, ws2, [n2]⟩ ∧ A2.step ws2 = ⟨1, i, A3, ws', [n3]⟩ ∧ A1.shelf = [] ∧ A2.shelf = [] ∧ A3.shelf = [] := by
  obtain ⟨T1, T2, ws1, ws2, n1, n2, n3, h1, h2, h3⟩ := h.ex
  have t0 : A.try_ = A.fresh := by unfold AM.try_; rw [hn]
  have e1 := AM.step_go (fun _ => hsh) hst t0 h1 (by decide) (by decide)
  have e2 := AM.step_go (S := { A with now := some T1, st := 0, i := T1.told 0 }) (fun _ => hsh) rfl rfl h2 (by decide) (by decide)
  have e3 := AM.step_go (S := { A with now := some T2, st := 0, i := T2.told 0 }) (fun _ => hsh) rfl rfl h3 (by decide) (by decide)
  have hz : T'.told 1 = i := h.i
  rw [hz] at e3
  exact ⟨_, _, _, _, _, _, _, _, _, _, e1, e2, e3, hsh, hsh, hsh⟩
/-- The stack's nodes and the free ones, and the stack's values. -/
structure Two (nn N : Nat) (W : Int) (ws : List Int) (l f : List Int) (V : List Int) (T0 T1 : Int) : Prop where
  a0 : AtL nn ws 0 l T0
  a1 : AtL nn ws 1 f T1
  dj : ∀ x ∈ l, x ∉ f
  len : ws.length = N
  rng : ∀ x ∈ ws, 0 ≤ x ∧ x < 18446744073709551616
  vals : l.map (fun i => rdW ws (2 * i + 1).toNat) = V
  slots : ∀ j, 2 + 2 * nn ≤ j → j < N → rdW ws j = W
theorem val_at {n s h i : Int} (hok : okC n s h = true) (h1 : 1 ≤ i) (h2 : i ≤ n) : valI n s h i = ((2 * i + 1).toNat : Int) := by
  unfold valI atI lenI loI
  rw [if_neg (by omega), if_pos ⟨hok, by omega, by simp; omega⟩]
  simp
  omega
/-- A write into a free word: a value's, of a node that is in no list; or the next one's. -/
theorem Two.other {nn N : Nat} {W : Int} {ws l f V : List Int} {T0 T1 : Int} (h : Two nn N W ws l f V T0 T1) {j : Nat} {x : Int} (hj : 2 ≤ j ∧ j < 2 + 2 * nn) (h1 : ∀ i ∈ l, (2 * i).toNat ≠ j ∧ (2 * i + 1).toNat ≠ j) (h2 : ∀ i ∈ f, (2 * i).toNat ≠ j) (x0 : 0 ≤ x) (x1 : x < 18446744073709551616) : Two nn N W (ws.set j x) l f V T0 T1 :=
  ⟨h.a0.other (by omega) fun i hi => (h1 i hi).1, h.a1.other (by omega) h2, h.dj, by simpa using h.len, set_rng h.rng x0 x1, by
    rw [← h.vals]
    exact List.map_congr_left fun i hi => rdW_other _ _ _ _ (h1 i hi).2, fun k h3 h4 => by rw [rdW_other _ _ _ _ (by omega)]; exact h.slots k h3 h4⟩
theorem Two.pop1 {nn N : Nat} {W : Int} {ws l f V : List Int} {i T0 T1 : Int} (h : Two nn N W ws l (i :: f) V T0 T1) (hN : 2 + 2 * nn ≤ N) (hn : nn ≤ 64) : Two nn N W (ws.set 1 (hdI f + (T1 + 1) % 4294967296 * 4294967296)) l f V T0 (T1 + 1) := by
  have hl := h.len
  have hh := hdI_rng (nn := nn) (l := f) fun j hj => h.a1.rng j (by simp [hj])
  refine ⟨h.a0.other (by decide) fun j hj => ?_, h.a1.pop (by omega) (by omega), fun x hx k => h.dj x hx (by simp [k]), by simpa using hl, set_rng h.rng (by omega) (by omega), ?_, fun k h3 h4 => ?_⟩
  · have := h.a0.rng j hj; omega
  · rw [← h.vals]
    exact List.map_congr_left fun j hj => rdW_other _ _ _ _ (by have := h.a0.rng j hj; omega)
  · rw [rdW_other _ _ _ _ (by omega)]; exact h.slots k h3 h4
theorem Two.push1 {nn N : Nat} {W : Int} {ws l f V : List Int} {i T0 T1 : Int} (h : Two nn N W ws l f V T0 T1) (hN : 2 + 2 * nn ≤ N) (hn : nn ≤ 64) (hi : 1 ≤ i ∧ i ≤ nn) (h1 : i ∉ l) (h2 : i ∉ f) : Two nn N W ((ws.set (2 * i).toNat (hdI f)).set 1 (i + (T1 + 1) % 4294967296 * 4294967296)) l (i :: f) V T0 (T1 + 1) := by
  have hl := h.len
  have hh := hdI_rng h.a1.rng
  refine ⟨(h.a0.other (by omega) fun j hj => ?_).other (by decide) fun j hj => ?_, h.a1.push (by omega) (by omega) hi h2 (by omega) (by omega), fun x hx k => ?_, by simpa using hl, set_rng (set_rng h.rng (by omega) (by omega)) (by omega) (by omega), ?_, fun k h3 h4 => ?_⟩
  · intro e
    have := h.a0.rng j hj
    have : j = i := by omega
    subst this
    exact h1 hj
  · have := h.a0.rng j hj; omega
  · rcases List.mem_cons.1 k with rfl | k
    · exact h1 hx
    · exact h.dj x hx k
  · rw [← h.vals]
    exact List.map_congr_left fun j hj => by
      have := h.a0.rng j hj
      rw [rdW_other _ _ _ _ (by omega), rdW_other _ _ _ _ (by omega)]
  · rw [rdW_other _ _ _ _ (by omega), rdW_other _ _ _ _ (by omega)]; exact h.slots k h3 h4
theorem Two.pop0 {nn N : Nat} {W : Int} {ws l f V : List Int} {i x T0 T1 : Int} (h : Two nn N W ws (i :: l) f (x :: V) T0 T1) (hN : 2 + 2 * nn ≤ N) (hn : nn ≤ 64) : Two nn N W (ws.set 0 (hdI l + (T0 + 1) % 4294967296 * 4294967296)) l f V (T0 + 1) T1 ∧ rdW (ws.set 0 (hdI l + (T0 + 1) % 4294967296 * 4294967296)) (2 * i + 1).toNat = x ∧ i ∉ l ∧ i ∉ f ∧ 1 ≤ i ∧ i ≤ nn := by
  have hl := h.len
  have hh := hdI_rng (nn := nn) (l := l) fun j hj => h.a0.rng j (by simp [hj])
  have hi := h.a0.rng i (by simp)
  have hv := h.vals
  simp only [List.map_cons, List.cons.injEq] at hv
  refine ⟨⟨h.a0.pop (by omega) (by omega), h.a1.other (by decide) fun j hj => ?_, fun x hx k => h.dj x (by simp [hx]) k, by simpa using hl, set_rng h.rng (by omega) (by omega), ?_, fun k h3 h4 => ?_⟩, ?_, (List.nodup_cons.1 h.a0.nd).1, h.dj i (by simp), hi⟩
  · have := h.a1.rng j hj; omega
  · rw [← hv.2]
    exact List.map_congr_left fun j hj => rdW_other _ _ _ _ (by have := h.a0.rng j (by simp [hj]); omega)
  · rw [rdW_other _ _ _ _ (by omega)]; exact h.slots k h3 h4
  · rw [rdW_other _ _ _ _ (by omega)]; exact hv.1
theorem Two.push0 {nn N : Nat} {W : Int} {ws l f V : List Int} {i T0 T1 : Int} (h : Two nn N W ws l f V T0 T1) (hN : 2 + 2 * nn ≤ N) (hn : nn ≤ 64) (hi : 1 ≤ i ∧ i ≤ nn) (h1 : i ∉ l) (h2 : i ∉ f) : Two nn N W ((ws.set (2 * i).toNat (hdI l)).set 0 (i + (T0 + 1) % 4294967296 * 4294967296)) (i :: l) f (rdW ws (2 * i + 1).toNat :: V) (T0 + 1) T1 := by
  have hl := h.len
  have hh := hdI_rng h.a0.rng
  have hne : ∀ j : Int, 1 ≤ j → (2 * j + 1).toNat ≠ 0 ∧ (2 * j + 1).toNat ≠ (2 * i).toNat := fun j hj => by omega
  refine ⟨h.a0.push (by omega) (by omega) hi h1 (by omega) (by omega), (h.a1.other (by omega) fun j hj => ?_).other (by decide) fun j hj => ?_, fun x hx k => ?_, by simpa using hl, set_rng (set_rng h.rng (by omega) (by omega)) (by omega) (by omega), ?_, fun k h3 h4 => ?_⟩
  · intro e
    have := h.a1.rng j hj
    have : j = i := by omega
    subst this
    exact h2 hj
  · have := h.a1.rng j hj; omega
  · rcases List.mem_cons.1 hx with rfl | hx
    · exact h2 k
    · exact h.dj x hx k
  · rw [List.map_cons, ← h.vals]
    congr 1
    · rw [rdW_other _ _ _ _ (hne i hi.1).1, rdW_other _ _ _ _ (hne i hi.1).2]
    · exact List.map_congr_left fun j hj => by
        have := h.a0.rng j hj
        rw [rdW_other _ _ _ _ (hne j this.1).1, rdW_other _ _ _ _ (hne j this.1).2]
  · rw [rdW_other _ _ _ _ (by omega), rdW_other _ _ _ _ (by omega)]; exact h.slots k h3 h4
theorem fresh_two {t T : Int} {nn N ss : Nat} (hT : t * 4294967296 = T) (t0 : 0 ≤ t) (t1 : t < 4294967296) (hN : N = 2 + 2 * nn + ss) (hn : 1 ≤ nn) (hn2 : nn ≤ 64) : Two nn N T (frL T nn nn ss N) [] (upL 1 nn) [] t t :=
  ⟨fresh_at0 hT t0 t1 (by omega), fresh_at1 hT t0 t1 (by omega) hn hn2, fun x hx => (by cases hx), frL_len _ _ _ _ _, frL_rng (by omega) (by omega) hn2, rfl, fun j h1 h2 => by
    rw [frL_rd _ _ _ _ _ h2]
    unfold frAt
    rw [if_neg (by omega), if_neg (by omega), if_neg (by omega), if_pos (by omega)]⟩
/-- What an operation leaves of what its thread keeps. -/
structure Kept (c S : OM) (st : Int) : Prop where
  shelf : S.shelf = []
  rg : S.rg = c.rg
  ex : S.ex = c.ex
  push : S.push = c.push
  i : S.i = 0
  st : S.st = st
  part : ∀ E, S.part ≠ .visit E
section runs
variable {nn N : Nat} {W : Int} {ws l f V : List Int} {T0 T1 : Int} {c : OM}
/-- A push where there is a node. -/
theorem push7 {i : Int} (hok : okC nn c.s c.h = true) (hcn : c.n = nn) (hN : 2 + 2 * nn ≤ N) (hp : c.push = true) (hsh : c.shelf = []) (v0 : 0 ≤ c.v) (v1 : c.v < 18446744073709551616) (h : Two nn N W ws l (i :: f) V T0 T1) :
    ∃ S' ws', RunO 7 (c.put c.v 0 (.take (newAT c.n c.s c.h c.t c.bud [])) 0) ws S' ws' ∧ Kept c S' 1 ∧ Two nn N W ws' (i :: l) f (c.v :: V) (T0 + 1) (T1 + 1) := by
  obtain ⟨b1, b2, _⟩ := okC_bounds hok
  have hl := h.len
  have hn : nn ≤ 64 := by omega
  have hi := h.a1.rng i (by simp)
  have hif : i ∉ f := (List.nodup_cons.1 h.a1.nd).1
  have hil : i ∉ l := fun k => h.dj i k (by simp)
  obtain ⟨T', hr⟩ := take3 (t := c.t) hok h.a1 (by omega) (by omega)
  obtain ⟨A1, A2, A3, w1, w2, z1, z2, n1, n2, n3, e1, e2, e3, s1, s2, s3⟩ := am3 (A := newAT c.n c.s c.h c.t c.bud []) rfl rfl rfl (by rw [hcn]; exact hr)
  have h1 := h.pop1 hN hn
  have hv : c.value i = ((2 * i + 1).toNat : Int) := by unfold OM.value; rw [hcn]; exact val_at hok hi.1 hi.2
  have h2 : Two nn N W ((ws.set 1 (hdI f + (T1 + 1) % 4294967296 * 4294967296)).set (2 * i + 1).toNat c.v) l f V T0 (T1 + 1) := h1.other ⟨by omega, by omega⟩ (fun j hj => ⟨by omega, fun e => hil ((show j = i by omega) ▸ hj)⟩) (fun j hj => by omega) v0 v1
  obtain ⟨G', hg⟩ := give3 (t := c.t) (i := i) hok h2.a0 (by rw [h2.len]; omega) (by omega) (by rw [h2.len]; omega) hi
  obtain ⟨G1, G2, w3, w4, m1, m2, m3, k1, k2, k3⟩ := hg.ex
  have hw : rdW ((ws.set 1 (hdI f + (T1 + 1) % 4294967296 * 4294967296)).set (2 * i + 1).toNat c.v) (2 * i + 1).toNat = c.v := rdW_set _ _ _ (by simp; omega)
  have h3 := h2.push0 hN hn hi hil hif
  rw [hw] at h3
  refine ⟨_, _, RunO.on (fun now ds => step_takeN e1 (s1.trans hsh.symm) (by decide)) (Nat.le_refl 1) (RunO.on (fun now ds => step_takeN e2 (s2.trans hsh.symm) (by decide)) (Nat.le_refl 1) (RunO.on (fun now ds => step_take1 e3 (s3.trans hsh.symm)) (Nat.le_refl 1) (RunO.on (nt := [stN (2 * i + 1).toNat (rdW (ws.set 1 (hdI f + (T1 + 1) % 4294967296 * 4294967296)) (2 * i + 1).toNat) c.v]) (S1 := c.put c.v i (.tk (newGv nn c.s c.h c.t 0 i)) 0) (ws1 := (ws.set 1 (hdI f + (T1 + 1) % 4294967296 * 4294967296)).set (2 * i + 1).toNat c.v) (fun now ds => ?_) (Nat.le_refl 1) (RunO.on (fun now ds => step_tkN k1 (by decide) (by decide)) (Nat.le_refl 1) (RunO.on (fun now ds => step_tkN k2 (by decide) (by decide)) (Nat.le_refl 1) (RunO.last (fun now ds => step_tkG hp k3) (by decide) (Nat.le_refl 1))))))), ⟨hsh, rfl, rfl, rfl, rfl, rfl, fun E k => by cases k⟩, h3⟩
  rw [hv, step_write (by simp; omega), if_pos hp, hcn]
/-- A push where there is none. -/
theorem push1 (hok : okC nn c.s c.h = true) (hN : 2 + 2 * nn ≤ N) (hsh : c.shelf = []) (h : Two nn N W ws l [] V T0 T1) :
    ∃ S', RunO 1 (c.put c.v 0 (.take (newAT c.n c.s c.h c.t c.bud [])) 0) ws S' ws ∧ Kept c S' 2 := by
  have hl := h.len
  have hw : rdW ws 1 = T1 % 4294967296 * 4294967296 := by have := h.a1.word; simpa [hdI] using this
  have e0 : (newTk c.n c.s c.h c.t 1).step ws = ⟨2, ⟨c.n, c.s, c.h, c.t, 1, 0, rdW ws 1, false, .first, 2⟩, ws, [ldN 1 (rdW ws 1)]⟩ := by
    have e : (newTk c.n c.s c.h c.t 1).step ws = (newTk c.n c.s c.h c.t 1).head ws := rfl
    rw [e]
    unfold TM.head newTk
    dsimp only
    rw [if_neg (by simp), if_neg (by omega)]
    have e1 : (1 : Int).toNat = 1 := rfl
    rw [e1, if_pos (by rw [hw]; omega)]
  have e1 := AM.step_go (S := newAT c.n c.s c.h c.t c.bud []) (fun _ => rfl) rfl rfl e0 (by decide) (by decide)
  exact ⟨_, RunO.last (fun now ds => step_takeN e1 hsh.symm (by decide)) (by decide) (Nat.le_refl 1), hsh, rfl, rfl, rfl, rfl, rfl, fun E k => by cases k⟩
/-- A pop where there is something. -/
theorem pop7 {i x : Int} (hok : okC nn c.s c.h = true) (hcn : c.n = nn) (hN : 2 + 2 * nn ≤ N) (hp : c.push = false) (hrt : c.retry = false) (hsh : c.shelf = []) (h : Two nn N W ws (i :: l) f (x :: V) T0 T1) :
    ∃ S' ws', RunO 7 (c.put c.v 0 (.tk (newTk c.n c.s c.h c.t 0)) 0) ws S' ws' ∧ Kept c S' 1 ∧ S'.v = x ∧ Two nn N W ws' l (i :: f) V (T0 + 1) (T1 + 1) := by
  obtain ⟨b1, b2, _⟩ := okC_bounds hok
  have hl := h.len
  have hn : nn ≤ 64 := by omega
  obtain ⟨T', hr⟩ := take3 (t := c.t) hok h.a0 (by omega) (by omega)
  obtain ⟨h1, hx, hil, hif, hi⟩ := h.pop0 hN hn
  obtain ⟨G1, G2, w3, w4, m1, m2, m3, k1, k2, k3⟩ := hr.ex
  have hv : c.value i = ((2 * i + 1).toNat : Int) := by unfold OM.value; rw [hcn]; exact val_at hok hi.1 hi.2
  obtain ⟨G', hg⟩ := give3 (t := c.t) (i := i) hok h1.a1 (by rw [h1.len]; omega) (by omega) (by rw [h1.len]; omega) hi
  obtain ⟨A1, A2, A3, w1, w2, z1, z2, n1, n2, n3, e1, e2, e3, s1, s2, s3⟩ := am3 (A := newAG nn c.s c.h c.t c.bud [] i) rfl rfl rfl hg
  have h3 := h1.push1 hN hn hi hil hif
  have E1 : ∀ now ds, (c.put c.v 0 (.tk (newTk c.n c.s c.h c.t 0)) 0).step ws now ds = ⟨0, c.put c.v 0 (.tk G1) 0, w3, [m1], ds⟩ := fun now ds => by rw [hcn]; exact step_tkN k1 (by decide) (by decide)
  have E7 : ∀ now ds, (c.put x i (.give A2) 0).step w2 now ds = ⟨1, c.put x 0 (.give A3) 1, ((ws.set 0 (hdI l + (T0 + 1) % 4294967296 * 4294967296)).set (2 * i).toNat (hdI f)).set 1 (i + (T1 + 1) % 4294967296 * 4294967296), [n3], ds⟩ := fun now ds => by rw [step_give1 e3 (s3.trans hsh.symm), hrt, if_neg (by decide)]
  refine ⟨_, _, RunO.on E1 (Nat.le_refl 1) (RunO.on (fun now ds => step_tkN k2 (by decide) (by decide)) (Nat.le_refl 1) (RunO.on (fun now ds => step_tkT hp k3) (Nat.le_refl 1) (RunO.on (nt := [ldN (2 * i + 1).toNat x]) (S1 := c.put x i (.give (newAG nn c.s c.h c.t c.bud [] i)) 0) (ws1 := ws.set 0 (hdI l + (T0 + 1) % 4294967296 * 4294967296)) (fun now ds => ?_) (Nat.le_refl 1) (RunO.on (fun now ds => step_giveN e1 (s1.trans hsh.symm) (by decide)) (Nat.le_refl 1) (RunO.on (fun now ds => step_giveN e2 (s2.trans hsh.symm) (by decide)) (Nat.le_refl 1) (RunO.last E7 (by decide) (Nat.le_refl 1))))))), ⟨hsh, rfl, rfl, rfl, rfl, rfl, fun E k => by cases k⟩, rfl, h3⟩
  rw [hr.i, hv, step_read (by simp; omega), hx, hcn, hsh]
/-- A pop where there is nothing. -/
theorem pop1 (hok : okC nn c.s c.h = true) (hN : 2 + 2 * nn ≤ N) (hsh : c.shelf = []) (h : Two nn N W ws [] f V T0 T1) :
    ∃ S', RunO 1 (c.put c.v 0 (.tk (newTk c.n c.s c.h c.t 0)) 0) ws S' ws ∧ Kept c S' 2 := by
  have hl := h.len
  have hw : rdW ws 0 = T0 % 4294967296 * 4294967296 := by have := h.a0.word; simpa [hdI] using this
  have e0 : (newTk c.n c.s c.h c.t 0).step ws = ⟨2, ⟨c.n, c.s, c.h, c.t, 0, 0, rdW ws 0, false, .first, 2⟩, ws, [ldN 0 (rdW ws 0)]⟩ := by
    have e : (newTk c.n c.s c.h c.t 0).step ws = (newTk c.n c.s c.h c.t 0).head ws := rfl
    rw [e]
    unfold TM.head newTk
    dsimp only
    rw [if_neg (by simp), if_neg (by omega)]
    have e1 : (0 : Int).toNat = 0 := rfl
    rw [e1, if_pos (by rw [hw]; omega)]
  exact ⟨_, RunO.last (fun now ds => step_tkN e0 (by decide) (by decide)) (by decide) (Nat.le_refl 1), hsh, rfl, rfl, rfl, rfl, rfl, fun E k => by cases k⟩
end runs
end Go.Proofs.YtgfeagggkplegaaGreat
