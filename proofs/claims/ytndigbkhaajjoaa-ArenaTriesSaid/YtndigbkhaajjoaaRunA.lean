/-
  arena's machines alone: what their steps leave. No program here.
-/
import Derived.Test.YtndigbkhaajjoaaEnds8
namespace Go.Proofs.Ytndigbkhaajjoaa
open Go.RowKit
set_option linter.unusedVariables false
set_option linter.unusedSimpArgs false

/-- A step of a machine that goes on by a try. -/
theorem AM.step_go {S : AM} {ws ws1 : List Int} {T T1 : TM} {r : Int} {nt : List Note} (hsh : S.give = false → S.shelf = []) (hst : S.st = 0) (ht : S.try_ = T) (h : T.step ws = ⟨r, T1, ws1, nt⟩) (h3 : r ≠ 3) (h6 : r ≠ 6) :
    S.step ws = ⟨r, T1.told r, { S with now := some T1, st := r, i := T1.told r }, ws1, nt⟩ := by
  have hg : S.goOn ws = ⟨r, T1.told r, { S with now := some T1, st := r, i := T1.told r }, ws1, nt⟩ := by
    unfold AM.goOn
    dsimp only
    rw [if_neg (by simp [hst]), ht, h]
    dsimp only
    rw [if_neg h3]
  unfold AM.step AM.gives AM.take
  rw [hg]
  dsimp only
  by_cases c : S.give = true
  · rw [if_pos c, if_neg h6]
  · rw [if_neg c, if_neg (fun k => k.1 (hsh (by simpa using c)))]
theorem RunA.end1 {S S1 : AM} {ws ws1 : List Int} {x : Note} {z : Int} (h : S.step ws = ⟨S1.st, z, S1, ws1, [x]⟩) (hsh : S1.shelf = []) (hz : z = S1.i) (h0 : S1.st ≠ 0) (h6 : S1.st ≠ 6) : RunA 1 S ws S1 ws1 :=
  RunA.more (n := 0) (by rw [if_pos rfl]; exact h) hsh (fun _ => hz) (RunA.done h0 h6)
theorem RunA.on {n : Nat} {S S1 S' : AM} {ws ws1 ws' : List Int} {x : Note} {z : Int} (hn : n ≠ 0) (h : S.step ws = ⟨0, z, S1, ws1, [x]⟩) (hsh : S1.shelf = []) (k : RunA n S1 ws1 S' ws') : RunA (n + 1) S ws S' ws' :=
  RunA.more (by rw [if_neg hn]; exact h) hsh (fun c => absurd c hn) k
/-- Three steps of a try are three steps of the machine. -/
theorem RunA.of3 {S : AM} {ws ws' : List Int} {T' : TM} {i : Int} (hsh : S.shelf = []) (hst : S.st = 0) (hn : S.now = none) (h : Run3 S.fresh ws T' ws' i) : ∃ S', RunA 3 S ws S' ws' ∧ S'.st = 1 ∧ S'.i = i := by
  obtain ⟨T1, T2, ws1, ws2, n1, n2, n3, h1, h2, h3⟩ := h.ex
  have t0 : S.try_ = S.fresh := by unfold AM.try_; rw [hn]
  have e1 := AM.step_go (fun _ => hsh) hst t0 h1 (by decide) (by decide)
  have e2 := AM.step_go (S := { S with now := some T1, st := 0, i := T1.told 0 }) (fun _ => hsh) rfl rfl h2 (by decide) (by decide)
  have e3 := AM.step_go (S := { S with now := some T2, st := 0, i := T2.told 0 }) (fun _ => hsh) rfl rfl h3 (by decide) (by decide)
  have hz : T'.told 1 = i := h.i
  have l3 : RunA 1 { S with now := some T2, st := 0, i := T2.told 0 } ws2 { S with now := some T', st := 1, i := T'.told 1 } ws' := RunA.end1 e3 hsh rfl (by show (1 : Int) ≠ 0; decide) (by show (1 : Int) ≠ 6; decide)
  exact ⟨{ S with now := some T', st := 1, i := T'.told 1 }, RunA.on (by decide) e1 hsh (RunA.on (by decide) e2 hsh l3), rfl, hz⟩
/-- A take of nothing. -/
theorem RunA.none1 {S : AM} {nn : Nat} {ws : List Int} {T : Int} (hsh : S.shelf = []) (hst : S.st = 0) (hn : S.now = none) (hg : S.give = false) (h : AtL nn ws 1 [] T) (hN : 1 < ws.length) : ∃ S', RunA 1 S ws S' ws ∧ S'.st = 2 ∧ S'.i = 0 := by
  have t0 : S.try_ = newTk S.n S.s S.h S.t 1 := by unfold AM.try_ AM.fresh; rw [hn, if_neg (by simp [hg])]
  have hw : rdW ws 1 = T % 4294967296 * 4294967296 := by have := h.word; simpa [hdI] using this
  have e0 : (newTk S.n S.s S.h S.t 1).step ws = ⟨2, ⟨S.n, S.s, S.h, S.t, 1, 0, rdW ws 1, false, .first, 2⟩, ws, [ldN 1 (rdW ws 1)]⟩ := by
    have e : (newTk S.n S.s S.h S.t 1).step ws = (newTk S.n S.s S.h S.t 1).head ws := rfl
    rw [e]
    unfold TM.head newTk
    dsimp only
    rw [if_neg (by simp), if_neg (by omega)]
    have e1 : (1 : Int).toNat = 1 := rfl
    rw [e1, if_pos (by rw [hw]; omega)]
  have e1 := AM.step_go (fun _ => hsh) hst t0 e0 (by decide) (by decide)
  exact ⟨{ S with now := some ⟨S.n, S.s, S.h, S.t, 1, 0, rdW ws 1, false, .first, 2⟩, st := 2, i := 0 }, RunA.end1 e1 hsh rfl (by show (2 : Int) ≠ 0; decide) (by show (2 : Int) ≠ 6; decide), rfl, rfl⟩
/-- Free nodes, of which k were taken one behind the other. -/
structure Left (nn : Nat) (T : Int) (l : List Int) (N : Nat) (ws : List Int) : Prop where
  free : AtL nn ws 1 l T
  len : ws.length = N
  rng : ∀ x ∈ ws, 0 ≤ x ∧ x < 18446744073709551616
theorem Left.take {nn : Nat} {T s h t b : Int} {i : Int} {r : List Int} {N : Nat} {ws : List Int} (hok : okC nn s h = true) (m : Left nn T (i :: r) N ws) (hN : 2 + 2 * nn ≤ N) :
    ∃ ws', (∃ S', RunA 3 (newAT nn s h t b []) ws S' ws' ∧ S'.st = 1 ∧ S'.i = i) ∧ Left nn (T + 1) r N ws' := by
  obtain ⟨b1, b2, _⟩ := okC_bounds hok
  have hl := m.len
  obtain ⟨T', hr⟩ := take3 (t := t) hok m.free (by omega) (by omega)
  have hh := hdI_rng (nn := nn) (l := r) fun j hj => m.free.rng j (by simp [hj])
  exact ⟨_, RunA.of3 rfl rfl rfl hr, m.free.pop (by omega) (by omega), by simpa using hl, set_rng m.rng (by omega) (by omega)⟩
theorem Left.give {nn : Nat} {T s h t b : Int} {i : Int} {l : List Int} {N : Nat} {ws : List Int} (hok : okC nn s h = true) (m : Left nn T l N ws) (hN : 2 + 2 * nn ≤ N) (hi : 1 ≤ i ∧ i ≤ nn) (hn : i ∉ l) :
    ∃ ws', (∃ S', RunA 3 (newAG nn s h t b [] i) ws S' ws' ∧ S'.st = 1 ∧ S'.i = i) ∧ Left nn (T + 1) (i :: l) N ws' := by
  obtain ⟨b1, b2, _⟩ := okC_bounds hok
  have hl := m.len
  obtain ⟨T', hr⟩ := give3 (t := t) hok m.free (by omega) (by omega) (by omega) hi
  have hh := hdI_rng (nn := nn) (l := l) m.free.rng
  exact ⟨_, RunA.of3 rfl rfl rfl hr, m.free.push (by omega) (by omega) hi hn (by omega) (by omega), by simpa using hl, set_rng (set_rng m.rng (by omega) (by omega)) (by omega) (by omega)⟩
end Go.Proofs.Ytndigbkhaajjoaa
