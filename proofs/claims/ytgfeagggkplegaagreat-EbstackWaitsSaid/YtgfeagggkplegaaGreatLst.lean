/-
  Lists of nodes in a memory's words; a machine alone takes, and gives, in three steps.
-/
import Derived.Test.YtgfeagggkplegaaGreatTlM
namespace Go.Proofs.YtgfeagggkplegaaGreat
open Go.RowKit
set_option linter.unusedVariables false
set_option linter.unusedSimpArgs false

/-- The first one of a list of nodes; 0: there is none. -/
def hdI (l : List Int) : Int := l.headD 0
/-- The nodes of l are linked, one behind the other. -/
def lk (ws : List Int) : List Int → Prop
  | [] => True
  | i :: r => rdW ws (2 * i).toNat % 4294967296 = hdI r ∧ lk ws r
/-- A list at a place: its word, its nodes. -/
structure AtL (nn : Nat) (ws : List Int) (a : Nat) (l : List Int) (T : Int) : Prop where
  word : rdW ws a = hdI l + T % 4294967296 * 4294967296
  lnk : lk ws l
  rng : ∀ i ∈ l, 1 ≤ i ∧ i ≤ nn
  nd : l.Nodup
theorem lk_other {ws : List Int} {j : Nat} {v : Int} : ∀ {l : List Int}, lk ws l → (∀ i ∈ l, (2 * i).toNat ≠ j) → lk (ws.set j v) l
  | [], _, _ => trivial
  | i :: r, h, hn => ⟨by rw [rdW_other _ _ _ _ (hn i (by simp))]; exact h.1, lk_other h.2 fun x hx => hn x (by simp [hx])⟩
/-- A write elsewhere. -/
theorem AtL.other {nn : Nat} {ws : List Int} {a : Nat} {l : List Int} {T : Int} (h : AtL nn ws a l T) {j : Nat} {v : Int} (ha : a ≠ j) (hl : ∀ i ∈ l, (2 * i).toNat ≠ j) : AtL nn (ws.set j v) a l T :=
  ⟨by rw [rdW_other _ _ _ _ ha]; exact h.word, lk_other h.lnk hl, h.rng, h.nd⟩
theorem hdI_rng {nn : Nat} {l : List Int} (h : ∀ i ∈ l, 1 ≤ i ∧ i ≤ nn) : 0 ≤ hdI l ∧ hdI l ≤ nn := by
  cases l with
  | nil => exact ⟨Int.le_refl _, by show (0 : Int) ≤ nn; omega⟩
  | cons i r => have := h i (by simp); exact ⟨by show 0 ≤ i; omega, this.2⟩
theorem word_ix {x T : Int} (h0 : 0 ≤ x) (h1 : x < 4294967296) : (x + T % 4294967296 * 4294967296) % 4294967296 = x := by omega
theorem nextW_word {x T f : Int} (h0 : 0 ≤ x) (h1 : x < 4294967296) : nextW (x + T % 4294967296 * 4294967296) f = f + (T + 1) % 4294967296 * 4294967296 := by
  unfold nextW
  omega
/-- The first one away. -/
theorem AtL.pop {nn : Nat} {ws : List Int} {a : Nat} {i : Int} {r : List Int} {T : Int} (h : AtL nn ws a (i :: r) T) (ha : a < ws.length) (h2 : a < 2) : AtL nn (ws.set a (hdI r + (T + 1) % 4294967296 * 4294967296)) a r (T + 1) := by
  have hr : ∀ j ∈ r, (2 * j).toNat ≠ a := fun j hj => by have := h.rng j (by simp [hj]); omega
  exact ⟨rdW_set _ _ _ ha, lk_other h.lnk.2 hr, fun j hj => h.rng j (by simp [hj]), (List.nodup_cons.1 h.nd).2⟩
/-- One more ahead. -/
theorem AtL.push {nn : Nat} {ws : List Int} {a : Nat} {i x : Int} {l : List Int} {T : Int} (h : AtL nn ws a l T) (ha : a < ws.length) (h2 : a < 2) (hi : 1 ≤ i ∧ i ≤ nn) (hn : i ∉ l) (hl : (2 * i).toNat < ws.length) (hx : x % 4294967296 = hdI l) : AtL nn ((ws.set (2 * i).toNat x).set a (i + (T + 1) % 4294967296 * 4294967296)) a (i :: l) (T + 1) := by
  have h3 : lk (ws.set (2 * i).toNat x) l := lk_other h.lnk fun j hj e => by
    have := h.rng j hj
    have : j = i := by omega
    subst this
    exact hn hj
  refine ⟨rdW_set _ _ _ (by simpa using ha), lk_other ⟨?_, h3⟩ fun j hj => ?_, fun j hj => ?_, List.nodup_cons.2 ⟨hn, h.nd⟩⟩
  · rw [rdW_set _ _ _ hl]
    exact hx
  · rcases List.mem_cons.1 hj with rfl | hj
    · omega
    · have := h.rng j hj; omega
  · rcases List.mem_cons.1 hj with rfl | hj
    · exact hi
    · exact h.rng j hj
theorem nx_at {n s h i : Int} (hok : okC n s h = true) (h1 : 1 ≤ i) (h2 : i ≤ n) : atI n s h 0 (2 * (i - 1)) = ((2 * i).toNat : Int) := by
  unfold atI lenI loI
  rw [if_pos ⟨hok, by omega, by simp; omega⟩]
  simp
  omega
theorem nx_out {n s h i : Int} (h1 : 0 ≤ i) (h2 : i < 1 ∨ n < i) : atI n s h 0 (2 * (i - 1)) = -1 := by
  unfold atI lenI
  rw [if_neg]
  intro c
  simp at c
  omega
/-- Three steps, each one access, and it is done, with node i. -/
structure Run3 (S : TM) (ws : List Int) (S' : TM) (ws' : List Int) (i : Int) : Prop where
  ex : ∃ S1 S2 ws1 ws2 n1 n2 n3, S.step ws = ⟨0, S1, ws1, [n1]⟩ ∧ S1.step ws1 = ⟨0, S2, ws2, [n2]⟩ ∧ S2.step ws2 = ⟨1, S', ws', [n3]⟩
  st : S'.st = 1
  i : S'.i = i
  give : S'.give = S.give
theorem Run3.len {S S' : TM} {ws ws' : List Int} {i : Int} (h : Run3 S ws S' ws' i) : ws'.length = ws.length := by
  obtain ⟨S1, S2, ws1, ws2, n1, n2, n3, h1, h2, h3⟩ := h.ex
  have a := TM.step_len S ws
  have b := TM.step_len S1 ws1
  have c := TM.step_len S2 ws2
  rw [h1] at a
  rw [h2] at b
  rw [h3] at c
  exact c.trans (b.trans a)
theorem take3 {nn : Nat} {s h t : Int} {ws : List Int} {a : Nat} {i : Int} {r : List Int} {T : Int} (hok : okC nn s h = true) (hl : AtL nn ws a (i :: r) T) (ha : a < ws.length) (hN : 2 + 2 * nn ≤ ws.length) : ∃ S', Run3 (newTk nn s h t a) ws S' (ws.set a (hdI r + (T + 1) % 4294967296 * 4294967296)) i := by
  obtain ⟨hn1, hn2, _⟩ := okC_bounds hok
  obtain ⟨i1, i2⟩ := hl.rng i (by simp)
  have hw : rdW ws a = i + T % 4294967296 * 4294967296 := hl.word
  have hnx := nx_at hok i1 i2
  have hm : (i + T % 4294967296 * 4294967296) % 4294967296 = i := word_ix (by omega) (by omega)
  have h2 : rdW ws (2 * i).toNat % 4294967296 = hdI r := hl.lnk.1
  have hr := hdI_rng (nn := nn) (l := r) fun j hj => hl.rng j (by simp [hj])
  have hv := nextW_word (x := i) (T := T) (f := hdI r) (by omega) (by omega)
  have g1 : ¬ ((a : Int) < 0 ∨ (ws.length : Int) ≤ (a : Int)) := by omega
  have g2 : ¬ i = 0 := by omega
  have g3 : ¬ ((2 * i).toNat : Int) < 0 := by omega
  have g4 : ¬ (ws.length : Int) ≤ ((2 * i).toNat : Int) := by omega
  refine ⟨⟨nn, s, h, t, a, i, i + T % 4294967296 * 4294967296, false, .last (rdW ws (2 * i).toNat), 1⟩, ⟨⟨nn, s, h, t, a, i, i + T % 4294967296 * 4294967296, false, .second, 0⟩, ⟨nn, s, h, t, a, i, i + T % 4294967296 * 4294967296, false, .last (rdW ws (2 * i).toNat), 0⟩, ws, ws, ldN a (rdW ws a), ldN (2 * i).toNat (rdW ws (2 * i).toNat), swN a (rdW ws a) (hdI r + (T + 1) % 4294967296 * 4294967296), ?_, ?_, ?_⟩, rfl, rfl, rfl⟩
  · have e : (newTk nn s h t a).step ws = (newTk nn s h t a).head ws := rfl
    rw [e]
    unfold TM.head newTk
    dsimp only
    rw [if_neg (by simp), if_neg g1]
    simp only [Int.toNat_natCast, hw, hm]
    rw [if_neg g2, hnx, if_neg g3]
  · have e : TM.step ⟨nn, s, h, t, a, i, i + T % 4294967296 * 4294967296, false, .second, 0⟩ ws = TM.second ⟨nn, s, h, t, a, i, i + T % 4294967296 * 4294967296, false, .second, 0⟩ ws := rfl
    rw [e]
    unfold TM.second TM.nx
    dsimp only
    rw [hnx, if_neg g4]
    simp only [Int.toNat_natCast, Bool.false_eq_true, if_false]
  · have e : TM.step ⟨nn, s, h, t, a, i, i + T % 4294967296 * 4294967296, false, .last (rdW ws (2 * i).toNat), 0⟩ ws = TM.last ⟨nn, s, h, t, a, i, i + T % 4294967296 * 4294967296, false, .last (rdW ws (2 * i).toNat), 0⟩ (rdW ws (2 * i).toNat) ws := rfl
    rw [e]
    unfold TM.last TM.fst
    dsimp only
    simp only [Int.toNat_natCast, hw, if_true, Bool.false_eq_true, if_false, h2, hv]
theorem give3 {nn : Nat} {s h t : Int} {ws : List Int} {a : Nat} {i : Int} {l : List Int} {T : Int} (hok : okC nn s h = true) (hl : AtL nn ws a l T) (ha : a < ws.length) (h2 : a < 2) (hN : 2 + 2 * nn ≤ ws.length) (hi : 1 ≤ i ∧ i ≤ nn) : ∃ S', Run3 (newGv nn s h t a i) ws S' ((ws.set (2 * i).toNat (hdI l)).set a (i + (T + 1) % 4294967296 * 4294967296)) i := by
  obtain ⟨hn1, hn2, _⟩ := okC_bounds hok
  obtain ⟨i1, i2⟩ := hi
  have hr := hdI_rng (nn := nn) (l := l) hl.rng
  have hw : rdW ws a = hdI l + T % 4294967296 * 4294967296 := hl.word
  have hnx := nx_at hok i1 i2
  have hm : (hdI l + T % 4294967296 * 4294967296) % 4294967296 = hdI l := word_ix (by omega) (by omega)
  have hv := nextW_word (x := hdI l) (T := T) (f := i) (by omega) (by omega)
  have hne : a ≠ (2 * i).toNat := by omega
  have hw2 : rdW (ws.set (2 * i).toNat (hdI l)) a = hdI l + T % 4294967296 * 4294967296 := by rw [rdW_other _ _ _ _ hne]; exact hw
  have g1 : ¬ ((a : Int) < 0 ∨ (ws.length : Int) ≤ (a : Int)) := by omega
  have g3 : ¬ ((2 * i).toNat : Int) < 0 := by omega
  have g4 : ¬ (ws.length : Int) ≤ ((2 * i).toNat : Int) := by omega
  refine ⟨⟨nn, s, h, t, a, i, hdI l + T % 4294967296 * 4294967296, true, .last 0, 1⟩, ⟨⟨nn, s, h, t, a, i, hdI l + T % 4294967296 * 4294967296, true, .second, 0⟩, ⟨nn, s, h, t, a, i, hdI l + T % 4294967296 * 4294967296, true, .last 0, 0⟩, ws, ws.set (2 * i).toNat (hdI l), ldN a (rdW ws a), stN (2 * i).toNat (rdW ws (2 * i).toNat) (hdI l), swN a (hdI l + T % 4294967296 * 4294967296) (i + (T + 1) % 4294967296 * 4294967296), ?_, ?_, ?_⟩, rfl, rfl, rfl⟩
  · have e : (newGv nn s h t a i).step ws = (newGv nn s h t a i).head ws := rfl
    rw [e]
    unfold TM.head newGv TM.nx
    dsimp only
    rw [if_pos rfl, hnx, if_neg g3, if_neg g1]
    simp only [Int.toNat_natCast, hw]
  · have e : TM.step ⟨nn, s, h, t, a, i, hdI l + T % 4294967296 * 4294967296, true, .second, 0⟩ ws = TM.second ⟨nn, s, h, t, a, i, hdI l + T % 4294967296 * 4294967296, true, .second, 0⟩ ws := rfl
    rw [e]
    unfold TM.second TM.nx
    dsimp only
    rw [hnx, if_neg g4]
    simp only [Int.toNat_natCast, if_true, hm]
  · have e : TM.step ⟨nn, s, h, t, a, i, hdI l + T % 4294967296 * 4294967296, true, .last 0, 0⟩ (ws.set (2 * i).toNat (hdI l)) = TM.last ⟨nn, s, h, t, a, i, hdI l + T % 4294967296 * 4294967296, true, .last 0, 0⟩ 0 (ws.set (2 * i).toNat (hdI l)) := rfl
    rw [e]
    unfold TM.last TM.fst
    dsimp only
    simp only [Int.toNat_natCast, hw2, if_true, hv]
end Go.Proofs.YtgfeagggkplegaaGreat
