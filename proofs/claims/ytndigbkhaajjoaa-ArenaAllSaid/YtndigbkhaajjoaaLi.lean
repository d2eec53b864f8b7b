/-
  Two lists of nodes that many machines take from and give to: what each machine under way knows stays true, whatever the others do.
-/
import Derived.Test.YtndigbkhaajjoaaLst2
namespace Go.Proofs.Ytndigbkhaajjoaa
open Go.RowKit
set_option linter.unusedVariables false
set_option linter.unusedSimpArgs false

def upF {α : Type} (f : Nat → α) (a : Nat) (v : α) : Nat → α := fun b => if b = a then v else f b
theorem upF_self {α : Type} (f : Nat → α) (a : Nat) (v : α) : upF f a v a = v := if_pos rfl
theorem upF_ne {α : Type} (f : Nat → α) {a b : Nat} (v : α) (h : b ≠ a) : upF f a v b = f b := if_neg h
/-- Both lists, their tags since tg at most B further. -/
structure TwoL (nn : Nat) (tg : Int) (B : Nat) (ws : List Int) (l : Nat → List Int) (T : Nat → Int) : Prop where
  at_ : ∀ a, a < 2 → AtL nn ws a (l a) (T a)
  lo : ∀ a, a < 2 → tg ≤ T a
  hi : ∀ a, a < 2 → T a ≤ tg + B
  len : 2 + 2 * nn ≤ ws.length
/-- What a machine behind its first step knows: the tag that it saw, and the first node then. -/
structure Knows (nn : Nat) (tg : Int) (ws : List Int) (l : Nat → List Int) (T : Nat → Int) (a : Nat) (S : TM) (T' h' : Int) : Prop where
  lo : tg ≤ T'
  hi : T' ≤ T a
  h0 : 0 ≤ h'
  h1 : h' ≤ nn
  w : S.w = h' + T' % 4294967296 * 4294967296
  tk : S.give = false → S.i = h' ∧ 1 ≤ h'
  hd : T' = T a → h' = hdI (l a)
  lt : ∀ x, S.ph = .last x → S.give = false → T' = T a → x % 4294967296 = hdI (l a).tail
  lg : ∀ x, S.ph = .last x → S.give = true → rdW ws (2 * S.i).toNat % 4294967296 = h'
structure Kn (nn : Nat) (tg : Int) (ws : List Int) (l : Nat → List Int) (T : Nat → Int) (a : Nat) (S : TM) : Prop where
  n : S.n = (nn : Int)
  ok : okC S.n S.s S.h = true
  st : S.st = 0
  pl : S.at_ = (a : Int)
  a2 : a < 2
  gv : S.give = true → 1 ≤ S.i ∧ S.i ≤ nn
  kn : S.ph = .first ∨ ∃ T' h', Knows nn tg ws l T a S T' h'
theorem TwoL.more {nn : Nat} {tg : Int} {B B' : Nat} {ws : List Int} {l : Nat → List Int} {T : Nat → Int} (h : TwoL nn tg B ws l T) (hb : B ≤ B') : TwoL nn tg B' ws l T :=
  ⟨h.at_, h.lo, fun a ha => by have := h.hi a ha; omega, h.len⟩
/-- A write elsewhere: no list's word, no node's next word. -/
theorem TwoL.other {nn : Nat} {tg : Int} {B : Nat} {ws : List Int} {l : Nat → List Int} {T : Nat → Int} (h : TwoL nn tg B ws l T) {j : Nat} {v : Int} (hj : 2 ≤ j) (hl : ∀ a, a < 2 → ∀ i ∈ l a, (2 * i).toNat ≠ j) : TwoL nn tg B (ws.set j v) l T :=
  ⟨fun a ha => (h.at_ a ha).other (by omega) (hl a ha), h.lo, h.hi, by simpa using h.len⟩
theorem Kn.other {nn : Nat} {tg : Int} {ws : List Int} {l : Nat → List Int} {T : Nat → Int} {a : Nat} {S : TM} (h : Kn nn tg ws l T a S) {j : Nat} {v : Int} (hj : S.give = true → (2 * S.i).toNat ≠ j) : Kn nn tg (ws.set j v) l T a S :=
  ⟨h.n, h.ok, h.st, h.pl, h.a2, h.gv, h.kn.imp id fun ⟨T', h', k⟩ => ⟨T', h', k.lo, k.hi, k.h0, k.h1, k.w, k.tk, k.hd, k.lt, fun x hp hg => by rw [rdW_other _ _ _ _ (hj hg)]; exact k.lg x hp hg⟩⟩
/-- A list is another one, with a tag more. -/
theorem Kn.turned {nn : Nat} {tg : Int} {ws : List Int} {l : Nat → List Int} {T : Nat → Int} {b : Nat} {S : TM} (h : Kn nn tg ws l T b S) {a : Nat} (ha : a < 2) {v : Int} {l' : List Int} : Kn nn tg (ws.set a v) (upF l a l') (upF T a (T a + 1)) b S := by
  refine ⟨h.n, h.ok, h.st, h.pl, h.a2, h.gv, h.kn.imp id fun ⟨T', h', k⟩ => ⟨T', h', k.lo, ?_, k.h0, k.h1, k.w, k.tk, ?_, ?_, fun x hp hg => ?_⟩⟩
  · by_cases e : b = a
    · subst e; rw [upF_self]; have := k.hi; omega
    · rw [upF_ne _ _ e]; exact k.hi
  · by_cases e : b = a
    · subst e; rw [upF_self, upF_self]; intro c; have := k.hi; omega
    · rw [upF_ne _ _ e, upF_ne _ _ e]; exact k.hd
  · by_cases e : b = a
    · subst e; rw [upF_self, upF_self]; intro x _ _ c; have := k.hi; omega
    · rw [upF_ne _ _ e, upF_ne _ _ e]; exact k.lt
  · have := h.gv hg
    rw [rdW_other _ _ _ _ (by omega)]
    exact k.lg x hp hg
theorem TwoL.turned {nn : Nat} {tg : Int} {B : Nat} {ws : List Int} {l : Nat → List Int} {T : Nat → Int} (h : TwoL nn tg B ws l T) {a : Nat} (ha : a < 2) {v : Int} {l' : List Int} (hn : AtL nn (ws.set a v) a l' (T a + 1)) : TwoL nn tg (B + 1) (ws.set a v) (upF l a l') (upF T a (T a + 1)) := by
  refine ⟨fun b hb => ?_, fun b hb => ?_, fun b hb => ?_, by simpa using h.len⟩
  · by_cases e : b = a
    · subst e; rw [upF_self, upF_self]; exact hn
    · rw [upF_ne _ _ e, upF_ne _ _ e]
      exact (h.at_ b hb).other e fun i hi => by have := (h.at_ b hb).rng i hi; omega
  · by_cases e : b = a
    · subst e; rw [upF_self]; have := h.lo b hb; omega
    · rw [upF_ne _ _ e]; exact h.lo b hb
  · by_cases e : b = a
    · subst e; rw [upF_self]; have := h.hi b hb; omega
    · rw [upF_ne _ _ e]; have := h.hi b hb; omega
/-- What a step leaves: nothing but a word loaded, or written into the own node; the end; or a list that is another one. -/
inductive KEnd (nn : Nat) (tg : Int) (B : Nat) (ws : List Int) (l : Nat → List Int) (T : Nat → Int) (a : Nat) (S : TM) : Int → TM → List Int → Prop
  | run {S' : TM} {ws' : List Int} : TwoL nn tg B ws' l T → Kn nn tg ws' l T a S' → (S.give = true → S'.i = S.i) → (∀ b S2, Kn nn tg ws l T b S2 → (S.give = true → S2.give = true → S2.i ≠ S.i) → Kn nn tg ws' l T b S2) → KEnd nn tg B ws l T a S 0 S' ws'
  | none {S' : TM} : S.give = false → l a = [] → KEnd nn tg B ws l T a S 2 S' ws
  | lost {S' : TM} : KEnd nn tg B ws l T a S 3 S' ws
  | took {S' : TM} {v : Int} {r : List Int} : S.give = false → l a = S'.i :: r → TwoL nn tg (B + 1) (ws.set a v) (upF l a r) (upF T a (T a + 1)) → KEnd nn tg B ws l T a S 1 S' (ws.set a v)
  | gave {S' : TM} {v : Int} : S.give = true → S'.i = S.i → TwoL nn tg (B + 1) (ws.set a v) (upF l a (S.i :: l a)) (upF T a (T a + 1)) → KEnd nn tg B ws l T a S 1 S' (ws.set a v)
theorem Kn.step {nn : Nat} {tg : Int} {B : Nat} {ws : List Int} {l : Nat → List Int} {T : Nat → Int} {a : Nat} {S : TM} (K : Kn nn tg ws l T a S) (H : TwoL nn tg B ws l T) (hB : B < 4294967295) (hf : S.give = true → S.i ∉ l 0 ∧ S.i ∉ l 1) :
    ∃ r S' ws' nt, S.step ws = ⟨r, S', ws', [nt]⟩ ∧ S'.give = S.give ∧ KEnd nn tg B ws l T a S r S' ws' := by
  obtain ⟨hn, hok, hst, hpl, ha, hgv, hkn⟩ := K
  obtain ⟨n, s, hh, t, at_, i, w, give, ph, st⟩ := S
  dsimp only at hn hok hst hpl hgv hf
  subst hn hst hpl
  obtain ⟨b1, b2, _⟩ := okC_bounds hok
  have hA := H.at_ a ha
  have hlen := H.len
  have hr := hdI_rng (nn := nn) (l := l a) hA.rng
  have hw := hA.word
  have hlo := H.lo a ha
  have hhi := H.hi a ha
  have g1 : ¬ ((a : Int) < 0 ∨ (ws.length : Int) ≤ (a : Int)) := by omega
  have hwm : (hdI (l a) + T a % 4294967296 * 4294967296) % 4294967296 = hdI (l a) := word_ix (by omega) (by omega)
  cases ph with
  | first =>
    have e : TM.step ⟨nn, s, hh, t, a, i, w, give, .first, 0⟩ ws = TM.head ⟨nn, s, hh, t, a, i, w, give, .first, 0⟩ ws := rfl
    cases give with
    | true =>
      have hi := hgv rfl
      have hnx := nx_at hok hi.1 hi.2
      refine ⟨0, ⟨nn, s, hh, t, a, i, rdW ws a, true, .second, 0⟩, ws, ldN a (rdW ws a), ?_, rfl, .run H ⟨rfl, hok, rfl, rfl, ha, fun _ => hi, .inr ⟨T a, hdI (l a), hlo, Int.le_refl _, hr.1, hr.2, hw, fun c => (by cases c), fun _ => rfl, fun x c => (by cases c), fun x c => (by cases c)⟩⟩ (fun _ => rfl) fun _ _ k _ => k⟩
      rw [e]
      unfold TM.head TM.nx
      dsimp only
      rw [if_pos rfl, hnx, if_neg (by omega), if_neg g1]
      simp only [Int.toNat_natCast]
    | false =>
      by_cases hz : hdI (l a) = 0
      · have hnil : l a = [] := by
          cases hl : l a with
          | nil => rfl
          | cons x r =>
            have := hA.rng x (by rw [hl]; simp)
            rw [hl] at hz
            have e : hdI (x :: r) = x := rfl
            omega
        refine ⟨2, ⟨nn, s, hh, t, a, 0, rdW ws a, false, .first, 2⟩, ws, ldN a (rdW ws a), ?_, rfl, .none rfl hnil⟩
        rw [e]
        unfold TM.head
        dsimp only
        rw [if_neg (by simp), if_neg g1]
        simp only [Int.toNat_natCast, hw, hwm]
        rw [if_pos hz]
      · have hi : 1 ≤ hdI (l a) ∧ hdI (l a) ≤ nn := by omega
        have hnx := nx_at hok hi.1 hi.2
        refine ⟨0, ⟨nn, s, hh, t, a, hdI (l a), rdW ws a, false, .second, 0⟩, ws, ldN a (rdW ws a), ?_, rfl, .run H ⟨rfl, hok, rfl, rfl, ha, fun c => (by cases c), .inr ⟨T a, hdI (l a), hlo, Int.le_refl _, hr.1, hr.2, hw, fun _ => ⟨rfl, hi.1⟩, fun _ => rfl, fun x c => (by cases c), fun x c => (by cases c)⟩⟩ (fun c => by cases c) fun _ _ k _ => k⟩
        rw [e]
        unfold TM.head
        dsimp only
        rw [if_neg (by simp), if_neg g1]
        simp only [Int.toNat_natCast, hw, hwm]
        rw [if_neg hz, hnx, if_neg (by omega)]
  | second =>
    obtain ⟨T', h', k⟩ := hkn.resolve_left (by intro c; cases c)
    have e : TM.step ⟨nn, s, hh, t, a, i, w, give, .second, 0⟩ ws = TM.second ⟨nn, s, hh, t, a, i, w, give, .second, 0⟩ ws := rfl
    have hi : 1 ≤ i ∧ i ≤ nn := by
      cases give with
      | true => exact hgv rfl
      | false => have h2 := k.tk rfl; have h3 := k.h1; dsimp only at h2; omega
    have hnx := nx_at hok hi.1 hi.2
    have g4 : ¬ (ws.length : Int) ≤ ((2 * i).toNat : Int) := by omega
    have hwk := k.w
    dsimp only at hwk
    have k0 := k.h0
    have k1 := k.h1
    have hkm : w % 4294967296 = h' := by rw [hwk]; exact word_ix (by omega) (by omega)
    cases give with
    | true =>
      obtain ⟨f0, f1⟩ := hf rfl
      have hfa : ∀ b, b < 2 → ∀ j ∈ l b, (2 * j).toNat ≠ (2 * i).toNat := fun b hb j hj c => by
        have := (H.at_ b hb).rng j hj
        have : j = i := by omega
        subst this
        match b, hb with
        | 0, _ => exact f0 hj
        | 1, _ => exact f1 hj
      refine ⟨0, ⟨nn, s, hh, t, a, i, w, true, .last 0, 0⟩, ws.set (2 * i).toNat h', stN (2 * i).toNat (rdW ws (2 * i).toNat) h', ?_, rfl, .run (H.other (by omega) hfa) ⟨rfl, hok, rfl, rfl, ha, fun _ => hi, .inr ⟨T', h', k.lo, k.hi, k0, k1, hwk, fun c => (by cases c), k.hd, fun x _ c => (by cases c), fun x c _ => ?_⟩⟩ (fun _ => rfl) fun b S2 k2 hne => k2.other fun hg2 c => ?_⟩
      · rw [e]
        unfold TM.second TM.nx
        dsimp only
        rw [hnx, if_neg g4]
        simp only [Int.toNat_natCast, if_true, hkm]
      · dsimp only
        rw [rdW_set _ _ _ (by omega)]
        omega
      · have h2 := k2.gv hg2
        have h3 := hne rfl hg2
        dsimp only at h3
        omega
    | false =>
      refine ⟨0, ⟨nn, s, hh, t, a, i, w, false, .last (rdW ws (2 * i).toNat), 0⟩, ws, ldN (2 * i).toNat (rdW ws (2 * i).toNat), ?_, rfl, .run H ⟨rfl, hok, rfl, rfl, ha, fun c => (by cases c), .inr ⟨T', h', k.lo, k.hi, k0, k1, hwk, k.tk, k.hd, fun x c _ hT => ?_, fun x _ c => (by cases c)⟩⟩ (fun c => by cases c) fun _ _ k _ => k⟩
      · rw [e]
        unfold TM.second TM.nx
        dsimp only
        rw [hnx, if_neg g4]
        simp only [Int.toNat_natCast, Bool.false_eq_true, if_false]
      · cases c
        have h2 := k.hd hT
        have h3 := (k.tk rfl)
        dsimp only at h3
        cases hl : l a with
        | nil => rw [hl] at h2; have e0 : hdI [] = 0 := rfl; omega
        | cons x r =>
          have e1 : x = i := by rw [hl] at h2; have e0 : hdI (x :: r) = x := rfl; omega
          subst e1
          have h5 := hA.lnk
          rw [hl] at h5
          exact h5.1
  | last x =>
    obtain ⟨T', h', k⟩ := hkn.resolve_left (by intro c; cases c)
    have e : TM.step ⟨nn, s, hh, t, a, i, w, give, .last x, 0⟩ ws = TM.last ⟨nn, s, hh, t, a, i, w, give, .last x, 0⟩ x ws := rfl
    have hwk := k.w
    dsimp only at hwk
    have k0 := k.h0
    have k1 := k.h1
    have klo := k.lo
    have khi := k.hi
    by_cases hy : rdW ws a = w
    · have hT : T' = T a ∧ h' = hdI (l a) := by
        rw [hw, hwk] at hy
        omega
      obtain ⟨hT, hh'⟩ := hT
      subst hT
      cases give with
      | true =>
        have hi := hgv rfl
        obtain ⟨f0, f1⟩ := hf rfl
        have hfa : i ∉ l a := fun hm => by
          rcases (show a = 0 ∨ a = 1 by omega) with e0 | e0
          · rw [e0] at hm; exact f0 hm
          · rw [e0] at hm; exact f1 hm
        have hv : nextW w i = i + (T a + 1) % 4294967296 * 4294967296 := by rw [hwk]; exact nextW_word (by omega) (by omega)
        have hlg := k.lg x rfl rfl
        dsimp only at hlg
        have hr : ∀ j ∈ (i :: l a), (2 * j).toNat ≠ a := fun j hj => by
          rcases List.mem_cons.1 hj with rfl | hj
          · omega
          · have := hA.rng j hj; omega
        obtain ⟨v, hvv⟩ : ∃ v, i + (T a + 1) % 4294967296 * 4294967296 = v := ⟨_, rfl⟩
        rw [hvv] at hv
        refine ⟨1, ⟨nn, s, hh, t, a, i, w, true, .last x, 1⟩, ws.set a v, swN a (rdW ws a) v, ?_, rfl, .gave rfl rfl (H.turned ha ⟨(rdW_set _ _ _ (by omega)).trans hvv.symm, ?_, fun j hj => ?_, List.nodup_cons.2 ⟨hfa, hA.nd⟩⟩)⟩
        · rw [e]
          unfold TM.last TM.fst
          dsimp only
          simp only [Int.toNat_natCast, hy, if_true, hv]
        · exact lk_other ⟨by rw [hlg, hh'], hA.lnk⟩ hr
        · rcases List.mem_cons.1 hj with rfl | hj
          · exact hi
          · exact hA.rng j hj
      | false =>
        have h3 := k.tk rfl
        dsimp only at h3
        have hlt := k.lt x rfl rfl rfl
        have hv : nextW w (x % 4294967296) = x % 4294967296 + (T a + 1) % 4294967296 * 4294967296 := by rw [hwk]; exact nextW_word (by omega) (by omega)
        cases hl : l a with
        | nil => rw [hl] at hh'; have e0 : hdI [] = 0 := rfl; omega
        | cons y r =>
          have e1 : y = i := by rw [hl] at hh'; have e0 : hdI (y :: r) = y := rfl; omega
          subst e1
          rw [hl] at hlt hA
          have hlt' : x % 4294967296 = hdI r := hlt
          refine ⟨1, ⟨nn, s, hh, t, a, y, w, false, .last x, 1⟩, ws.set a (hdI r + (T a + 1) % 4294967296 * 4294967296), swN a (rdW ws a) (hdI r + (T a + 1) % 4294967296 * 4294967296), ?_, rfl, .took rfl hl (H.turned ha (hA.pop (by omega) ha))⟩
          rw [e]
          unfold TM.last TM.fst
          dsimp only
          rw [hlt'] at hv
          simp only [Int.toNat_natCast, hy, if_true, Bool.false_eq_true, if_false, hlt', hv]
    · refine ⟨3, ⟨nn, s, hh, t, a, i, w, give, .last x, 3⟩, ws, noN a (rdW ws a), ?_, rfl, .lost⟩
      rw [e]
      unfold TM.last
      dsimp only
      simp only [Int.toNat_natCast, hy, if_false]
/-- Machines that begin. -/
theorem newTk_kn {nn : Nat} {s h t tg : Int} {ws : List Int} {l : Nat → List Int} {T : Nat → Int} {a : Nat} (hok : okC nn s h = true) (ha : a < 2) : Kn nn tg ws l T a (newTk nn s h t a) := ⟨rfl, hok, rfl, rfl, ha, fun c => (by cases c), .inl rfl⟩
theorem newGv_kn {nn : Nat} {s h t tg i : Int} {ws : List Int} {l : Nat → List Int} {T : Nat → Int} {a : Nat} (hok : okC nn s h = true) (ha : a < 2) (hi : 1 ≤ i ∧ i ≤ nn) : Kn nn tg ws l T a (newGv nn s h t a i) := ⟨rfl, hok, rfl, rfl, ha, fun _ => hi, .inl rfl⟩
end Go.Proofs.Ytndigbkhaajjoaa
