/-
  Visits at one slot, in whatever turns: what holds of each, and of the slot's word. No program here.
-/
import Derived.Test.YthnjeiandfdpgaaVm
import Derived.Test.YthnjeiandfdpgaaRow
namespace Go.Proofs.Ythnjeiandfdpgaa
open Go.RowKit
set_option linter.unusedVariables false
set_option linter.unusedSimpArgs false

abbrev bigD : Int := 1152921504606846976
theorem mkok {a : Int} {push : Bool} {i d l x : Int} {ph : VPh} {st : Int} {off : Bool} {N k : Nat} (i0 : 0 ≤ i) (i1 : i < 4294967296) (d0 : 0 ≤ d) (d1 : d < 18446744073709551616) (x0 : 0 ≤ x) (x1 : x < 18446744073709551616) (l0 : 0 ≤ l + k) (l1 : l ≤ 9223372036854775807)
    (pl : st = 0 → ph ≠ .first → 0 ≤ a ∧ a < N) (of : off = true → ph ≠ .first) (hp : phOk ph x push) : VM.ok ⟨a, push, i, d, l, x, ph, st, off⟩ N k := ⟨i0, i1, d0, d1, x0, x1, l0, l1, pl, of, hp⟩
/-- It waits: its word is there, or one met it. -/
structure Waits (x w : Int) (push : Bool) (i : Int) : Prop where
  w0 : 0 ≤ w
  w1 : w < 18446744073709551616
  st : sSt w = sWaits push
  tp : sTp w = sTp x
  ix : push = true → sIx w = i
  or_ : x = w ∨ sSt x = 3 ∧ (push = true → sIx x = i)
/-- A visit, of a push or a pop, with its number i, behind c steps; x is the slot's word, n its polls. -/
inductive VI (n : Nat) (x : Int) (push : Bool) (i : Int) : VM → Nat → Prop where
  | first : VI n x push i ⟨0, push, i, bigD, n, 0, .first, 0, false⟩ 0
  | claim (w : Int) : 0 ≤ w → w < 18446744073709551616 → sMeets w push = true → VI n x push i ⟨0, push, i, bigD, n, w, .claim, 0, false⟩ 1
  | offer (w : Int) : 0 ≤ w → w < 18446744073709551616 → sSt w = 0 → VI n x push i ⟨0, push, i, bigD, n, w, .offer, 0, false⟩ 1
  | look (w : Int) (l c : Nat) : 1 ≤ l ∧ l ≤ n → c + l = n + 2 → Waits x w push i → VI n x push i ⟨0, push, i, bigD, l, w, .look, 0, true⟩ c
  | again (w : Int) : x ≠ w → Waits x w push i → VI n x push i ⟨0, push, i, bigD, 0, w, .look, 0, true⟩ (n + 3)
  | withdraw (w : Int) : Waits x w push i → VI n x push i ⟨0, push, i, bigD, 0, w, .withdraw, 0, true⟩ (n + 2)
  | found (w l : Int) (c : Nat) : x ≠ w → 0 ≤ l → l ≤ n → c ≤ n + 4 → Waits x w push i → VI n x push i ⟨0, push, sIx x, bigD, l, w, .found x, 0, true⟩ c
  | over (S : VM) (c : Nat) : S.st = 1 ∨ S.st = 3 ∨ S.st = 4 → S.push = push → c ≤ n + 5 → (push = true → S.i = i) → (∀ N k, S.ok N k) → VI n x push i S c
/-- Who holds the slot. -/
def VM.owner (S : VM) : Prop := S.st = 0 ∧ S.off = true
theorem VI.ok {n : Nat} {x : Int} {push : Bool} {i : Int} {S : VM} {c : Nat} (h : VI n x push i S c) (hn : n ≤ 64) (i0 : 0 ≤ i) (i1 : i < 1073741824) (x0 : 0 ≤ x) (x1 : x < 18446744073709551616) (k : Nat) : S.ok 1 k := by
  cases h with
  | first => exact mkok i0 (by omega) (by decide) (by decide) (by decide) (by decide) (by omega) (by omega) (fun _ h => (h rfl).elim) (fun h => by cases h) trivial
  | claim w h0 h1 h2 => exact mkok i0 (by omega) (by decide) (by decide) h0 h1 (by omega) (by omega) (fun _ _ => ⟨by decide, by decide⟩) (fun h => by cases h) h2
  | offer w h0 h1 h2 => exact mkok i0 (by omega) (by decide) (by decide) h0 h1 (by omega) (by omega) (fun _ _ => ⟨by decide, by decide⟩) (fun h => by cases h) h2
  | look w l c h0 h1 h2 => exact mkok i0 (by omega) (by decide) (by decide) h2.w0 h2.w1 (by omega) (by omega) (fun _ _ => ⟨by decide, by decide⟩) (fun _ => by simp) trivial
  | again w h1 h2 => exact mkok i0 (by omega) (by decide) (by decide) h2.w0 h2.w1 (by omega) (by omega) (fun _ _ => ⟨by decide, by decide⟩) (fun _ => by simp) trivial
  | withdraw w h2 => exact mkok i0 (by omega) (by decide) (by decide) h2.w0 h2.w1 (by omega) (by omega) (fun _ _ => ⟨by decide, by decide⟩) (fun _ => by simp) trivial
  | found w l c h1 h3 h4 h5 h2 =>
    have := sIx_rng x
    exact mkok this.1 (by omega) (by decide) (by decide) h2.w0 h2.w1 (by omega) (by omega) (fun _ _ => ⟨by decide, by decide⟩) (fun _ => by simp) ⟨x0, x1⟩
  | over S c h0 h1 h2 h3 h4 => exact h4 _ _
/-- What another one may do to the word, while one waits: it is met. -/
theorem Waits.met {x w : Int} {push : Bool} {i : Int} {x' : Int} (h : Waits x w push i) (hx : x = w) (h3 : sSt x' = 3) (ht : sTp x' = sTp x) (hi : push = true → sIx x' = sIx x) : Waits x' w push i :=
  ⟨h.w0, h.w1, h.st, by rw [h.tp, ht], h.ix, .inr ⟨h3, fun hp => by rw [hi hp, hx, h.ix hp]⟩⟩
theorem VI.run {n : Nat} {x : Int} {push : Bool} {i : Int} {S : VM} {c : Nat} (h : VI n x push i S c) : (S.st = 0 ∧ c ≤ n + 4) ∨ ((S.st = 1 ∨ S.st = 3 ∨ S.st = 4) ∧ c ≤ n + 5) := by
  cases h with
  | first => exact .inl ⟨rfl, by omega⟩
  | claim w h0 h1 h2 => exact .inl ⟨rfl, by omega⟩
  | offer w h0 h1 h2 => exact .inl ⟨rfl, by omega⟩
  | look w l c h0 h1 h2 => exact .inl ⟨rfl, by omega⟩
  | again w h1 h2 => exact .inl ⟨rfl, by omega⟩
  | withdraw w h2 => exact .inl ⟨rfl, by omega⟩
  | found w l c h1 h3 h4 h5 h2 => exact .inl ⟨rfl, h5⟩
  | over S c h0 h1 h2 h3 h4 => exact .inr ⟨h0, h2⟩
/-- One that does not hold the slot does not look at its word. -/
theorem VI.other {n : Nat} {x x' : Int} {push : Bool} {i : Int} {S : VM} {c : Nat} (h : VI n x push i S c) (hn : ¬ S.owner) : VI n x' push i S c := by
  cases h with
  | first => exact .first
  | claim w h0 h1 h2 => exact .claim w h0 h1 h2
  | offer w h0 h1 h2 => exact .offer w h0 h1 h2
  | look w l c h0 h1 h2 => exact (hn ⟨rfl, rfl⟩).elim
  | again w h1 h2 => exact (hn ⟨rfl, rfl⟩).elim
  | withdraw w h2 => exact (hn ⟨rfl, rfl⟩).elim
  | found w l c h1 h3 h4 h5 h2 => exact (hn ⟨rfl, rfl⟩).elim
  | over S c h0 h1 h2 h3 h4 => exact .over S c h0 h1 h2 h3 h4
theorem sW_ne {s s' i i' t t' : Int} (h : s ≠ s') (a : 0 ≤ s) (b : s < 4) (c : 0 ≤ s') (d : s' < 4) : sW s i t ≠ sW s' i' t' := fun e => h (by rw [← sSt_W (i := i) (t := t) a b, e, sSt_W c d])
theorem ne_of_sSt {x y : Int} (h : sSt x ≠ sSt y) : x ≠ y := fun e => h (by rw [e])
theorem VI.owner_st {n : Nat} {x : Int} {push : Bool} {i : Int} {S : VM} {c : Nat} (h : VI n x push i S c) (ho : S.owner) : sSt x ≠ 0 := by
  have key : ∀ w, Waits x w push i → sSt x ≠ 0 := fun w hw => by
    rcases hw.or_ with e | e
    · rw [e, hw.st]; cases push <;> decide
    · rw [e.1]; decide
  cases h with
  | first => exact absurd ho.2 (by simp)
  | claim w h0 h1 h2 => exact absurd ho.2 (by simp)
  | offer w h0 h1 h2 => exact absurd ho.2 (by simp)
  | look w l c h0 h1 h2 => exact key w h2
  | again w h1 h2 => exact key w h2
  | withdraw w h2 => exact key w h2
  | found w l c h1 h3 h4 h5 h2 => exact key w h2
  | over S c h0 h1 h2 h3 h4 => exact absurd ho.1 (by omega)
/-- One that waits for another kind is met. -/
theorem VI.met {n : Nat} {x x' : Int} {push : Bool} {i : Int} {S : VM} {c : Nat} (h : VI n x push i S c) (ho : S.owner) (hx : sSt x ≠ 3) (h3 : sSt x' = 3) (ht : sTp x' = sTp x) (hi : push = true → sIx x' = sIx x) : VI n x' push i S c := by
  have ne : ∀ w, Waits x w push i → x = w ∧ x' ≠ w := fun w hw => by
    rcases hw.or_ with e | e
    · refine ⟨e, ne_of_sSt ?_⟩
      rw [h3, hw.st]; cases push <;> decide
    · exact (hx e.1).elim
  cases h with
  | first => exact absurd ho.2 (by simp)
  | claim w h0 h1 h2 => exact absurd ho.2 (by simp)
  | offer w h0 h1 h2 => exact absurd ho.2 (by simp)
  | look w l c h0 h1 h2 => exact .look w l c h0 h1 (h2.met (ne w h2).1 h3 ht hi)
  | again w h1 h2 => exact (h1 (ne w h2).1).elim
  | withdraw w h2 => exact .withdraw w (h2.met (ne w h2).1 h3 ht hi)
  | found w l c h1 h3' h4 h5 h2 => exact (h1 (ne w h2).1).elim
  | over S c h0 h1 h2 h3 h4 => exact absurd ho.1 (by omega)
/-- What a step of one does to the word: nothing; it meets who waits; it begins to wait at an empty slot; it leaves, and the slot is empty. -/
inductive Deed (x : Int) (push : Bool) (i : Int) (S : VM) (x' : Int) (S' : VM) : Prop where
  | none : x' = x → (S.owner → S'.owner) → (S'.owner → S.owner) → (S'.st = 1 → S.st = 1 ∧ S' = S) → Deed x push i S x' S'
  | meets : ¬ S.owner → ¬ S'.owner → S.st = 0 → S'.st = 1 → sMeets x push = true → x' = sClaim x push i → S'.i = sIx x' → Deed x push i S x' S'
  | begins : ¬ S.owner → S'.owner → sSt x = 0 → x' = sOffer x push i → Deed x push i S x' S'
  | leaves (T : Int) : S.owner → ¬ S'.owner → S'.st = 4 ∧ sSt x ≠ 3 ∨ S'.st = 1 ∧ sSt x = 3 ∧ S'.i = sIx x → x' = sClear x → Deed x push i S x' S'
theorem ok_any {a : Int} {push : Bool} {i d l x : Int} {ph : VPh} {st : Int} {off : Bool} (i0 : 0 ≤ i) (i1 : i < 4294967296) (d0 : 0 ≤ d) (d1 : d < 18446744073709551616) (x0 : 0 ≤ x) (x1 : x < 18446744073709551616) (l0 : 0 ≤ l) (l1 : l ≤ 9223372036854775807) (hs : st ≠ 0) (of : off = true → ph ≠ .first) (hp : phOk ph x push) (N k : Nat) : VM.ok ⟨a, push, i, d, l, x, ph, st, off⟩ N k :=
  mkok i0 i1 d0 d1 x0 x1 (by omega) l1 (fun e => (hs e).elim) of hp
theorem sTp_clear {x : Int} : sTp (sClear x) = (sTp x + 1) % 4294967296 := by unfold sClear; rw [sTp_W (by decide) (by decide)]
theorem sSt_clear {x : Int} : sSt (sClear x) = 0 := by unfold sClear; exact sSt_W (by decide) (by decide)
theorem sSt_claim {x : Int} {push : Bool} {i : Int} : sSt (sClaim x push i) = 3 := by unfold sClaim; exact sSt_W (by decide) (by decide)
theorem sTp_claim {x : Int} {push : Bool} {i : Int} : sTp (sClaim x push i) = sTp x := by unfold sClaim; exact sTp_W (by decide) (by decide)
theorem sSt_offer {x : Int} {push : Bool} {i : Int} : sSt (sOffer x push i) = sWaits push := by unfold sOffer; exact sSt_W (sWaits_rng push).1 (sWaits_rng push).2
theorem sTp_offer {x : Int} {push : Bool} {i : Int} : sTp (sOffer x push i) = sTp x := by unfold sOffer; exact sTp_W (sWaits_rng push).1 (sWaits_rng push).2
theorem sIx_claim {x : Int} {push : Bool} {i : Int} (i0 : 0 ≤ i) (i1 : i < 1073741824) : sIx (sClaim x push i) = if push then i else sIx x := by
  unfold sClaim
  rw [sIx_W (by decide) (by decide)]
  cases push
  · have := sIx_rng x; simp; omega
  · simp; omega
theorem sIx_offer {x : Int} {i : Int} (i0 : 0 ≤ i) (i1 : i < 1073741824) : sIx (sOffer x true i) = i := by
  unfold sOffer
  rw [sIx_W (sWaits_rng _).1 (sWaits_rng _).2]
  simp; omega
theorem VI.step {n : Nat} {x : Int} {push : Bool} {i : Int} {S : VM} {c : Nat} (h : VI n x push i S c) (hn1 : 1 ≤ n) (hn : n ≤ 64) (i0 : 0 ≤ i) (i1 : i < 1073741824) (x0 : 0 ≤ x) (x1 : x < 18446744073709551616) :
    ∃ r S' x' nt, S.step [x] 0 = ⟨r, S', [x'], nt⟩ ∧ r = S'.st ∧ 0 ≤ x' ∧ x' < 18446744073709551616 ∧ Deed x push i S x' S' ∧ S'.push = push ∧ VI n x' push i S' (if S.st = 0 then c + 1 else c) ∧ (S.st = 0 → nt.length = 1) ∧ (S.st ≠ 0 → S' = S ∧ nt = []) := by
  have hix := sIx_rng x
  cases h with
  | first =>
    by_cases h1 : sMeets x push = true
    · exact ⟨0, ⟨0, push, i, bigD, n, x, .claim, 0, false⟩, x, [ldN 0 x], by simp [VM.step, VM.go, rdW, h1], rfl, x0, x1, .none rfl (fun h => h) (fun h => h) (fun h => by cases h), rfl, .claim x x0 x1 h1, fun _ => rfl, fun h => (h rfl).elim⟩
    · have h1' : sMeets x push = false := by simpa using h1
      by_cases h2 : sSt x = 0
      · exact ⟨0, ⟨0, push, i, bigD, n, x, .offer, 0, false⟩, x, [ldN 0 x], by simp [VM.step, VM.go, rdW, h1', h2], rfl, x0, x1, .none rfl (fun h => h) (fun h => h) (fun h => by cases h), rfl, .offer x x0 x1 h2, fun _ => rfl, fun h => (h rfl).elim⟩
      · exact ⟨3, ⟨0, push, i, bigD, n, x, .first, 3, false⟩, x, [ldN 0 x], by simp [VM.step, VM.go, rdW, h1', h2], rfl, x0, x1, .none rfl (fun h => absurd h.2 (by simp)) (fun h => absurd h.2 (by simp)) (fun h => by cases h), rfl, .over _ _ (.inr (.inl rfl)) rfl (by simp <;> omega) (fun _ => rfl) (ok_any i0 (by omega) (by decide) (by decide) x0 x1 (by omega) (by omega) (by decide) (fun h => by cases h) trivial), fun _ => rfl, fun h => (h rfl).elim⟩
  | claim w h0 h1 h2 =>
    by_cases e : x = w
    · subst e
      obtain ⟨c0, c1⟩ := @sClaim_rng x i push h0 h1
      have hix2 := sIx_rng (sClaim x push i)
      refine ⟨1, ⟨0, push, sIx (sClaim x push i), bigD, n, x, .claim, 1, false⟩, sClaim x push i, [swN 0 x (sClaim x push i)], by simp [VM.step, VM.go, rdW], rfl, c0, c1, .meets (fun h => absurd h.2 (by simp)) (fun h => absurd h.2 (by simp)) rfl rfl h2 rfl rfl, rfl, .over _ _ (.inl rfl) rfl (by simp <;> omega) (fun hp => ?_) (ok_any hix2.1 (by omega) (by decide) (by decide) h0 h1 (by omega) (by omega) (by decide) (fun h => by cases h) h2), fun _ => rfl, fun h => (h rfl).elim⟩
      show sIx (sClaim x push i) = i
      rw [sIx_claim i0 i1, hp]; rfl
    · exact ⟨3, ⟨0, push, i, bigD, n, w, .claim, 3, false⟩, x, [noN 0 x], by simp [VM.step, VM.go, rdW, e], rfl, x0, x1, .none rfl (fun h => absurd h.2 (by simp)) (fun h => absurd h.2 (by simp)) (fun h => by cases h), rfl, .over _ _ (.inr (.inl rfl)) rfl (by simp <;> omega) (fun _ => rfl) (ok_any i0 (by omega) (by decide) (by decide) h0 h1 (by omega) (by omega) (by decide) (fun h => by cases h) h2), fun _ => rfl, fun h => (h rfl).elim⟩
  | offer w h0 h1 h2 =>
    by_cases e : x = w
    · subst e
      obtain ⟨c0, c1⟩ := @sOffer_rng x i push h0 h1
      refine ⟨0, ⟨0, push, i, bigD, n, sOffer x push i, .look, 0, true⟩, sOffer x push i, [swN 0 x (sOffer x push i)], by simp [VM.step, VM.go, rdW], rfl, c0, c1, .begins (fun h => absurd h.2 (by simp)) ⟨rfl, rfl⟩ h2 rfl, rfl, ?_, fun _ => rfl, fun h => (h rfl).elim⟩
      exact .look _ n 2 ⟨hn1, Nat.le_refl _⟩ (by omega) ⟨c0, c1, sSt_offer, rfl, fun hp => by subst hp; exact sIx_offer i0 i1, .inl rfl⟩
    · exact ⟨3, ⟨0, push, i, bigD, n, w, .offer, 3, false⟩, x, [noN 0 x], by simp [VM.step, VM.go, rdW, e], rfl, x0, x1, .none rfl (fun h => absurd h.2 (by simp)) (fun h => absurd h.2 (by simp)) (fun h => by cases h), rfl, .over _ _ (.inr (.inl rfl)) rfl (by simp <;> omega) (fun _ => rfl) (ok_any i0 (by omega) (by decide) (by decide) h0 h1 (by omega) (by omega) (by decide) (fun h => by cases h) h2), fun _ => rfl, fun h => (h rfl).elim⟩
  | look w l c h0 h1 h2 =>
    by_cases e : x = w
    · subst e
      by_cases h3 : l = 1
      · subst h3
        have e1 : c + 1 = n + 2 := h1
        refine ⟨0, ⟨0, push, i, bigD, 0, x, .withdraw, 0, true⟩, x, [ldN 0 x], by simp [VM.step, VM.go, rdW], rfl, x0, x1, .none rfl (fun _ => ⟨rfl, rfl⟩) (fun _ => ⟨rfl, rfl⟩) (fun h => by cases h), rfl, ?_, fun _ => rfl, fun h => (h rfl).elim⟩
        rw [if_pos rfl, e1]
        exact .withdraw x h2
      · obtain ⟨l', rfl⟩ : ∃ l' : Nat, l = l' + 1 := ⟨l - 1, by omega⟩
        have e2 : ¬ ((((l' + 1 : Nat) : Int) - 1 ≤ 0) ∨ bigD ≤ 0) := by unfold bigD; omega
        have e3 : (((l' + 1 : Nat) : Int) - 1) = l' := by omega
        refine ⟨0, ⟨0, push, i, bigD, (l' : Int), x, .look, 0, true⟩, x, [ldN 0 x], ?_, rfl, x0, x1, .none rfl (fun _ => ⟨rfl, rfl⟩) (fun _ => ⟨rfl, rfl⟩) (fun h => by cases h), rfl, .look x l' (c + 1) ⟨by omega, by omega⟩ (by omega) h2, fun _ => rfl, fun h => (h rfl).elim⟩
        simp only [VM.step, VM.go, rdW, List.getD_cons_zero, if_true, e2, if_false, e3]
        simp
        exact ⟨by omega, by decide⟩
    · have h3 := h2.or_.resolve_left e
      refine ⟨0, ⟨0, push, sIx x, bigD, l, w, .found x, 0, true⟩, x, [ldN 0 x], by simp [VM.step, VM.go, rdW, e, h3.1, h2.tp], rfl, x0, x1, .none rfl (fun _ => ⟨rfl, rfl⟩) (fun _ => ⟨rfl, rfl⟩) (fun h => by cases h), rfl, .found w l (c + 1) e (by omega) (by omega) (by omega) h2, fun _ => rfl, fun h => (h rfl).elim⟩
  | again w h1 h2 =>
    have h3 := h2.or_.resolve_left h1
    refine ⟨0, ⟨0, push, sIx x, bigD, 0, w, .found x, 0, true⟩, x, [ldN 0 x], by simp [VM.step, VM.go, rdW, h1, h3.1, h2.tp], rfl, x0, x1, .none rfl (fun _ => ⟨rfl, rfl⟩) (fun _ => ⟨rfl, rfl⟩) (fun h => by cases h), rfl, .found w 0 (n + 3 + 1) h1 (by decide) (by omega) (by omega) h2, fun _ => rfl, fun h => (h rfl).elim⟩
  | withdraw w h2 =>
    by_cases e : x = w
    · subst e
      obtain ⟨c0, c1⟩ := sClear_rng x
      refine ⟨4, ⟨0, push, i, bigD, 0, x, .look, 4, true⟩, sClear x, [swN 0 x (sClear x)], by simp [VM.step, VM.go, rdW], rfl, c0, c1, .leaves 0 ⟨rfl, rfl⟩ (fun h => by cases h.1) (.inl ⟨rfl, ?_⟩) rfl, rfl, .over _ _ (.inr (.inr rfl)) rfl (by simp <;> omega) (fun _ => rfl) (ok_any i0 (by omega) (by decide) (by decide) h2.w0 h2.w1 (by decide) (by decide) (by decide) (fun _ => by simp) trivial), fun _ => rfl, fun h => (h rfl).elim⟩
      rw [h2.st]; cases push <;> decide
    · exact ⟨0, ⟨0, push, i, bigD, 0, w, .look, 0, true⟩, x, [noN 0 x], by simp [VM.step, VM.go, rdW, e], rfl, x0, x1, .none rfl (fun _ => ⟨rfl, rfl⟩) (fun _ => ⟨rfl, rfl⟩) (fun h => by cases h), rfl, .again w e h2, fun _ => rfl, fun h => (h rfl).elim⟩
  | found w l c h1 h3 h4 h5 h2 =>
    obtain ⟨c0, c1⟩ := sClear_rng x
    have h6 := h2.or_.resolve_left h1
    exact ⟨1, ⟨0, push, sIx x, bigD, l, w, .found x, 1, true⟩, sClear x, [stN 0 x (sClear x)], by simp [VM.step, VM.go, rdW], rfl, c0, c1, .leaves 0 ⟨rfl, rfl⟩ (fun h => by cases h.1) (.inr ⟨rfl, h6.1, rfl⟩) rfl, rfl, .over _ _ (.inl rfl) rfl (by simp <;> omega) (fun hp => h6.2 hp) (ok_any hix.1 (by omega) (by decide) (by decide) h2.w0 h2.w1 h3 (by omega) (by decide) (fun _ => by simp) ⟨x0, x1⟩), fun _ => rfl, fun h => (h rfl).elim⟩
  | over S c h0 h1 h2 h3 h4 =>
    have e : S.st ≠ 0 := by omega
    refine ⟨S.st, S, x, [], by simp [VM.step, e], rfl, x0, x1, .none rfl (fun h => h) (fun h => h) (fun h => ⟨h, rfl⟩), h1, ?_, fun h => (e h).elim, fun _ => ⟨rfl, rfl⟩⟩
    rw [if_neg e]
    exact .over S c h0 h1 h2 h3 h4
/-- Some visits at one slot. -/
structure VsI (n : Nat) (P : Nat → Bool) (x : Int) (Ss : List VM) (cs : List Nat) : Prop where
  x0 : 0 ≤ x
  x1 : x < 18446744073709551616
  len : cs.length = Ss.length
  few : Ss.length ≤ 12
  each : ∀ (k : Nat) (S : VM) (c : Nat), Ss[k]? = some S → cs[k]? = some c → VI n x (P k) ((k : Int) + 1) S c
  uniq : ∀ (j k : Nat) (S T : VM), Ss[j]? = some S → Ss[k]? = some T → S.owner → T.owner → j = k
theorem set_get {α : Type} {l : List α} {k j : Nat} {a b : α} (h : (l.set k a)[j]? = some b) (hk : k < l.length) : (j = k ∧ b = a) ∨ (j ≠ k ∧ l[j]? = some b) := by
  by_cases e : j = k
  · subst e
    rw [List.getElem?_set_self hk] at h
    exact .inl ⟨rfl, (Option.some.inj h).symm⟩
  · rw [List.getElem?_set_ne (fun c => e c.symm)] at h
    exact .inr ⟨e, h⟩
theorem sMeets_st {x : Int} {push : Bool} (h : sMeets x push = true) : sSt x = sWaits (!push) := by unfold sMeets at h; simpa using h
theorem VI.owner_waits {n : Nat} {x : Int} {push : Bool} {i : Int} {S : VM} {c : Nat} (h : VI n x push i S c) (ho : S.owner) : ∃ w, Waits x w push i := by
  cases h with
  | first => exact absurd ho.2 (by simp)
  | claim w h0 h1 h2 => exact absurd ho.2 (by simp)
  | offer w h0 h1 h2 => exact absurd ho.2 (by simp)
  | look w l c h0 h1 h2 => exact ⟨w, h2⟩
  | again w h1 h2 => exact ⟨w, h2⟩
  | withdraw w h2 => exact ⟨w, h2⟩
  | found w l c h1 h3 h4 h5 h2 => exact ⟨w, h2⟩
  | over S c h0 h1 h2 h3 h4 => exact absurd ho.1 (by omega)
theorem VsI.step {n : Nat} {P : Nat → Bool} {x : Int} {Ss : List VM} {cs : List Nat} (h : VsI n P x Ss cs) (hn1 : 1 ≤ n) (hn : n ≤ 64) {k : Nat} {S : VM} {c : Nat} (hS : Ss[k]? = some S) (hc : cs[k]? = some c) :
    ∃ r S' x' nt, S.step [x] 0 = ⟨r, S', [x'], nt⟩ ∧ r = S'.st ∧ VI n x' (P k) ((k : Int) + 1) S' (if S.st = 0 then c + 1 else c) ∧ Deed x (P k) ((k : Int) + 1) S x' S' ∧ S'.push = P k ∧ VsI n P x' (Ss.set k S') (cs.set k (if S.st = 0 then c + 1 else c)) ∧ (S.st = 0 → nt.length = 1) ∧ (S.st ≠ 0 → S' = S ∧ nt = []) := by
  have hk : k < Ss.length := (List.getElem?_eq_some_iff.1 hS).1
  have hkc : k < cs.length := (List.getElem?_eq_some_iff.1 hc).1
  have few := h.few
  obtain ⟨r, S', x', nt, e, er, x0, x1, hd, hp, hv, h1, h2⟩ := (h.each k S c hS hc).step hn1 hn (by omega) (by omega) h.x0 h.x1
  refine ⟨r, S', x', nt, e, er, hv, hd, hp, ⟨x0, x1, by simpa using h.len, by simpa using h.few, ?_, ?_⟩, h1, h2⟩
  · intro j T d hT hd'
    rcases set_get hT hk with ⟨rfl, rfl⟩ | ⟨hj, hT⟩
    · rcases set_get hd' hkc with ⟨_, rfl⟩ | ⟨hj, _⟩
      · exact hv
      · exact (hj rfl).elim
    rcases set_get hd' hkc with ⟨rfl, _⟩ | ⟨_, hd'⟩
    · exact (hj rfl).elim
    have hT' := h.each j T d hT hd'
    cases hd with
    | none e1 _ _ _ => subst e1; exact hT'
    | meets g1 g2 g3 g4 g5 g6 g7 =>
      by_cases ho : T.owner
      · have hw := sMeets_st g5
        have h3 : sSt x ≠ 3 := by rw [hw]; cases P k <;> decide
        have h4 : P j = !P k := by
          obtain ⟨w, hw'⟩ := hT'.owner_waits ho
          rcases hw'.or_ with e2 | e2
          · have h5 := hw'.st
            rw [← e2, hw] at h5
            revert h5
            cases P j <;> cases P k <;> decide
          · exact (h3 e2.1).elim
        refine hT'.met ho h3 (by rw [g6]; exact sSt_claim) (by rw [g6]; exact sTp_claim) fun hp2 => ?_
        have h6 : P k = false := by
          rw [hp2] at h4
          cases hq : P k with
          | false => rfl
          | true => rw [hq] at h4; cases h4
        rw [g6, sIx_claim (by omega) (by omega), h6]
        rfl
      · exact hT'.other ho
    | begins g1 g2 g3 g4 => exact hT'.other fun ho => hT'.owner_st ho g3
    | leaves T0 g1 g2 g3 g4 => exact hT'.other fun ho => hj (h.uniq j k T S hT hS ho g1)
  · intro i j A B hA hB oA oB
    have key : ∀ j T, Ss[j]? = some T → j ≠ k → T.owner → S'.owner → False := by
      intro j T hT hj ho hs'
      cases hd with
      | none _ _ g _ => exact hj (h.uniq j k T S hT hS ho (g hs'))
      | meets _ g _ _ _ _ _ => exact g hs'
      | begins _ _ g _ =>
        have hlt : j < cs.length := by rw [h.len]; exact (List.getElem?_eq_some_iff.1 hT).1
        exact (h.each j T cs[j] hT (List.getElem?_eq_getElem hlt)).owner_st ho g
      | leaves T0 _ g _ _ => exact g hs'
    rcases set_get hA hk with ⟨e1, e2⟩ | ⟨hi, hA2⟩
    · rcases set_get hB hk with ⟨e3, e4⟩ | ⟨hj, hB2⟩
      · rw [e1, e3]
      · exact (key j B hB2 hj oB (e2 ▸ oA)).elim
    · rcases set_get hB hk with ⟨e3, e4⟩ | ⟨hj, hB2⟩
      · exact (key i A hA2 hi oA (e4 ▸ oB)).elim
      · exact h.uniq i j A B hA2 hB2 oA oB
theorem VsI.new (n : Nat) (P : Nat → Bool) (x : Int) (m : Nat) (x0 : 0 ≤ x) (x1 : x < 18446744073709551616) (hm : m ≤ 12) : VsI n P x ((List.range m).map fun k => (⟨0, P k, (k : Int) + 1, bigD, n, 0, .first, 0, false⟩ : VM)) (List.replicate m 0) := by
  have get : ∀ k S, ((List.range m).map fun k => (⟨0, P k, (k : Int) + 1, bigD, n, 0, .first, 0, false⟩ : VM))[k]? = some S → S = (⟨0, P k, (k : Int) + 1, bigD, n, 0, .first, 0, false⟩ : VM) := fun k S h => by
    rw [List.getElem?_map] at h
    by_cases hk : k < m
    · rw [List.getElem?_range hk] at h
      exact (Option.some.inj h).symm
    · rw [List.getElem?_eq_none (by simpa using Nat.le_of_not_lt hk)] at h
      cases h
  refine ⟨x0, x1, by simp, by simpa using hm, fun k S c hS hc => ?_, fun j k S T hS hT oS oT => ?_⟩
  · obtain rfl := get k S hS
    obtain rfl : c = 0 := by
      have := List.getElem?_eq_some_iff.1 hc
      obtain ⟨h1, h2⟩ := this
      rw [List.getElem_replicate] at h2
      exact h2.symm
    exact .first
  · obtain rfl := get j S hS
    exact absurd oS.2 (by simp)
end Go.Proofs.Ythnjeiandfdpgaa
