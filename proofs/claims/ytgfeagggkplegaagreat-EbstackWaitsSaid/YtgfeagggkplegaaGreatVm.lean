/-
  A visit as a machine of numbers: what a step tells, and leaves. No program here.
-/
import Derived.Test.YtgfeagggkplegaaGreatVisitC
import Derived.Test.YtgfeagggkplegaaGreatNoteN
namespace Go.Proofs.YtgfeagggkplegaaGreat
open Go.RowKit
set_option linter.unusedVariables false
set_option linter.unusedSimpArgs false

inductive VPh where
  | first
  | claim
  | offer
  | look
  | withdraw
  | found (y : Int)
structure VM where
  at_ : Int
  push : Bool
  i : Int
  d : Int
  looks : Int
  w : Int
  ph : VPh
  st : Int
  off : Bool
structure VOut where
  r : Int
  S : VM
  ws : List Int
  nt : List Note
/-- What is told beside the status. -/
def VM.told (S : VM) (r : Int) : Int := if r = 1 ∧ S.push = false then S.i else 0
/-- A step at a place that is there. -/
def VM.go (S : VM) (ws : List Int) (a : Nat) (now : Int) : VOut :=
  match S.ph with
  | .first =>
    let y := rdW ws a
    if sMeets y S.push = true then ⟨0, { S with w := y, ph := .claim }, ws, [ldN a y]⟩
    else if sSt y = 0 then ⟨0, { S with w := y, ph := .offer }, ws, [ldN a y]⟩
    else ⟨3, { S with w := y, st := 3 }, ws, [ldN a y]⟩
  | .claim =>
    let y := rdW ws a
    let v := sClaim S.w S.push S.i
    if y = S.w then ⟨1, { S with i := sIx v, st := 1 }, ws.set a v, [swN a y v]⟩ else ⟨3, { S with st := 3 }, ws, [noN a y]⟩
  | .offer =>
    let y := rdW ws a
    let v := sOffer S.w S.push S.i
    if y = S.w then ⟨0, { S with w := v, off := true, ph := .look }, ws.set a v, [swN a y v]⟩ else ⟨3, { S with st := 3 }, ws, [noN a y]⟩
  | .look =>
    let y := rdW ws a
    if y = S.w then
      if S.looks - 1 ≤ 0 ∨ S.d ≤ now then ⟨0, { S with looks := S.looks - 1, ph := .withdraw }, ws, [ldN a y]⟩
      else ⟨0, { S with looks := S.looks - 1 }, ws, [ldN a y]⟩
    else if sSt y = 3 ∧ sTp y = sTp S.w then ⟨0, { S with i := sIx y, ph := .found y }, ws, [ldN a y]⟩
    else ⟨5, { S with st := 5 }, ws, [ldN a y]⟩
  | .withdraw =>
    let y := rdW ws a
    let v := sClear S.w
    if y = S.w then ⟨4, { S with ph := .look, st := 4 }, ws.set a v, [swN a y v]⟩ else ⟨0, { S with ph := .look }, ws, [noN a y]⟩
  | .found x =>
    let y := rdW ws a
    let v := sClear x
    ⟨1, { S with st := 1 }, ws.set a v, [stN a y v]⟩
def VM.step (S : VM) (ws : List Int) (now : Int) : VOut :=
  if S.st ≠ 0 then ⟨S.st, S, ws, []⟩
  else if S.at_ < 0 ∨ (ws.length : Int) ≤ S.at_ then ⟨5, { S with st := 5 }, ws, []⟩
  else S.go ws S.at_.toNat now
def phOk (ph : VPh) (w : Int) (push : Bool) : Prop := match ph with | .claim => sMeets w push = true | .offer => sSt w = 0 | .found y => 0 ≤ y ∧ y < 18446744073709551616 | _ => True
/-- Numbers that fit; what each phase has. -/
structure VM.ok (S : VM) (N k : Nat) : Prop where
  i0 : 0 ≤ S.i
  i1 : S.i < 4294967296
  d0 : 0 ≤ S.d
  d1 : S.d < 18446744073709551616
  w0 : 0 ≤ S.w
  w1 : S.w < 18446744073709551616
  l0 : 0 ≤ S.looks + k
  l1 : S.looks ≤ 9223372036854775807
  pl : S.st = 0 → S.ph ≠ .first → 0 ≤ S.at_ ∧ S.at_ < N
  of : S.off = true → S.ph ≠ .first
  ph : phOk S.ph S.w S.push
theorem VM.ok.more {S : VM} {N k k' : Nat} (h : S.ok N k) (hk : k ≤ k') : S.ok N k' := ⟨h.i0, h.i1, h.d0, h.d1, h.w0, h.w1, by have := h.l0; omega, h.l1, h.pl, h.of, h.ph⟩
theorem sClaim_ix {x i : Int} {push : Bool} : 0 ≤ sIx (sClaim x push i) ∧ sIx (sClaim x push i) < 4294967296 := by have := sIx_rng (sClaim x push i); omega
theorem VM.go_len (S : VM) (ws : List Int) (a : Nat) (now : Int) : (S.go ws a now).ws.length = ws.length := by
  unfold VM.go
  split <;> dsimp only <;> (repeat' split) <;> first | rfl | simp
theorem VM.step_len (S : VM) (ws : List Int) (now : Int) : (S.step ws now).ws.length = ws.length := by
  unfold VM.step
  split
  · rfl
  split
  · rfl
  · exact VM.go_len _ _ _ _
theorem VM.go_ok {S : VM} {ws : List Int} {k : Nat} {a : Nat} (now : Int) (h : S.ok ws.length k) (hst : S.st = 0) (hat : S.at_ = a) (ha : a < ws.length) (hr : 0 ≤ rdW ws a ∧ rdW ws a < 18446744073709551616) :
    (S.go ws a now).S.ok ws.length (k + (S.go ws a now).nt.length) := by
  have pl : ∀ T : VM, T.at_ = S.at_ → (T.st = 0 → T.ph ≠ .first → 0 ≤ T.at_ ∧ T.at_ < ws.length) := fun T e _ _ => by rw [e, hat]; omega
  have of : ∀ T : VM, T.ph ≠ .first → (T.off = true → T.ph ≠ .first) := fun T h _ => h
  have l0 := h.l0
  have hix := sIx_rng (rdW ws a)
  have ph := h.ph
  unfold VM.go
  cases e : S.ph with
  | first =>
    simp only
    split
    · rename_i c
      exact ⟨h.i0, h.i1, h.d0, h.d1, hr.1, hr.2, by simp; omega, h.l1, pl _ rfl, of _ (by simp [e]), c⟩
    split
    · rename_i c
      exact ⟨h.i0, h.i1, h.d0, h.d1, hr.1, hr.2, by simp; omega, h.l1, pl _ rfl, of _ (by simp [e]), c⟩
    · exact ⟨h.i0, h.i1, h.d0, h.d1, hr.1, hr.2, by simp; omega, h.l1, pl _ rfl, (fun c => absurd e (h.of c)), trivial⟩
  | claim =>
    have hc := @sClaim_ix S.w S.i S.push
    simp only
    rw [e] at ph
    split
    · exact ⟨hc.1, hc.2, h.d0, h.d1, h.w0, h.w1, by simp; omega, h.l1, pl _ rfl, of _ (by simp [e]), ph⟩
    · exact ⟨h.i0, h.i1, h.d0, h.d1, h.w0, h.w1, by simp; omega, h.l1, pl _ rfl, of _ (by simp [e]), ph⟩
  | offer =>
    have ho := @sOffer_rng S.w S.i S.push h.w0 h.w1
    simp only
    rw [e] at ph
    split
    · exact ⟨h.i0, h.i1, h.d0, h.d1, ho.1, ho.2, by simp; omega, h.l1, pl _ rfl, of _ (by simp [e]), trivial⟩
    · exact ⟨h.i0, h.i1, h.d0, h.d1, h.w0, h.w1, by simp; omega, h.l1, pl _ rfl, of _ (by simp [e]), ph⟩
  | look =>
    simp only
    have l1 := h.l1
    split
    · split
      · exact ⟨h.i0, h.i1, h.d0, h.d1, h.w0, h.w1, by simp; omega, by simp only; omega, pl _ rfl, of _ (by simp [e]), trivial⟩
      · exact ⟨h.i0, h.i1, h.d0, h.d1, h.w0, h.w1, by simp; omega, by simp only; omega, pl _ rfl, of _ (by simp [e]), trivial⟩
    split
    · exact ⟨hix.1, by simp only; omega, h.d0, h.d1, h.w0, h.w1, by simp; omega, h.l1, pl _ rfl, of _ (by simp [e]), hr⟩
    · exact ⟨h.i0, h.i1, h.d0, h.d1, h.w0, h.w1, by simp; omega, h.l1, pl _ rfl, of _ (by simp [e]), trivial⟩
  | withdraw =>
    simp only
    split
    · exact ⟨h.i0, h.i1, h.d0, h.d1, h.w0, h.w1, by simp; omega, h.l1, pl _ rfl, of _ (by simp [e]), trivial⟩
    · exact ⟨h.i0, h.i1, h.d0, h.d1, h.w0, h.w1, by simp; omega, h.l1, pl _ rfl, of _ (by simp [e]), trivial⟩
  | found y =>
    rw [e] at ph
    exact ⟨h.i0, h.i1, h.d0, h.d1, h.w0, h.w1, by simp; omega, h.l1, pl _ rfl, of _ (by simp [e]), ph⟩
theorem VM.step_ok {S : VM} {ws : List Int} {k : Nat} (now : Int) (h : S.ok ws.length k) (hr : ∀ i, i < ws.length → 0 ≤ rdW ws i ∧ rdW ws i < 18446744073709551616) :
    (S.step ws now).S.ok ws.length (k + (S.step ws now).nt.length) := by
  unfold VM.step
  split
  · exact h
  split
  · exact ⟨h.i0, h.i1, h.d0, h.d1, h.w0, h.w1, h.l0, h.l1, fun e => by simp at e, h.of, h.ph⟩
  · rename_i c1 c2
    exact VM.go_ok now h (by simpa using c1) (by omega) (by omega) (hr _ (by omega))

/-- A visit in the heap. -/
def visA (p : Nat) (S : VM) : Asn :=
  match S.ph with
  | .first => vB p S.at_ S.push S.i S.d S.looks S.w (.func (.func 177) #[.pointer (some ⟨p, 0, none⟩)] #[]) S.st S.off
  | .claim => vB p S.at_ S.push S.i S.d S.looks S.w (.func (.func 184) #[.pointer (some ⟨p, 0, none⟩)] #[]) S.st S.off
  | .offer => vB p S.at_ S.push S.i S.d S.looks S.w (.func (.func 186) #[.pointer (some ⟨p, 0, none⟩)] #[]) S.st S.off
  | .look => vB p S.at_ S.push S.i S.d S.looks S.w (.func (.func 191) #[.pointer (some ⟨p, 0, none⟩)] #[]) S.st S.off
  | .withdraw => vB p S.at_ S.push S.i S.d S.looks S.w (.func (.func 196) #[.pointer (some ⟨p, 0, none⟩)] #[]) S.st S.off
  | .found y => exA fun b : Nat × Nat => starA [vB p S.at_ S.push S.i S.d S.looks S.w (.func (.func 197) #[] #[.pointer (some ⟨b.1, 0, none⟩), .pointer (some ⟨b.2, 0, none⟩)]) S.st S.off, bxP b.1 p, bxU b.2 y]
theorem St.star3 {w0 w : World} {m a b c : Asn} {l : List Asn} (h : St w0 (m :: a :: b :: c :: l) w) : St w0 (m :: starA [a, b, c] :: l) w := by
  have h1 : St w0 ([a, b, c] ++ m :: l) w := h.perm ((List.Perm.swap a m _).trans (((List.Perm.swap b m _).trans ((List.Perm.swap c m _).cons b)).cons a))
  exact h1.star.swap
theorem St.unstar3 {w0 w : World} {m a b c : Asn} {l : List Asn} (h : St w0 (m :: starA [a, b, c] :: l) w) : St w0 (m :: a :: b :: c :: l) w := by
  have h1 : St w0 ([a, b, c] ++ m :: l) w := h.swap.unstar
  exact h1.perm ((List.Perm.swap a m _).trans (((List.Perm.swap b m _).trans ((List.Perm.swap c m _).cons b)).cons a)).symm
theorem St.ex1 {w0 w : World} {α : Type} {m : Asn} {f : α → Asn} {l : List Asn} (h : St w0 (m :: exA f :: l) w) : ∃ x, St w0 (m :: f x :: l) w := by
  obtain ⟨x, hx⟩ := h.swap.ex
  exact ⟨x, hx.swap⟩
theorem St.unex1 {w0 w : World} {α : Type} {m : Asn} {f : α → Asn} {l : List Asn} (x : α) (h : St w0 (m :: f x :: l) w) : St w0 (m :: exA f :: l) w := (h.swap.unex x).swap
theorem visA_found {w0 w : World} {m : Asn} {l : List Asn} {p b3 b4 : Nat} {a : Int} {push : Bool} {i d lk x st : Int} {off : Bool} {y : Int}
    (h : St w0 (m :: vB p a push i d lk x (.func (.func 197) #[] #[.pointer (some ⟨b3, 0, none⟩), .pointer (some ⟨b4, 0, none⟩)]) st off :: bxP b3 p :: bxU b4 y :: l) w) : St w0 (m :: visA p ⟨a, push, i, d, lk, x, .found y, st, off⟩ :: l) w :=
  h.star3.unex1 (b3, b4)
end Go.Proofs.YtgfeagggkplegaaGreat
