/-
  ebstack's Op as a machine of numbers.
-/
import Derived.Test.YtgfeagggkplegaaGreatArO
import Derived.Test.YtgfeagggkplegaaGreatElimM
namespace Go.Proofs.YtgfeagggkplegaaGreat
open Go.RowKit
set_option linter.unusedVariables false
set_option linter.unusedSimpArgs false

/-- The part that an operation is at. -/
inductive OPart where
  | take (A : AM)
  | give (A : AM)
  | tk (T : TM)
  | visit (E : EM)
  | acc (at_ : Int) (write : Bool)
structure OM where
  n : Int
  s : Int
  h : Int
  t : Int
  bud : Int
  base : Int
  wait : Int
  shelf : List Int
  rg : Int
  ex : Int
  push : Bool
  v : Int
  i : Int
  failed : Int
  part : OPart
  st : Int
  retry : Bool
structure OOut where
  r : Int
  S : OM
  ws : List Int
  nt : List Note
  ds : List Int
/-- The place of a node's value. -/
def valI (n s h i : Int) : Int := if i = 0 then -1 else atI n s h 0 (2 * (i - 1) + 1)
def OM.value (S : OM) (i : Int) : Int := valI S.n S.s S.h i
def OM.core (S : OM) : OM := { S with part := .tk (if S.push = true then newGv S.n S.s S.h S.t 0 S.i else newTk S.n S.s S.h S.t 0) }
def OM.back (S : OM) : OM := { S with part := .give (newAG S.n S.s S.h S.t S.bud S.shelf S.i) }
def OM.has (S : OM) (i : Int) : OM := { S with i := i, part := .acc (S.value i) false }
def OM.goesV (S : OM) : OM := { S with part := .visit (newEM S.n S.s S.h S.t S.rg S.ex S.push S.i S.base S.wait) }
def OM.more (S : OM) : OM := { S with failed := S.failed + 1 }
def OM.contR (S : OM) : Int := if S.bud < S.failed + 1 ∧ S.push = false then 6 else 0
def OM.contS (S : OM) : OM :=
  if S.bud < S.failed + 1 then (if S.push = true then { S.more with retry := true : OM }.back else S.more)
  else if S.s = 0 then S.more.core else S.more.goesV
def OM.took (S : OM) (A : AM) (ws ds : List Int) : OOut :=
  let o := A.step ws
  if o.r = 1 then ⟨0, { S with shelf := o.S.shelf, i := o.z, part := .acc (S.value o.z) true }, o.ws, o.nt, ds⟩
  else ⟨o.r, { S with shelf := o.S.shelf, part := .take o.S }, o.ws, o.nt, ds⟩
def OM.accd (S : OM) (a : Int) (wr : Bool) (ws ds : List Int) : OOut :=
  if a < 0 ∨ (ws.length : Int) ≤ a then ⟨5, S, ws, [], ds⟩
  else if wr = true then ⟨0, S.core, ws.set a.toNat S.v, [stN a.toNat (rdW ws a.toNat) S.v], ds⟩
  else ⟨0, { S with v := rdW ws a.toNat : OM }.back, ws, [ldN a.toNat (rdW ws a.toNat)], ds⟩
def OM.gave (S : OM) (A : AM) (ws ds : List Int) : OOut :=
  let o := A.step ws
  if o.r = 1 then ⟨if S.retry = true then 6 else 1, { S with shelf := o.S.shelf, i := 0, part := .give o.S }, o.ws, o.nt, ds⟩
  else ⟨o.r, { S with shelf := o.S.shelf, part := .give o.S }, o.ws, o.nt, ds⟩
def OM.tried (S : OM) (T : TM) (ws ds : List Int) : OOut :=
  let o := T.step ws
  let S1 : OM := { S with part := .tk o.S }
  if o.r = 3 then ⟨S.contR, S1.contS, o.ws, o.nt, ds⟩
  else if o.r ≠ 1 then ⟨o.r, S1, o.ws, o.nt, ds⟩
  else if S.push = true then ⟨1, { S1 with i := 0 }, o.ws, o.nt, ds⟩
  else ⟨0, S1.has (o.S.told o.r), o.ws, o.nt, ds⟩
def OM.visited (S : OM) (E : EM) (ws : List Int) (now : Int) (ds : List Int) : OOut :=
  let o := E.step ws now ds
  let S1 : OM := { S with rg := o.S.rg, ex := o.S.ex, part := .visit o.S }
  if o.r = 0 ∨ o.r = 5 then ⟨o.r, S1, o.ws, o.nt, o.ds⟩
  else if o.r ≠ 1 then ⟨0, S1.core, o.ws, o.nt, o.ds⟩
  else if S.push = true then ⟨1, { S1 with i := 0 }, o.ws, o.nt, o.ds⟩
  else ⟨0, S1.has o.z, o.ws, o.nt, o.ds⟩
/-- A step of the part. -/
def OM.pstep (S : OM) (ws : List Int) (now : Int) (ds : List Int) : OOut :=
  match S.part with
  | .take A => S.took A ws ds
  | .give A => S.gave A ws ds
  | .tk T => S.tried T ws ds
  | .visit E => S.visited E ws now ds
  | .acc a wr => S.accd a wr ws ds
def OM.step (S : OM) (ws : List Int) (now : Int) (ds : List Int) : OOut :=
  if S.st ≠ 0 then ⟨S.st, S, ws, [], ds⟩
  else
    let o := S.pstep ws now ds
    ⟨o.r, { o.S with st := o.r }, o.ws, o.nt, o.ds⟩
/-- The word that is told. -/
def OM.told (S : OM) (r : Int) : Int := if S.push = true ∨ r ≠ 1 then 0 else S.v
/-- A slot's index. -/
def OM.heldI (S : OM) (ws : List Int) : Int :=
  match S.part with
  | .visit E => if S.st = 0 ∧ E.met ws = true then (if S.push = true then 0 else sIx (rdW ws E.pl.toNat)) else S.i
  | _ => S.i
def OM.held (S : OM) (ws : List Int) : List Int := if S.heldI ws = 0 then [] else [S.heldI ws]
/-- A part's numbers fit. -/
def OPart.ok (P : OPart) (S : OM) (N k : Nat) : Prop :=
  match P with
  | .take A => A.ok N ∧ A.give = false ∧ A.shelf = S.shelf ∧ A.st = 0 ∧ S.push = true ∧ S.failed ≤ S.bud
  | .give A => A.ok N ∧ A.give = true ∧ A.shelf = S.shelf ∧ A.st = 0
  | .tk T => T.ok N ∧ T.give = S.push ∧ S.failed ≤ S.bud
  | .visit E => E.ok N k ∧ E.rg = S.rg ∧ E.ex = S.ex ∧ S.failed ≤ S.bud
  | .acc _ wr => wr = S.push ∧ S.failed ≤ S.bud
/-- An operation's numbers fit, in a memory of N words of which k accesses are noted. -/
structure OM.ok (S : OM) (N k : Nat) : Prop where
  v0 : 0 ≤ S.v
  v1 : S.v < 18446744073709551616
  i0 : 0 ≤ S.i
  i1 : S.i < 4294967296
  sl : S.shelf.length ≤ 1000000000000
  srg : ∀ x ∈ S.shelf, 0 ≤ x ∧ x < 4294967296
  live : S.st = 0 → S.shelf.length < 1000000000000 ∧ 0 ≤ S.failed ∧ S.failed ≤ 17 ∧ S.bud ≤ 16 ∧ -9223372036854775808 ≤ S.base ∧ S.base < 9223372036854775808 ∧ 0 ≤ S.wait ∧ S.wait < 18446744073709551616 ∧ S.part.ok S N k
  mt : S.st ≠ 0 → ∀ E, S.part = .visit E → E.ok N k
theorem OPart.ok.more {P : OPart} {S : OM} {N k k' : Nat} (h : P.ok S N k) (hk : k ≤ k') : P.ok S N k' := by
  cases P with
  | visit E => exact ⟨EM.ok.more h.1 hk, h.2⟩
  | take A => exact h
  | give A => exact h
  | tk T => exact h
  | acc a wr => exact h
theorem OM.ok.more {S : OM} {N k k' : Nat} (h : S.ok N k) (hk : k ≤ k') : S.ok N k' :=
  ⟨h.v0, h.v1, h.i0, h.i1, h.sl, h.srg, fun e => by
    obtain ⟨a, b, c, d, e, f, g, i, j⟩ := h.live e
    exact ⟨a, b, c, d, e, f, g, i, j.more hk⟩, fun e E q => (h.mt e E q).more hk⟩
theorem AM.take_shelf_le {S : AM} {ws : List Int} (h : S.ok ws.length) (hr : ∀ i, i < ws.length → 0 ≤ rdW ws i ∧ rdW ws i < 18446744073709551616) (hg : S.give = false) :
    (S.step ws).S.shelf.length ≤ S.shelf.length ∧ ∀ x ∈ (S.step ws).S.shelf, x ∈ S.shelf := by
  have h1 := (AM.goOn_ok h hr).2.1.2.1
  unfold AM.step
  rw [hg]
  simp only [Bool.false_eq_true, if_false]
  unfold AM.take
  split
  · refine ⟨by simp, fun x hx => List.dropLast_subset _ hx⟩
  · rw [h1]; exact ⟨Nat.le_refl _, fun x hx => hx⟩
theorem VM.told_rng {S : VM} {N k : Nat} (h : S.ok N k) (r : Int) : 0 ≤ S.told r ∧ S.told r < 4294967296 := by
  unfold VM.told
  split
  · exact ⟨h.i0, h.i1⟩
  · exact ⟨Int.le_refl _, by decide⟩
theorem EM.run_z {S : EM} {V : VM} {ws : List Int} {k : Nat} (now : Int) (ds : List Int) (hV : V.ok ws.length k) (hr : ∀ i, i < ws.length → 0 ≤ rdW ws i ∧ rdW ws i < 18446744073709551616) : 0 ≤ (S.run V ws now ds).z ∧ (S.run V ws now ds).z < 4294967296 :=
  VM.told_rng (VM.step_ok now hV hr) _
theorem EM.step_z {S : EM} {ws : List Int} {k : Nat} {now : Int} (ds : List Int) (h : S.ok ws.length k) (n0 : 0 ≤ now) (n1 : now < 18446744073709551616) (hr : ∀ i, i < ws.length → 0 ≤ rdW ws i ∧ rdW ws i < 18446744073709551616) :
    0 ≤ (S.step ws now ds).z ∧ (S.step ws now ds).z < 4294967296 := by
  unfold EM.step
  split
  · exact ⟨Int.le_refl _, by show (0 : Int) < _; decide⟩
  cases e : S.V with
  | some V => exact EM.run_z now ds (h.vok V e).1 hr
  | none =>
    dsimp only
    split
    · exact EM.run_z now _ (EM.first_ok h ds n0 n1) hr
    · exact ⟨Int.le_refl _, by show (0 : Int) < _; decide⟩
theorem EM.step_len (S : EM) (ws : List Int) (now : Int) (ds : List Int) : (S.step ws now ds).ws.length = ws.length := by
  unfold EM.step
  split
  · rfl
  split
  · exact VM.step_len _ _ _
  split
  · exact VM.step_len _ _ _
  · rfl
theorem OM.core_ok {S : OM} {N k : Nat} (hf : S.failed ≤ S.bud) (i0 : 0 ≤ S.i) (i1 : S.i < 4294967296) : S.core.part.ok S.core N k := by
  unfold OM.core
  dsimp only
  by_cases c : S.push = true
  · rw [if_pos c]
    exact ⟨newGv_ok _ _ _ _ _ i0 i1 N, c.symm, hf⟩
  · rw [if_neg c]
    exact ⟨newTk_ok _ _ _ _ _ N, (show S.push = false by simpa using c).symm, hf⟩
/-- What holds of an operation that goes on. -/
structure OM.good (S : OM) : Prop where
  v0 : 0 ≤ S.v
  v1 : S.v < 18446744073709551616
  i0 : 0 ≤ S.i
  i1 : S.i < 4294967296
  sl : S.shelf.length < 1000000000000
  srg : ∀ x ∈ S.shelf, 0 ≤ x ∧ x < 4294967296
  f0 : 0 ≤ S.failed
  f1 : S.failed ≤ 17
  b1 : S.bud ≤ 16
  x0 : -9223372036854775808 ≤ S.base
  x1 : S.base < 9223372036854775808
  w0 : 0 ≤ S.wait
  w1 : S.wait < 18446744073709551616
theorem OM.ok.good {S : OM} {N k : Nat} (h : S.ok N k) (hst : S.st = 0) : S.good := by
  obtain ⟨a, b, c, d, e, f, g, i, _⟩ := h.live hst
  exact ⟨h.v0, h.v1, h.i0, h.i1, a, h.srg, b, c, d, e, f, g, i⟩
theorem OM.good.ok {S : OM} {N k : Nat} (h : S.good) (hp : S.part.ok S N k) : S.ok N k :=
  ⟨h.v0, h.v1, h.i0, h.i1, Nat.le_of_lt h.sl, h.srg, fun _ => ⟨h.sl, h.f0, h.f1, h.b1, h.x0, h.x1, h.w0, h.w1, hp⟩, fun _ E e => by rw [e] at hp; exact hp.1⟩
theorem OPart.ok_st {P : OPart} {S : OM} {N k : Nat} (r : Int) (h : P.ok S N k) : P.ok { S with st := r } N k := by
  cases P <;> exact h
theorem OM.good.st {S : OM} (h : S.good) (r : Int) : ({ S with st := r } : OM).good := ⟨h.v0, h.v1, h.i0, h.i1, h.sl, h.srg, h.f0, h.f1, h.b1, h.x0, h.x1, h.w0, h.w1⟩
/-- Goes on, or ended. -/
theorem OM.good.put {S : OM} {N k : Nat} (r : Int) (h : S.good) (hp : S.part.ok S N k) : ({ S with st := r } : OM).ok N k := (h.st r).ok (OPart.ok_st r hp)
theorem OM.cont_ok {S : OM} {N k : Nat} (g : S.good) (hf : S.failed ≤ S.bud) (hp : ∀ E, S.part ≠ .visit E) : ({ S.contS with st := S.contR } : OM).ok N k := by
  have f0 := g.f0
  have b1 := g.b1
  by_cases c : S.bud < S.failed + 1
  · by_cases d : S.push = true
    · have e1 : S.contS = { S.more with retry := true : OM }.back := by unfold OM.contS; rw [if_pos c, if_pos d]
      have e2 : S.contR = 0 := by unfold OM.contR; rw [if_neg (by simp [d])]
      rw [e1, e2]
      exact OM.good.put 0 (S := { S.more with retry := true : OM }.back) ⟨g.v0, g.v1, g.i0, g.i1, g.sl, g.srg, by show 0 ≤ S.failed + 1; omega, by show S.failed + 1 ≤ 17; omega, g.b1, g.x0, g.x1, g.w0, g.w1⟩ ⟨newAG_ok _ (by show S.bud ≤ _; omega) g.sl g.srg g.i0 g.i1, rfl, rfl, rfl⟩
    · have e1 : S.contS = S.more := by unfold OM.contS; rw [if_pos c, if_neg d]
      have e2 : S.contR = 6 := by unfold OM.contR; rw [if_pos ⟨c, by simpa using d⟩]
      rw [e1, e2]
      exact ⟨g.v0, g.v1, g.i0, g.i1, Nat.le_of_lt g.sl, g.srg, (fun c => by cases c), fun _ E c => absurd c (hp E)⟩
  · have e2 : S.contR = 0 := by unfold OM.contR; rw [if_neg (fun k => c k.1)]
    have hg : S.more.good := ⟨g.v0, g.v1, g.i0, g.i1, g.sl, g.srg, by show 0 ≤ S.failed + 1; omega, by show S.failed + 1 ≤ 17; omega, g.b1, g.x0, g.x1, g.w0, g.w1⟩
    by_cases d : S.s = 0
    · have e1 : S.contS = S.more.core := by unfold OM.contS; rw [if_neg c, if_pos d]
      rw [e1, e2]
      exact OM.good.put 0 (S := S.more.core) ⟨hg.v0, hg.v1, hg.i0, hg.i1, hg.sl, hg.srg, hg.f0, hg.f1, hg.b1, hg.x0, hg.x1, hg.w0, hg.w1⟩ (OM.core_ok (by show S.failed + 1 ≤ S.bud; omega) g.i0 g.i1)
    · have e1 : S.contS = S.more.goesV := by unfold OM.contS; rw [if_neg c, if_neg d]
      rw [e1, e2]
      exact OM.good.put 0 (S := S.more.goesV) ⟨hg.v0, hg.v1, hg.i0, hg.i1, hg.sl, hg.srg, hg.f0, hg.f1, hg.b1, hg.x0, hg.x1, hg.w0, hg.w1⟩ ⟨newEM_ok _ _ g.i0 g.i1 g.x0 g.x1 g.w0 g.w1, rfl, rfl, by show S.failed + 1 ≤ S.bud; omega⟩
theorem OM.pstep_ok {S : OM} {ws : List Int} {k : Nat} {now : Int} (ds : List Int) (h : S.ok ws.length k) (hst : S.st = 0) (n0 : 0 ≤ now) (n1 : now < 18446744073709551616) (hr : ∀ i, i < ws.length → 0 ≤ rdW ws i ∧ rdW ws i < 18446744073709551616) :
    ({ (S.pstep ws now ds).S with st := (S.pstep ws now ds).r } : OM).ok ws.length (k + (S.pstep ws now ds).nt.length) ∧ (S.pstep ws now ds).ws.length = ws.length := by
  have g := h.good hst
  obtain ⟨_, _, _, _, _, _, _, _, hp⟩ := h.live hst
  unfold OM.pstep
  cases e : S.part with
  | take A =>
    rw [e] at hp
    obtain ⟨p1, p2, p3, p4, p5, p6⟩ := hp
    obtain ⟨q1, q2, q3, q4, q5, _⟩ := AM.step_ok p1 (fun c => by rw [p2] at c; cases c) hr
    obtain ⟨s1, s2⟩ := AM.take_shelf_le p1 hr p2
    rw [p3] at s1 s2
    dsimp only
    unfold OM.took
    dsimp only
    split
    · exact ⟨OM.good.put 0 (S := { S with shelf := (A.step ws).S.shelf, i := (A.step ws).z, part := .acc (S.value (A.step ws).z) true }) ⟨g.v0, g.v1, q4.1, q4.2, Nat.lt_of_le_of_lt s1 g.sl, fun x hx => g.srg x (s2 x hx), g.f0, g.f1, g.b1, g.x0, g.x1, g.w0, g.w1⟩ ⟨p5.symm, p6⟩, q3⟩
    · refine ⟨⟨g.v0, g.v1, g.i0, g.i1, Nat.le_of_lt (Nat.lt_of_le_of_lt s1 g.sl), fun x hx => g.srg x (s2 x hx), fun c => ⟨Nat.lt_of_le_of_lt s1 g.sl, g.f0, g.f1, g.b1, g.x0, g.x1, g.w0, g.w1, q1, q2.trans p2, rfl, q5.trans c, p5, p6⟩, fun _ E c => by cases c⟩, q3⟩
  | give A =>
    rw [e] at hp
    obtain ⟨p1, p2, p3, p4⟩ := hp
    obtain ⟨q1, q2, q3, q4, q5, _⟩ := AM.step_ok p1 (fun _ => by rw [p4]; decide) hr
    dsimp only
    unfold OM.gave
    dsimp only
    split
    · refine ⟨⟨g.v0, g.v1, Int.le_refl _, by show (0 : Int) < _; decide, q1.sl, q1.srg, fun c => ?_, fun _ E c => by cases c⟩, q3⟩
      exfalso
      revert c
      show (if S.retry = true then (6 : Int) else 1) = 0 → False
      split <;> decide
    · exact ⟨⟨g.v0, g.v1, g.i0, g.i1, q1.sl, q1.srg, fun c => ⟨q1.sl2 (q5.trans c), g.f0, g.f1, g.b1, g.x0, g.x1, g.w0, g.w1, q1, q2.trans p2, rfl, q5.trans c⟩, fun _ E c => by cases c⟩, q3⟩
  | tk T =>
    rw [e] at hp
    obtain ⟨p1, p2, p6⟩ := hp
    have q1 := TM.step_ok p1 hr
    have q2 := TM.give_step_eq T ws
    have q3 := TM.step_len T ws
    have q4 := TM.step_z q1 (T.step ws).r
    dsimp only
    unfold OM.tried
    dsimp only
    split
    · exact ⟨OM.cont_ok (S := { S with part := .tk (T.step ws).S }) ⟨g.v0, g.v1, g.i0, g.i1, g.sl, g.srg, g.f0, g.f1, g.b1, g.x0, g.x1, g.w0, g.w1⟩ p6 (fun E c => by cases c), q3⟩
    split
    · exact ⟨OM.good.put _ (S := { S with part := .tk (T.step ws).S }) ⟨g.v0, g.v1, g.i0, g.i1, g.sl, g.srg, g.f0, g.f1, g.b1, g.x0, g.x1, g.w0, g.w1⟩ ⟨q1, q2.trans p2, p6⟩, q3⟩
    split
    · exact ⟨OM.good.put _ (S := { S with part := .tk (T.step ws).S, i := 0 }) ⟨g.v0, g.v1, Int.le_refl _, by show (0 : Int) < _; decide, g.sl, g.srg, g.f0, g.f1, g.b1, g.x0, g.x1, g.w0, g.w1⟩ ⟨q1, q2.trans p2, p6⟩, q3⟩
    · rename_i c
      exact ⟨OM.good.put _ (S := OM.has { S with part := .tk (T.step ws).S } ((T.step ws).S.told (T.step ws).r)) ⟨g.v0, g.v1, q4.1, q4.2, g.sl, g.srg, g.f0, g.f1, g.b1, g.x0, g.x1, g.w0, g.w1⟩ ⟨show false = S.push from (by simpa using c : S.push = false).symm, p6⟩, q3⟩
  | visit E =>
    rw [e] at hp
    obtain ⟨p1, p2, p3, p6⟩ := hp
    have q1 := EM.step_ok ds p1 n0 n1 hr
    have q3 := EM.step_len E ws now ds
    have q4 := EM.step_z ds p1 n0 n1 hr
    dsimp only
    unfold OM.visited
    dsimp only
    split
    · exact ⟨OM.good.put _ (S := { S with rg := (E.step ws now ds).S.rg, ex := (E.step ws now ds).S.ex, part := .visit (E.step ws now ds).S }) ⟨g.v0, g.v1, g.i0, g.i1, g.sl, g.srg, g.f0, g.f1, g.b1, g.x0, g.x1, g.w0, g.w1⟩ ⟨q1, rfl, rfl, p6⟩, q3⟩
    split
    · exact ⟨OM.good.put 0 (S := OM.core { S with rg := (E.step ws now ds).S.rg, ex := (E.step ws now ds).S.ex, part := .visit (E.step ws now ds).S }) ⟨g.v0, g.v1, g.i0, g.i1, g.sl, g.srg, g.f0, g.f1, g.b1, g.x0, g.x1, g.w0, g.w1⟩ (OM.core_ok p6 g.i0 g.i1), q3⟩
    split
    · exact ⟨OM.good.put 1 (S := { S with rg := (E.step ws now ds).S.rg, ex := (E.step ws now ds).S.ex, part := .visit (E.step ws now ds).S, i := 0 }) ⟨g.v0, g.v1, Int.le_refl _, by show (0 : Int) < _; decide, g.sl, g.srg, g.f0, g.f1, g.b1, g.x0, g.x1, g.w0, g.w1⟩ ⟨q1, rfl, rfl, p6⟩, q3⟩
    · rename_i c
      exact ⟨OM.good.put 0 (S := OM.has { S with rg := (E.step ws now ds).S.rg, ex := (E.step ws now ds).S.ex, part := .visit (E.step ws now ds).S } (E.step ws now ds).z) ⟨g.v0, g.v1, q4.1, q4.2, g.sl, g.srg, g.f0, g.f1, g.b1, g.x0, g.x1, g.w0, g.w1⟩ ⟨show false = S.push from (by simpa using c : S.push = false).symm, p6⟩, q3⟩
  | acc a wr =>
    rw [e] at hp
    dsimp only
    unfold OM.accd
    split
    · exact ⟨OM.good.put 5 (S := S) g (by rw [e]; exact hp), rfl⟩
    rename_i ca
    split
    · exact ⟨OM.good.put 0 (S := S.core) ⟨g.v0, g.v1, g.i0, g.i1, g.sl, g.srg, g.f0, g.f1, g.b1, g.x0, g.x1, g.w0, g.w1⟩ (OM.core_ok hp.2 g.i0 g.i1), by simp⟩
    · have hv := hr a.toNat (by omega)
      exact ⟨OM.good.put 0 (S := OM.back { S with v := rdW ws a.toNat }) ⟨hv.1, hv.2, g.i0, g.i1, g.sl, g.srg, g.f0, g.f1, g.b1, g.x0, g.x1, g.w0, g.w1⟩ ⟨newAG_ok _ (by have := g.b1; show S.bud ≤ _; omega) g.sl g.srg g.i0 g.i1, rfl, rfl, rfl⟩, rfl⟩
theorem OM.step_ok {S : OM} {ws : List Int} {k : Nat} {now : Int} (ds : List Int) (h : S.ok ws.length k) (n0 : 0 ≤ now) (n1 : now < 18446744073709551616) (hr : ∀ i, i < ws.length → 0 ≤ rdW ws i ∧ rdW ws i < 18446744073709551616) :
    (S.step ws now ds).S.ok ws.length (k + (S.step ws now ds).nt.length) ∧ (S.step ws now ds).ws.length = ws.length := by
  unfold OM.step
  split
  · exact ⟨h, rfl⟩
  · rename_i c
    exact OM.pstep_ok ds h (by simpa using c) n0 n1 hr
end Go.Proofs.YtgfeagggkplegaaGreat
