/-
  elim.Visit as a machine of numbers: its Step, its State, Place and Met.
-/
import Derived.Test.YtgfeagggkplegaaGreatElimV
namespace Go.Proofs.YtgfeagggkplegaaGreat
open Go.RowKit
set_option linter.unusedVariables false
set_option linter.unusedSimpArgs false

structure EM where
  n : Int
  s : Int
  h : Int
  t : Int
  rg : Int
  ex : Int
  push : Bool
  i : Int
  base : Int
  wait : Int
  pl : Int
  en : Int
  V : Option VM
structure EOut where
  r : Int
  z : Int
  S : EM
  ws : List Int
  nt : List Note
  ds : List Int
def EM.fit (S : EM) : Bool := okC S.n S.s S.h && (S.s != 0) && pOk S.rg S.ex S.s
/-- What a first step makes. -/
def EM.first (S : EM) (now : Int) (ds : List Int) : VM := newVM (atI S.n S.s S.h 1 (drawI ds S.rg)) S.push S.i (dlI now S.wait) (pPolls S.ex S.base)
def EM.run (S : EM) (V : VM) (ws : List Int) (now : Int) (ds : List Int) : EOut :=
  let o := V.step ws now
  ⟨o.r, o.S.told o.r, if S.en = 0 ∧ o.r ≠ 0 then { S with V := some o.S, en := o.r, rg := pAr S.rg S.s o.r, ex := pAe S.ex o.r } else { S with V := some o.S }, o.ws, o.nt, ds⟩
def EM.step (S : EM) (ws : List Int) (now : Int) (ds : List Int) : EOut :=
  if S.en = 2 then ⟨2, 0, S, ws, [], ds⟩
  else match S.V with
  | some V => S.run V ws now ds
  | none => if S.fit = true then { S with pl := atI S.n S.s S.h 1 (drawI ds S.rg) : EM }.run (S.first now ds) ws now (drawR ds S.rg) else ⟨2, 0, { S with en := 2 }, ws, [], ds⟩
def EM.met (S : EM) (ws : List Int) : Bool := match S.V with | none => false | some V => V.met ws
/-- Numbers that fit, in a memory of N words of which k accesses are noted. -/
structure EM.ok (S : EM) (N k : Nat) : Prop where
  i0 : 0 ≤ S.i
  i1 : S.i < 4294967296
  b0 : -9223372036854775808 ≤ S.base
  b1 : S.base < 9223372036854775808
  w0 : 0 ≤ S.wait
  w1 : S.wait < 18446744073709551616
  vok : ∀ V, S.V = some V → V.ok N k ∧ V.at_ = S.pl ∧ V.st ≠ 2
  beg : ∀ V, S.V = some V → S.en ≠ 2 ∧ okC S.n S.s S.h = true ∧ S.s ≠ 0 ∧ pOk S.rg S.ex S.s = true
  non : S.V = none → (S.en = 0 ∨ S.en = 2) ∧ S.pl = -1
theorem EM.ok.more {S : EM} {N k k' : Nat} (h : S.ok N k) (hk : k ≤ k') : S.ok N k' := ⟨h.i0, h.i1, h.b0, h.b1, h.w0, h.w1, fun V e => ⟨(h.vok V e).1.more hk, (h.vok V e).2⟩, h.beg, h.non⟩
theorem pOk_after {r e n st : Int} (h : pOk r e n = true) : pOk (pAr r n st) (pAe e st) n = true := by
  rw [pOk_iff] at h ⊢
  unfold pAr pAe pR pE
  refine ⟨h.1, h.2.1, ?_, ?_, ?_, ?_⟩ <;> omega
theorem VM.go_at (S : VM) (ws : List Int) (a : Nat) (now : Int) : (S.go ws a now).S.at_ = S.at_ := by
  unfold VM.go
  split <;> dsimp only <;> (repeat' split) <;> rfl
theorem VM.step_at (S : VM) (ws : List Int) (now : Int) : (S.step ws now).S.at_ = S.at_ := by
  unfold VM.step
  split
  · rfl
  split
  · rfl
  · exact VM.go_at _ _ _ _
/-- What a visit tells is never that there is nothing. -/
def VM.plain (S : VM) : Prop := S.st ≠ 2
theorem VM.go_r (S : VM) (ws : List Int) (a : Nat) (now : Int) : (S.go ws a now).r ≠ 2 := by
  unfold VM.go
  split <;> dsimp only <;> (repeat' split) <;> simp
theorem VM.go_st (S : VM) (ws : List Int) (a : Nat) (now : Int) (h : S.st = 0) : (S.go ws a now).S.st ≠ 2 ∧ ((S.go ws a now).r = (S.go ws a now).S.st) := by
  unfold VM.go
  split <;> dsimp only <;> (repeat' split) <;> simp [h]
theorem VM.step_r {S : VM} (h : S.st ≠ 2) (ws : List Int) (now : Int) : (S.step ws now).r ≠ 2 ∧ (S.step ws now).S.st ≠ 2 := by
  unfold VM.step
  split
  · exact ⟨h, h⟩
  split
  · simp
  · rename_i h1 _
    have := VM.go_st S ws S.at_.toNat now (by simpa using h1)
    exact ⟨VM.go_r _ _ _ _, this.1⟩
theorem EM.fit_iff {S : EM} : S.fit = true ↔ (okC S.n S.s S.h = true ∧ (S.s == 0) = false ∧ pOk S.rg S.ex S.s = true) := by
  unfold EM.fit
  simp [and_assoc]
theorem EM.first_ok {S : EM} {N k : Nat} (h : S.ok N k) {now : Int} (ds : List Int) (n0 : 0 ≤ now) (n1 : now < 18446744073709551616) : (S.first now ds).ok N k := by
  have hd := dlI_rng n0 n1 h.w0
  have hp := pPolls_rng S.ex S.base
  exact newVM_ok N k h.i0 h.i1 hd.1 hd.2 (by omega)
theorem EM.run_ok {S : EM} {V : VM} {ws : List Int} {k : Nat} (now : Int) (ds : List Int) (hi : 0 ≤ S.i ∧ S.i < 4294967296) (hb : -9223372036854775808 ≤ S.base ∧ S.base < 9223372036854775808) (hw : 0 ≤ S.wait ∧ S.wait < 18446744073709551616) (hV : V.ok ws.length k ∧ V.at_ = S.pl ∧ V.st ≠ 2) (hS : S.en ≠ 2 ∧ okC S.n S.s S.h = true ∧ S.s ≠ 0 ∧ pOk S.rg S.ex S.s = true) (hr : ∀ i, i < ws.length → 0 ≤ rdW ws i ∧ rdW ws i < 18446744073709551616) :
    (S.run V ws now ds).S.ok ws.length (k + (S.run V ws now ds).nt.length) := by
  have h1 := VM.step_ok now hV.1 hr
  have h2 := VM.step_at V ws now
  have h3 := VM.step_r hV.2.2 ws now
  unfold EM.run
  dsimp only
  split
  · exact ⟨hi.1, hi.2, hb.1, hb.2, hw.1, hw.2, fun W e => by cases e; exact ⟨h1, h2.trans hV.2.1, h3.2⟩, fun W e => ⟨h3.1, hS.2.1, hS.2.2.1, pOk_after hS.2.2.2⟩, fun e => by cases e⟩
  · exact ⟨hi.1, hi.2, hb.1, hb.2, hw.1, hw.2, fun W e => by cases e; exact ⟨h1, h2.trans hV.2.1, h3.2⟩, fun W e => hS, fun e => by cases e⟩
theorem EM.step_ok {S : EM} {ws : List Int} {k : Nat} {now : Int} (ds : List Int) (h : S.ok ws.length k) (n0 : 0 ≤ now) (n1 : now < 18446744073709551616) (hr : ∀ i, i < ws.length → 0 ≤ rdW ws i ∧ rdW ws i < 18446744073709551616) :
    (S.step ws now ds).S.ok ws.length (k + (S.step ws now ds).nt.length) := by
  unfold EM.step
  split
  · exact h
  rename_i c2
  cases e : S.V with
  | some V =>
    dsimp only
    exact EM.run_ok now ds ⟨h.i0, h.i1⟩ ⟨h.b0, h.b1⟩ ⟨h.w0, h.w1⟩ (h.vok V e) (h.beg V e) hr
  | none =>
    dsimp only
    split
    · rename_i hf
      obtain ⟨f1, f2, f3⟩ := EM.fit_iff.1 hf
      exact EM.run_ok (S := { S with pl := atI S.n S.s S.h 1 (drawI ds S.rg) }) now _ ⟨h.i0, h.i1⟩ ⟨h.b0, h.b1⟩ ⟨h.w0, h.w1⟩ ⟨EM.first_ok h ds n0 n1, rfl, by show (0 : Int) ≠ 2; decide⟩ ⟨c2, f1, by simpa using f2, f3⟩ hr
    · exact ⟨h.i0, h.i1, h.b0, h.b1, h.w0, h.w1, fun V e' => (by cases e'), fun V e' => (by cases e'), fun _ => ⟨.inr rfl, (h.non e).2⟩⟩

/-- A visit in the heap. -/
def emA (p : Nat) (S : EM) : Asn :=
  match S.V with
  | none => exA fun b : Nat × Nat × Nat × Nat × Nat × Nat × Nat => starA (eB p (.pointer none) S.n S.s S.h S.t S.rg S.ex (eFn b.1 b.2.1 b.2.2.1 b.2.2.2.1 b.2.2.2.2.1 b.2.2.2.2.2.1 b.2.2.2.2.2.2) S.pl S.en :: eBx b.1 b.2.1 b.2.2.1 b.2.2.2.1 b.2.2.2.2.1 b.2.2.2.2.2.1 b.2.2.2.2.2.2 p S.n S.s S.h S.t S.rg S.ex S.push S.i S.wait S.base)
  | some V => exA fun b : Nat × Value => starA [visA b.1 V, eB p (.pointer (some ⟨b.1, 0, none⟩)) S.n S.s S.h S.t S.rg S.ex b.2 S.pl S.en]
theorem emA_none {w0 w : World} {m a : Asn} {L : List Asn} {p : Nat} {S : EM} (hV : S.V = none) (h : St w0 (m :: a :: emA p S :: L) w) :
    ∃ bc bs bv bp bi bw bb, St w0 (m :: a :: eB p (.pointer none) S.n S.s S.h S.t S.rg S.ex (eFn bc bs bv bp bi bw bb) S.pl S.en :: (eBx bc bs bv bp bi bw bb p S.n S.s S.h S.t S.rg S.ex S.push S.i S.wait S.base ++ L)) w := by
  obtain ⟨n, s, hh, t, rg, ex, push, i, base, wait, pl, en, V⟩ := S
  dsimp only at hV
  subst hV
  obtain ⟨⟨bc, bs, bv, bp, bi, bw, bb⟩, h1⟩ := (h.front 2 rfl).ex
  have h2 := h1.unstar
  exact ⟨bc, bs, bv, bp, bi, bw, bb, (h2.front 9 rfl).front 9 rfl⟩
theorem emA_some {w0 w : World} {m a : Asn} {L : List Asn} {p : Nat} {S : EM} {V : VM} (hV : S.V = some V) (h : St w0 (m :: a :: emA p S :: L) w) :
    ∃ v fn, St w0 (m :: a :: visA v V :: eB p (.pointer (some ⟨v, 0, none⟩)) S.n S.s S.h S.t S.rg S.ex fn S.pl S.en :: L) w := by
  obtain ⟨n, s, hh, t, rg, ex, push, i, base, wait, pl, en, V'⟩ := S
  dsimp only at hV
  subst hV
  obtain ⟨⟨v, fn⟩, h1⟩ := (h.front 2 rfl).ex
  have h2 := h1.unstar
  exact ⟨v, fn, (h2.front 3 rfl).front 3 rfl⟩
theorem emA_no {w0 w : World} {m a : Asn} {L : List Asn} {p : Nat} {n s hh t rg ex : Int} {push : Bool} {i base wait pl en : Int} {bc bs bv bp bi bw bb : Nat}
    (h : St w0 (m :: a :: eB p (.pointer none) n s hh t rg ex (eFn bc bs bv bp bi bw bb) pl en :: (eBx bc bs bv bp bi bw bb p n s hh t rg ex push i wait base ++ L)) w) : St w0 (m :: a :: emA p ⟨n, s, hh, t, rg, ex, push, i, base, wait, pl, en, none⟩ :: L) w := by
  have h1 := (((((((h.front 9 rfl).front 9 rfl).front 9 rfl).front 9 rfl).front 9 rfl).front 9 rfl).front 9 rfl).front 9 rfl
  have h2 : St w0 ((eB p (.pointer none) n s hh t rg ex (eFn bc bs bv bp bi bw bb) pl en :: eBx bc bs bv bp bi bw bb p n s hh t rg ex push i wait base) ++ m :: a :: L) w := h1
  have h3 : St w0 (emA p ⟨n, s, hh, t, rg, ex, push, i, base, wait, pl, en, none⟩ :: m :: a :: L) w := h2.star.unex (bc, bs, bv, bp, bi, bw, bb)
  exact (h3.front 2 rfl).front 2 rfl
theorem emA_so {w0 w : World} {m a : Asn} {L : List Asn} {p v : Nat} {n s hh t rg ex : Int} {push : Bool} {i base wait pl en : Int} {V : VM} {fn : Value}
    (h : St w0 (m :: a :: visA v V :: eB p (.pointer (some ⟨v, 0, none⟩)) n s hh t rg ex fn pl en :: L) w) : St w0 (m :: a :: emA p ⟨n, s, hh, t, rg, ex, push, i, base, wait, pl, en, some V⟩ :: L) w := by
  have h1 := (h.front 3 rfl).front 3 rfl
  have h2 : St w0 ([visA v V, eB p (.pointer (some ⟨v, 0, none⟩)) n s hh t rg ex fn pl en] ++ m :: a :: L) w := h1
  have h3 : St w0 (emA p ⟨n, s, hh, t, rg, ex, push, i, base, wait, pl, en, some V⟩ :: m :: a :: L) w := h2.star.unex (v, fn)
  exact (h3.front 2 rfl).front 2 rfl
/-- A visit that is made. -/
def newEM (n s h t rg ex : Int) (push : Bool) (i base wait : Int) : EM := ⟨n, s, h, t, rg, ex, push, i, base, wait, -1, 0, none⟩
theorem em_new {w0 w : World} {m a : Asn} {L : List Asn} (n s h t rg ex : Int) (push : Bool) (i base wait : Int) (hS : St w0 (m :: a :: L) w) :
    Calls Tryz.prog 143 #[.agg #[.int .i64 n, .int .i64 s, .int .i64 h, .int .u32 t], polV rg ex, .bool push, .int .u32 i, .int .i64 base, .int .u64 wait] w fun e w' => ∃ p, e = .returned (.pointer (some ⟨p, 0, none⟩)) ∧ St w0 (m :: a :: emA p (newEM n s h t rg ex push i base wait) :: L) w' :=
  (e_new n s h t rg ex push i base wait hS).mono fun e w' k => by
    obtain ⟨p, bc, bs, bv, bp, bi, bw, bb, he, h1⟩ := k
    exact ⟨p, he, emA_no ((h1.front 9 rfl).front 9 rfl)⟩
theorem newEM_ok {n s h t rg ex : Int} {push : Bool} {i base wait : Int} (N k : Nat) (i0 : 0 ≤ i) (i1 : i < 4294967296) (b0 : -9223372036854775808 ≤ base) (b1 : base < 9223372036854775808) (w0 : 0 ≤ wait) (w1 : wait < 18446744073709551616) : (newEM n s h t rg ex push i base wait).ok N k :=
  ⟨i0, i1, b0, b1, w0, w1, fun V e => (by cases e), fun V e => (by cases e), fun _ => ⟨.inl rfl, rfl⟩⟩
/-- A step. -/
theorem estep {w0 w : World} {q r p : Nat} {ws ws' : List Int} {ns ns' nt : List Note} {now : Int} {ds ds' : List Int} {L : List Asn} {S S' : EM} {a z : Int} (he : S.step ws now ds = ⟨a, z, S', ws', nt, ds'⟩) (hn : ns ++ nt = ns')
    (h : St w0 (memA q ws ns :: srcA r now ds :: emA p S :: L) w) (hok : S.ok ws.length ns.length) (hds : DsOk ds) (n0 : 0 ≤ now) (n1 : now < 18446744073709551616) (hk : ns.length ≤ 1000000000000) :
    Calls Tryz.prog 113 #[.pointer (some ⟨p, 0, none⟩), .pointer (some ⟨q, 0, none⟩), .pointer (some ⟨r, 0, none⟩)] w fun e w' => e = .returned (.tuple #[.int .i64 a, .int .u32 z]) ∧ St w0 (memA q ws' ns' :: srcA r now ds' :: emA p S' :: L) w' := by
  subst hn
  by_cases c2 : S.en = 2
  · have e1 : S.step ws now ds = ⟨2, 0, S, ws, [], ds⟩ := by simp [EM.step, c2]
    rw [e1] at he
    cases he
    have hV : S.V = none := by
      cases e : S.V with
      | none => rfl
      | some V => exact absurd c2 (hok.beg V e).1
    obtain ⟨bc, bs, bv, bp, bi, bw, bb, h1⟩ := emA_none hV h
    obtain ⟨n, s, hh, t, rg, ex, push, i, base, wait, pl, en, V⟩ := S
    dsimp only at c2 hV h1
    subst c2 hV
    rw [List.append_nil]
    exact (e_step_none (.pointer none) n s hh t rg ex _ pl h1).mono fun e w' k => ⟨k.1, emA_no k.2⟩
  have run : ∀ (T : EM) (V : VM) (dd : List Int), T.run V ws now dd = ⟨a, z, S', ws', nt, ds'⟩ → dd = ds' ∧ (V.step ws now).ws = ws' ∧ (V.step ws now).nt = nt ∧ (V.step ws now).r = a ∧ (V.step ws now).S.told a = z ∧ S' = if T.en = 0 ∧ a ≠ 0 then { T with V := some (V.step ws now).S, en := a, rg := pAr T.rg T.s a, ex := pAe T.ex a } else { T with V := some (V.step ws now).S } := by
    intro T V dd e
    unfold EM.run at e
    simp only [EOut.mk.injEq] at e
    obtain ⟨e1, e2, e3, e4, e5, e6⟩ := e
    subst e1
    exact ⟨e6, e4, e5, rfl, e2, e3.symm⟩
  cases hV : S.V with
  | some V =>
    have e1 : S.step ws now ds = S.run V ws now ds := by simp [EM.step, c2, hV]
    rw [e1] at he
    obtain ⟨rfl, rfl, rfl, hr, hz, rfl⟩ := run S V ds he
    obtain ⟨v, fn, h1⟩ := emA_some hV h
    have hb := hok.beg V hV
    have hv := (hok.vok V hV).1
    obtain ⟨p1, p2, p3, p4, p5, p6⟩ := pOk_iff.1 hb.2.2.2
    obtain ⟨n, s, hh, t, rg, ex, push, i, base, wait, pl, en, V'⟩ := S
    dsimp only at c2 hV h1 hb p1 p2 p3 p4 p5 p6
    subst hV
    have hst : V.step ws now = ⟨a, (V.step ws now).S, (V.step ws now).ws, (V.step ws now).nt⟩ := by rw [← hr]
    by_cases c0 : en = 0
    · subst c0
      by_cases ca : a = 0
      · rw [if_neg (by simp [ca])]
        exact (e_run_more n s hh t rg ex fn pl v V _ a z h1 hst rfl hz hv hk (by simpa using ca)).mono fun e w' k => ⟨k.1, emA_so k.2⟩
      · rw [if_pos ⟨rfl, ca⟩]
        exact (e_run_over n s hh t rg ex fn pl v V _ a z h1 hst rfl hz hv hk (by simpa using ca) ⟨by omega, by omega⟩ ⟨p5, p6⟩).mono fun e w' k => ⟨k.1, emA_so k.2⟩
    · rw [if_neg (by simp [c0])]
      exact (e_run_keep n s hh t rg ex fn pl en v V _ a z h1 hst rfl hz hv hk (by simpa using c0) (by simpa using c2)).mono fun e w' k => ⟨k.1, emA_so k.2⟩
  | none =>
    obtain ⟨bc, bs, bv, bp, bi, bw, bb, h1⟩ := emA_none hV h
    have hen : S.en = 0 := (hok.non hV).1.resolve_right c2
    have hpl : S.pl = -1 := (hok.non hV).2
    by_cases hf : S.fit = true
    · have e1 : S.step ws now ds = { S with pl := atI S.n S.s S.h 1 (drawI ds S.rg) : EM }.run (S.first now ds) ws now (drawR ds S.rg) := by simp [EM.step, c2, hV, hf]
      rw [e1] at he
      obtain ⟨rfl, rfl, rfl, hr, hz, rfl⟩ := run _ _ _ he
      have hfv := EM.first_ok hok ds n0 n1
      obtain ⟨f1, f2, f3⟩ := EM.fit_iff.1 hf
      obtain ⟨p1, p2, p3, p4, p5, p6⟩ := pOk_iff.1 f3
      have x1 := hok.w0
      have x2 := hok.w1
      have x3 := hok.b0
      have x4 := hok.b1
      obtain ⟨n, s, hh, t, rg, ex, push, i, base, wait, pl, en, V'⟩ := S
      dsimp only at hV h1 f1 f2 f3 p1 p2 p3 p4 p5 p6 hen hpl x1 x2 x3 x4
      subst hV hen hpl
      have hst : (EM.first ⟨n, s, hh, t, rg, ex, push, i, base, wait, -1, 0, none⟩ now ds).step ws now = ⟨a, ((EM.first ⟨n, s, hh, t, rg, ex, push, i, base, wait, -1, 0, none⟩ now ds).step ws now).S, ((EM.first ⟨n, s, hh, t, rg, ex, push, i, base, wait, -1, 0, none⟩ now ds).step ws now).ws, ((EM.first ⟨n, s, hh, t, rg, ex, push, i, base, wait, -1, 0, none⟩ now ds).step ws now).nt⟩ := by rw [← hr]
      by_cases ca : a = 0
      · rw [if_neg (by simp [ca])]
        exact (e_first_more n s hh t rg ex _ a z bc bs bv bp bi bw bb push i wait base _ _ _ _ _ h1 hst rfl hz hfv hk (by simpa using ca) hds rfl rfl rfl rfl rfl n0 n1 x1 x2 x3 x4 ⟨by omega, by omega⟩ ⟨p5, p6⟩ f1 f2 f3).mono fun e w' k => by
          obtain ⟨v, k1, k2⟩ := k
          exact ⟨k1, emA_so k2⟩
      · rw [if_pos ⟨rfl, ca⟩]
        exact (e_first_over n s hh t rg ex _ a z bc bs bv bp bi bw bb push i wait base _ _ _ _ _ h1 hst rfl hz hfv hk (by simpa using ca) hds rfl rfl rfl rfl rfl n0 n1 x1 x2 x3 x4 ⟨by omega, by omega⟩ ⟨p5, p6⟩ f1 f2 f3).mono fun e w' k => by
          obtain ⟨v, k1, k2⟩ := k
          exact ⟨k1, emA_so k2⟩
    · have e1 : S.step ws now ds = ⟨2, 0, { S with en := 2 }, ws, [], ds⟩ := by simp [EM.step, c2, hV, hf]
      rw [e1] at he
      cases he
      rw [List.append_nil]
      have hf' : ¬ (okC S.n S.s S.h = true ∧ (S.s == 0) = false ∧ pOk S.rg S.ex S.s = true) := fun k => hf (EM.fit_iff.2 k)
      obtain ⟨n, s, hh, t, rg, ex, push, i, base, wait, pl, en, V'⟩ := S
      dsimp only at hV h1 hen hf'
      subst hV hen
      cases g1 : okC n s hh with
      | false => exact (e_unfit_check n s hh t rg ex _ pl h1 g1).mono fun e w' k => ⟨k.1, emA_no k.2⟩
      | true =>
        cases g2 : (s == 0) with
        | true => exact (e_unfit_slots n s hh t rg ex _ pl h1 g1 g2).mono fun e w' k => ⟨k.1, emA_no k.2⟩
        | false =>
          cases g3 : pOk rg ex s with
          | true => exact absurd ⟨g1, g2, g3⟩ hf'
          | false => exact (e_unfit_right n s hh t rg ex _ pl h1 g1 g2 g3).mono fun e w' k => ⟨k.1, emA_no k.2⟩
theorem emA_box {w0 w : World} {l : List Asn} (h : St w0 l w) (j : Nat) {p : Nat} {S : EM} (he : l[j]? = some (emA p S)) :
    ∃ pv fn, w.heap[p]? = some (.cells #[pv, .int .i64 S.n, .int .i64 S.s, .int .i64 S.h, .int .u32 S.t, .int .i64 S.rg, .int .i64 S.ex, fn, .int .i64 S.pl, .int .i64 S.en] 189 (0, 0)) ∧ (S.V = none → pv = .pointer none) := by
  obtain ⟨_, F, _, hh⟩ := h
  have h1 := hh j _ he
  obtain ⟨n, s, hh, t, rg, ex, push, i, base, wait, pl, en, V⟩ := S
  cases V with
  | none =>
    obtain ⟨b, G, _, _, hG⟩ := h1
    exact ⟨_, _, (hG 0 _ rfl).2, fun _ => rfl⟩
  | some V =>
    obtain ⟨b, G, _, _, hG⟩ := h1
    exact ⟨_, _, (hG 1 _ rfl).2, fun e => by cases e⟩
set_option maxHeartbeats 2000000 in
theorem e_state {w0 w : World} {l : List Asn} {p : Nat} {S : EM} (h : St w0 l w) (j : Nat) (he : l[j]? = some (emA p S)) :
    Calls Tryz.prog 114 #[.pointer (some ⟨p, 0, none⟩)] w fun e w' => e = .returned (polV S.rg S.ex) ∧ Below w.heap.size w w' := by
  obtain ⟨pv, fn, hb, _⟩ := emA_box h j he
  obtain ⟨⟨c0, c1, c2, c3, c4, c5, c6, c7, c8, c9⟩, _, lt0⟩ := cellsE hb
  clear hb h he
  go_enter Tryz.func114, Tryz.ntmps114
  go_wp2
  go_returns
  exact ⟨rfl, by go_grown⟩
set_option maxHeartbeats 2000000 in
theorem e_place {w0 w : World} {l : List Asn} {p : Nat} {S : EM} (h : St w0 l w) (j : Nat) (he : l[j]? = some (emA p S)) :
    Calls Tryz.prog 61 #[.pointer (some ⟨p, 0, none⟩)] w fun e w' => e = .returned (.int .i64 S.pl) ∧ w = w' := by
  obtain ⟨pv, fn, hb, _⟩ := emA_box h j he
  obtain ⟨⟨c0, c1, c2, c3, c4, c5, c6, c7, c8, c9⟩, _, lt0⟩ := cellsE hb
  clear hb h he
  go_enter Tryz.func61, Tryz.ntmps61
  go_wp2
  go_ret
  exact ⟨rfl, rfl⟩
set_option maxHeartbeats 2000000 in
theorem e_met_none {w0 w : World} {l : List Asn} {p : Nat} {S : EM} (A : Option Addr) (n c : Nat) (h : St w0 l w) (j : Nat) (he : l[j]? = some (emA p S)) (hV : S.V = none) :
    Calls Tryz.prog 59 #[.pointer (some ⟨p, 0, none⟩), .slice A n c] w fun e w' => e = .returned (.bool false) ∧ Below w.heap.size w w' := by
  obtain ⟨pv, fn, hb, hp⟩ := emA_box h j he
  obtain rfl := hp hV
  obtain ⟨⟨c0, c1, c2, c3, c4, c5, c6, c7, c8, c9⟩, _, lt0⟩ := cellsE hb
  clear hb h he hp
  go_enter Tryz.func59, Tryz.ntmps59
  go_wp2
  go_ret
  exact ⟨rfl, bl_refl _⟩
set_option maxHeartbeats 2000000 in
theorem e_met_some {w0 w : World} {m a : Asn} {L : List Asn} {p v : Nat} {V : VM} (n s h t rg ex : Int) (fn : Value) (pl en : Int) (A : Option Addr) (nn c N k : Nat) (ws : List Int) (b : Bool) (hS : St w0 (m :: a :: visA v V :: eB p (.pointer (some ⟨v, 0, none⟩)) n s h t rg ex fn pl en :: L) w) (hok : V.ok N k) (hr : RdU w A ws) (hn : ws.length = nn) (hb : V.met ws = b) :
    Calls Tryz.prog 59 #[.pointer (some ⟨p, 0, none⟩), .slice A nn c] w fun e w' => e = .returned (.bool b) ∧ Below w.heap.size w w' := by
  obtain ⟨⟨c0, c1, c2, c3, c4, c5, c6, c7, c8, c9⟩, _, lt0⟩ := cellsE (hS.cells 3 rfl)
  have H := Lib.hid hS
  have HR := Lib.hid hr
  have HB := Lib.hid hb
  have HO := Lib.hid hok
  have HN := Lib.hid hn
  clear hS hr hb hok hn
  go_enter Tryz.func59, Tryz.ntmps59
  go_wp2_with (go_at_call 93; refine (visit_met A nn c N k ws b H.out.tail HO.out HR.out HN.out HB.out).mono ?_; rintro e w2 ⟨rfl, hb⟩; (have H2 := Lib.hid hb); clear hb)
  go_ret
  exact ⟨rfl, H2.out⟩
theorem e_met {w0 w : World} {m a : Asn} {L : List Asn} {p : Nat} {S : EM} (A : Option Addr) (n c N k : Nat) (ws : List Int) (b : Bool) (h : St w0 (m :: a :: emA p S :: L) w) (hok : S.ok N k) (hr : RdU w A ws) (hn : ws.length = n) (hb : S.met ws = b) :
    Calls Tryz.prog 59 #[.pointer (some ⟨p, 0, none⟩), .slice A n c] w fun e w' => e = .returned (.bool b) ∧ Below w.heap.size w w' := by
  cases hV : S.V with
  | none =>
    have e : S.met ws = false := by unfold EM.met; rw [hV]
    rw [← hb, e]
    exact e_met_none A n c h 2 rfl hV
  | some V =>
    have e : S.met ws = V.met ws := by unfold EM.met; rw [hV]
    obtain ⟨v, fn, h1⟩ := emA_some hV h
    exact e_met_some S.n S.s S.h S.t S.rg S.ex fn S.pl S.en A n c N k ws b h1 (hok.vok V hV).1 hr hn (e ▸ hb)
end Go.Proofs.YtgfeagggkplegaaGreat
