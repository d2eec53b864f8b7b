/-
  The document's machine of chapter 7: its step is the machine of numbers' step.
-/
import Derived.Test.YtndigbkhaajjoaaR7C
import Derived.Test.YtndigbkhaajjoaaTlM
namespace Go.Proofs.Ytndigbkhaajjoaa
open Go.RowKit
set_option linter.unusedVariables false
set_option linter.unusedSimpArgs false

/-- What the document's machine holds, beside the numbers. -/
structure RtOk (S : TM) (i pc x nx : Int) : Prop where
  i0 : 0 ≤ i
  i1 : i < 4294967296
  one : S.st = 1 → i = S.i
  fst : S.st = 0 → S.ph = .first → pc = 0 ∧ (S.give = true → i = S.i)
  snd : S.st = 0 → S.ph = .second → pc = 1 ∧ x = S.w ∧ i = S.i
  lst : S.st = 0 → ∀ z, S.ph = .last z → pc = 2 ∧ x = S.w ∧ i = S.i ∧ nx = S.fst z
structure RtF where
  i : Int
  pc : Int
  x : Int
  nx : Int
def rtA (p : Nat) (S : TM) : Asn := exA fun b : {f : RtF // RtOk S f.i f.pc f.x f.nx} => rtB p S.n S.s S.h S.t S.at_ S.give b.1.i b.1.pc b.1.x b.1.nx S.st
theorem rtA_close {w0 w : World} {m : Asn} {l : List Asn} {p : Nat} {S : TM} {i pc x nx : Int} (hf : RtOk S i pc x nx) (h : St w0 (m :: rtB p S.n S.s S.h S.t S.at_ S.give i pc x nx S.st :: l) w) : St w0 (m :: rtA p S :: l) w :=
  St.unex2 (f := fun b : {f : RtF // RtOk S f.i f.pc f.x f.nx} => rtB p S.n S.s S.h S.t S.at_ S.give b.1.i b.1.pc b.1.x b.1.nx S.st) ⟨⟨i, pc, x, nx⟩, hf⟩ h
theorem rtA_open {w0 w : World} {m : Asn} {l : List Asn} {p : Nat} {S : TM} (h : St w0 (m :: rtA p S :: l) w) : ∃ i pc x nx, RtOk S i pc x nx ∧ St w0 (m :: rtB p S.n S.s S.h S.t S.at_ S.give i pc x nx S.st :: l) w := by
  obtain ⟨⟨⟨i, pc, x, nx⟩, hf⟩, h1⟩ := St.ex2 h
  exact ⟨i, pc, x, nx, hf, h1⟩
theorem TM.told_ne (S : TM) {r : Int} (h : r ≠ 1) : S.told r = 0 := if_neg h
def RtPost (w0 : World) (y p : Nat) (ns : List Note) (L : List Asn) (o : TOut) (e : Ending) (w' : World) : Prop :=
  e = .returned (.tuple #[.int .i64 o.r, .int .u32 (o.S.told o.r)]) ∧ St w0 (refA y o.ws (ns ++ o.nt) :: rtA p o.S :: L) w'
theorem rt_over {w0 w : World} {y p : Nat} {ws : List Int} {ns : List Note} {L : List Asn} {S : TM} (h : St w0 (refA y ws ns :: rtA p S :: L) w) (hst : S.st ≠ 0) :
    Calls Try.prog 31 #[.pointer (some ⟨p, 0, none⟩), .pointer (some ⟨y, 0, none⟩)] w (RtPost w0 y p ns L (S.step ws)) := by
  obtain ⟨fi, pc, fx, nx, hf, h1⟩ := rtA_open h
  have e : S.step ws = ⟨S.st, S, ws, []⟩ := by simp [TM.step, hst]
  rw [e]
  refine (rt_step_over h1 hf.i0 hf.i1 hst (S.told S.st) (by
    unfold TM.told
    by_cases c : S.st = 1
    · rw [if_pos c, if_pos c]; exact hf.one c
    · rw [if_neg c, if_neg c])).mono fun e w' k => ⟨k.1, ?_⟩
  show St w0 (refA y ws (ns ++ []) :: rtA p S :: L) w'
  rw [List.append_nil]
  exact rtA_close hf k.2
theorem rt_head_g {w0 w : World} {y p : Nat} {ws : List Int} {ns : List Note} {L : List Asn} {n s hh t a i x : Int} (h : St w0 (refA y ws ns :: rtA p ⟨n, s, hh, t, a, i, x, true, .first, 0⟩ :: L) w) (hk : ns.length ≤ 1000000000000) :
    Calls Try.prog 31 #[.pointer (some ⟨p, 0, none⟩), .pointer (some ⟨y, 0, none⟩)] w (RtPost w0 y p ns L (TM.step ⟨n, s, hh, t, a, i, x, true, .first, 0⟩ ws)) := by
  obtain ⟨fi, pc, fx, nx, hf, h1⟩ := rtA_open h
  obtain ⟨f0, f1, fone, ffst, fsnd, flst⟩ := hf
  obtain ⟨rfl, f2⟩ := ffst rfl rfl
  have f3 : fi = i := f2 rfl
  subst f3
  dsimp only at h1
  by_cases hv : atI n s hh 0 (2 * (fi - 1)) < 0
  · have e : TM.step ⟨n, s, hh, t, a, fi, x, true, .first, 0⟩ ws = ⟨5, ⟨n, s, hh, t, a, fi, x, true, .first, 5⟩, ws, []⟩ := by simp [TM.step, TM.head, TM.nx, hv]
    rw [e]
    refine rt_step_first (pc := 0) (st := 0) 5 0 _ h1 fun W hW => (rt_first_g1 hW f0 f1 rfl hv).mono fun e w' k => ⟨k.1, ?_⟩
    show St w0 (refA y ws (ns ++ []) :: _) w'
    rw [List.append_nil]
    exact rtA_close (S := ⟨n, s, hh, t, a, fi, x, true, .first, 5⟩) ⟨f0, f1, fun _ => rfl, fun c => (by cases c), fun c => (by cases c), fun c => (by cases c)⟩ k.2
  by_cases ha : a < 0 ∨ (ws.length : Int) ≤ a
  · have e : TM.step ⟨n, s, hh, t, a, fi, x, true, .first, 0⟩ ws = ⟨5, ⟨n, s, hh, t, a, fi, x, true, .first, 5⟩, ws, []⟩ := by simp [TM.step, TM.head, TM.nx, hv, ha]
    rw [e]
    refine rt_step_first (pc := 0) (st := 0) 5 0 _ h1 fun W hW => (rt_first_g2 hW f0 f1 rfl (by omega) ha).mono fun e w' k => ⟨k.1, ?_⟩
    show St w0 (refA y ws (ns ++ []) :: _) w'
    rw [List.append_nil]
    exact rtA_close (S := ⟨n, s, hh, t, a, fi, x, true, .first, 5⟩) ⟨f0, f1, fun _ => rfl, fun c => (by cases c), fun c => (by cases c), fun c => (by cases c)⟩ k.2
  obtain ⟨a, rfl⟩ := Int.eq_ofNat_of_zero_le (show 0 ≤ a by omega)
  have ha' : a < ws.length := by omega
  obtain ⟨y0, hy⟩ : ∃ y0, rdW ws a = y0 := ⟨_, rfl⟩
  have e : TM.step ⟨n, s, hh, t, a, fi, x, true, .first, 0⟩ ws = ⟨0, ⟨n, s, hh, t, a, fi, y0, true, .second, 0⟩, ws, [ldN a y0]⟩ := by simp [TM.step, TM.head, TM.nx, hv, ha, ha', hy]
  rw [e]
  refine rt_step_first (pc := 0) (st := 0) 0 0 _ h1 fun W hW => (rt_first_g3 hW f0 f1 rfl (by omega) rfl ha' hy hk).mono fun e w' k => ⟨k.1, ?_⟩
  exact rtA_close (S := ⟨n, s, hh, t, a, fi, y0, true, .second, 0⟩) ⟨f0, f1, fun c => (by cases c), fun _ c => (by cases c), fun _ _ => ⟨rfl, rfl, rfl⟩, fun _ _ c => (by cases c)⟩ k.2
theorem rt_head_t {w0 w : World} {y p : Nat} {ws : List Int} {ns : List Note} {L : List Asn} {n s hh t a i x : Int} (h : St w0 (refA y ws ns :: rtA p ⟨n, s, hh, t, a, i, x, false, .first, 0⟩ :: L) w) (hk : ns.length ≤ 1000000000000) :
    Calls Try.prog 31 #[.pointer (some ⟨p, 0, none⟩), .pointer (some ⟨y, 0, none⟩)] w (RtPost w0 y p ns L (TM.step ⟨n, s, hh, t, a, i, x, false, .first, 0⟩ ws)) := by
  obtain ⟨fi, pc, fx, nx, hf, h1⟩ := rtA_open h
  obtain ⟨f0, f1, fone, ffst, fsnd, flst⟩ := hf
  obtain ⟨rfl, f2⟩ := ffst rfl rfl
  dsimp only at h1
  by_cases ha : a < 0 ∨ (ws.length : Int) ≤ a
  · have e : TM.step ⟨n, s, hh, t, a, i, x, false, .first, 0⟩ ws = ⟨5, ⟨n, s, hh, t, a, 0, 0, false, .first, 5⟩, ws, []⟩ := by simp [TM.step, TM.head, ha]
    rw [e]
    refine rt_step_first (pc := 0) (st := 0) 5 0 _ h1 fun W hW => (rt_first_t4 hW f0 f1 ha).mono fun e w' k => ⟨k.1, ?_⟩
    show St w0 (refA y ws (ns ++ []) :: _) w'
    rw [List.append_nil]
    exact rtA_close (S := ⟨n, s, hh, t, a, 0, 0, false, .first, 5⟩) ⟨f0, f1, fun c => absurd (show (5 : Int) = 1 from c) (by decide), fun c => (by cases c), fun c => (by cases c), fun c => (by cases c)⟩ k.2
  obtain ⟨a, rfl⟩ := Int.eq_ofNat_of_zero_le (show 0 ≤ a by omega)
  have ha' : a < ws.length := by omega
  obtain ⟨y0, hy⟩ : ∃ y0, rdW ws a = y0 := ⟨_, rfl⟩
  obtain ⟨y00, y01⟩ := h.rrng ha'
  rw [hy] at y00 y01
  by_cases hz : y0 % 4294967296 = 0
  · have e : TM.step ⟨n, s, hh, t, a, i, x, false, .first, 0⟩ ws = ⟨2, ⟨n, s, hh, t, a, 0, y0, false, .first, 2⟩, ws, [ldN a y0]⟩ := by simp [TM.step, TM.head, ha, ha', hy, hz]
    rw [e]
    refine rt_step_first (pc := 0) (st := 0) 2 0 _ h1 fun W hW => (rt_first_t5 hW f0 f1 rfl ha' hy hk rfl y00 y01 hz).mono fun e w' k => ⟨k.1, ?_⟩
    exact rtA_close (S := ⟨n, s, hh, t, a, 0, y0, false, .first, 2⟩) ⟨Int.le_refl _, by decide, fun c => absurd (show (2 : Int) = 1 from c) (by decide), fun c => (by cases c), fun c => (by cases c), fun c => (by cases c)⟩ k.2
  have j0 : 0 ≤ y0 % 4294967296 := by omega
  have j1 : y0 % 4294967296 < 4294967296 := by omega
  by_cases hv : atI n s hh 0 (2 * (y0 % 4294967296 - 1)) < 0
  · have e : TM.step ⟨n, s, hh, t, a, i, x, false, .first, 0⟩ ws = ⟨5, ⟨n, s, hh, t, a, y0 % 4294967296, y0, false, .first, 5⟩, ws, [ldN a y0]⟩ := by simp [TM.step, TM.head, ha, ha', hy, hz, hv]
    rw [e]
    refine rt_step_first (pc := 0) (st := 0) 5 0 _ h1 fun W hW => (rt_first_t6 hW f0 f1 rfl ha' hy hk rfl y00 y01 hz rfl hv).mono fun e w' k => ⟨k.1, ?_⟩
    exact rtA_close (S := ⟨n, s, hh, t, a, y0 % 4294967296, y0, false, .first, 5⟩) ⟨j0, j1, fun _ => rfl, fun c => (by cases c), fun c => (by cases c), fun c => (by cases c)⟩ k.2
  · have e : TM.step ⟨n, s, hh, t, a, i, x, false, .first, 0⟩ ws = ⟨0, ⟨n, s, hh, t, a, y0 % 4294967296, y0, false, .second, 0⟩, ws, [ldN a y0]⟩ := by simp [TM.step, TM.head, ha, ha', hy, hz, hv]
    rw [e]
    refine rt_step_first (pc := 0) (st := 0) 0 0 _ h1 fun W hW => (rt_first_t7 hW f0 f1 rfl ha' hy hk rfl y00 y01 hz rfl (by omega)).mono fun e w' k => ⟨k.1, ?_⟩
    exact rtA_close (S := ⟨n, s, hh, t, a, y0 % 4294967296, y0, false, .second, 0⟩) ⟨j0, j1, fun c => (by cases c), fun _ c => (by cases c), fun _ _ => ⟨rfl, rfl, rfl⟩, fun _ _ c => (by cases c)⟩ k.2
theorem rt_second {w0 w : World} {y p : Nat} {ws : List Int} {ns : List Note} {L : List Asn} {n s hh t a i x : Int} {g : Bool} (h : St w0 (refA y ws ns :: rtA p ⟨n, s, hh, t, a, i, x, g, .second, 0⟩ :: L) w) (hn0 : 0 ≤ atI n s hh 0 (2 * (i - 1))) (x0 : 0 ≤ x) (x1 : x < 18446744073709551616) (hk : ns.length ≤ 1000000000000) :
    Calls Try.prog 31 #[.pointer (some ⟨p, 0, none⟩), .pointer (some ⟨y, 0, none⟩)] w (RtPost w0 y p ns L (TM.step ⟨n, s, hh, t, a, i, x, g, .second, 0⟩ ws)) := by
  obtain ⟨fi, pc, fx, nx, hf, h1⟩ := rtA_open h
  obtain ⟨f0, f1, fone, ffst, fsnd, flst⟩ := hf
  obtain ⟨rfl, f2, f3⟩ := fsnd rfl rfl
  dsimp only at f2 f3 h1
  subst f2 f3
  obtain ⟨j, hj⟩ := Int.eq_ofNat_of_zero_le hn0
  by_cases c : ws.length ≤ j
  · have c' : (ws.length : Int) ≤ atI n s hh 0 (2 * (fi - 1)) := by omega
    have e : TM.step ⟨n, s, hh, t, a, fi, fx, g, .second, 0⟩ ws = ⟨5, ⟨n, s, hh, t, a, fi, fx, g, .second, 5⟩, ws, []⟩ := by simp [TM.step, TM.second, TM.nx, c']
    rw [e]
    cases g
    · refine (rt_step_t_out (pc := 0) (st := 0) h1 f0 f1 rfl c' x0 x1 hk).mono fun e w' k => ⟨k.1, ?_⟩
      show St w0 (refA y ws (ns ++ []) :: _) w'
      rw [List.append_nil]
      exact rtA_close (S := ⟨n, s, hh, t, a, fi, fx, false, .second, 5⟩) ⟨f0, f1, fun _ => rfl, fun c => (by cases c), fun c => (by cases c), fun c => (by cases c)⟩ k.2
    · refine (rt_step_g_out (pc := 0) (st := 0) h1 f0 f1 rfl c' rfl x0 x1 hk).mono fun e w' k => ⟨k.1, ?_⟩
      show St w0 (refA y ws (ns ++ []) :: _) w'
      rw [List.append_nil]
      exact rtA_close (S := ⟨n, s, hh, t, a, fi, fx, true, .second, 5⟩) ⟨f0, f1, fun _ => rfl, fun c => (by cases c), fun c => (by cases c), fun c => (by cases c)⟩ k.2
  · have c' : j < ws.length := by omega
    obtain ⟨y0, hy⟩ : ∃ y0, rdW ws j = y0 := ⟨_, rfl⟩
    obtain ⟨y00, y01⟩ := h.rrng c'
    rw [hy] at y00 y01
    cases g
    · have e : TM.step ⟨n, s, hh, t, a, fi, fx, false, .second, 0⟩ ws = ⟨0, ⟨n, s, hh, t, a, fi, fx, false, .last y0, 0⟩, ws, [ldN j y0]⟩ := by simp [TM.step, TM.second, TM.nx, hj, c, hy]
      rw [e]
      refine (rt_step_t_in (pc := 0) (st := 0) h1 f0 f1 hj rfl c' hy rfl y00 y01 x0 x1 hk).mono fun e w' k => ⟨k.1, ?_⟩
      exact rtA_close (S := ⟨n, s, hh, t, a, fi, fx, false, .last y0, 0⟩) ⟨f0, f1, fun c => (by cases c), fun _ c => (by cases c), fun _ c => (by cases c), fun _ z c => (by cases c; exact ⟨rfl, rfl, rfl, rfl⟩)⟩ k.2
    · have e : TM.step ⟨n, s, hh, t, a, fi, fx, true, .second, 0⟩ ws = ⟨0, ⟨n, s, hh, t, a, fi, fx, true, .last 0, 0⟩, ws.set j (fx % 4294967296), [stN j y0 (fx % 4294967296)]⟩ := by simp [TM.step, TM.second, TM.nx, hj, c, hy]
      rw [e]
      refine (rt_step_g_in (pc := 0) (st := 0) h1 f0 f1 hj rfl c' hy rfl x0 x1 hk).mono fun e w' k => ⟨k.1, ?_⟩
      exact rtA_close (S := ⟨n, s, hh, t, a, fi, fx, true, .last 0, 0⟩) ⟨f0, f1, fun c => (by cases c), fun _ c => (by cases c), fun _ c => (by cases c), fun _ z c => (by cases c; exact ⟨rfl, rfl, rfl, rfl⟩)⟩ k.2
theorem rt_last {w0 w : World} {y p : Nat} {ws : List Int} {ns : List Note} {L : List Asn} {n s hh t a i x z : Int} {g : Bool} (h : St w0 (refA y ws ns :: rtA p ⟨n, s, hh, t, a, i, x, g, .last z, 0⟩ :: L) w) (ha0 : 0 ≤ a) (ha1 : a < ws.length) (x0 : 0 ≤ x) (x1 : x < 18446744073709551616) (z0 : 0 ≤ z) (hk : ns.length ≤ 1000000000000) :
    Calls Try.prog 31 #[.pointer (some ⟨p, 0, none⟩), .pointer (some ⟨y, 0, none⟩)] w (RtPost w0 y p ns L (TM.step ⟨n, s, hh, t, a, i, x, g, .last z, 0⟩ ws)) := by
  obtain ⟨fi, pc, fx, nx, hf, h1⟩ := rtA_open h
  obtain ⟨f0, f1, fone, ffst, fsnd, flst⟩ := hf
  obtain ⟨rfl, f2, f3, f4⟩ := flst rfl z rfl
  dsimp only at f2 f3 h1
  subst f2 f3
  obtain ⟨a, rfl⟩ := Int.eq_ofNat_of_zero_le ha0
  have ha : a < ws.length := by omega
  obtain ⟨y0, hy⟩ : ∃ y0, rdW ws a = y0 := ⟨_, rfl⟩
  have n01 : 0 ≤ nx ∧ nx < 4294967296 := by
    rw [f4]
    unfold TM.fst
    cases g
    · rw [if_neg (by simp)]; omega
    · rw [if_pos rfl]; exact ⟨f0, f1⟩
  by_cases c : y0 = fx
  · subst c
    have e : TM.step ⟨n, s, hh, t, a, fi, y0, g, .last z, 0⟩ ws = ⟨1, ⟨n, s, hh, t, a, fi, y0, g, .last z, 1⟩, ws.set a (nextW y0 nx), [swN a y0 (nextW y0 nx)]⟩ := by
      rw [f4]
      simp [TM.step, TM.last, TM.fst, hy]
    rw [e]
    refine (rt_step_hit (pc := 0) (st := 0) h1 f0 f1 rfl ha hy rfl n01.1 n01.2 x0 x1 hk rfl).mono fun e w' k => ⟨k.1, ?_⟩
    exact rtA_close (S := ⟨n, s, hh, t, a, fi, y0, g, .last z, 1⟩) ⟨f0, f1, fun _ => rfl, fun c => (by cases c), fun c => (by cases c), fun c => (by cases c)⟩ k.2
  · have e : TM.step ⟨n, s, hh, t, a, fi, fx, g, .last z, 0⟩ ws = ⟨3, ⟨n, s, hh, t, a, fi, fx, g, .last z, 3⟩, ws, [noN a y0]⟩ := by simp [TM.step, TM.last, TM.fst, hy, c]
    rw [e]
    refine (rt_step_lost (pc := 0) (st := 0) h1 f0 f1 rfl ha hy rfl n01.1 n01.2 x0 x1 hk (by simpa using c)).mono fun e w' k => ⟨k.1, ?_⟩
    exact rtA_close (S := ⟨n, s, hh, t, a, fi, fx, g, .last z, 3⟩) ⟨f0, f1, fun _ => rfl, fun c => (by cases c), fun c => (by cases c), fun c => (by cases c)⟩ k.2
theorem rt_step {w0 w : World} {y p : Nat} {ws : List Int} {ns : List Note} {L : List Asn} {S : TM} (h : St w0 (refA y ws ns :: rtA p S :: L) w) (hok : S.ok ws.length) (hk : ns.length ≤ 1000000000000) :
    Calls Try.prog 31 #[.pointer (some ⟨p, 0, none⟩), .pointer (some ⟨y, 0, none⟩)] w (RtPost w0 y p ns L (S.step ws)) := by
  by_cases hst : S.st ≠ 0
  · exact rt_over h hst
  obtain ⟨i0, i1, x0, x1, hpl, hsec, hlst⟩ := hok
  obtain ⟨n, s, hh, t, a, i, x, give, ph, st⟩ := S
  dsimp only at hst i0 i1 x0 x1 hpl hsec hlst
  obtain rfl : st = 0 := by simpa using hst
  clear hst
  cases ph with
  | first =>
    cases give
    · exact rt_head_t h hk
    · exact rt_head_g h hk
  | second => exact rt_second h (hsec rfl) x0 x1 hk
  | last z => exact rt_last h (hpl (by simp)).1 (hpl (by simp)).2 x0 x1 (hlst z rfl).1 hk
theorem rtstep {w0 w : World} {y p : Nat} {ws ws' : List Int} {ns ns' nt : List Note} {L : List Asn} {S S' : TM} {r : Int} (z : Int) (he : S.step ws = ⟨r, S', ws', nt⟩) (hn : ns ++ nt = ns') (hz : S'.told r = z) (h : St w0 (refA y ws ns :: rtA p S :: L) w) (hok : S.ok ws.length) (hk : ns.length ≤ 1000000000000) :
    Calls Try.prog 31 #[.pointer (some ⟨p, 0, none⟩), .pointer (some ⟨y, 0, none⟩)] w fun e w' => e = .returned (.tuple #[.int .i64 r, .int .u32 z]) ∧ St w0 (refA y ws' ns' :: rtA p S' :: L) w' := by
  have := rt_step h hok hk
  rw [he] at this
  subst hn hz
  exact this
theorem rt_new (g : Bool) (n s h t a i : Int) (hg : g = false → i = 0) (i0 : 0 ≤ i) (i1 : i < 4294967296) : RtOk (if g = true then newGv n s h t a i else newTk n s h t a) i 0 0 0 := by
  cases g
  · obtain rfl := hg rfl
    exact ⟨i0, i1, fun c => (by cases c), fun _ _ => ⟨rfl, fun c => (by cases c)⟩, fun _ c => (by cases c), fun _ z c => (by cases c)⟩
  · exact ⟨i0, i1, fun c => (by cases c), fun _ _ => ⟨rfl, fun _ => rfl⟩, fun _ c => (by cases c), fun _ z c => (by cases c)⟩
end Go.Proofs.Ytndigbkhaajjoaa
