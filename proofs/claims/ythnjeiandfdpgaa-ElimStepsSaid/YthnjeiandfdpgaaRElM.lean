/-
  hatstandref12.Visit as a machine of numbers: the same step as the program's; its Place and Met.
-/
import Derived.Test.YthnjeiandfdpgaaREl
namespace Go.Proofs.Ythnjeiandfdpgaa
open Go.RowKit
set_option linter.unusedVariables false
set_option linter.unusedSimpArgs false

/-- The document's visit in the heap; k: looks that it may have had. -/
def rfA (p k : Nat) (S : EM) : Asn :=
  match S.V with
  | none => rfZ p S.n S.s S.h S.t S.rg S.ex S.push S.i S.base S.wait false (S.en == 2) false
  | some V => svA (yv S.n S.s S.h S.t S.rg S.ex S.push S.i S.base S.wait true false (S.en != 0)) p k V
theorem rstep12 {w0 w : World} {q r p k : Nat} {ws ws' : List Int} {ns ns' nt : List Note} {now : Int} {ds ds' : List Int} {L : List Asn} {S S' : EM} {a z : Int} (he : S.step ws now ds = ⟨a, z, S', ws', nt, ds'⟩) (hn : ns ++ nt = ns')
    (h : St w0 (refA q ws ns :: rsA r now ds :: rfA p k S :: L) w) (hok : S.ok ws.length ns.length) (hun : S.en = 2 → S.fit = false) (hds : DsOk ds) (n0 : 0 ≤ now) (n1 : now < 18446744073709551616) (hk : ns.length ≤ 1000000000000) (hm : k ≤ 1000000000000) :
    Calls Try.prog 32 #[.pointer (some ⟨p, 0, none⟩), .pointer (some ⟨q, 0, none⟩), .pointer (some ⟨r, 0, none⟩)] w fun e w' => e = .returned (.tuple #[.int .i64 a, .int .u32 z]) ∧ St w0 (refA q ws' ns' :: rsA r now ds' :: rfA p (k + 1) S' :: L) w' := by
  subst hn
  have run : ∀ (T : EM) (V : VM) (dd : List Int), T.run V ws now dd = ⟨a, z, S', ws', nt, ds'⟩ → dd = ds' ∧ (V.step ws now).ws = ws' ∧ (V.step ws now).nt = nt ∧ (V.step ws now).r = a ∧ (V.step ws now).S.told a = z ∧ S' = if T.en = 0 ∧ a ≠ 0 then { T with V := some (V.step ws now).S, en := a, rg := pAr T.rg T.s a, ex := pAe T.ex a } else { T with V := some (V.step ws now).S } := by
    intro T V dd e
    unfold EM.run at e
    simp only [EOut.mk.injEq] at e
    obtain ⟨e1, e2, e3, e4, e5, e6⟩ := e
    subst e1
    exact ⟨e6, e4, e5, rfl, e2, e3.symm⟩
  cases hV : S.V with
  | some V =>
    have hb := hok.beg V hV
    have e1 : S.step ws now ds = S.run V ws now ds := by simp [EM.step, hb.1, hV]
    rw [e1] at he
    obtain ⟨rfl, rfl, rfl, hr, hz, rfl⟩ := run S V ds he
    have hv := (hok.vok V hV).1
    obtain ⟨p1, p2, p3, p4, p5, p6⟩ := pOk_iff.1 hb.2.2.2
    obtain ⟨n, s, hh, t, rg, ex, push, i, base, wait, pl, en, V'⟩ := S
    dsimp only at hV hb p1 p2 p3 p4 p5 p6
    subst hV
    have hst : V.step ws now = ⟨a, (V.step ws now).S, (V.step ws now).ws, (V.step ws now).nt⟩ := by rw [← hr]
    by_cases c0 : en = 0
    · subst c0
      by_cases ca : a = 0
      · rw [if_neg (by simp [ca])]
        exact rf_run_more n s hh t rg ex push i base wait k V _ a z h hst rfl hz hv hk hm (by simpa using ca)
      · rw [if_pos ⟨rfl, ca⟩]
        have hx := rf_run_over n s hh t rg ex push i base wait k V _ a z h hst rfl hz hv hk hm (by simpa using ca) hb.2.2.2 (by omega)
        have hen : (a != 0) = true := by simpa using ca
        refine hx.mono fun e w' kk => ⟨kk.1, ?_⟩
        show St w0 (_ :: _ :: svA (yv n s hh t (pAr rg s a) (pAe ex a) push i base wait true false (a != 0)) p (k + 1) _ :: L) w'
        rw [hen]
        exact kk.2
    · rw [if_neg (by simp [c0])]
      have hen : (en != 0) = true := by simpa using c0
      have h2 : St w0 (refA q ws ns :: rsA r now ds :: svA (yv n s hh t rg ex push i base wait true false true) p k V :: L) w := by
        have h3 : St w0 (refA q ws ns :: rsA r now ds :: svA (yv n s hh t rg ex push i base wait true false (en != 0)) p k V :: L) w := h
        rwa [hen] at h3
      have fin : ∀ e w', (e = Ending.returned (.tuple #[.int .i64 a, .int .u32 z]) ∧ St w0 (refA q (V.step ws now).ws (ns ++ (V.step ws now).nt) :: rsA r now ds :: svA (yv n s hh t rg ex push i base wait true false true) p (k + 1) (V.step ws now).S :: L) w') → (e = Ending.returned (.tuple #[.int .i64 a, .int .u32 z]) ∧ St w0 (refA q (V.step ws now).ws (ns ++ (V.step ws now).nt) :: rsA r now ds :: rfA p (k + 1) ⟨n, s, hh, t, rg, ex, push, i, base, wait, pl, en, some (V.step ws now).S⟩ :: L) w') := fun e w' kk => ⟨kk.1, by
        show St w0 (_ :: _ :: svA (yv n s hh t rg ex push i base wait true false (en != 0)) p (k + 1) _ :: L) w'
        rw [hen]
        exact kk.2⟩
      by_cases ca : a = 0
      · exact (rf_run_keep_a n s hh t rg ex push i base wait k V _ a z h2 hst rfl hz hv hk hm (by simpa using ca)).mono fin
      · exact (rf_run_keep_b n s hh t rg ex push i base wait k V _ a z h2 hst rfl hz hv hk hm (by simpa using ca)).mono fin
  | none =>
    have hen := (hok.non hV).1
    have hpl : S.pl = -1 := (hok.non hV).2
    by_cases hf : S.fit = true
    · have hen0 : S.en = 0 := hen.resolve_right (fun e => by rw [hun e] at hf; cases hf)
      have e1 : S.step ws now ds = { S with pl := atI S.n S.s S.h 1 (drawI ds S.rg) : EM }.run (S.first now ds) ws now (drawR ds S.rg) := by simp [EM.step, hen0, hV, hf]
      rw [e1] at he
      obtain ⟨rfl, rfl, rfl, hr, hz, rfl⟩ := run _ _ _ he
      have hfv := EM.first_ok hok ds n0 n1
      obtain ⟨f1, f2, f3⟩ := EM.fit_iff.1 hf
      obtain ⟨p1, p2, p3, p4, p5, p6⟩ := pOk_iff.1 f3
      have x1 := hok.w0
      have x2 := hok.w1
      have x3 := hok.b0
      have x4 := hok.b1
      obtain ⟨n, s, hh, t, rg, ex, push, i, base, wait, pl, en, V'⟩ := S
      dsimp only at hV f1 f2 f3 p1 p2 p3 p4 p5 p6 hen0 hpl x1 x2 x3 x4
      subst hV hen0 hpl
      have hs1 : 1 ≤ s := by
        have : ¬ s = 0 := by simpa using f2
        omega
      have hd := drawI_rng (ds := ds) (n := rg) (by omega)
      have hst : (EM.first ⟨n, s, hh, t, rg, ex, push, i, base, wait, -1, 0, none⟩ now ds).step ws now = ⟨a, ((EM.first ⟨n, s, hh, t, rg, ex, push, i, base, wait, -1, 0, none⟩ now ds).step ws now).S, ((EM.first ⟨n, s, hh, t, rg, ex, push, i, base, wait, -1, 0, none⟩ now ds).step ws now).ws, ((EM.first ⟨n, s, hh, t, rg, ex, push, i, base, wait, -1, 0, none⟩ now ds).step ws now).nt⟩ := by rw [← hr]
      by_cases ca : a = 0
      · rw [if_neg (by simp [ca])]
        refine (rf_first_more n s hh t rg ex push i base wait _ a z _ _ _ _ _ h hst rfl hz hfv hk (by simpa using ca) hds rfl rfl rfl rfl rfl n0 n1 x1 x2 x3 x4 hd.1 (by omega) (by omega) ⟨p5, p6⟩ f1 f2 hs1 (by omega) f3).mono fun e w' kk => ⟨kk.1, ?_⟩
        have h9 := svA_more (n' := k + 1) ((kk.2.front 2 rfl).swap) (by omega)
        exact (h9.front 2 rfl).swap
      · rw [if_pos ⟨rfl, ca⟩]
        have hen : (a != 0) = true := by simpa using ca
        refine (rf_first_over n s hh t rg ex push i base wait _ a z _ _ _ _ _ h hst rfl hz hfv hk (by simpa using ca) hds rfl rfl rfl rfl rfl n0 n1 x1 x2 x3 x4 hd.1 (by omega) (by omega) ⟨p5, p6⟩ f1 f2 hs1 (by omega) f3).mono fun e w' kk => ⟨kk.1, ?_⟩
        have h9 := svA_more (n' := k + 1) ((kk.2.front 2 rfl).swap) (by omega)
        show St w0 (_ :: _ :: svA (yv n s hh t (pAr rg s a) (pAe ex a) push i base wait true false (a != 0)) p (k + 1) _ :: L) w'
        rw [hen]
        exact (h9.front 2 rfl).swap
    · have hf' : ¬ (okC S.n S.s S.h = true ∧ (S.s == 0) = false ∧ pOk S.rg S.ex S.s = true) := fun k => hf (EM.fit_iff.2 k)
      have e1 : ∃ S2 : EM, S.step ws now ds = ⟨2, 0, S2, ws, [], ds⟩ ∧ S2 = { S with en := 2 } := by
        rcases hen with e | e
        · exact ⟨_, by simp [EM.step, e, hV, hf], rfl⟩
        · refine ⟨S, by simp [EM.step, e], ?_⟩
          obtain ⟨n, s, hh, t, rg, ex, push, i, base, wait, pl, en, V'⟩ := S
          dsimp only at e
          rw [e]
      obtain ⟨S2, e1, e2⟩ := e1
      rw [e1] at he
      cases he
      subst e2
      rw [List.append_nil]
      obtain ⟨n, s, hh, t, rg, ex, push, i, base, wait, pl, en, V'⟩ := S
      dsimp only at hV hf'
      subst hV
      cases g1 : okC n s hh with
      | false => exact rf_unfit_check n s hh t rg ex push i base wait _ h g1
      | true =>
        cases g2 : (s == 0) with
        | true => exact rf_unfit_slots n s hh t rg ex push i base wait _ h g1 g2
        | false =>
          have b := okC_bounds g1
          have : ¬ s = 0 := by simpa using g2
          cases g3 : pOk rg ex s with
          | true => exact absurd ⟨g1, g2, g3⟩ hf'
          | false => exact rf_unfit_right n s hh t rg ex push i base wait _ h g1 g2 (by omega) (by omega) g3
end Go.Proofs.Ythnjeiandfdpgaa
