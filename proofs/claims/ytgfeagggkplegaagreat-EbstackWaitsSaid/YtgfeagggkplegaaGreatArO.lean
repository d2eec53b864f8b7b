/-
  arena's machines: their shelves, a step whose outcome is known.
-/
import Derived.Test.YtgfeagggkplegaaGreatArN
namespace Go.Proofs.YtgfeagggkplegaaGreat
open Go.RowKit
set_option linter.unusedVariables false
set_option linter.unusedSimpArgs false

theorem ar_shelf_t {w0 w : World} {m : Asn} {L : List Asn} {p : Nat} {S : AM} (hg : S.give = false) (hS : St w0 (m :: arA p S :: L) w) (hl : S.shelf.length ≤ 1000000000000) :
    Calls Tryz.prog 109 #[.pointer (some ⟨p, 0, none⟩)] w fun e w' => ∃ a c', e = .returned (.slice a S.shelf.length c') ∧ St w0 (row32 (.slice a S.shelf.length c') S.shelf :: m :: arA p S :: L) w' := by
  obtain ⟨n, s, h, t, give, left, shelf, node, now, st, i⟩ := S
  dsimp only at hg hl ⊢
  subst hg
  cases now with
  | none =>
    obtain ⟨A, c, bc, h1⟩ := arA_tn_open hS
    have h2 : St w0 (atB p left (.slice A shelf.length c) (tkF bc) .nilIface st i :: row32 (.slice A shelf.length c) shelf :: m :: bxC bc n s h t :: L) w := h1.re 4 [1, 2, 0, 3]
    refine (tka_shelf left A _ c shelf _ _ st i h2 rfl hl).mono fun e w' k => ?_
    obtain ⟨a, c', k1, k2⟩ := k
    have k3 : St w0 (row32 (.slice a shelf.length c') shelf :: atB p left (.slice A shelf.length c) (tkF bc) .nilIface st i :: row32 (.slice A shelf.length c) shelf :: bxC bc n s h t :: m :: L) w' := k2.re 5 [0, 1, 2, 4, 3]
    exact ⟨a, c', k1, (arA_tn k3).re 3 [0, 2, 1]⟩
  | some T =>
    obtain ⟨A, c, bc, v, h1⟩ := arA_ts_open hS
    have h2 : St w0 (atB p left (.slice A shelf.length c) (tkF bc) (tkI v) st i :: row32 (.slice A shelf.length c) shelf :: m :: bxC bc n s h t :: tlA v T :: L) w := h1.re 5 [1, 2, 0, 3, 4]
    refine (tka_shelf left A _ c shelf _ _ st i h2 rfl hl).mono fun e w' k => ?_
    obtain ⟨a, c', k1, k2⟩ := k
    have k3 : St w0 (row32 (.slice a shelf.length c') shelf :: atB p left (.slice A shelf.length c) (tkF bc) (tkI v) st i :: row32 (.slice A shelf.length c) shelf :: bxC bc n s h t :: tlA v T :: m :: L) w' := k2.re 6 [0, 1, 2, 4, 5, 3]
    exact ⟨a, c', k1, (arA_ts k3).re 3 [0, 2, 1]⟩
theorem ar_shelf_g {w0 w : World} {m : Asn} {L : List Asn} {p : Nat} {S : AM} (hg : S.give = true) (hS : St w0 (m :: arA p S :: L) w) (hl : S.shelf.length ≤ 1000000000000) :
    Calls Tryz.prog 112 #[.pointer (some ⟨p, 0, none⟩)] w fun e w' => ∃ a c', e = .returned (.slice a S.shelf.length c') ∧ St w0 (row32 (.slice a S.shelf.length c') S.shelf :: m :: arA p S :: L) w' := by
  obtain ⟨n, s, h, t, give, left, shelf, node, now, st, i⟩ := S
  dsimp only at hg hl ⊢
  subst hg
  cases now with
  | none =>
    obtain ⟨A, c, bc, bi, h1⟩ := arA_gn_open hS
    have h2 : St w0 (agB p left (.slice A shelf.length c) (gvF bc bi) .nilIface st i node :: row32 (.slice A shelf.length c) shelf :: m :: bxC bc n s h t :: bxN bi node :: L) w := h1.re 5 [1, 2, 0, 3, 4]
    refine (gva_shelf left A _ c shelf _ _ st i node h2 rfl hl).mono fun e w' k => ?_
    obtain ⟨a, c', k1, k2⟩ := k
    have k3 : St w0 (row32 (.slice a shelf.length c') shelf :: agB p left (.slice A shelf.length c) (gvF bc bi) .nilIface st i node :: row32 (.slice A shelf.length c) shelf :: bxC bc n s h t :: bxN bi node :: m :: L) w' := k2.re 6 [0, 1, 2, 4, 5, 3]
    exact ⟨a, c', k1, (arA_gn k3).re 3 [0, 2, 1]⟩
  | some T =>
    obtain ⟨A, c, bc, bi, v, h1⟩ := arA_gs_open hS
    have h2 : St w0 (agB p left (.slice A shelf.length c) (gvF bc bi) (gvI v) st i node :: row32 (.slice A shelf.length c) shelf :: m :: bxC bc n s h t :: bxN bi node :: tlA v T :: L) w := h1.re 6 [1, 2, 0, 3, 4, 5]
    refine (gva_shelf left A _ c shelf _ _ st i node h2 rfl hl).mono fun e w' k => ?_
    obtain ⟨a, c', k1, k2⟩ := k
    have k3 : St w0 (row32 (.slice a shelf.length c') shelf :: agB p left (.slice A shelf.length c) (gvF bc bi) (gvI v) st i node :: row32 (.slice A shelf.length c) shelf :: bxC bc n s h t :: bxN bi node :: tlA v T :: m :: L) w' := k2.re 7 [0, 1, 2, 4, 5, 6, 3]
    exact ⟨a, c', k1, (arA_gs k3).re 3 [0, 2, 1]⟩
theorem ar_out_t {w0 w : World} {q p : Nat} {ws ws' : List Int} {ns ns' nt : List Note} {L : List Asn} {S S' : AM} {r z : Int} (he : S.step ws = ⟨r, z, S', ws', nt⟩) (hn : ns ++ nt = ns') (hg : S.give = false) (h : St w0 (memA q ws ns :: arA p S :: L) w) (hok : S.ok ws.length) (hk : ns.length ≤ 1000000000000) :
    Calls Tryz.prog 108 #[.pointer (some ⟨p, 0, none⟩), .pointer (some ⟨q, 0, none⟩)] w fun e w' => e = .returned (.tuple #[.int .i64 r, .int .u32 z]) ∧ St w0 (memA q ws' ns' :: arA p S' :: L) w' := by
  have := atake_step hg h hok hk
  rw [he] at this
  subst hn
  exact this
theorem ar_out_g {w0 w : World} {q p : Nat} {ws ws' : List Int} {ns ns' nt : List Note} {L : List Asn} {S S' : AM} {r z : Int} (he : S.step ws = ⟨r, z, S', ws', nt⟩) (hn : ns ++ nt = ns') (hg : S.give = true) (h : St w0 (memA q ws ns :: arA p S :: L) w) (hok : S.ok ws.length) (hk : ns.length ≤ 1000000000000) :
    Calls Tryz.prog 111 #[.pointer (some ⟨p, 0, none⟩), .pointer (some ⟨q, 0, none⟩)] w fun e w' => e = .returned (.tuple #[.int .i64 r, .int .u32 z]) ∧ St w0 (memA q ws' ns' :: arA p S' :: L) w' := by
  have := agive_step hg h hok hk
  rw [he] at this
  subst hn
  exact this
theorem AM.over {S : AM} (h0 : S.st ≠ 0) (h6 : S.st ≠ 6) (ws : List Int) : S.step ws = ⟨S.st, S.i, S, ws, []⟩ := by
  have hg : S.goOn ws = ⟨S.st, S.i, S, ws, []⟩ := by unfold AM.goOn; dsimp only; rw [if_pos h0]
  unfold AM.step AM.gives AM.take
  rw [hg]
  dsimp only
  by_cases c : S.give = true
  · rw [if_pos c, if_neg h6]
  · rw [if_neg c, if_neg (fun c => h0 c.2)]
theorem AM.step_go {S : AM} {ws ws1 : List Int} {T T1 : TM} {r : Int} {nt : List Note} (hsh : S.give = false → S.shelf = []) (hst : S.st = 0) (ht : S.try_ = T) (h : T.step ws = ⟨r, T1, ws1, nt⟩) (h3 : r ≠ 3) (h6 : r ≠ 6) :
    S.step ws = ⟨r, T1.told r, { S with now := some T1, st := r, i := T1.told r }, ws1, nt⟩ := by
  have hg : S.goOn ws = ⟨r, T1.told r, { S with now := some T1, st := r, i := T1.told r }, ws1, nt⟩ := by
    unfold AM.goOn
    dsimp only
    rw [if_neg (by simp [hst]), ht, h]
    dsimp only
    rw [if_neg h3]
  unfold AM.step AM.gives AM.take
  rw [hg]
  dsimp only
  by_cases c : S.give = true
  · rw [if_pos c, if_neg h6]
  · rw [if_neg c, if_neg (fun k => k.1 (hsh (by simpa using c)))]
end Go.Proofs.YtgfeagggkplegaaGreat
