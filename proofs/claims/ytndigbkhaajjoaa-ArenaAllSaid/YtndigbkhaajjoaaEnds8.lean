/-
  Chapter 8: a pair's step; a machine that ends; a machine of a job.
-/
import Derived.Test.YtndigbkhaajjoaaArN
import Derived.Test.YtndigbkhaajjoaaLst2
import Derived.Test.YtndigbkhaajjoaaChain
import Derived.Test.YtndigbkhaajjoaaPick8
import Derived.BigRegion
namespace Go.Proofs.Ytndigbkhaajjoaa
open Go.RowKit
set_option linter.unusedVariables false
set_option linter.unusedSimpArgs false

theorem cells3a {w : World} {b : Nat} {a0 a1 a2 : Value} {e : TypeId} (h : w.heap[b]? = some (.cells #[a0, a1, a2] e (0, 0))) : w.cell? ⟨b, 0, none⟩ = some a0 ∧ w.cell? ⟨b, 1, none⟩ = some a1 ∧ w.cell? ⟨b, 2, none⟩ = some a2 := ⟨cell_of h 0, cell_of h 1, cell_of h 2⟩
/-- A machine's shelf. -/
theorem ar_shelf_t {w0 w : World} {m : Asn} {L : List Asn} {p : Nat} {S : AM} (hg : S.give = false) (hS : St w0 (m :: arA p S :: L) w) (hl : S.shelf.length ≤ 1000000000000) :
    Calls Try.prog 72 #[.pointer (some ⟨p, 0, none⟩)] w fun e w' => ∃ a c', e = .returned (.slice a S.shelf.length c') ∧ St w0 (row32 (.slice a S.shelf.length c') S.shelf :: m :: arA p S :: L) w' := by
  obtain ⟨n, s, h, t, give, left, shelf, node, now, st, i⟩ := S
  dsimp only at hg hl ⊢
  subst hg
  cases now with
  | none =>
    obtain ⟨A, c, bc, h1⟩ := arA_tn_open hS
    have h2 : St w0 (atB p left (.slice A shelf.length c) (tkF bc) .nilIface st i :: row32 (.slice A shelf.length c) shelf :: m :: bxC bc n s h t :: L) w := h1.re 4 [1, 2, 0, 3]
    refine (tka_shelf left A _ c shelf _ _ st i h2 rfl hl).mono fun e w' k => ?_
    obtain ⟨a, c', k1, k2⟩ := k
    have k3 : St w0 (row32 (.slice a shelf.length c') shelf :: atB p left (.slice A shelf.length c) (tkF bc) .nilIface st i :: row32 (.slice A shelf.length c) shelf :: bxC bc n s h t :: m :: L) w' := k2.re 5 [0, 1, 2, 4, 3]
    exact ⟨a, c', k1, (arA_tn k3).re 3 [0, 2, 1]⟩
  | some T =>
    obtain ⟨A, c, bc, v, h1⟩ := arA_ts_open hS
    have h2 : St w0 (atB p left (.slice A shelf.length c) (tkF bc) (tkI v) st i :: row32 (.slice A shelf.length c) shelf :: m :: bxC bc n s h t :: tlA v T :: L) w := h1.re 5 [1, 2, 0, 3, 4]
    refine (tka_shelf left A _ c shelf _ _ st i h2 rfl hl).mono fun e w' k => ?_
    obtain ⟨a, c', k1, k2⟩ := k
    have k3 : St w0 (row32 (.slice a shelf.length c') shelf :: atB p left (.slice A shelf.length c) (tkF bc) (tkI v) st i :: row32 (.slice A shelf.length c) shelf :: bxC bc n s h t :: tlA v T :: m :: L) w' := k2.re 6 [0, 1, 2, 4, 5, 3]
    exact ⟨a, c', k1, (arA_ts k3).re 3 [0, 2, 1]⟩
theorem ar_shelf_g {w0 w : World} {m : Asn} {L : List Asn} {p : Nat} {S : AM} (hg : S.give = true) (hS : St w0 (m :: arA p S :: L) w) (hl : S.shelf.length ≤ 1000000000000) :
    Calls Try.prog 75 #[.pointer (some ⟨p, 0, none⟩)] w fun e w' => ∃ a c', e = .returned (.slice a S.shelf.length c') ∧ St w0 (row32 (.slice a S.shelf.length c') S.shelf :: m :: arA p S :: L) w' := by
  obtain ⟨n, s, h, t, give, left, shelf, node, now, st, i⟩ := S
  dsimp only at hg hl ⊢
  subst hg
  cases now with
  | none =>
    obtain ⟨A, c, bc, bi, h1⟩ := arA_gn_open hS
    have h2 : St w0 (agB p left (.slice A shelf.length c) (gvF bc bi) .nilIface st i node :: row32 (.slice A shelf.length c) shelf :: m :: bxC bc n s h t :: bxN bi node :: L) w := h1.re 5 [1, 2, 0, 3, 4]
    refine (gva_shelf left A _ c shelf _ _ st i node h2 rfl hl).mono fun e w' k => ?_
    obtain ⟨a, c', k1, k2⟩ := k
    have k3 : St w0 (row32 (.slice a shelf.length c') shelf :: agB p left (.slice A shelf.length c) (gvF bc bi) .nilIface st i node :: row32 (.slice A shelf.length c) shelf :: bxC bc n s h t :: bxN bi node :: m :: L) w' := k2.re 6 [0, 1, 2, 4, 5, 3]
    exact ⟨a, c', k1, (arA_gn k3).re 3 [0, 2, 1]⟩
  | some T =>
    obtain ⟨A, c, bc, bi, v, h1⟩ := arA_gs_open hS
    have h2 : St w0 (agB p left (.slice A shelf.length c) (gvF bc bi) (gvI v) st i node :: row32 (.slice A shelf.length c) shelf :: m :: bxC bc n s h t :: bxN bi node :: tlA v T :: L) w := h1.re 6 [1, 2, 0, 3, 4, 5]
    refine (gva_shelf left A _ c shelf _ _ st i node h2 rfl hl).mono fun e w' k => ?_
    obtain ⟨a, c', k1, k2⟩ := k
    have k3 : St w0 (row32 (.slice a shelf.length c') shelf :: agB p left (.slice A shelf.length c) (gvF bc bi) (gvI v) st i node :: row32 (.slice A shelf.length c) shelf :: bxC bc n s h t :: bxN bi node :: tlA v T :: m :: L) w' := k2.re 7 [0, 1, 2, 4, 5, 6, 3]
    exact ⟨a, c', k1, (arA_gs k3).re 3 [0, 2, 1]⟩
/-- Which of a pair's pointers is the machine's. -/
def PairA (S : AM) (p : Nat) (A B : Value) : Prop := (S.give = false ∧ A = .pointer (some ⟨p, 0, none⟩) ∧ B = .pointer none) ∨ (S.give = true ∧ A = .pointer none ∧ B = .pointer (some ⟨p, 0, none⟩))
/-- What a pair's step leaves: the shelf as a row of its own too. -/
def PStep8 (w0 : World) (q p : Nat) (ws : List Int) (ns : List Note) (S : AM) (r z : Int) (L : List Asn) (e : Ending) (w' : World) : Prop :=
  ∃ a c', e = .returned (.tuple #[.int .i64 r, .int .u32 z, .slice a S.shelf.length c']) ∧ St w0 (row32 (.slice a S.shelf.length c') S.shelf :: memA q ws ns :: arA p S :: L) w'
theorem ar_out_t {w0 w : World} {q p : Nat} {ws ws' : List Int} {ns ns' nt : List Note} {L : List Asn} {S S' : AM} {r z : Int} (he : S.step ws = ⟨r, z, S', ws', nt⟩) (hn : ns ++ nt = ns') (hg : S.give = false) (h : St w0 (memA q ws ns :: arA p S :: L) w) (hok : S.ok ws.length) (hk : ns.length ≤ 1000000000000) :
    Calls Try.prog 71 #[.pointer (some ⟨p, 0, none⟩), .pointer (some ⟨q, 0, none⟩)] w fun e w' => e = .returned (.tuple #[.int .i64 r, .int .u32 z]) ∧ St w0 (memA q ws' ns' :: arA p S' :: L) w' := by
  have := atake_step hg h hok hk
  rw [he] at this
  subst hn
  exact this
set_option maxHeartbeats 4000000 in
theorem pstep8_t {w0 w : World} {q p : Nat} {ws ws' : List Int} {ns ns' nt : List Note} {L : List Asn} {S S' : AM} {r z : Int} (rp : Value) (he : S.step ws = ⟨r, z, S', ws', nt⟩) (hn : ns ++ nt = ns') (hg : S.give = false) (hS : St w0 (memA q ws ns :: arA p S :: L) w) (hok : S.ok ws.length) (hk : ns.length ≤ 1000000000000) (hg' : S'.give = false) (hl : S'.shelf.length ≤ 1000000000000) :
    Calls Try.prog 45 #[.agg #[.pointer (some ⟨p, 0, none⟩), .pointer none, rp], .pointer (some ⟨q, 0, none⟩)] w (PStep8 w0 q p ws' ns' S' r z L) := by
  have H := Lib.hid (show St w0 (memA q ws ns :: arA p S :: boxA w.heap.size #[.pointer (some ⟨p, 0, none⟩), .pointer none, rp] 84 :: L) _ from (hS.alloc #[.pointer (some ⟨p, 0, none⟩), .pointer none, rp] 84).re 3 [1, 2, 0])
  obtain ⟨k0, k1, k2⟩ := cells3a (H.out.cells 2 rfl)
  have HE := Lib.hid he
  have HN := Lib.hid hn
  have HOK := Lib.hid hok
  clear hS he hn hok
  go_enter Try.func45, Try.ntmps45
  go_wp2_with (first | ((have _h := H1); go_at_call 72; refine (ar_shelf_t hg' H1.out hl).mono ?_; rintro e w2 ⟨a, c', rfl, h⟩; (have H2 := Lib.hid h); clear h _h) | (go_at_call 71; refine (ar_out_t HE.out HN.out hg H.out HOK.out hk).mono ?_; rintro e w1 ⟨rfl, h⟩; (have H1 := Lib.hid h); clear h k0 k1 k2; obtain ⟨k0, k1, k2⟩ := cells3a (H1.out.cells 2 rfl)))
  go_returns
  exact ⟨a, c', rfl, H2.out.re 4 [0, 1, 2]⟩
theorem ar_out_g {w0 w : World} {q p : Nat} {ws ws' : List Int} {ns ns' nt : List Note} {L : List Asn} {S S' : AM} {r z : Int} (he : S.step ws = ⟨r, z, S', ws', nt⟩) (hn : ns ++ nt = ns') (hg : S.give = true) (h : St w0 (memA q ws ns :: arA p S :: L) w) (hok : S.ok ws.length) (hk : ns.length ≤ 1000000000000) :
    Calls Try.prog 74 #[.pointer (some ⟨p, 0, none⟩), .pointer (some ⟨q, 0, none⟩)] w fun e w' => e = .returned (.tuple #[.int .i64 r, .int .u32 z]) ∧ St w0 (memA q ws' ns' :: arA p S' :: L) w' := by
  have := agive_step hg h hok hk
  rw [he] at this
  subst hn
  exact this
set_option maxHeartbeats 4000000 in
theorem pstep8_g {w0 w : World} {q p : Nat} {ws ws' : List Int} {ns ns' nt : List Note} {L : List Asn} {S S' : AM} {r z : Int} (rp : Value) (he : S.step ws = ⟨r, z, S', ws', nt⟩) (hn : ns ++ nt = ns') (hg : S.give = true) (hS : St w0 (memA q ws ns :: arA p S :: L) w) (hok : S.ok ws.length) (hk : ns.length ≤ 1000000000000) (hg' : S'.give = true) (hl : S'.shelf.length ≤ 1000000000000) :
    Calls Try.prog 45 #[.agg #[.pointer none, .pointer (some ⟨p, 0, none⟩), rp], .pointer (some ⟨q, 0, none⟩)] w (PStep8 w0 q p ws' ns' S' r z L) := by
  have H := Lib.hid (show St w0 (memA q ws ns :: arA p S :: boxA w.heap.size #[.pointer none, .pointer (some ⟨p, 0, none⟩), rp] 84 :: L) _ from (hS.alloc #[.pointer none, .pointer (some ⟨p, 0, none⟩), rp] 84).re 3 [1, 2, 0])
  obtain ⟨k0, k1, k2⟩ := cells3a (H.out.cells 2 rfl)
  have HE := Lib.hid he
  have HN := Lib.hid hn
  have HOK := Lib.hid hok
  clear hS he hn hok
  go_enter Try.func45, Try.ntmps45
  go_wp2_with (first | ((have _h := H1); go_at_call 75; refine (ar_shelf_g hg' H1.out hl).mono ?_; rintro e w2 ⟨a, c', rfl, h⟩; (have H2 := Lib.hid h); clear h _h) | (go_at_call 74; refine (ar_out_g HE.out HN.out hg H.out HOK.out hk).mono ?_; rintro e w1 ⟨rfl, h⟩; (have H1 := Lib.hid h); clear h k0 k1 k2; obtain ⟨k0, k1, k2⟩ := cells3a (H1.out.cells 2 rfl)))
  go_returns
  exact ⟨a, c', rfl, H2.out.re 4 [0, 1, 2]⟩
theorem pstep8 {w0 w : World} {q p : Nat} {ws ws' : List Int} {ns ns' nt : List Note} {L : List Asn} {S S' : AM} {A B : Value} {r z : Int} (rp : Value) (hP : PairA S p A B) (he : S.step ws = ⟨r, z, S', ws', nt⟩) (hn : ns ++ nt = ns') (hS : St w0 (memA q ws ns :: arA p S :: L) w) (hok : S.ok ws.length) (hk : ns.length ≤ 1000000000000) (hg' : S'.give = S.give) (hl : S'.shelf.length ≤ 1000000000000) :
    Calls Try.prog 45 #[.agg #[A, B, rp], .pointer (some ⟨q, 0, none⟩)] w (PStep8 w0 q p ws' ns' S' r z L) := by
  rcases hP with ⟨hg, rfl, rfl⟩ | ⟨hg, rfl, rfl⟩
  · exact pstep8_t rp he hn hg hS hok hk (hg'.trans hg) hl
  · exact pstep8_g rp he hn hg hS hok hk (hg'.trans hg) hl
/-- n steps more, each one access, with nothing on the shelf, and it has ended so. -/
inductive RunA : Nat → AM → List Int → AM → List Int → Prop where
  | done {S : AM} {ws : List Int} : S.st ≠ 0 → S.st ≠ 6 → RunA 0 S ws S ws
  | more {n : Nat} {S S1 S' : AM} {ws ws1 ws' : List Int} {x : Note} {z : Int} : S.step ws = ⟨if n = 0 then S1.st else 0, z, S1, ws1, [x]⟩ → S1.shelf = [] → (n = 0 → z = S1.i) → RunA n S1 ws1 S' ws' → RunA (n + 1) S ws S' ws'
theorem RunA.inv {m : Nat} {S S' : AM} {ws ws' : List Int} (h : RunA m S ws S' ws') : (m = 0 ∧ S = S' ∧ ws = ws' ∧ S.st ≠ 0 ∧ S.st ≠ 6) ∨ (∃ n S1 ws1 x z, m = n + 1 ∧ S.step ws = ⟨if n = 0 then S1.st else 0, z, S1, ws1, [x]⟩ ∧ S1.shelf = [] ∧ (n = 0 → z = S1.i) ∧ RunA n S1 ws1 S' ws') := by
  cases h with
  | done h1 h2 => exact .inl ⟨rfl, rfl, rfl, h1, h2⟩
  | more h1 h2 h3 h4 => exact .inr ⟨_, _, _, _, _, rfl, h1, h2, h3, h4⟩
theorem AM.over {S : AM} (h0 : S.st ≠ 0) (h6 : S.st ≠ 6) (ws : List Int) : S.step ws = ⟨S.st, S.i, S, ws, []⟩ := by
  have hg : S.goOn ws = ⟨S.st, S.i, S, ws, []⟩ := by unfold AM.goOn; dsimp only; rw [if_pos h0]
  unfold AM.step AM.gives AM.take
  rw [hg]
  dsimp only
  by_cases c : S.give = true
  · rw [if_pos c, if_neg h6]
  · rw [if_neg c, if_neg (fun c => h0 c.2)]
set_option maxRecDepth 100000 in
set_option maxHeartbeats 8000000 in
theorem ends8 {w0 w : World} {q p : Nat} {ws ws' : List Int} {ns : List Note} {L : List Asn} {S S' : AM} {A B : Value} (rp : Value) (many : Nat) (want i : Int) (hP : PairA S p A B) (hr : RunA many S ws S' ws') (hw : S'.st = want) (hi : S'.i = i) (hS : St w0 (memA q ws ns :: arA p S :: L) w) (hok : S.ok ws.length) (hg6 : S.give = true → S.st ≠ 6) (hk : ns.length ≤ 1000000) (hm : many ≤ 1000) (hm0 : 0 < many) :
    Calls Try.prog 49 #[.agg #[A, B, rp], .pointer (some ⟨q, 0, none⟩), .int .i64 want, .int .u32 i, .int .i64 many] w fun e w' => e = .returned (.bool true) ∧ ∃ nt, nt.length = many ∧ ws'.length = ws.length ∧ St w0 (memA q ws' (ns ++ nt) :: arA p S' :: L) w' := by
  have H := Lib.hid (hS.alloc #[A, B, rp] 84)
  have HP := Lib.hid hP
  have HR := Lib.hid hr
  have HI := Lib.hid hi
  have HW := Lib.hid hw
  have HOK := Lib.hid hok
  have HG6 := Lib.hid hg6
  obtain ⟨k0, k1, k2⟩ := cells3a (H.out.cells 0 rfl)
  clear hS hP hr hi hok hw hg6
  go_enter Try.func49, Try.ntmps49
  go_wp2
  generalize hb : w.heap.size = b at *
  generalize w.alloc (.cells #[A, B, rp] 84) = w1 at *
  go_loopg [11] (many + 1) (fun kq x w' => ∃ (j rem : Nat) (Sj : AM) (wj : List Int) (nt : List Note), x = .int .i64 ((j : Int) + 1) ∧ j + rem = many ∧ j + kq = many + 1 ∧ nt.length = j ∧ wj.length = ws.length ∧ Sj.ok ws.length ∧ (Sj.give = true → Sj.st ≠ 6) ∧ PairA Sj p A B ∧ RunA rem Sj wj S' ws' ∧ St w0 (boxA b #[A, B, rp] 84 :: memA q wj (ns ++ nt) :: arA p Sj :: L) w')
  case atStart => exact ⟨0, many, S, ws, [], rfl, by omega, by omega, rfl, rfl, HOK.out, HG6.out, HP.out, HR.out, by rw [List.append_nil]; exact H.out⟩
  case round =>
    obtain ⟨j, rem, Sj, wj, nt, rfl, hj, hkq, hnt, hlen, hok, hg6, hP, hrun, hS⟩ := hrel
    have HS := Lib.hid (show St w0 (memA q wj (ns ++ nt) :: arA p Sj :: boxA b #[A, B, rp] 84 :: L) _ from hS.re 3 [1, 2, 0])
    clear k0 k1 k2
    obtain ⟨k0, k1, k2⟩ := cells3a (hS.cells 0 rfl)
    obtain ⟨M, hM⟩ : ∃ M, ns ++ nt = M := ⟨_, rfl⟩
    have hML : M.length = ns.length + j := by rw [← hM, List.length_append, hnt]
    obtain ⟨C, hC⟩ : ∃ C, M.length = C := ⟨_, rfl⟩
    have hC6 : C ≤ 1001000 := by omega
    have hC7 : M.length ≤ 1000000000000 := by omega
    rw [hM] at HS
    have HC := Lib.hid (show (M.length : Int) = (C : Int) by rw [hC])
    have HPj := Lib.hid hP
    have HOj : Hid (Sj.ok wj.length) := Lib.hid (by rw [hlen]; exact hok)
    have hrg := fun k (hk : k < wj.length) => hS.drop1'.tail.rng hk
    have hslj := hok.sl
    clear hS
    cases gk with
    | zero => omega
    | succ kk =>
      rcases hrun.inv with ⟨hrem, rfl, rfl, hst, hst6⟩ | ⟨n, S1, ws1, x, z, hrem, hst, hsh, hzi, hrest⟩
      · have hjm : j = many := by omega
        subst hjm
        have he := AM.over hst hst6 wj
        rw [HW.out, HI.out] at he
        have HE := Lib.hid he
        have HN := Lib.hid (show M ++ [] = M from List.append_nil M)
        have c4 : decide (((j : Int) + 1) ≤ (j : Int)) = false := decide_eq_false (by omega)
        have HF := Lib.hid (show nt.length = j ∧ wj.length = ws.length ∧ ns ++ nt = M from ⟨hnt, hlen, hM⟩)
        clear he hst hst6 hP hok hM hnt hrg hrun hg6
        go_wp2_with (first | ((have _h := H2); go_at_call 32; refine (count_st H2.out.tail (C : Int) HC.out).mono ?_; rintro e w4 ⟨rfl, rfl⟩; clear _h) | ((have _h := HS1); go_at_call 45; refine (pstep8 rp HPj.out HE.out HN.out HS.out HOj.out hC7 rfl hslj).mono ?_; rintro e w3 ⟨a3, c3, rfl, h⟩; (have H2 := Lib.hid h); clear h _h HS1) | (go_at_call 32; refine (count_st HS.out (C : Int) HC.out).mono ?_; rintro e w2 ⟨rfl, rfl⟩; (have HS1 : True := trivial)))
        go_ret
        obtain ⟨f1, f2, f4⟩ := HF.out
        refine ⟨rfl, nt, f1, f2, ?_⟩
        rw [f4]
        exact H2.out.re 4 [1, 2]
      · have c4 : decide (((j : Int) + 1) ≤ (many : Int)) = true := decide_eq_true (by omega)
        obtain ⟨hok1, hgv, hlen1, _, _, hg61⟩ := AM.step_ok (S := Sj) (ws := wj) (by rw [hlen]; exact hok) hg6 hrg
        rw [hst] at hok1 hlen1 hgv hg61
        have hP1 : PairA S1 p A B := by unfold PairA; rw [show S1.give = Sj.give from hgv]; exact hP
        obtain ⟨M1, hM1⟩ : ∃ M1, M ++ [x] = M1 := ⟨_, rfl⟩
        have HC1 := Lib.hid (show (M1.length : Int) = (C : Int) + 1 by rw [← hM1, List.length_append]; simp [hC])
        have HN := Lib.hid hM1
        have HGV := Lib.hid hgv
        have hsl0 : S1.shelf.length = 0 := by rw [hsh]; rfl
        have hsl1 : S1.shelf.length ≤ 1000000000000 := by omega
        have hsl2 : ((S1.shelf.length : Nat) : Int) = 0 := by omega
        obtain ⟨SL, hSL⟩ : ∃ SL, S1.shelf.length = SL := ⟨_, rfl⟩
        clear hM1
        by_cases c5 : n = 0
        · subst c5
          rcases hrest.inv with ⟨_, rfl, rfl, hst1, hst16⟩ | ⟨n, _, _, _, _, hn0, _⟩
          rotate_left
          · omega
          have hst : Sj.step wj = ⟨want, i, S1, ws1, [x]⟩ := by rw [hst, ← HW.out, ← HI.out, ← hzi rfl]; rfl
          have HE := Lib.hid hst
          have d1 : decide (((j : Int) + 1) < (many : Int)) = false := decide_eq_false (by omega)
          have d2 : ((((j : Int) + 1)) == (many : Int)) = true := by simp; omega
          have d3 : (want == 0) = false := by rw [← HW.out]; simpa using hst1
          have HF := Lib.hid (show nt.length = j ∧ ws1.length = ws.length ∧ S1.ok ws.length ∧ ns ++ nt = M ∧ PairA S1 p A B ∧ RunA 0 S1 ws1 S1 ws1 ∧ (S1.give = true → S1.st ≠ 6) from ⟨hnt, hlen1.trans hlen, by rw [← hlen]; exact hok1, hM, hP1, .done hst1 hst16, fun _ => hst16⟩)
          clear hst hP hok hM hnt hrg hok1 hlen1 hP1 hrest hrun hst1 hst16 hzi hg6 hg61 hsh hgv
          go_wp2_with (first | ((have _h := H2); go_at_call 32; refine (count_st H2.out.tail ((C : Int) + 1) HC1.out).mono ?_; rintro e w4 ⟨rfl, rfl⟩; clear _h) | ((have _h := HS1); go_at_call 45; refine (pstep8 rp HPj.out HE.out HN.out HS.out HOj.out hC7 HGV.out hsl1).mono ?_; rintro e w3 ⟨a3, c3, rfl, h⟩; (have H2 := Lib.hid h); clear h _h HS1) | (go_at_call 32; refine (count_st HS.out (C : Int) HC.out).mono ?_; rintro e w2 ⟨rfl, rfl⟩; (have HS1 : True := trivial)))
          go_roundg kk
          case measure => omega
          case rel =>
            obtain ⟨f1, f2, f3, f4, f5, f6, f7⟩ := HF.out
            exact ⟨j + 1, 0, S1, ws1, nt ++ [x], by rfl, by omega, by omega, by simp [f1], f2, f3, f7, f5, f6, by rw [← List.append_assoc, f4, HN.out]; exact H2.out.re 4 [3, 1, 2]⟩
        · have hst' := hst
          rw [if_neg c5] at hst'
          have HE := Lib.hid hst'
          have d1 : decide (((j : Int) + 1) < (many : Int)) = true := decide_eq_true (by omega)
          have d2 : ((((j : Int) + 1)) == (many : Int)) = false := by simp; omega
          have HF := Lib.hid (show nt.length = j ∧ ws1.length = ws.length ∧ S1.ok ws.length ∧ ns ++ nt = M ∧ PairA S1 p A B ∧ RunA n S1 ws1 S' ws' ∧ (S1.give = true → S1.st ≠ 6) from ⟨hnt, hlen1.trans hlen, by rw [← hlen]; exact hok1, hM, hP1, hrest, fun c => hg61 (by rw [← HGV.out]; exact c)⟩)
          clear hst hst' hP hok hM hnt hrg hok1 hlen1 hP1 hrest hrun hzi hg6 hg61 hsh hgv
          go_wp2_with (first | ((have _h := H2); go_at_call 32; refine (count_st H2.out.tail ((C : Int) + 1) HC1.out).mono ?_; rintro e w4 ⟨rfl, rfl⟩; clear _h) | ((have _h := HS1); go_at_call 45; refine (pstep8 rp HPj.out HE.out HN.out HS.out HOj.out hC7 HGV.out hsl1).mono ?_; rintro e w3 ⟨a3, c3, rfl, h⟩; (have H2 := Lib.hid h); clear h _h HS1) | (go_at_call 32; refine (count_st HS.out (C : Int) HC.out).mono ?_; rintro e w2 ⟨rfl, rfl⟩; (have HS1 : True := trivial)))
          go_roundg kk
          case measure => omega
          case rel =>
            obtain ⟨f1, f2, f3, f4, f5, f6, f7⟩ := HF.out
            exact ⟨j + 1, n, S1, ws1, nt ++ [x], by rfl, by omega, by omega, by simp [f1], f2, f3, f7, f5, f6, by rw [← List.append_assoc, f4, HN.out]; exact H2.out.re 4 [3, 1, 2]⟩
end Go.Proofs.Ytndigbkhaajjoaa
