/-
  Chapter 7: a pair's step; a machine that ends; a fresh memory; the chapter's example.
-/
import Derived.Test.YtndigbkhaajjoaaLst
import Derived.Test.YtndigbkhaajjoaaRe
import Derived.Test.YtndigbkhaajjoaaFresh
import Derived.Test.YtndigbkhaajjoaaPick7
namespace Go.Proofs.Ytndigbkhaajjoaa
open Go.RowKit
set_option linter.unusedVariables false
set_option linter.unusedSimpArgs false

theorem cells3 {w : World} {b : Nat} {a0 a1 a2 : Value} {e : TypeId} (h : w.heap[b]? = some (.cells #[a0, a1, a2] e (0, 0))) : w.cell? ⟨b, 0, none⟩ = some a0 ∧ w.cell? ⟨b, 1, none⟩ = some a1 ∧ w.cell? ⟨b, 2, none⟩ = some a2 := ⟨cell_of h 0, cell_of h 1, cell_of h 2⟩
/-- Which of a pair's pointers is the machine's. -/
def PairOf (S : TM) (p : Nat) (A B : Value) : Prop := (S.give = false ∧ A = .pointer (some ⟨p, 0, none⟩) ∧ B = .pointer none) ∨ (S.give = true ∧ A = .pointer none ∧ B = .pointer (some ⟨p, 0, none⟩))
set_option maxHeartbeats 2000000 in
theorem pstep_t {w : World} {p q : Nat} (rp : Value) (r z : Int) (R : World → Prop) (hc : ∀ w1, Below w.heap.size w w1 → Calls Try.prog 39 #[.pointer (some ⟨p, 0, none⟩), .pointer (some ⟨q, 0, none⟩)] w1 fun e w' => e = .returned (.tuple #[.int .i64 r, .int .u32 z]) ∧ R w') :
    Calls Try.prog 30 #[.agg #[.pointer (some ⟨p, 0, none⟩), .pointer none, rp], .pointer (some ⟨q, 0, none⟩)] w fun e w' => e = .returned (.tuple #[.int .i64 r, .int .u32 z]) ∧ R w' := by
  have HC := Lib.hid hc
  clear hc
  go_enter Try.func30, Try.ntmps30
  go_wp2_with (go_at_call 39; refine (HC.out _ (bl_alloc (bl_refl w) _)).mono ?_; rintro e w1 ⟨rfl, hr⟩; (have HR1 := Lib.hid hr); clear hr)
  go_ret2
  exact ⟨rfl, HR1.out⟩
set_option maxHeartbeats 2000000 in
theorem pstep_g {w : World} {p q : Nat} (rp : Value) (r z : Int) (R : World → Prop) (hc : ∀ w1, Below w.heap.size w w1 → Calls Try.prog 57 #[.pointer (some ⟨p, 0, none⟩), .pointer (some ⟨q, 0, none⟩)] w1 fun e w' => e = .returned (.tuple #[.int .i64 r, .int .u32 z]) ∧ R w') :
    Calls Try.prog 30 #[.agg #[.pointer none, .pointer (some ⟨p, 0, none⟩), rp], .pointer (some ⟨q, 0, none⟩)] w fun e w' => e = .returned (.tuple #[.int .i64 r, .int .u32 z]) ∧ R w' := by
  have HC := Lib.hid hc
  clear hc
  go_enter Try.func30, Try.ntmps30
  go_wp2_with (go_at_call 57; refine (HC.out _ (bl_alloc (bl_refl w) _)).mono ?_; rintro e w1 ⟨rfl, hr⟩; (have HR1 := Lib.hid hr); clear hr)
  go_ret2
  exact ⟨rfl, HR1.out⟩
theorem pstep {w0 w : World} {q p : Nat} {ws ws' : List Int} {ns ns' nt : List Note} {L : List Asn} {S S' : TM} {A B : Value} {r z : Int} (rp : Value) (hP : PairOf S p A B) (he : S.step ws = ⟨r, S', ws', nt⟩) (hn : ns ++ nt = ns') (hz : S'.told r = z) (h : St w0 (memA q ws ns :: tlA p S :: L) w) (hok : S.ok ws.length) (hk : ns.length ≤ 1000000000000) :
    Calls Try.prog 30 #[.agg #[A, B, rp], .pointer (some ⟨q, 0, none⟩)] w fun e w' => e = .returned (.tuple #[.int .i64 r, .int .u32 z]) ∧ St w0 (memA q ws' ns' :: tlA p S' :: L) w' := by
  rcases hP with ⟨hg, rfl, rfl⟩ | ⟨hg, rfl, rfl⟩
  · exact pstep_t rp r z _ fun w1 hb => tk_out he hn hz hg (h.below hb) hok hk
  · exact pstep_g rp r z _ fun w1 hb => gv_out he hn hz hg (h.below hb) hok hk
theorem TM.step_give (S : TM) (ws : List Int) : (S.step ws).S.give = S.give := by
  unfold TM.step TM.head TM.second TM.last
  dsimp only
  repeat' split
  all_goals rfl
theorem PairOf.step {S : TM} {p : Nat} {A B : Value} (h : PairOf S p A B) {ws ws' : List Int} {r : Int} {S' : TM} {nt : List Note} (he : S.step ws = ⟨r, S', ws', nt⟩) : PairOf S' p A B := by
  have := TM.step_give S ws
  rw [he] at this
  unfold PairOf
  rw [show S'.give = S.give from this]
  exact h
/-- n steps more, each one access, and it is done. -/
inductive RunN : Nat → TM → List Int → TM → List Int → Prop where
  | done {S : TM} {ws : List Int} : S.st = 1 → RunN 0 S ws S ws
  | more {n : Nat} {S S1 S' : TM} {ws ws1 ws' : List Int} {x : Note} : S.step ws = ⟨if n = 0 then 1 else 0, S1, ws1, [x]⟩ → RunN n S1 ws1 S' ws' → RunN (n + 1) S ws S' ws'
theorem RunN.inv {m : Nat} {S S' : TM} {ws ws' : List Int} (h : RunN m S ws S' ws') : (m = 0 ∧ S = S' ∧ ws = ws' ∧ S.st = 1) ∨ (∃ n S1 ws1 x, m = n + 1 ∧ S.step ws = ⟨if n = 0 then 1 else 0, S1, ws1, [x]⟩ ∧ RunN n S1 ws1 S' ws') := by
  cases h with
  | done h => exact .inl ⟨rfl, rfl, rfl, h⟩
  | more h1 h2 => exact .inr ⟨_, _, _, _, rfl, h1, h2⟩
theorem Run3.toN {S S' : TM} {ws ws' : List Int} {i : Int} (h : Run3 S ws S' ws' i) : RunN 3 S ws S' ws' := by
  obtain ⟨S1, S2, ws1, ws2, n1, n2, n3, h1, h2, h3⟩ := h.ex
  exact .more h1 (.more h2 (.more h3 (.done h.st)))
set_option maxRecDepth 100000 in
set_option maxHeartbeats 8000000 in
theorem ends7 {w0 w : World} {q p : Nat} {ws ws' : List Int} {ns : List Note} {L : List Asn} {S S' : TM} {A B : Value} (rp : Value) (many : Nat) (i : Int) (hP : PairOf S p A B) (hr : RunN many S ws S' ws') (hi : S'.i = i) (hS : St w0 (memA q ws ns :: tlA p S :: L) w) (hok : S.ok ws.length) (hk : ns.length ≤ 1000000) (hm : many ≤ 1000) :
    Calls Try.prog 37 #[.agg #[A, B, rp], .pointer (some ⟨q, 0, none⟩), .int .u32 i, .int .i64 many] w fun e w' => e = .returned (.bool true) ∧ ∃ nt, nt.length = many ∧ ws'.length = ws.length ∧ S'.ok ws.length ∧ St w0 (memA q ws' (ns ++ nt) :: tlA p S' :: L) w' := by
  have H := Lib.hid (hS.alloc #[A, B, rp] 56)
  have HP := Lib.hid hP
  have HR := Lib.hid hr
  have HI := Lib.hid hi
  have HOK := Lib.hid hok
  obtain ⟨k0, k1, k2⟩ := cells3 (H.out.cells 0 rfl)
  clear hS hP hr hi hok
  go_enter Try.func37, Try.ntmps37
  go_wp2
  generalize hb : w.heap.size = b at *
  generalize w.alloc (.cells #[A, B, rp] 56) = w1 at *
  go_loopg [9] (many + 1) (fun kq x w' => ∃ (j rem : Nat) (Sj : TM) (wj : List Int) (nt : List Note), x = .int .i64 ((j : Int) + 1) ∧ j + rem = many ∧ j + kq = many + 1 ∧ nt.length = j ∧ wj.length = ws.length ∧ Sj.ok ws.length ∧ PairOf Sj p A B ∧ RunN rem Sj wj S' ws' ∧ St w0 (boxA b #[A, B, rp] 56 :: memA q wj (ns ++ nt) :: tlA p Sj :: L) w')
  case atStart => exact ⟨0, many, S, ws, [], rfl, by omega, by omega, rfl, rfl, HOK.out, HP.out, HR.out, by rw [List.append_nil]; exact H.out⟩
  case round =>
    obtain ⟨j, rem, Sj, wj, nt, rfl, hj, hkq, hnt, hlen, hok, hP, hrun, hS⟩ := hrel
    have HS := Lib.hid (show St w0 (memA q wj (ns ++ nt) :: tlA p Sj :: boxA b #[A, B, rp] 56 :: L) _ from hS.re 3 [1, 2, 0])
    clear k0 k1 k2
    obtain ⟨k0, k1, k2⟩ := cells3 (hS.cells 0 rfl)
    obtain ⟨M, hM⟩ : ∃ M, ns ++ nt = M := ⟨_, rfl⟩
    have hML : M.length = ns.length + j := by rw [← hM, List.length_append, hnt]
    obtain ⟨C, hC⟩ : ∃ C, M.length = C := ⟨_, rfl⟩
    have hC6 : C ≤ 1001000 := by omega
    have hC7 : M.length ≤ 1000000000000 := by omega
    rw [hM] at HS
    have HC := Lib.hid (show (M.length : Int) = (C : Int) by rw [hC])
    have HPj := Lib.hid hP
    have HOj : Hid (Sj.ok wj.length) := Lib.hid (by rw [hlen]; exact hok)
    have hrg := fun k (hk : k < wj.length) => hS.drop1'.tail.rng hk
    clear hS
    cases gk with
    | zero => omega
    | succ kk =>
      rcases hrun.inv with ⟨hrem, rfl, rfl, hst⟩ | ⟨n, S1, ws1, x, hrem, hst, hrest⟩
      · have hjm : j = many := by omega
        subst hjm
        have he : Sj.step wj = ⟨1, Sj, wj, []⟩ := by simp [TM.step, hst]
        have hz : Sj.told 1 = i := by rw [← HI.out]; rfl
        have HE := Lib.hid he
        have HZ := Lib.hid hz
        have HN := Lib.hid (show M ++ [] = M from List.append_nil M)
        have c4 : decide (((j : Int) + 1) ≤ (j : Int)) = false := decide_eq_false (by omega)
        have HF := Lib.hid (show nt.length = j ∧ wj.length = ws.length ∧ Sj.ok ws.length ∧ ns ++ nt = M from ⟨hnt, hlen, hok, hM⟩)
        clear he hz hst hP hok hM hnt hrg hrun
        go_wp2_with (first | ((have _h := H2); go_at_call 32; refine (count_st H2.out (C : Int) HC.out).mono ?_; rintro e w4 ⟨rfl, rfl⟩; clear _h) | ((have _h := HS1); go_at_call 30; refine (pstep rp HPj.out HE.out HN.out HZ.out HS.out HOj.out hC7).mono ?_; rintro e w3 ⟨rfl, h⟩; (have H2 := Lib.hid h); clear h _h HS1) | (go_at_call 32; refine (count_st HS.out (C : Int) HC.out).mono ?_; rintro e w2 ⟨rfl, rfl⟩; (have HS1 : True := trivial)))
        go_ret
        obtain ⟨f1, f2, f3, f4⟩ := HF.out
        refine ⟨rfl, nt, f1, f2, f3, ?_⟩
        rw [f4]
        exact H2.out.re 3 [0, 1]
      · have c4 : decide (((j : Int) + 1) ≤ (many : Int)) = true := decide_eq_true (by omega)
        have hok1 := TM.step_ok (S := Sj) (ws := wj) (by rw [hlen]; exact hok) hrg
        have hlen1 := TM.step_len Sj wj
        rw [hst] at hok1 hlen1
        have hP1 := hP.step hst
        obtain ⟨M1, hM1⟩ : ∃ M1, M ++ [x] = M1 := ⟨_, rfl⟩
        have HC1 := Lib.hid (show (M1.length : Int) = (C : Int) + 1 by rw [← hM1, List.length_append]; simp [hC])
        have HN := Lib.hid hM1
        clear hM1
        by_cases c5 : n = 0
        · subst c5
          rcases hrest.inv with ⟨_, rfl, rfl, hst1⟩ | ⟨n, _, _, _, hn0, _⟩
          rotate_left
          · omega
          have hst : Sj.step wj = ⟨1, S1, ws1, [x]⟩ := hst
          have hz : S1.told 1 = i := by rw [← HI.out]; rfl
          have HE := Lib.hid hst
          have HZ := Lib.hid hz
          have d1 : decide (((j : Int) + 1) < (many : Int)) = false := decide_eq_false (by omega)
          have d2 : ((((j : Int) + 1)) == (many : Int)) = true := by simp; omega
          have HF := Lib.hid (show nt.length = j ∧ ws1.length = ws.length ∧ S1.ok ws.length ∧ ns ++ nt = M ∧ PairOf S1 p A B ∧ RunN 0 S1 ws1 S1 ws1 from ⟨hnt, hlen1.trans hlen, by rw [← hlen]; exact hok1, hM, hP1, .done hst1⟩)
          clear hst hz hP hok hM hnt hrg hok1 hlen1 hP1 hrest hrun hst1
          go_wp2_with (first | ((have _h := H2); go_at_call 32; refine (count_st H2.out ((C : Int) + 1) HC1.out).mono ?_; rintro e w4 ⟨rfl, rfl⟩; clear _h) | ((have _h := HS1); go_at_call 30; refine (pstep rp HPj.out HE.out HN.out HZ.out HS.out HOj.out hC7).mono ?_; rintro e w3 ⟨rfl, h⟩; (have H2 := Lib.hid h); clear h _h HS1) | (go_at_call 32; refine (count_st HS.out (C : Int) HC.out).mono ?_; rintro e w2 ⟨rfl, rfl⟩; (have HS1 : True := trivial)))
          go_roundg kk
          case measure => omega
          case rel =>
            obtain ⟨f1, f2, f3, f4, f5, f6⟩ := HF.out
            exact ⟨j + 1, 0, S1, ws1, nt ++ [x], by rfl, by omega, by omega, by simp [f1], f2, f3, f5, f6, by rw [← List.append_assoc, f4, HN.out]; exact H2.out.re 3 [2, 0, 1]⟩
        · have hst' := hst
          rw [if_neg c5] at hst'
          have hz : S1.told 0 = 0 := rfl
          have HE := Lib.hid hst'
          have HZ := Lib.hid hz
          have d1 : decide (((j : Int) + 1) < (many : Int)) = true := decide_eq_true (by omega)
          have d2 : ((((j : Int) + 1)) == (many : Int)) = false := by simp; omega
          have HF := Lib.hid (show nt.length = j ∧ ws1.length = ws.length ∧ S1.ok ws.length ∧ ns ++ nt = M ∧ PairOf S1 p A B ∧ RunN n S1 ws1 S' ws' from ⟨hnt, hlen1.trans hlen, by rw [← hlen]; exact hok1, hM, hP1, hrest⟩)
          clear hst hst' hz hP hok hM hnt hrg hok1 hlen1 hP1 hrest hrun
          go_wp2_with (first | ((have _h := H2); go_at_call 32; refine (count_st H2.out ((C : Int) + 1) HC1.out).mono ?_; rintro e w4 ⟨rfl, rfl⟩; clear _h) | ((have _h := HS1); go_at_call 30; refine (pstep rp HPj.out HE.out HN.out HZ.out HS.out HOj.out hC7).mono ?_; rintro e w3 ⟨rfl, h⟩; (have H2 := Lib.hid h); clear h _h HS1) | (go_at_call 32; refine (count_st HS.out (C : Int) HC.out).mono ?_; rintro e w2 ⟨rfl, rfl⟩; (have HS1 : True := trivial)))
          go_roundg kk
          case measure => omega
          case rel =>
            obtain ⟨f1, f2, f3, f4, f5, f6⟩ := HF.out
            exact ⟨j + 1, n, S1, ws1, nt ++ [x], by rfl, by omega, by omega, by simp [f1], f2, f3, f5, f6, by rw [← List.append_assoc, f4, HN.out]; exact H2.out.re 3 [2, 0, 1]⟩
end Go.Proofs.Ytndigbkhaajjoaa
