/-
  ArenaGives: what is given back is the first one that is taken then; the shelf stays.
-/
import Derived.Test.YtndigbkhaajjoaaAlone8
import Derived.Test.YtndigbkhaajjoaaArg32
namespace Go.Proofs.Ytndigbkhaajjoaa
open Go.RowKit
set_option linter.unusedVariables false
set_option linter.unusedSimpArgs false

/-- n steps more of a machine that gives, with the shelf l all the way. -/
inductive RunG (l : List Int) : Nat → AM → List Int → List Int → Prop where
  | done {S : AM} {ws : List Int} : RunG l 0 S ws ws
  | more {n : Nat} {S S1 : AM} {ws ws1 ws' : List Int} {x : Note} {z : Int} : S.give = true → S.st = 0 → S.step ws = ⟨if n = 0 then 1 else 0, z, S1, ws1, [x]⟩ → S1.shelf = l → RunG l n S1 ws1 ws' → RunG l (n + 1) S ws ws'
theorem RunG.inv {l : List Int} {n : Nat} {S : AM} {ws ws' : List Int} (h : RunG l (n + 1) S ws ws') : ∃ S1 ws1 x z, S.give = true ∧ S.st = 0 ∧ S.step ws = ⟨if n = 0 then 1 else 0, z, S1, ws1, [x]⟩ ∧ S1.shelf = l ∧ RunG l n S1 ws1 ws' := by
  cases h with
  | more h1 h0 h2 h3 h4 => exact ⟨_, _, _, _, h1, h0, h2, h3, h4⟩
theorem RunG.zero {l : List Int} {S : AM} {ws ws' : List Int} (h : RunG l 0 S ws ws') : ws = ws' := by cases h; rfl
theorem RunG.of3 {S : AM} {ws ws' : List Int} {T' : TM} {i : Int} (hg : S.give = true) (hst : S.st = 0) (hn : S.now = none) (h : Run3 S.fresh ws T' ws' i) : RunG S.shelf 3 S ws ws' := by
  obtain ⟨T1, T2, ws1, ws2, n1, n2, n3, h1, h2, h3⟩ := h.ex
  have t0 : S.try_ = S.fresh := by unfold AM.try_; rw [hn]
  have hsh : S.give = false → S.shelf = [] := fun c => by rw [hg] at c; cases c
  have e1 := AM.step_go hsh hst t0 h1 (by decide) (by decide)
  have e2 := AM.step_go (S := { S with now := some T1, st := 0, i := T1.told 0 }) hsh rfl rfl h2 (by decide) (by decide)
  have e3 := AM.step_go (S := { S with now := some T2, st := 0, i := T2.told 0 }) hsh rfl rfl h3 (by decide) (by decide)
  exact .more hg hst e1 rfl (.more hg rfl e2 rfl (.more hg rfl e3 rfl .done))
theorem Left.give_run {nn : Nat} {T s h t b : Int} {i : Int} {l sh : List Int} {N : Nat} {ws : List Int} (hok : okC nn s h = true) (m : Left nn T l N ws) (hN : 2 + 2 * nn ≤ N) (hi : 1 ≤ i ∧ i ≤ nn) (hn : i ∉ l) :
    ∃ ws', RunG sh 3 (newAG nn s h t b sh i) ws ws' ∧ Left nn (T + 1) (i :: l) N ws' := by
  obtain ⟨b1, b2, _⟩ := okC_bounds hok
  have hl := m.len
  obtain ⟨T', hr⟩ := give3 (t := t) hok m.free (by omega) (by omega) (by omega) hi
  have hh := hdI_rng (nn := nn) (l := l) m.free.rng
  exact ⟨_, RunG.of3 (S := newAG nn s h t b sh i) rfl rfl rfl hr, m.free.push (by omega) (by omega) hi hn (by omega) (by omega), by simpa using hl, set_rng (set_rng m.rng (by omega) (by omega)) (by omega) (by omega)⟩
theorem made8_any {w0 w : World} {L : List Asn} (n s h t budget I i : Int) (A : Option Addr) (m c : Nat) (l : List Int) (hS : St w0 L w) (hr : Rd32 w A l) (hn : l.length = m) (hm : m ≤ 1000000000000) (hi : I % 4294967296 = i) :
    Calls Try.prog 43 #[.agg #[.int .i64 n, .int .i64 s, .int .i64 h, .int .u32 t], .agg #[.bool true, .int .i64 budget, .int .i64 I, .slice A m c]] w fun e w' => ∃ p rb, e = .returned (.agg #[.pointer none, .pointer (some ⟨p, 0, none⟩), .pointer (some rb)]) ∧ St w0 (arA p (newAG n s h t budget l i) :: L) w' := by
  rcases Nat.eq_zero_or_pos m with rfl | h0
  · obtain rfl := List.length_eq_zero_iff.1 hn
    exact made8_gz n s h t budget I i A c [] hS hr rfl hi
  · exact made8_g n s h t budget I i A m c l hS hr hn h0 hm hi
/-- A step of a machine that gives, with the shelf. -/
theorem give_shelf8 {w0 w : World} {q p : Nat} {ws ws' : List Int} {ns ns' : List Note} {x : Note} {L : List Asn} {S S' : AM} {r z : Int} (rp : Value) (l : List Int) (k : Nat) (he : S.step ws = ⟨r, z, S', ws', [x]⟩) (hn : ns ++ [x] = ns') (hg : S.give = true) (hst : S.st = 0) (hl : S'.shelf = l) (hk : l.length = k) (hk2 : k ≤ 1000) (hok : S.ok ws.length) (hS : St w0 (memA q ws ns :: arA p S :: L) w) (hns : ns.length ≤ 1000000) :
    Calls Try.prog 45 #[.agg #[.pointer none, .pointer (some ⟨p, 0, none⟩), rp], .pointer (some ⟨q, 0, none⟩)] w fun e w' => ∃ a c', e = .returned (.tuple #[.int .i64 r, .int .u32 z, .slice a k c']) ∧ Rd32 w' a l ∧ S'.ok ws.length ∧ ws'.length = ws.length ∧ St w0 (memA q ws' ns' :: arA p S' :: L) w' := by
  have hrg := fun i (hi : i < ws.length) => hS.rng hi
  obtain ⟨hok1, hgv, hlen1, _, _, _⟩ := AM.step_ok hok (fun _ => by rw [hst]; decide) hrg
  rw [he] at hok1 hgv hlen1
  subst hl
  subst hk
  refine (pstep8_g rp he hn hg hS hok (by omega) (hgv.trans hg) (by omega)).mono ?_
  rintro e w' ⟨a, c', rfl, h⟩
  exact ⟨a, c', rfl, (row32_rd (h.rowOf 0 rfl)).1, hok1, hlen1, h.re 3 [1, 2]⟩
set_option maxRecDepth 20000 in
set_option maxHeartbeats 16000000 in
theorem arenaGives_walk (a0 : Int) (A : Option Addr) (m cap : Nat) (zs : List Int) (bg : Int) (w : World) (hx0 : (Lit.int .i64 a0).wf = true) (hI : IsRow .u32 w A m cap zs) (hx1 : (Lit.int .i64 bg).wf = true) :
    Calls Try.prog 11 #[.int .i64 a0, .slice A m cap, .int .i64 bg] w fun e w' => e = .returned (.bool true) ∧ Below w.heap.size w w' := by
  obtain ⟨m0, m1⟩ := rngI64 hx1
  have mb : bg ≤ 9223372036854775807 := by omega
  obtain ⟨hr0, hl0, hc0, hc1, hz0⟩ := hI.rd32
  obtain ⟨l, hl⟩ : ∃ l, zs.take m = l := ⟨_, rfl⟩
  rw [hl] at hr0 hl0 hz0
  have HR := Lib.hid hr0
  have HZ := Lib.hid hz0
  have HLL := Lib.hid hl0
  clear hr0 hz0 hl0 hI hl
  obtain ⟨a00, a01⟩ := rngI64 hx0
  have hp := pickI_rng (c := a0) (n := 64) (by decide)
  obtain ⟨nn, hnn⟩ : ∃ nn : Nat, 1 + pickI a0 64 = (nn : Int) := Int.eq_ofNat_of_zero_le (by omega)
  have n1 : 1 ≤ nn := by omega
  have n2 : nn ≤ 64 := by omega
  obtain ⟨N, hN⟩ : ∃ N, N = 2 + 2 * nn + 0 + 0 := ⟨_, rfl⟩
  obtain ⟨T, hT⟩ : ∃ T : Int, 3 * 4294967296 = T := ⟨_, rfl⟩
  have hN4 : N ≤ 1024 := by omega
  have hN2 : 2 + 2 * nn ≤ N := by omega
  have t0 : (0 : Int) ≤ 3 := by omega
  have t1 : (3 : Int) < 4294967296 := by omega
  have HNN := Lib.hid hnn
  have HN := Lib.hid hN
  have HT := Lib.hid hT
  have HOK : Hid (okC (nn : Int) ((0 : Nat) : Int) ((0 : Nat) : Int) = true) := Lib.hid (by simp [okC]; omega)
  have HFR : Hid (∀ x ∈ frL T nn nn 0 N, 0 ≤ x ∧ x < 18446744073709551616) := Lib.hid (frL_rng (by omega) (by omega) n2)
  have HMV : Hid (Left nn 3 (upL 1 nn) N (frL T nn nn 0 N)) := Lib.hid ⟨fresh_at1 hT t0 t1 hN2 n1 n2, frL_len _ _ _ _ _, HFR.out⟩
  have H := Lib.hid (St.nil w)
  have d0 : decide ((nn : Int) < 1) = false := decide_eq_false (by omega)
  clear hx0 hx1 hp hnn hN hT
  by_cases h50 : m > 50
  · have c50 : decide ((50 : Int) < (m : Int)) = true := decide_eq_true (by omega)
    go_enter Try.func11, Try.ntmps11
    go_wp2_with (first | ((have _h := H2); go_at_call 16; refine (fresh_ok nn 0 0 3 T N H2.out HOK.out HN.out HT.out t0 t1).mono ?_; rintro e w3 ⟨g, rfl, h⟩; (have H3 := Lib.hid (h)); clear h; clear q0 q1 q2 q3 lq; (obtain ⟨q0, q1, q2, q3⟩ := cells4 (H3.out.cells 1 rfl)); (have lq := lt_of_heap (H3.out.cells 1 rfl)); clear _h) | ((have _h := H1); go_at_call 47; refine (cfg8_is a0 0 0 3 nn 0 0 _ HNN.out rfl rfl a00 a01 (by decide) (by decide) (by decide) (by decide)).mono ?_; rintro e w2 ⟨rfl, hb⟩; (have H2 := Lib.hid ((H1.out.below hb).alloc #[.int .i64 nn, .int .i64 0, .int .i64 0, .int .u32 3] 26)); clear hb; (obtain ⟨q0, q1, q2, q3⟩ := cells4 (H2.out.cells 0 rfl)); (have lq := lt_of_heap (H2.out.cells 0 rfl)); clear _h) | ((have _h := H); go_at_call 42; refine (shown8 _).mono ?_; rintro e w1 ⟨rfl, hb⟩; (have H1 := Lib.hid (H.out.below hb)); clear hb; clear _h))
    go_ret
    exact ⟨rfl, H3.out.bel⟩
  have c50 : decide ((50 : Int) < (m : Int)) = false := decide_eq_false (by omega)
  have m50 : m ≤ 1000 := by omega
  go_enter Try.func11, Try.ntmps11
  go_wp2_with (first | ((have _h := H3); go_at_call 26; refine (new_st H3.out.tail (some ⟨_, 0, none⟩) _ N (frL T nn nn 0 N) (rowRd (H3.out.row 0 rfl) (frL_len _ _ _ _ _)) hN4 HFR.out (frL_len _ _ _ _ _)).mono ?_; rintro e w4 ⟨q, rfl, h⟩; (have H4 := Lib.hid (h)); clear h; clear q0 q1 q2 q3 lq; (obtain ⟨q0, q1, q2, q3⟩ := cells4 (H4.out.cells 1 rfl)); (have lq := lt_of_heap (H4.out.cells 1 rfl)); clear _h) | ((have _h := H2); go_at_call 16; refine (fresh_ok nn 0 0 3 T N H2.out HOK.out HN.out HT.out t0 t1).mono ?_; rintro e w3 ⟨g, rfl, h⟩; (have H3 := Lib.hid (h)); clear h; clear q0 q1 q2 q3 lq; (obtain ⟨q0, q1, q2, q3⟩ := cells4 (H3.out.cells 1 rfl)); (have lq := lt_of_heap (H3.out.cells 1 rfl)); clear _h) | ((have _h := H1); go_at_call 47; refine (cfg8_is a0 0 0 3 nn 0 0 _ HNN.out rfl rfl a00 a01 (by decide) (by decide) (by decide) (by decide)).mono ?_; rintro e w2 ⟨rfl, hb⟩; (have H2 := Lib.hid ((H1.out.below hb).alloc #[.int .i64 nn, .int .i64 0, .int .i64 0, .int .u32 3] 26)); clear hb; (obtain ⟨q0, q1, q2, q3⟩ := cells4 (H2.out.cells 0 rfl)); (have lq := lt_of_heap (H2.out.cells 0 rfl)); clear _h) | ((have _h := H); go_at_call 42; refine (shown8 _).mono ?_; rintro e w1 ⟨rfl, hb⟩; (have H1 := Lib.hid (H.out.below hb)); clear hb; clear _h))
  have HREL := Lib.hid (show LeRel w q w2.heap.size nn 3 (3 + ((0 : Nat) : Int)) (upL (((0 : Nat) : Int) + 1) (nn - 0)) N 0 w4 from ⟨_, [], rfl, by simpa using HMV.out, H4.out⟩)
  clear H1 H2 H3 H4 q0 q1 q2 q3 lq
  obtain ⟨bc, hbc⟩ : ∃ bc, w2.heap.size = bc := ⟨_, rfl⟩
  simp only [hbc] at *
  go_loopg [13] 66 (fun kq z w' => ∃ k : Nat, z = .int .i64 ((k : Int) + 1) ∧ k ≤ nn ∧ k + kq = 66 ∧ LeRel w q bc nn 3 (3 + k) (upL ((k : Int) + 1) (nn - k)) N (3 * k) w')
  case atStart => exact ⟨0, rfl, by omega, by omega, HREL.out⟩
  case round =>
    obtain ⟨k, rfl, hk, hkq, ws, ns, hns, hmv, hS⟩ := hrel
    clear HREL HMV
    obtain ⟨q0, q1, q2, q3⟩ := cells4 (hS.cells 1 rfl)
    have lq := lt_of_heap (hS.cells 1 rfl)
    cases gk with
    | zero => omega
    | succ kk =>
      by_cases c4 : k < nn
      · have c4b : decide ((k : Int) + 1 ≤ (nn : Int)) = true := decide_eq_true (by omega)
        have L := Lib.hid hS
        obtain ⟨d, hd⟩ : ∃ d, nn - k = d + 1 := ⟨nn - k - 1, by omega⟩
        rw [hd] at hmv
        obtain ⟨ws1, ⟨S1, hr1, hs1, hi1⟩, hm1⟩ := Left.take (t := 3) (b := bg) HOK.out hmv hN2
        have HR1 := Lib.hid hr1
        have HS1 := Lib.hid hs1
        have HI1 := Lib.hid hi1
        have HM1 := Lib.hid hm1
        have HD := Lib.hid hd
        have hnl : ns.length ≤ 500 := by omega
        have HNS := Lib.hid hns
        have u1 : ((k : Int) + 1) % 4294967296 = (k : Int) + 1 := by omega
        clear hS hmv hr1 hs1 hi1 hm1 hns hd
        go_wp2_with (first | ((have _h := La1); go_at_call 49; refine (ends8 (.pointer (some rb1)) 3 1 ((k : Int) + 1) (.inl ⟨rfl, rfl, rfl⟩) HR1.out HS1.out HI1.out La1.out (newAT_ok _ (by omega) (by decide) (by decide)) (fun _ => by show (0 : Int) ≠ 6; decide) (by first | omega | simp) (by decide) (by decide)).mono ?_; rintro e v2 ⟨rfl, n1t, hn1, _, h⟩; (have La2 := Lib.hid (h.re 2 [0])); (have HTn1 := Lib.hid hn1); clear h hn1; clear q0 q1 q2 q3 lq; (obtain ⟨q0, q1, q2, q3⟩ := cells4 (La2.out.cells 1 rfl)); (have lq := lt_of_heap (La2.out.cells 1 rfl)); clear _h) | ((have _h := L); go_at_call 43; refine (made8_tz nn 0 0 3 bg 0 none 0 [] L.out (Rd32.nil _) rfl).mono ?_; rintro e v1 ⟨p1, rb1, rfl, h⟩; (have La1 := Lib.hid ((h.alloc #[.pointer (some ⟨p1, 0, none⟩), .pointer none, .pointer (some rb1)] 84).re 3 [2, 1])); clear h; clear q0 q1 q2 q3 lq; (obtain ⟨q0, q1, q2, q3⟩ := cells4 (La1.out.cells 2 rfl)); (have lq := lt_of_heap (La1.out.cells 2 rfl)); clear _h))
        go_roundg kk
        case measure => omega
        case rel =>
          refine ⟨k + 1, by rfl, by omega, by omega, ws1, ns ++ n1t, by rw [List.length_append, HTn1.out, HNS.out]; omega, ?_, La2.out⟩
          have e1 : (3 : Int) + ((k + 1 : Nat) : Int) = 3 + k + 1 := by omega
          have e2 : ((k + 1 : Nat) : Int) + 1 = (k : Int) + 1 + 1 := by omega
          have e3 : nn - (k + 1) = d := by have := HD.out; omega
          rw [e1, e2, e3]
          exact HM1.out
      · have c4b : decide ((k : Int) + 1 ≤ (nn : Int)) = false := decide_eq_false (by omega)
        obtain rfl : k = nn := by omega
        have Z := Lib.hid hS
        have hmv0 : Left k (3 + k) [] N ws := by have := hmv; rw [Nat.sub_self] at this; exact this
        obtain ⟨ws1, hg1, hm1⟩ := Left.give_run (t := 3) (b := bg) (sh := l) (i := (k : Int)) HOK.out hmv0 hN2 ⟨by omega, by omega⟩ (by simp)
        have HG1 := Lib.hid hg1
        have HM1 := Lib.hid hm1
        have HWL := Lib.hid hmv0.len
        have HNS := Lib.hid hns
        have u1 : (k : Int) % 4294967296 = (k : Int) := by omega
        have i00 : (0 : Int) ≤ (k : Int) := by omega
        have i01 : (k : Int) < 4294967296 := by omega
        clear hS hmv hmv0 hg1 hm1 hns hkq
        go_wp2_with (first | ((have _h := Z); go_at_call 43; refine (made8_any k 0 0 3 bg (k : Int) (k : Int) A m cap l Z.out (HR.out.kept Z.out.bel) HLL.out (by omega) u1).mono ?_; rintro e z1 ⟨p1, rb1, rfl, h⟩; (have Zb1 := Lib.hid ((h.alloc #[.pointer none, .pointer (some ⟨p1, 0, none⟩), .pointer (some rb1)] 84).re 3 [2, 0, 1])); (have HBP := Lib.hid (rfl : z1.heap.size = z1.heap.size)); clear h; clear q0 q1 q2 q3 lq; (obtain ⟨q0, q1, q2, q3⟩ := cells4 (Zb1.out.cells 3 rfl)); (have lq := lt_of_heap (Zb1.out.cells 3 rfl)); clear _h))
        obtain ⟨bp, hbp⟩ : ∃ bp, z1.heap.size = bp := ⟨_, rfl⟩
        simp only [hbp] at *
        have HREL2 : Hid (∃ (S : AM) (wj : List Int) (nj : List Note), RunG l (3 - 0) S wj ws1 ∧ S.ok wj.length ∧ wj.length = N ∧ nj.length = 3 * k + 0 ∧ St w [memA q wj nj, boxA bp #[.pointer none, .pointer (some ⟨p1, 0, none⟩), .pointer (some rb1)] 84, arA p1 S, bxC bc k 0 0 3] (z1.alloc (.cells #[.pointer none, .pointer (some ⟨p1, 0, none⟩), .pointer (some rb1)] 84))) :=
          Lib.hid ⟨_, _, ns, HG1.out, newAG_ok _ mb (by rw [HLL.out]; omega) HZ.out i00 i01, HWL.out, HNS.out, Zb1.out⟩
        clear Z Zb1 q0 q1 q2 q3 lq HG1 HNS c4b HBP
        go_loopg [16] 4 (fun kq z w' => ∃ j : Nat, z = .int .i64 (j : Int) ∧ j ≤ 3 ∧ j + kq = 4 ∧ ∃ (S : AM) (wj : List Int) (nj : List Note), RunG l (3 - j) S wj ws1 ∧ S.ok wj.length ∧ wj.length = N ∧ nj.length = 3 * k + j ∧ St w [memA q wj nj, boxA bp #[.pointer none, .pointer (some ⟨p1, 0, none⟩), .pointer (some rb1)] 84, arA p1 S, bxC bc k 0 0 3] w')
        case atStart => exact ⟨0, rfl, by omega, by omega, HREL2.out⟩
        case round =>
          obtain ⟨j, rfl, hj, hkq2, S, wj, nj, hg, hok, hwl, hnj, hS⟩ := hrel
          clear HREL2
          obtain ⟨q0, q1, q2, q3⟩ := cells4 (hS.cells 3 rfl)
          have lq := lt_of_heap (hS.cells 3 rfl)
          obtain ⟨e0, e1, e2⟩ := cells3a (hS.cells 1 rfl)
          cases gk with
          | zero => omega
          | succ k2 =>
            by_cases c5 : j < 3
            · have c5b : decide ((j : Int) < 3) = true := decide_eq_true (by omega)
              obtain ⟨n, hn⟩ : ∃ n, 3 - j = n + 1 := ⟨2 - j, by omega⟩
              rw [hn] at hg
              obtain ⟨S1, wj1, x, zz, g1, g0, g2, g3, g4⟩ := hg.inv
              obtain ⟨r, hr⟩ : ∃ r : Int, (if n = 0 then (1 : Int) else 0) = r := ⟨_, rfl⟩
              rw [hr] at g2
              obtain ⟨β, b1, b2⟩ : ∃ β, (r == 1) = β ∧ ((j : Int) == 2) = β := by
                by_cases c : n = 0
                · rw [if_pos c] at hr
                  have ej : j = 2 := by omega
                  exact ⟨true, by rw [← hr]; rfl, by rw [ej]; rfl⟩
                · rw [if_neg c] at hr
                  exact ⟨false, by rw [← hr]; rfl, by simp; omega⟩
              have L := Lib.hid (show St w (memA q wj nj :: arA p1 S :: boxA bp #[.pointer none, .pointer (some ⟨p1, 0, none⟩), .pointer (some rb1)] 84 :: [bxC bc k 0 0 3]) wr from hS.re 3 [0, 2, 1])
              have G1 := Lib.hid g1
              have G0 := Lib.hid g0
              have G2 := Lib.hid g2
              have G3 := Lib.hid g3
              have G4 := Lib.hid g4
              have GO := Lib.hid hok
              have GW := Lib.hid hwl
              have GN := Lib.hid hn
              have hnl : nj.length ≤ 1000000 := by omega
              have GJ := Lib.hid hnj
              obtain ⟨nj1, hnj1⟩ : ∃ nj1, nj ++ [x] = nj1 := ⟨_, rfl⟩
              have GX := Lib.hid hnj1
              clear hS hg g1 g0 g2 g3 g4 hok hwl hn hr hnj hnj1
              go_wp2_with (first | ((have _h := Lc1); go_at_call 24; refine (same6 a7 A m c7 cap l _ HR7.out HP7.out HLL.out (by omega)).mono ?_; rintro e y2 ⟨rfl, hb⟩; (have Lc2 := Lib.hid (Lc1.out.below hb)); clear hb; clear _h) | ((have _h := L); go_at_call 45; refine (give_shelf8 (.pointer (some rb1)) l m G2.out GX.out G1.out G0.out G3.out HLL.out m50 GO.out L.out hnl).mono ?_; rintro e y1 ⟨a7, c7, rfl, hr7, ho7, hw7, h⟩; (have Lc1 := Lib.hid (h)); (have HP7 := Lib.hid (HR.out.kept h.bel)); (have HR7 := Lib.hid hr7); (have HO7 := Lib.hid ho7); (have HW7 := Lib.hid hw7); clear h hr7 ho7 hw7 q0 q1 q2 q3 lq e0 e1 e2; (obtain ⟨q0, q1, q2, q3⟩ := cells4 (Lc1.out.cells 3 rfl)); (have lq := lt_of_heap (Lc1.out.cells 3 rfl)); (obtain ⟨e0, e1, e2⟩ := cells3a (Lc1.out.cells 2 rfl)); clear _h))
              go_roundg k2
              case measure => omega
              case rel =>
                have en : 3 - (j + 1) = n := by have := GN.out; omega
                exact ⟨j + 1, by rfl, by omega, by omega, S1, wj1, nj1, by rw [en]; exact G4.out, by rw [HW7.out]; exact HO7.out, HW7.out.trans GW.out, by rw [← GX.out, List.length_append, GJ.out]; rfl, Lc2.out.re 3 [0, 2, 1]⟩
            · have c5b : decide ((j : Int) < 3) = false := decide_eq_false (by omega)
              obtain rfl : j = 3 := by omega
              obtain rfl := hg.zero
              obtain ⟨ws2, ⟨S1, hr1, hs1, hi1⟩, hm2⟩ := Left.take (t := 3) (b := bg) HOK.out HM1.out hN2
              have HR1 := Lib.hid hr1
              have HS1 := Lib.hid hs1
              have HI1 := Lib.hid hi1
              have hnl : nj.length ≤ 1000000 := by omega
              have Z := Lib.hid (show St w [memA q wj nj, bxC bc k 0 0 3] wr from hS.re 4 [0, 3])
              clear hS hg hok hwl hnj hr1 hs1 hi1 hm2 e0 e1 e2 hkq2
              go_wp2_with (first | ((have _h := Zd1); go_at_call 49; refine (ends8 (.pointer (some rb1)) 3 1 (k : Int) (.inl ⟨rfl, rfl, rfl⟩) HR1.out HS1.out HI1.out Zd1.out (newAT_ok _ (by omega) (by decide) (by decide)) (fun _ => by show (0 : Int) ≠ 6; decide) (by first | omega | simp) (by decide) (by decide)).mono ?_; rintro e x2 ⟨rfl, n2t, hn2, _, h⟩; (have Zd2 := Lib.hid (h.re 2 [0])); (have HTn2 := Lib.hid hn2); clear h hn2; clear q0 q1 q2 q3 lq; (obtain ⟨q0, q1, q2, q3⟩ := cells4 (Zd2.out.cells 1 rfl)); (have lq := lt_of_heap (Zd2.out.cells 1 rfl)); clear _h) | ((have _h := Z); go_at_call 43; refine (made8_tz k 0 0 3 bg 0 none 0 [] Z.out (Rd32.nil _) rfl).mono ?_; rintro e x1 ⟨p1, rb1, rfl, h⟩; (have Zd1 := Lib.hid ((h.alloc #[.pointer (some ⟨p1, 0, none⟩), .pointer none, .pointer (some rb1)] 84).re 3 [2, 1])); clear h; clear q0 q1 q2 q3 lq; (obtain ⟨q0, q1, q2, q3⟩ := cells4 (Zd1.out.cells 2 rfl)); (have lq := lt_of_heap (Zd1.out.cells 2 rfl)); clear _h))
              go_ret
              exact ⟨rfl, Zd2.out.bel⟩
end Go.Proofs.Ytndigbkhaajjoaa
