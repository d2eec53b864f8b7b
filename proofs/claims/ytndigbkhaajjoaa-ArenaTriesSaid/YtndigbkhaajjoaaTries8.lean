/-
  ArenaTries: a machine whose every try is Contended ends when its tries are over.
-/
import Derived.Test.YtndigbkhaajjoaaGives8
namespace Go.Proofs.Ytndigbkhaajjoaa
open Go.RowKit
set_option linter.unusedVariables false
set_option linter.unusedSimpArgs false

def trS (nn : Nat) (tg : Int) (g : Bool) (left : Int) (now : Option TM) : AM := ⟨nn, 0, 0, tg, g, left, [], if g = true then 1 else 0, now, 0, 0⟩
def trT (nn : Nat) (tg : Int) (g : Bool) (y : Int) (ph : TPh) : TM := ⟨nn, 0, 0, tg, 1, 1, y, g, ph, 0⟩
theorem tr_nx {nn : Nat} (hok : okC (nn : Int) 0 0 = true) : atI (nn : Int) 0 0 0 (2 * (1 - 1)) = 2 := by
  have h := nx_at hok (i := 1) (by decide) (by have := okC_bounds hok; omega)
  exact h
theorem tr0 {nn : Nat} {tg left y : Int} {g : Bool} {ws : List Int} (hok : okC (nn : Int) 0 0 = true) (hy : rdW ws 1 = y) (h1 : y % 4294967296 = 1) (hN : 4 ≤ ws.length) :
    (trS nn tg g left none).step ws = ⟨0, 0, trS nn tg g left (some (trT nn tg g y .second)), ws, [ldN 1 y]⟩ := by
  have hx := tr_nx hok
  have e1 : (1 : Int).toNat = 1 := rfl
  cases g with
  | true =>
    have e : (newGv (nn : Int) 0 0 tg 1 1).step ws = ⟨0, trT nn tg true y .second, ws, [ldN 1 y]⟩ := by
      have e : (newGv (nn : Int) 0 0 tg 1 1).step ws = (newGv (nn : Int) 0 0 tg 1 1).head ws := rfl
      rw [e]
      unfold TM.head TM.nx newGv
      dsimp only
      rw [if_pos rfl, hx, if_neg (by decide), if_neg (by omega), e1, hy]
      rfl
    exact AM.step_go (fun _ => rfl) rfl rfl e (by decide) (by decide)
  | false =>
    have e : (newTk (nn : Int) 0 0 tg 1).step ws = ⟨0, trT nn tg false y .second, ws, [ldN 1 y]⟩ := by
      have e : (newTk (nn : Int) 0 0 tg 1).step ws = (newTk (nn : Int) 0 0 tg 1).head ws := rfl
      rw [e]
      unfold TM.head newTk
      dsimp only
      rw [if_neg (by simp), if_neg (by omega), e1, hy, h1, if_neg (by decide), hx, if_neg (by decide)]
      rfl
    exact AM.step_go (fun _ => rfl) rfl rfl e (by decide) (by decide)
theorem tr1 {nn : Nat} {tg left y : Int} {g : Bool} {ws : List Int} (hok : okC (nn : Int) 0 0 = true) (hN : 4 ≤ ws.length) :
    ∃ x ws' nt, (trS nn tg g left (some (trT nn tg g y .second))).step ws = ⟨0, 0, trS nn tg g left (some (trT nn tg g y (.last x))), ws', [nt]⟩ ∧ ws'.length = ws.length ∧ rdW ws' 1 = rdW ws 1 := by
  have hx := tr_nx hok
  have e0 : (trT nn tg g y .second).step ws = (trT nn tg g y .second).second ws := rfl
  have e2 : (2 : Int).toNat = 2 := rfl
  cases g with
  | true =>
    refine ⟨0, ws.set 2 (y % 4294967296), stN 2 (rdW ws 2) (y % 4294967296), AM.step_go (fun _ => rfl) rfl rfl (T := trT nn tg true y .second) (T1 := trT nn tg true y (.last 0)) ?_ (by decide) (by decide), by simp, by unfold rdW; rw [List.getD_eq_getElem?_getD, List.getElem?_set_ne (by decide), ← List.getD_eq_getElem?_getD]⟩
    rw [e0]
    unfold TM.second TM.nx trT
    dsimp only
    rw [hx, if_neg (by omega), if_pos rfl, e2]
  | false =>
    refine ⟨rdW ws 2, ws, ldN 2 (rdW ws 2), AM.step_go (fun _ => rfl) rfl rfl (T := trT nn tg false y .second) (T1 := trT nn tg false y (.last (rdW ws 2))) ?_ (by decide) (by decide), rfl, rfl⟩
    rw [e0]
    unfold TM.second TM.nx trT
    dsimp only
    rw [hx, if_neg (by omega), if_neg (by simp), e2]
theorem tr2_go {nn : Nat} {tg left y x : Int} {g : Bool} {ws : List Int} (hy : rdW ws 1 ≠ y) :
    (trS nn tg g left (some (trT nn tg g y (.last x)))).goOn ws = if left = 0 then ⟨6, 0, { trS nn tg g (left - 1) none with st := 6 }, ws, [noN 1 (rdW ws 1)]⟩ else ⟨0, 0, trS nn tg g (left - 1) none, ws, [noN 1 (rdW ws 1)]⟩ := by
  have e0 : (trT nn tg g y (.last x)).step ws = ⟨3, { trT nn tg g y (.last x) with st := 3 }, ws, [noN 1 (rdW ws 1)]⟩ := by
    have e : (trT nn tg g y (.last x)).step ws = (trT nn tg g y (.last x)).last x ws := rfl
    rw [e]
    unfold TM.last trT
    dsimp only
    have e1 : (1 : Int).toNat = 1 := rfl
    rw [e1, if_neg hy]
  unfold AM.goOn
  dsimp only
  have et : (trS nn tg g left (some (trT nn tg g y (.last x)))).try_ = trT nn tg g y (.last x) := rfl
  rw [if_neg (by simp [trS]), et, e0]
  dsimp only
  rw [if_pos rfl]
  rfl
theorem tr2_more {nn : Nat} {tg left y x : Int} {g : Bool} {ws : List Int} (hy : rdW ws 1 ≠ y) (hl : left ≠ 0) :
    (trS nn tg g left (some (trT nn tg g y (.last x)))).step ws = ⟨0, 0, trS nn tg g (left - 1) none, ws, [noN 1 (rdW ws 1)]⟩ := by
  cases g with
  | false =>
    unfold AM.step AM.take
    rw [tr2_go hy, if_neg hl, if_neg (by simp [trS]), if_neg (by simp [trS])]
  | true =>
    unfold AM.step AM.gives
    rw [tr2_go hy, if_neg hl]
    rfl
theorem tr2_take {nn : Nat} {tg y x : Int} {ws : List Int} (hy : rdW ws 1 ≠ y) :
    (trS nn tg false 0 (some (trT nn tg false y (.last x)))).step ws = ⟨6, 0, { trS nn tg false (0 - 1) none with st := 6 }, ws, [noN 1 (rdW ws 1)]⟩ := by
  unfold AM.step AM.take
  rw [tr2_go hy, if_pos rfl, if_neg (by simp [trS]), if_neg (by simp [trS])]
theorem tr2_give {nn : Nat} {tg y x : Int} {ws : List Int} (hy : rdW ws 1 ≠ y) :
    (trS nn tg true 0 (some (trT nn tg true y (.last x)))).step ws = ⟨1, 1, { trS nn tg true (0 - 1) none with shelf := [1], st := 1, i := 1 }, ws, [noN 1 (rdW ws 1)]⟩ := by
  unfold AM.step AM.gives
  rw [tr2_go hy, if_pos rfl]
  rfl
/-- A step of a machine that takes, with the shelf. -/
theorem take_step8 {w0 w : World} {q p : Nat} {ws ws' : List Int} {ns ns' : List Note} {x : Note} {L : List Asn} {S S' : AM} {r z : Int} (rp : Value) (l : List Int) (k : Nat) (he : S.step ws = ⟨r, z, S', ws', [x]⟩) (hn : ns ++ [x] = ns') (hg : S.give = false) (hst : S.st = 0) (hl : S'.shelf = l) (hk : l.length = k) (hk2 : k ≤ 1000) (hok : S.ok ws.length) (hS : St w0 (memA q ws ns :: arA p S :: L) w) (hns : ns.length ≤ 1000000) :
    Calls Try.prog 45 #[.agg #[.pointer (some ⟨p, 0, none⟩), .pointer none, rp], .pointer (some ⟨q, 0, none⟩)] w fun e w' => ∃ a c', e = .returned (.tuple #[.int .i64 r, .int .u32 z, .slice a k c']) ∧ Rd32 w' a l ∧ S'.ok ws.length ∧ ws'.length = ws.length ∧ St w0 (memA q ws' ns' :: arA p S' :: L) w' := by
  have hrg := fun i (hi : i < ws.length) => hS.rng hi
  obtain ⟨hok1, hgv, hlen1, _, _, _⟩ := AM.step_ok hok (fun _ => by rw [hst]; decide) hrg
  rw [he] at hok1 hgv hlen1
  subst hl
  subst hk
  refine (pstep8_t rp he hn hg hS hok (by omega) (hgv.trans hg) (by omega)).mono ?_
  rintro e w' ⟨a, c', rfl, h⟩
  exact ⟨a, c', rfl, (row32_rd (h.rowOf 0 rfl)).1, hok1, hlen1, h.re 3 [1, 2]⟩
set_option maxRecDepth 20000 in
set_option maxHeartbeats 16000000 in
theorem arenaTries_t (a0 tg bg : Int) (w : World) (hx0 : (Lit.int .i64 a0).wf = true) (hx2 : (Lit.int .u32 tg).wf = true) (hx1 : (Lit.int .i64 bg).wf = true) :
    Calls Try.prog 9 #[.int .i64 a0, .int .u32 tg, .int .i64 bg, .bool false] w fun e w' => e = .returned (.bool true) ∧ Below w.heap.size w w' := by
  obtain ⟨m0, m1⟩ := rngI64 hx1
  obtain ⟨tt0, tt1⟩ := rngU32 hx2
  obtain ⟨b, hb⟩ : ∃ b, pickI bg 10 = b := ⟨_, rfl⟩
  have hpb := pickI_rng (c := bg) (n := 10) (by decide)
  rw [hb] at hpb
  obtain ⟨b0, b1⟩ := hpb
  have HB := Lib.hid hb
  clear hx2 hb
  obtain ⟨a00, a01⟩ := rngI64 hx0
  have hp := pickI_rng (c := a0) (n := 64) (by decide)
  obtain ⟨nn, hnn⟩ : ∃ nn : Nat, 1 + pickI a0 64 = (nn : Int) := Int.eq_ofNat_of_zero_le (by omega)
  have n1 : 1 ≤ nn := by omega
  have n2 : nn ≤ 64 := by omega
  obtain ⟨N, hN⟩ : ∃ N, N = 2 + 2 * nn + 0 + 0 := ⟨_, rfl⟩
  obtain ⟨T, hT⟩ : ∃ T : Int, tg * 4294967296 = T := ⟨_, rfl⟩
  have hN4 : N ≤ 1024 := by omega
  have hN2 : 2 + 2 * nn ≤ N := by omega
  have t0 : (0 : Int) ≤ tg := by omega
  have t1 : (tg : Int) < 4294967296 := by omega
  have HNN := Lib.hid hnn
  have HN := Lib.hid hN
  have HT := Lib.hid hT
  have HOK : Hid (okC (nn : Int) ((0 : Nat) : Int) ((0 : Nat) : Int) = true) := Lib.hid (by simp [okC]; omega)
  have HFR : Hid (∀ x ∈ frL T nn nn 0 N, 0 ≤ x ∧ x < 18446744073709551616) := Lib.hid (frL_rng (by omega) (by omega) n2)
  have HMV : Hid (Left nn tg (upL 1 nn) N (frL T nn nn 0 N)) := Lib.hid ⟨fresh_at1 hT t0 t1 hN2 n1 n2, frL_len _ _ _ _ _, HFR.out⟩
  have H := Lib.hid (St.nil w)
  have d0 : decide ((nn : Int) < 1) = false := decide_eq_false (by omega)
  have N4 : 4 ≤ N := by omega
  have N1 : (1 : Int) < (N : Int) := by omega
  have N1n : 1 < N := by omega
  have N0n : 0 < N := by omega
  clear hx0 hx1 hp hnn hN hT
  go_enter Try.func9, Try.ntmps9
  go_wp2_with (first | ((have _h := H4); go_at_call 43; refine (made8_tz nn 0 0 tg b 1 none 0 [] H4.out (Rd32.nil _) rfl).mono ?_; rintro e w6 ⟨p1, rb1, rfl, h⟩; (have H6 := Lib.hid ((h.alloc #[.pointer (some ⟨p1, 0, none⟩), .pointer none, .pointer (some rb1)] 84).re 3 [2, 0, 1])); clear h; clear q0 q1 q2 q3 lq; clear _h) | ((have _h := H4); go_at_call 44; refine (pick8_is bg 10 b _ HB.out (by decide) (by decide) m0 m1).mono ?_; rintro e w5 ⟨rfl, rfl⟩; clear _h) | ((have _h := H3); go_at_call 26; refine (new_st H3.out.tail (some ⟨_, 0, none⟩) _ N (frL T nn nn 0 N) (rowRd (H3.out.row 0 rfl) (frL_len _ _ _ _ _)) hN4 HFR.out (frL_len _ _ _ _ _)).mono ?_; rintro e w4 ⟨q, rfl, h⟩; (have H4 := Lib.hid (h)); clear h; clear q0 q1 q2 q3 lq; (obtain ⟨q0, q1, q2, q3⟩ := cells4 (H4.out.cells 1 rfl)); (have lq := lt_of_heap (H4.out.cells 1 rfl)); clear _h) | ((have _h := H2); go_at_call 16; refine (fresh_ok nn 0 0 tg T N H2.out HOK.out HN.out HT.out t0 t1).mono ?_; rintro e w3 ⟨g, rfl, h⟩; (have H3 := Lib.hid (h)); clear h; clear q0 q1 q2 q3 lq; (obtain ⟨q0, q1, q2, q3⟩ := cells4 (H3.out.cells 1 rfl)); (have lq := lt_of_heap (H3.out.cells 1 rfl)); clear _h) | ((have _h := H1); go_at_call 47; refine (cfg8_is a0 0 0 tg nn 0 0 _ HNN.out rfl rfl a00 a01 (by decide) (by decide) (by decide) (by decide)).mono ?_; rintro e w2 ⟨rfl, hb⟩; (have H2 := Lib.hid ((H1.out.below hb).alloc #[.int .i64 nn, .int .i64 0, .int .i64 0, .int .u32 tg] 26)); clear hb; (obtain ⟨q0, q1, q2, q3⟩ := cells4 (H2.out.cells 0 rfl)); (have lq := lt_of_heap (H2.out.cells 0 rfl)); clear _h) | ((have _h := H); go_at_call 42; refine (shown8 _).mono ?_; rintro e w1 ⟨rfl, hb⟩; (have H1 := Lib.hid (H.out.below hb)); clear hb; clear _h))
  obtain ⟨bc, hbc⟩ : ∃ bc, w2.heap.size = bc := ⟨_, rfl⟩
  obtain ⟨bp, hbp⟩ : ∃ bp, w6.heap.size = bp := ⟨_, rfl⟩
  simp only [hbc, hbp] at *
  have HREL := Lib.hid H6.out
  clear H1 H2 H3 H4 H6
  go_loopg [17] 31 (fun kq z w' => ∃ (κ left y : Int) (now : Option TM) (qq ph : Nat) (ws : List Int) (ns : List Note), z = .int .i64 κ ∧ κ = 3 * qq + ph + 1 ∧ ph < 3 ∧ left = b - qq ∧ 0 ≤ left ∧ 3 * qq + ph + kq = 31 ∧ ((ph = 0 ∧ now = none) ∨ (ph = 1 ∧ now = some (trT nn tg false y .second)) ∨ (ph = 2 ∧ ∃ x, now = some (trT nn tg false y (.last x)))) ∧ rdW ws 1 = y ∧ y % 4294967296 = 1 ∧ (0 ≤ y ∧ y < 18446744073709551616) ∧ ws.length = N ∧ (trS nn tg false left now).ok ws.length ∧ ns.length = 3 * qq + ph + qq ∧ St w [memA q ws ns, boxA bp #[.pointer (some ⟨p1, 0, none⟩), .pointer none, .pointer (some rb1)] 84, arA p1 (trS nn tg false left now), bxC bc nn 0 0 tg] w')
  case atStart =>
    have eb : max b 0 = b := by omega
    have er : rdW (frL T nn nn 0 N) 1 = 1 + T := by rw [frL_rd _ _ _ _ _ N1n]; unfold frAt; simp
    have hT := HT.out
    refine ⟨1, b, 1 + T, none, 0, 0, frL T nn nn 0 N, [], rfl, by omega, by decide, by omega, b0, by decide, .inl ⟨rfl, rfl⟩, er, by omega, by omega, frL_len _ _ _ _ _, ?_, rfl, ?_⟩
    · have := (newAT_ok _ (by omega) (by decide) (by decide) : (newAT (nn : Int) 0 0 tg b []).ok (frL T nn nn 0 N).length)
      unfold newAT at this
      rw [eb] at this
      exact this
    · have := HREL.out
      unfold newAT at this
      rw [eb] at this
      exact this
  case round =>
    obtain ⟨κ, left, y, now, qq, ph, ws, ns, rfl, hκ, hph, hleft, hl0, hkq, hform, hy, hy1, hy2, hwl, hok, hns, hS⟩ := hrel
    clear HREL
    obtain ⟨e0, e1, e2⟩ := cells3a (hS.cells 1 rfl)
    have lp := lt_of_heap (hS.cells 1 rfl)
    have L := Lib.hid (show St w (memA q ws ns :: arA p1 (trS nn tg false left now) :: boxA bp #[.pointer (some ⟨p1, 0, none⟩), .pointer none, .pointer (some rb1)] 84 :: [bxC bc nn 0 0 tg]) wr from hS.re 3 [0, 2, 1])
    have HO := Lib.hid hok
    have HNS := Lib.hid hns
    have HWL := Lib.hid hwl
    have HY := Lib.hid hy
    have HY1 := Lib.hid hy1
    obtain ⟨y0, y1⟩ := hy2
    have hnl : ns.length ≤ 100 := by omega
    have wl4 : 4 ≤ ws.length := by omega
    have d1 : decide (κ ≤ 3 * (b + 1)) = true := decide_eq_true (by omega)
    have HKQ := Lib.hid hkq
    have HLE := Lib.hid hleft
    have HKA := Lib.hid hκ
    have r1 : κ ≤ 30 := by omega
    have r2 : 1 ≤ κ := by omega
    clear hS hok hns hwl hy hy1 hκ hleft hkq hph
    cases gk with
    | zero => have h1 := HKQ.out; have h2 := HKA.out; omega
    | succ kk =>
      rcases hform with ⟨rfl, rfl⟩ | ⟨rfl, rfl⟩ | ⟨rfl, x, rfl⟩
      · have HE := Lib.hid (tr0 (tg := tg) (left := left) (g := false) HOK.out HY.out HY1.out wl4)
        have e4 : κ.tmod 3 = 1 := by have := HKA.out; rw [Int.tmod_eq_emod_of_nonneg (by omega)]; omega
        have e5 : (κ == 3 * (b + 1)) = false := by have := HKA.out; simp; omega
        go_wp2_with (first | ((have _h := L); go_at_call 45; refine (take_step8 (.pointer (some rb1)) [] 0 HE.out rfl rfl rfl rfl rfl (by decide) HO.out L.out (by first | omega | (simp; omega))).mono ?_; rintro e v1 ⟨a7, c7, rfl, hr7, ho7, hw7, h⟩; (have L1 := Lib.hid (h)); (have HR7 := Lib.hid hr7); (have HO7 := Lib.hid ho7); (have HW7 := Lib.hid hw7); clear h hr7 ho7 hw7 e0 e1 e2 lp; (obtain ⟨e0, e1, e2⟩ := cells3a (L1.out.cells 2 rfl)); (have lp := lt_of_heap (L1.out.cells 2 rfl)); clear _h))
        go_roundg kk
        case measure => omega
        case rel => exact ⟨κ + 1, left, y, _, qq, 1, ws, _, by rfl, by have := HKA.out; omega, by decide, HLE.out, hl0, by have := HKQ.out; omega, .inr (.inl ⟨rfl, rfl⟩), HY.out, HY1.out, ⟨y0, y1⟩, HWL.out, HO7.out, by have := HNS.out; simp; omega, L1.out.re 3 [0, 2, 1]⟩
      · obtain ⟨x, ws1, nt, he, hw1, hy3⟩ := tr1 (tg := tg) (left := left) (g := false) (y := y) HOK.out wl4
        have HE := Lib.hid he
        have HW1 := Lib.hid hw1
        have HY3 := Lib.hid hy3
        have e4 : κ.tmod 3 = 2 := by have := HKA.out; rw [Int.tmod_eq_emod_of_nonneg (by omega)]; omega
        have e5 : (κ == 3 * (b + 1)) = false := by have := HKA.out; simp; omega
        clear he hw1 hy3
        go_wp2_with (first | ((have _h := L); go_at_call 45; refine (take_step8 (.pointer (some rb1)) [] 0 HE.out rfl rfl rfl rfl rfl (by decide) HO.out L.out (by first | omega | (simp; omega))).mono ?_; rintro e v1 ⟨a7, c7, rfl, hr7, ho7, hw7, h⟩; (have L1 := Lib.hid (h)); (have HR7 := Lib.hid hr7); (have HO7 := Lib.hid ho7); (have HW7 := Lib.hid hw7); clear h hr7 ho7 hw7 e0 e1 e2 lp; (obtain ⟨e0, e1, e2⟩ := cells3a (L1.out.cells 2 rfl)); (have lp := lt_of_heap (L1.out.cells 2 rfl)); clear _h))
        go_roundg kk
        case measure => omega
        case rel => exact ⟨κ + 1, left, y, _, qq, 2, ws1, _, by rfl, by have := HKA.out; omega, by decide, HLE.out, hl0, by have := HKQ.out; omega, .inr (.inr ⟨rfl, x, rfl⟩), HY3.out.trans HY.out, HY1.out, ⟨y0, y1⟩, HW1.out.trans HWL.out, by rw [HW1.out]; exact HO7.out, by have := HNS.out; simp; omega, L1.out.re 3 [0, 2, 1]⟩
      · obtain ⟨v, hv⟩ : ∃ v, (y + 4294967296) % 18446744073709551616 = v := ⟨_, rfl⟩
        have vv0 : 0 ≤ v := by omega
        have vv1 : v < 18446744073709551616 := by omega
        have hwv : IntKind.u64.wrap (y + 4294967296) = v := by rw [IntKind.wrap_u64]; exact hv
        have hrv : rdW (ws.set 1 v) 1 = v := by unfold rdW; rw [List.getD_eq_getElem?_getD, List.getElem?_set_self (by omega)]; rfl
        have hne : rdW (ws.set 1 v) 1 ≠ y := by rw [hrv]; omega
        have hv1 : v % 4294967296 = 1 := by have := HY1.out; omega
        have HV1 := Lib.hid hv1
        have HRV := Lib.hid hrv
        have HOV := Lib.hid (show (trS nn tg false left (some (trT nn tg false y (.last x)))).ok (ws.set 1 v).length by rw [List.length_set]; exact HO.out)
        have e4 : κ.tmod 3 = 0 := by have := HKA.out; rw [Int.tmod_eq_emod_of_nonneg (by omega)]; omega
        have HNE := Lib.hid hne
        clear hrv hne hv1
        by_cases cl : left = 0
        · subst cl
          have e5 : (κ == 3 * (b + 1)) = true := by have := HKA.out; have := HLE.out; simp; omega
          have HE := Lib.hid (tr2_take (nn := nn) (tg := tg) (x := x) HNE.out)
          clear hv
          go_wp2_with (first | ((have _h := L2); go_at_call 45; refine (take_step8 (.pointer (some rb1)) [] 0 HE.out rfl rfl rfl rfl rfl (by decide) (HOV.out) L2.out (by first | omega | (simp; omega))).mono ?_; rintro e v3 ⟨a7, c7, rfl, hr7, ho7, hw7, h⟩; (have L3 := Lib.hid (h)); (have HR7 := Lib.hid hr7); (have HO7 := Lib.hid ho7); (have HW7 := Lib.hid hw7); clear h hr7 ho7 hw7 e0 e1 e2 lp; (obtain ⟨e0, e1, e2⟩ := cells3a (L3.out.cells 2 rfl)); (have lp := lt_of_heap (L3.out.cells 2 rfl)); clear _h) | ((have _h := L1); go_at_call 48; refine (store_st L1.out 1 y v HY.out (by omega) (by omega) vv0 vv1).mono ?_; rintro e v2 ⟨rfl, h⟩; (have L2 := Lib.hid (h)); clear h hx5 e0 e1 e2 lp; (obtain ⟨e0, e1, e2⟩ := cells3a (L2.out.cells 2 rfl)); (have lp := lt_of_heap (L2.out.cells 2 rfl)); clear _h) | ((have _h := L); go_at_call 34; refine (words_pos N L.out HWL.out N0n).mono ?_; rintro e v1 ⟨g5, c5, rfl, hw5, _, _, hb5⟩; (have L1 := Lib.hid (L.out.below hb5)); (have hx5 := (hw5 1 N1n)); rw [HY.out] at hx5; clear hw5 hb5 e0 e1 e2 lp; (obtain ⟨e0, e1, e2⟩ := cells3a (L1.out.cells 2 rfl)); (have lp := lt_of_heap (L1.out.cells 2 rfl)); clear _h))
          go_ret
          exact ⟨rfl, L3.out.bel⟩
        · have e5 : (κ == 3 * (b + 1)) = false := by have := HKA.out; have := HLE.out; simp; omega
          have HE := Lib.hid (tr2_more (nn := nn) (tg := tg) (g := false) (x := x) HNE.out cl)
          have l1 : 0 ≤ left - 1 := by omega
          clear hv cl
          go_wp2_with (first | ((have _h := L2); go_at_call 45; refine (take_step8 (.pointer (some rb1)) [] 0 HE.out rfl rfl rfl rfl rfl (by decide) (HOV.out) L2.out (by first | omega | (simp; omega))).mono ?_; rintro e v3 ⟨a7, c7, rfl, hr7, ho7, hw7, h⟩; (have L3 := Lib.hid (h)); (have HR7 := Lib.hid hr7); (have HO7 := Lib.hid ho7); (have HW7 := Lib.hid hw7); clear h hr7 ho7 hw7 e0 e1 e2 lp; (obtain ⟨e0, e1, e2⟩ := cells3a (L3.out.cells 2 rfl)); (have lp := lt_of_heap (L3.out.cells 2 rfl)); clear _h) | ((have _h := L1); go_at_call 48; refine (store_st L1.out 1 y v HY.out (by omega) (by omega) vv0 vv1).mono ?_; rintro e v2 ⟨rfl, h⟩; (have L2 := Lib.hid (h)); clear h hx5 e0 e1 e2 lp; (obtain ⟨e0, e1, e2⟩ := cells3a (L2.out.cells 2 rfl)); (have lp := lt_of_heap (L2.out.cells 2 rfl)); clear _h) | ((have _h := L); go_at_call 34; refine (words_pos N L.out HWL.out N0n).mono ?_; rintro e v1 ⟨g5, c5, rfl, hw5, _, _, hb5⟩; (have L1 := Lib.hid (L.out.below hb5)); (have hx5 := (hw5 1 N1n)); rw [HY.out] at hx5; clear hw5 hb5 e0 e1 e2 lp; (obtain ⟨e0, e1, e2⟩ := cells3a (L1.out.cells 2 rfl)); (have lp := lt_of_heap (L1.out.cells 2 rfl)); clear _h))
          go_roundg kk
          case measure => omega
          case rel => exact ⟨κ + 1, left - 1, v, _, qq + 1, 0, _, _, by rfl, by have := HKA.out; omega, by decide, by have := HLE.out; omega, l1, by have := HKQ.out; omega, .inl ⟨rfl, rfl⟩, HRV.out, HV1.out, ⟨vv0, vv1⟩, by rw [List.length_set]; exact HWL.out, HO7.out, by have := HNS.out; simp; omega, L3.out.re 3 [0, 2, 1]⟩
set_option maxRecDepth 20000 in
set_option maxHeartbeats 16000000 in
theorem arenaTries_g (a0 tg bg : Int) (w : World) (hx0 : (Lit.int .i64 a0).wf = true) (hx2 : (Lit.int .u32 tg).wf = true) (hx1 : (Lit.int .i64 bg).wf = true) :
    Calls Try.prog 9 #[.int .i64 a0, .int .u32 tg, .int .i64 bg, .bool true] w fun e w' => e = .returned (.bool true) ∧ Below w.heap.size w w' := by
  obtain ⟨m0, m1⟩ := rngI64 hx1
  obtain ⟨tt0, tt1⟩ := rngU32 hx2
  obtain ⟨b, hb⟩ : ∃ b, pickI bg 10 = b := ⟨_, rfl⟩
  have hpb := pickI_rng (c := bg) (n := 10) (by decide)
  rw [hb] at hpb
  obtain ⟨b0, b1⟩ := hpb
  have HB := Lib.hid hb
  clear hx2 hb
  obtain ⟨a00, a01⟩ := rngI64 hx0
  have hp := pickI_rng (c := a0) (n := 64) (by decide)
  obtain ⟨nn, hnn⟩ : ∃ nn : Nat, 1 + pickI a0 64 = (nn : Int) := Int.eq_ofNat_of_zero_le (by omega)
  have n1 : 1 ≤ nn := by omega
  have n2 : nn ≤ 64 := by omega
  obtain ⟨N, hN⟩ : ∃ N, N = 2 + 2 * nn + 0 + 0 := ⟨_, rfl⟩
  obtain ⟨T, hT⟩ : ∃ T : Int, tg * 4294967296 = T := ⟨_, rfl⟩
  have hN4 : N ≤ 1024 := by omega
  have hN2 : 2 + 2 * nn ≤ N := by omega
  have t0 : (0 : Int) ≤ tg := by omega
  have t1 : (tg : Int) < 4294967296 := by omega
  have HNN := Lib.hid hnn
  have HN := Lib.hid hN
  have HT := Lib.hid hT
  have HOK : Hid (okC (nn : Int) ((0 : Nat) : Int) ((0 : Nat) : Int) = true) := Lib.hid (by simp [okC]; omega)
  have HFR : Hid (∀ x ∈ frL T nn nn 0 N, 0 ≤ x ∧ x < 18446744073709551616) := Lib.hid (frL_rng (by omega) (by omega) n2)
  have HMV : Hid (Left nn tg (upL 1 nn) N (frL T nn nn 0 N)) := Lib.hid ⟨fresh_at1 hT t0 t1 hN2 n1 n2, frL_len _ _ _ _ _, HFR.out⟩
  have H := Lib.hid (St.nil w)
  have d0 : decide ((nn : Int) < 1) = false := decide_eq_false (by omega)
  have N4 : 4 ≤ N := by omega
  have N1 : (1 : Int) < (N : Int) := by omega
  have N1n : 1 < N := by omega
  have N0n : 0 < N := by omega
  clear hx0 hx1 hp hnn hN hT
  go_enter Try.func9, Try.ntmps9
  go_wp2_with (first | ((have _h := H4); go_at_call 43; refine (made8_gz nn 0 0 tg b 1 1 none 0 [] H4.out (Rd32.nil _) rfl (by decide)).mono ?_; rintro e w6 ⟨p1, rb1, rfl, h⟩; (have H6 := Lib.hid ((h.alloc #[.pointer none, .pointer (some ⟨p1, 0, none⟩), .pointer (some rb1)] 84).re 3 [2, 0, 1])); clear h; clear q0 q1 q2 q3 lq; clear _h) | ((have _h := H4); go_at_call 44; refine (pick8_is bg 10 b _ HB.out (by decide) (by decide) m0 m1).mono ?_; rintro e w5 ⟨rfl, rfl⟩; clear _h) | ((have _h := H3); go_at_call 26; refine (new_st H3.out.tail (some ⟨_, 0, none⟩) _ N (frL T nn nn 0 N) (rowRd (H3.out.row 0 rfl) (frL_len _ _ _ _ _)) hN4 HFR.out (frL_len _ _ _ _ _)).mono ?_; rintro e w4 ⟨q, rfl, h⟩; (have H4 := Lib.hid (h)); clear h; clear q0 q1 q2 q3 lq; (obtain ⟨q0, q1, q2, q3⟩ := cells4 (H4.out.cells 1 rfl)); (have lq := lt_of_heap (H4.out.cells 1 rfl)); clear _h) | ((have _h := H2); go_at_call 16; refine (fresh_ok nn 0 0 tg T N H2.out HOK.out HN.out HT.out t0 t1).mono ?_; rintro e w3 ⟨g, rfl, h⟩; (have H3 := Lib.hid (h)); clear h; clear q0 q1 q2 q3 lq; (obtain ⟨q0, q1, q2, q3⟩ := cells4 (H3.out.cells 1 rfl)); (have lq := lt_of_heap (H3.out.cells 1 rfl)); clear _h) | ((have _h := H1); go_at_call 47; refine (cfg8_is a0 0 0 tg nn 0 0 _ HNN.out rfl rfl a00 a01 (by decide) (by decide) (by decide) (by decide)).mono ?_; rintro e w2 ⟨rfl, hb⟩; (have H2 := Lib.hid ((H1.out.below hb).alloc #[.int .i64 nn, .int .i64 0, .int .i64 0, .int .u32 tg] 26)); clear hb; (obtain ⟨q0, q1, q2, q3⟩ := cells4 (H2.out.cells 0 rfl)); (have lq := lt_of_heap (H2.out.cells 0 rfl)); clear _h) | ((have _h := H); go_at_call 42; refine (shown8 _).mono ?_; rintro e w1 ⟨rfl, hb⟩; (have H1 := Lib.hid (H.out.below hb)); clear hb; clear _h))
  obtain ⟨bc, hbc⟩ : ∃ bc, w2.heap.size = bc := ⟨_, rfl⟩
  obtain ⟨bp, hbp⟩ : ∃ bp, w6.heap.size = bp := ⟨_, rfl⟩
  simp only [hbc, hbp] at *
  have HREL := Lib.hid H6.out
  clear H1 H2 H3 H4 H6
  go_loopg [17] 31 (fun kq z w' => ∃ (κ left y : Int) (now : Option TM) (qq ph : Nat) (ws : List Int) (ns : List Note), z = .int .i64 κ ∧ κ = 3 * qq + ph + 1 ∧ ph < 3 ∧ left = b - qq ∧ 0 ≤ left ∧ 3 * qq + ph + kq = 31 ∧ ((ph = 0 ∧ now = none) ∨ (ph = 1 ∧ now = some (trT nn tg true y .second)) ∨ (ph = 2 ∧ ∃ x, now = some (trT nn tg true y (.last x)))) ∧ rdW ws 1 = y ∧ y % 4294967296 = 1 ∧ (0 ≤ y ∧ y < 18446744073709551616) ∧ ws.length = N ∧ (trS nn tg true left now).ok ws.length ∧ ns.length = 3 * qq + ph + qq ∧ St w [memA q ws ns, boxA bp #[.pointer none, .pointer (some ⟨p1, 0, none⟩), .pointer (some rb1)] 84, arA p1 (trS nn tg true left now), bxC bc nn 0 0 tg] w')
  case atStart =>
    have eb : max b 0 = b := by omega
    have er : rdW (frL T nn nn 0 N) 1 = 1 + T := by rw [frL_rd _ _ _ _ _ N1n]; unfold frAt; simp
    have hT := HT.out
    refine ⟨1, b, 1 + T, none, 0, 0, frL T nn nn 0 N, [], rfl, by omega, by decide, by omega, b0, by decide, .inl ⟨rfl, rfl⟩, er, by omega, by omega, frL_len _ _ _ _ _, ?_, rfl, ?_⟩
    · have := (newAG_ok _ (by omega) (by decide) (by decide) (by decide) (by decide) : (newAG (nn : Int) 0 0 tg b [] 1).ok (frL T nn nn 0 N).length)
      unfold newAG at this
      rw [eb] at this
      exact this
    · have := HREL.out
      unfold newAG at this
      rw [eb] at this
      exact this
  case round =>
    obtain ⟨κ, left, y, now, qq, ph, ws, ns, rfl, hκ, hph, hleft, hl0, hkq, hform, hy, hy1, hy2, hwl, hok, hns, hS⟩ := hrel
    clear HREL
    obtain ⟨e0, e1, e2⟩ := cells3a (hS.cells 1 rfl)
    have lp := lt_of_heap (hS.cells 1 rfl)
    have L := Lib.hid (show St w (memA q ws ns :: arA p1 (trS nn tg true left now) :: boxA bp #[.pointer none, .pointer (some ⟨p1, 0, none⟩), .pointer (some rb1)] 84 :: [bxC bc nn 0 0 tg]) wr from hS.re 3 [0, 2, 1])
    have HO := Lib.hid hok
    have HNS := Lib.hid hns
    have HWL := Lib.hid hwl
    have HY := Lib.hid hy
    have HY1 := Lib.hid hy1
    obtain ⟨y0, y1⟩ := hy2
    have hnl : ns.length ≤ 100 := by omega
    have wl4 : 4 ≤ ws.length := by omega
    have d1 : decide (κ ≤ 3 * (b + 1)) = true := decide_eq_true (by omega)
    have HKQ := Lib.hid hkq
    have HLE := Lib.hid hleft
    have HKA := Lib.hid hκ
    have r1 : κ ≤ 30 := by omega
    have r2 : 1 ≤ κ := by omega
    clear hS hok hns hwl hy hy1 hκ hleft hkq hph
    cases gk with
    | zero => have h1 := HKQ.out; have h2 := HKA.out; omega
    | succ kk =>
      rcases hform with ⟨rfl, rfl⟩ | ⟨rfl, rfl⟩ | ⟨rfl, x, rfl⟩
      · have HE := Lib.hid (tr0 (tg := tg) (left := left) (g := true) HOK.out HY.out HY1.out wl4)
        have e4 : κ.tmod 3 = 1 := by have := HKA.out; rw [Int.tmod_eq_emod_of_nonneg (by omega)]; omega
        have e5 : (κ == 3 * (b + 1)) = false := by have := HKA.out; simp; omega
        go_wp2_with (first | ((have _h := L); go_at_call 45; refine (give_shelf8 (.pointer (some rb1)) [] 0 HE.out rfl rfl rfl rfl rfl (by decide) HO.out L.out (by first | omega | (simp; omega))).mono ?_; rintro e v1 ⟨a7, c7, rfl, hr7, ho7, hw7, h⟩; (have L1 := Lib.hid (h)); (have HR7 := Lib.hid hr7); (have HO7 := Lib.hid ho7); (have HW7 := Lib.hid hw7); clear h hr7 ho7 hw7 e0 e1 e2 lp; (obtain ⟨e0, e1, e2⟩ := cells3a (L1.out.cells 2 rfl)); (have lp := lt_of_heap (L1.out.cells 2 rfl)); clear _h))
        go_roundg kk
        case measure => omega
        case rel => exact ⟨κ + 1, left, y, _, qq, 1, ws, _, by rfl, by have := HKA.out; omega, by decide, HLE.out, hl0, by have := HKQ.out; omega, .inr (.inl ⟨rfl, rfl⟩), HY.out, HY1.out, ⟨y0, y1⟩, HWL.out, HO7.out, by have := HNS.out; simp; omega, L1.out.re 3 [0, 2, 1]⟩
      · obtain ⟨x, ws1, nt, he, hw1, hy3⟩ := tr1 (tg := tg) (left := left) (g := true) (y := y) HOK.out wl4
        have HE := Lib.hid he
        have HW1 := Lib.hid hw1
        have HY3 := Lib.hid hy3
        have e4 : κ.tmod 3 = 2 := by have := HKA.out; rw [Int.tmod_eq_emod_of_nonneg (by omega)]; omega
        have e5 : (κ == 3 * (b + 1)) = false := by have := HKA.out; simp; omega
        clear he hw1 hy3
        go_wp2_with (first | ((have _h := L); go_at_call 45; refine (give_shelf8 (.pointer (some rb1)) [] 0 HE.out rfl rfl rfl rfl rfl (by decide) HO.out L.out (by first | omega | (simp; omega))).mono ?_; rintro e v1 ⟨a7, c7, rfl, hr7, ho7, hw7, h⟩; (have L1 := Lib.hid (h)); (have HR7 := Lib.hid hr7); (have HO7 := Lib.hid ho7); (have HW7 := Lib.hid hw7); clear h hr7 ho7 hw7 e0 e1 e2 lp; (obtain ⟨e0, e1, e2⟩ := cells3a (L1.out.cells 2 rfl)); (have lp := lt_of_heap (L1.out.cells 2 rfl)); clear _h))
        go_roundg kk
        case measure => omega
        case rel => exact ⟨κ + 1, left, y, _, qq, 2, ws1, _, by rfl, by have := HKA.out; omega, by decide, HLE.out, hl0, by have := HKQ.out; omega, .inr (.inr ⟨rfl, x, rfl⟩), HY3.out.trans HY.out, HY1.out, ⟨y0, y1⟩, HW1.out.trans HWL.out, by rw [HW1.out]; exact HO7.out, by have := HNS.out; simp; omega, L1.out.re 3 [0, 2, 1]⟩
      · obtain ⟨v, hv⟩ : ∃ v, (y + 4294967296) % 18446744073709551616 = v := ⟨_, rfl⟩
        have vv0 : 0 ≤ v := by omega
        have vv1 : v < 18446744073709551616 := by omega
        have hwv : IntKind.u64.wrap (y + 4294967296) = v := by rw [IntKind.wrap_u64]; exact hv
        have hrv : rdW (ws.set 1 v) 1 = v := by unfold rdW; rw [List.getD_eq_getElem?_getD, List.getElem?_set_self (by omega)]; rfl
        have hne : rdW (ws.set 1 v) 1 ≠ y := by rw [hrv]; omega
        have hv1 : v % 4294967296 = 1 := by have := HY1.out; omega
        have HV1 := Lib.hid hv1
        have HRV := Lib.hid hrv
        have HOV := Lib.hid (show (trS nn tg true left (some (trT nn tg true y (.last x)))).ok (ws.set 1 v).length by rw [List.length_set]; exact HO.out)
        have e4 : κ.tmod 3 = 0 := by have := HKA.out; rw [Int.tmod_eq_emod_of_nonneg (by omega)]; omega
        have HNE := Lib.hid hne
        clear hrv hne hv1
        by_cases cl : left = 0
        · subst cl
          have e5 : (κ == 3 * (b + 1)) = true := by have := HKA.out; have := HLE.out; simp; omega
          have HE := Lib.hid (tr2_give (nn := nn) (tg := tg) (x := x) HNE.out)
          clear hv
          go_wp2_with (first | ((have _h := L3); go_at_call 24; refine (same6 a7 (some ⟨_, 0, none⟩) 1 c7 1 [1] _ (HR7.out.kept (bl_alloc (bl_refl _) _)) (lit32_1 (heap_new rfl)) rfl (by decide)).mono ?_; rintro e v4 ⟨rfl, hb⟩; (have L4 := Lib.hid ((L3.out.below (bl_alloc (bl_refl _) _)).below hb)); clear hb; clear _h) | ((have _h := L2); go_at_call 45; refine (give_shelf8 (.pointer (some rb1)) [1] 1 HE.out rfl rfl rfl rfl rfl (by decide) (HOV.out) L2.out (by first | omega | (simp; omega))).mono ?_; rintro e v3 ⟨a7, c7, rfl, hr7, ho7, hw7, h⟩; (have L3 := Lib.hid (h)); (have HR7 := Lib.hid hr7); (have HO7 := Lib.hid ho7); (have HW7 := Lib.hid hw7); clear h hr7 ho7 hw7 e0 e1 e2 lp; (obtain ⟨e0, e1, e2⟩ := cells3a (L3.out.cells 2 rfl)); (have lp := lt_of_heap (L3.out.cells 2 rfl)); clear _h) | ((have _h := L1); go_at_call 48; refine (store_st L1.out 1 y v HY.out (by omega) (by omega) vv0 vv1).mono ?_; rintro e v2 ⟨rfl, h⟩; (have L2 := Lib.hid (h)); clear h hx5 e0 e1 e2 lp; (obtain ⟨e0, e1, e2⟩ := cells3a (L2.out.cells 2 rfl)); (have lp := lt_of_heap (L2.out.cells 2 rfl)); clear _h) | ((have _h := L); go_at_call 34; refine (words_pos N L.out HWL.out N0n).mono ?_; rintro e v1 ⟨g5, c5, rfl, hw5, _, _, hb5⟩; (have L1 := Lib.hid (L.out.below hb5)); (have hx5 := (hw5 1 N1n)); rw [HY.out] at hx5; clear hw5 hb5 e0 e1 e2 lp; (obtain ⟨e0, e1, e2⟩ := cells3a (L1.out.cells 2 rfl)); (have lp := lt_of_heap (L1.out.cells 2 rfl)); clear _h))
          go_ret
          exact ⟨rfl, L4.out.bel⟩
        · have e5 : (κ == 3 * (b + 1)) = false := by have := HKA.out; have := HLE.out; simp; omega
          have HE := Lib.hid (tr2_more (nn := nn) (tg := tg) (g := true) (x := x) HNE.out cl)
          have l1 : 0 ≤ left - 1 := by omega
          clear hv cl
          go_wp2_with (first | ((have _h := L2); go_at_call 45; refine (give_shelf8 (.pointer (some rb1)) [] 0 HE.out rfl rfl rfl rfl rfl (by decide) (HOV.out) L2.out (by first | omega | (simp; omega))).mono ?_; rintro e v3 ⟨a7, c7, rfl, hr7, ho7, hw7, h⟩; (have L3 := Lib.hid (h)); (have HR7 := Lib.hid hr7); (have HO7 := Lib.hid ho7); (have HW7 := Lib.hid hw7); clear h hr7 ho7 hw7 e0 e1 e2 lp; (obtain ⟨e0, e1, e2⟩ := cells3a (L3.out.cells 2 rfl)); (have lp := lt_of_heap (L3.out.cells 2 rfl)); clear _h) | ((have _h := L1); go_at_call 48; refine (store_st L1.out 1 y v HY.out (by omega) (by omega) vv0 vv1).mono ?_; rintro e v2 ⟨rfl, h⟩; (have L2 := Lib.hid (h)); clear h hx5 e0 e1 e2 lp; (obtain ⟨e0, e1, e2⟩ := cells3a (L2.out.cells 2 rfl)); (have lp := lt_of_heap (L2.out.cells 2 rfl)); clear _h) | ((have _h := L); go_at_call 34; refine (words_pos N L.out HWL.out N0n).mono ?_; rintro e v1 ⟨g5, c5, rfl, hw5, _, _, hb5⟩; (have L1 := Lib.hid (L.out.below hb5)); (have hx5 := (hw5 1 N1n)); rw [HY.out] at hx5; clear hw5 hb5 e0 e1 e2 lp; (obtain ⟨e0, e1, e2⟩ := cells3a (L1.out.cells 2 rfl)); (have lp := lt_of_heap (L1.out.cells 2 rfl)); clear _h))
          go_roundg kk
          case measure => omega
          case rel => exact ⟨κ + 1, left - 1, v, _, qq + 1, 0, _, _, by rfl, by have := HKA.out; omega, by decide, by have := HLE.out; omega, l1, by have := HKQ.out; omega, .inl ⟨rfl, rfl⟩, HRV.out, HV1.out, ⟨vv0, vv1⟩, by rw [List.length_set]; exact HWL.out, HO7.out, by have := HNS.out; simp; omega, L3.out.re 3 [0, 2, 1]⟩
theorem arenaTries_walk (a0 tg bg : Int) (g : Bool) (w : World) (hx0 : (Lit.int .i64 a0).wf = true) (hx2 : (Lit.int .u32 tg).wf = true) (hx1 : (Lit.int .i64 bg).wf = true) :
    Calls Try.prog 9 #[.int .i64 a0, .int .u32 tg, .int .i64 bg, .bool g] w fun e w' => e = .returned (.bool true) ∧ Below w.heap.size w w' := by
  cases g with
  | false => exact arenaTries_t a0 tg bg w hx0 hx2 hx1
  | true => exact arenaTries_g a0 tg bg w hx0 hx2 hx1
end Go.Proofs.Ytndigbkhaajjoaa
