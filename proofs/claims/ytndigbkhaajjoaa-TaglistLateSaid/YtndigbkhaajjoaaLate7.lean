/-
  TaglistLate: a machine whose list was changed between its first step and its last one is Contended.
-/
import Derived.Test.YtndigbkhaajjoaaAlone7
namespace Go.Proofs.Ytndigbkhaajjoaa
open Go.RowKit
set_option linter.unusedVariables false
set_option linter.unusedSimpArgs false

set_option maxHeartbeats 4000000 in
theorem same2 (A B : Option Addr) (n c d : Nat) (ws : List Int) (w : World) (hA : RdU w A ws) (hB : RdU w B ws) (hn : ws.length = n) (hl : n ≤ 1024) :
    Calls Try.prog 33 #[.slice A n c, .slice B n d] w fun e w' => e = .returned (.bool true) ∧ Below w.heap.size w w' := by
  have HA := Lib.hid hA
  have HB := Lib.hid hB
  clear hA hB
  go_enter Try.func33, Try.ntmps33
  go_wp2
  go_loopg [5] 1025 (fun kq y w' => ∃ i : Nat, y = .int .i64 i ∧ i ≤ n ∧ i + kq = 1025 ∧ Below w.heap.size w w')
  case atStart => exact ⟨0, rfl, by omega, by omega, bl_refl w⟩
  case round =>
    obtain ⟨i, rfl, hi, hkq, hS⟩ := hrel
    have HS := Lib.hid hS
    cases gk with
    | zero => omega
    | succ kk =>
      by_cases c4 : i < n
      · have c4b : decide ((i : Int) < n) = true := decide_eq_true (by omega)
        have r0 : (0 : Int) ≤ (i : Int) := by omega
        have r1 : (i : Int) < (n : Int) := by omega
        obtain ⟨ad, rfl, hc⟩ := HA.out.cellA (show i < ws.length by omega)
        obtain ⟨bd, rfl, hd⟩ := HB.out.cellA (show i < ws.length by omega)
        have f1 := (hS.cell (World.block_lt_of_cell? _ _ hc)).trans hc
        have f2 := (hS.cell (World.block_lt_of_cell? _ _ hd)).trans hd
        clear hS hc hd
        go_wp2
        go_quiet (fail)
        go_wp2
        go_roundg kk
        case measure => omega
        case rel => exact ⟨i + 1, rfl, by omega, by omega, bl_drewN HS.out _⟩
      · have c4b : decide ((i : Int) < n) = false := decide_eq_false (by omega)
        clear hS
        go_wp2
        go_ret
        exact ⟨rfl, HS.out⟩
theorem TM.told0 (S : TM) : S.told 0 = 0 := rfl
theorem TM.told3 (S : TM) : S.told 3 = 0 := rfl
theorem TM.told1 (S : TM) : S.told 1 = S.i := rfl
/-- One list, at place 1. -/
structure Lt (nn : Nat) (T : Int) (l : List Int) (N : Nat) (ws : List Int) : Prop where
  free : AtL nn ws 1 l T
  len : ws.length = N
  rng : ∀ x ∈ ws, 0 ≤ x ∧ x < 18446744073709551616
theorem Lt.take {nn : Nat} {T s h t : Int} {i : Int} {r : List Int} {N : Nat} {ws : List Int} (hok : okC nn s h = true) (m : Lt nn T (i :: r) N ws) (hN : 2 + 2 * nn ≤ N) :
    ∃ ws', (∃ S', Run3 (newTk nn s h t 1) ws S' ws' i) ∧ Lt nn (T + 1) r N ws' := by
  obtain ⟨b1, b2, _⟩ := okC_bounds hok
  have hl := m.len
  obtain ⟨T', hr⟩ := take3 (t := t) hok m.free (by omega) (by omega)
  have hh := hdI_rng (nn := nn) (l := r) fun j hj => m.free.rng j (by simp [hj])
  exact ⟨_, ⟨T', hr⟩, m.free.pop (by omega) (by omega), by simpa using hl, set_rng m.rng (by omega) (by omega)⟩
theorem Lt.give {nn : Nat} {T s h t : Int} {i : Int} {l : List Int} {N : Nat} {ws : List Int} (hok : okC nn s h = true) (m : Lt nn T l N ws) (hN : 2 + 2 * nn ≤ N) (hi : 1 ≤ i ∧ i ≤ nn) (hn : i ∉ l) :
    ∃ ws', (∃ S', Run3 (newGv nn s h t 1 i) ws S' ws' i) ∧ Lt nn (T + 1) (i :: l) N ws' := by
  obtain ⟨b1, b2, _⟩ := okC_bounds hok
  have hl := m.len
  obtain ⟨T', hr⟩ := give3 (t := t) hok m.free (by omega) (by omega) (by omega) hi
  have hh := hdI_rng (nn := nn) (l := l) m.free.rng
  exact ⟨_, ⟨T', hr⟩, m.free.push (by omega) (by omega) hi hn (by omega) (by omega), by simpa using hl, set_rng (set_rng m.rng (by omega) (by omega)) (by omega) (by omega)⟩
theorem Lt.other {nn : Nat} {T : Int} {l : List Int} {N : Nat} {ws : List Int} (m : Lt nn T l N ws) (h1 : ∀ i ∈ l, 2 ≤ i) {v : Int} (v0 : 0 ≤ v) (v1 : v < 18446744073709551616) : Lt nn T l N (ws.set 2 v) :=
  ⟨m.free.other (by decide) (fun i hi => by have := h1 i hi; omega), by simpa using m.len, set_rng m.rng v0 v1⟩
theorem Lt.word {nn : Nat} {T : Int} {l : List Int} {N : Nat} {ws : List Int} (m : Lt nn T l N ws) : rdW ws 1 = hdI l + T % 4294967296 * 4294967296 := m.free.word
def lateT (nn : Nat) (tg : Int) (g : Bool) (y : Int) (ph : TPh) : TM := ⟨nn, 0, 0, tg, 1, 1, y, g, ph, 0⟩
theorem late_nx {nn : Nat} (hok : okC (nn : Int) 0 0 = true) : atI (nn : Int) 0 0 0 (2 * (1 - 1)) = 2 := by
  have h := nx_at hok (i := 1) (by decide) (by have := okC_bounds hok; omega)
  exact h
theorem late0t {nn : Nat} {tg y : Int} {ws : List Int} (hok : okC (nn : Int) 0 0 = true) (hy : rdW ws 1 = y) (h1 : y % 4294967296 = 1) (hN : 4 ≤ ws.length) : (newTk (nn : Int) 0 0 tg 1).step ws = ⟨0, lateT nn tg false y .second, ws, [ldN 1 y]⟩ := by
  have e1 : (1 : Int).toNat = 1 := rfl
  have e : (newTk (nn : Int) 0 0 tg 1).step ws = (newTk (nn : Int) 0 0 tg 1).head ws := rfl
  rw [e]
  unfold TM.head newTk
  dsimp only
  rw [if_neg (by simp), if_neg (by omega), e1, hy, h1, if_neg (by decide), late_nx hok, if_neg (by decide)]
  rfl
theorem late0g {nn : Nat} {tg y : Int} {ws : List Int} (hok : okC (nn : Int) 0 0 = true) (hy : rdW ws 1 = y) (hN : 4 ≤ ws.length) : (newGv (nn : Int) 0 0 tg 1 1).step ws = ⟨0, lateT nn tg true y .second, ws, [ldN 1 y]⟩ := by
  have e1 : (1 : Int).toNat = 1 := rfl
  have e : (newGv (nn : Int) 0 0 tg 1 1).step ws = (newGv (nn : Int) 0 0 tg 1 1).head ws := rfl
  rw [e]
  unfold TM.head TM.nx newGv
  dsimp only
  rw [if_pos rfl, late_nx hok, if_neg (by decide), if_neg (by omega), e1, hy]
  rfl
theorem late1t {nn : Nat} {tg y : Int} {ws : List Int} (hok : okC (nn : Int) 0 0 = true) (hN : 4 ≤ ws.length) : (lateT nn tg false y .second).step ws = ⟨0, lateT nn tg false y (.last (rdW ws 2)), ws, [ldN 2 (rdW ws 2)]⟩ := by
  have e2 : (2 : Int).toNat = 2 := rfl
  have e0 : (lateT nn tg false y .second).step ws = (lateT nn tg false y .second).second ws := rfl
  rw [e0]
  unfold TM.second TM.nx lateT
  dsimp only
  rw [late_nx hok, if_neg (by omega), if_neg (by simp), e2]
theorem late1g {nn : Nat} {tg y : Int} {ws : List Int} (hok : okC (nn : Int) 0 0 = true) (hN : 4 ≤ ws.length) : (lateT nn tg true y .second).step ws = ⟨0, lateT nn tg true y (.last 0), ws.set 2 (y % 4294967296), [stN 2 (rdW ws 2) (y % 4294967296)]⟩ := by
  have e2 : (2 : Int).toNat = 2 := rfl
  have e0 : (lateT nn tg true y .second).step ws = (lateT nn tg true y .second).second ws := rfl
  rw [e0]
  unfold TM.second TM.nx lateT
  dsimp only
  rw [late_nx hok, if_neg (by omega), if_pos rfl, e2]
theorem late2a {nn : Nat} {tg y x : Int} {g : Bool} {ws : List Int} (hy : rdW ws 1 = y) : ∃ ws' nt, (lateT nn tg g y (.last x)).step ws = ⟨1, { lateT nn tg g y (.last x) with st := 1 }, ws', [nt]⟩ := by
  have e1 : (1 : Int).toNat = 1 := rfl
  have e : (lateT nn tg g y (.last x)).step ws = (lateT nn tg g y (.last x)).last x ws := rfl
  rw [e]
  unfold TM.last
  dsimp only
  rw [if_pos (by show rdW ws (1 : Int).toNat = y; exact hy)]
  exact ⟨_, _, rfl⟩
theorem late2b {nn : Nat} {tg y x : Int} {g : Bool} {ws : List Int} (hy : rdW ws 1 ≠ y) : (lateT nn tg g y (.last x)).step ws = ⟨3, { lateT nn tg g y (.last x) with st := 3 }, ws, [noN 1 (rdW ws 1)]⟩ := by
  have e : (lateT nn tg g y (.last x)).step ws = (lateT nn tg g y (.last x)).last x ws := rfl
  rw [e]
  unfold TM.last
  dsimp only
  rw [if_neg (by show ¬ rdW ws (1 : Int).toNat = y; exact hy)]
  rfl
theorem ok_of {w0 w : World} {q : Nat} {ws ws' : List Int} {ns nt : List Note} {L : List Asn} {S S' : TM} {r : Int} (he : S.step ws = ⟨r, S', ws', nt⟩) (h : St w0 (memA q ws ns :: L) w) (hok : S.ok ws.length) : S'.ok ws'.length ∧ ws'.length = ws.length ∧ S'.give = S.give := by
  have h1 := TM.ok_next hok (fun i hi => h.rng hi)
  have h2 := TM.step_len S ws
  have h3 := TM.step_give S ws
  rw [he] at h1 h2 h3
  exact ⟨h1, h2, h3⟩
theorem pstepK {w0 w : World} {q p : Nat} {ws ws' : List Int} {ns nt : List Note} {L : List Asn} {S S' : TM} {A B : Value} {r z : Int} (rp : Value) (hP : PairOf S p A B) (he : S.step ws = ⟨r, S', ws', nt⟩) (hz : S'.told r = z) (h : St w0 (memA q ws ns :: tlA p S :: L) w) (hok : S.ok ws.length) (hk : ns.length ≤ 1000000000000) :
    Calls Try.prog 30 #[.agg #[A, B, rp], .pointer (some ⟨q, 0, none⟩)] w fun e w' => e = .returned (.tuple #[.int .i64 r, .int .u32 z]) ∧ S'.ok ws'.length ∧ St w0 (memA q ws' (ns ++ nt) :: tlA p S' :: L) w' :=
  (pstep rp hP he rfl hz h hok hk).mono fun e w' k => ⟨k.1, (ok_of he h hok).1, k.2⟩
theorem tkK {w0 w : World} {q p : Nat} {ws ws' : List Int} {ns nt : List Note} {L : List Asn} {S S' : TM} {r z : Int} (he : S.step ws = ⟨r, S', ws', nt⟩) (hz : S'.told r = z) (hg : S.give = false) (h : St w0 (memA q ws ns :: tlA p S :: L) w) (hok : S.ok ws.length) (hk : ns.length ≤ 1000000000000) :
    Calls Try.prog 39 #[.pointer (some ⟨p, 0, none⟩), .pointer (some ⟨q, 0, none⟩)] w fun e w' => e = .returned (.tuple #[.int .i64 r, .int .u32 z]) ∧ S'.ok ws'.length ∧ S'.give = false ∧ St w0 (memA q ws' (ns ++ nt) :: tlA p S' :: L) w' :=
  (tk_out he rfl hz hg h hok hk).mono fun e w' k => ⟨k.1, (ok_of he h hok).1, (ok_of he h hok).2.2.trans hg, k.2⟩
/-- What holds behind j rounds between. -/
def LtRel (w : World) (q p bp bc nn : Nat) (tg : Int) (P : TM) (PV : Array Value) (T : Int) (l : List Int) (N k : Nat) (w' : World) : Prop := ∃ ws ns, ns.length ≤ k ∧ Lt nn T l N ws ∧ P.ok N ∧ St w [memA q ws ns, tlA p P, boxA bp PV 56, bxC bc nn 0 0 tg] w'
/-- All words, as a row of their own. -/
theorem words_row {w0 w : World} {q : Nat} {ws : List Int} {ns : List Note} {l : List Asn} (h : St w0 (memA q ws ns :: l) w) (n : Nat) (hn : ws.length = n) :
    Calls Try.prog 34 #[.pointer (some ⟨q, 0, none⟩)] w fun e w' => ∃ a c, e = .returned (.slice a n c) ∧ St w0 (rowA 35 1 (.slice a n c) n (wsV ws) :: memA q ws ns :: l) w' := by
  subst hn
  obtain ⟨own, h1, h2⟩ := h.mem
  refine (words_any own 1 q ws ns w h1).mono fun e w' k => ?_
  obtain ⟨v, rfl, ho, hb, a, c', rfl⟩ := k
  have hn2 : a = none ∨ ∃ g, a = some ⟨g, 0, none⟩ ∧ w.heap.size ≤ g := by
    rcases ho.2 with ⟨e, _⟩ | ⟨g, cap, cur, e, hg, _⟩
    · simp only [Value.slice.injEq] at e; exact .inl e.1
    · simp only [Value.slice.injEq] at e; exact .inr ⟨g, e.1, hg⟩
  refine ⟨a, c', rfl, h.more hb ⟨⟨ho.1, ho.2.imp id fun ⟨g, cap, cur, h1, h2, h3⟩ => ⟨g, cap, cur, h1, Nat.zero_le _, h3⟩⟩, fun b hb2 => ?_⟩⟩
  rcases hn2 with rfl | ⟨g, rfl, hg⟩
  · cases hb2
  · cases hb2; exact hg
set_option maxRecDepth 20000 in
set_option maxHeartbeats 16000000 in
theorem taglistLate_t0 (a0 tg bt wn : Int) (w : World) (hx0 : (Lit.int .i64 a0).wf = true) (hx1 : (Lit.int .u32 tg).wf = true) (hx2 : (Lit.int .i64 bt).wf = true) (hx3 : (Lit.int .i64 wn).wf = true) (hwn : pickI wn 2 = 0) :
    Calls Try.prog 5 #[.int .i64 a0, .int .u32 tg, .int .i64 bt, .int .i64 wn, .bool false] w fun e w' => e = .returned (.bool true) ∧ Below w.heap.size w w' := by
  obtain ⟨a00, a01⟩ := rngI64 hx0
  obtain ⟨t0, t1⟩ := rngU32 hx1
  obtain ⟨m0, m1⟩ := rngI64 hx2
  obtain ⟨k0, k1⟩ := rngI64 hx3
  have hp := pickI_rng (c := a0) (n := 64) (by decide)
  obtain ⟨nn, hnn⟩ : ∃ nn : Nat, 1 + pickI a0 64 = (nn : Int) := Int.eq_ofNat_of_zero_le (by omega)
  have n1 : 1 ≤ nn := by omega
  have n2 : nn ≤ 64 := by omega
  have hpm := pickI_rng (c := bt) (n := 4) (by decide)
  obtain ⟨m, hm⟩ : ∃ m : Nat, pickI bt 4 = (m : Int) := Int.eq_ofNat_of_zero_le hpm.1
  have hm3 : m ≤ 3 := by omega
  obtain ⟨N, hN⟩ : ∃ N, N = 2 + 2 * nn + 0 + 0 := ⟨_, rfl⟩
  obtain ⟨T, hT⟩ : ∃ T, tg * 4294967296 = T := ⟨_, rfl⟩
  have hN4 : N ≤ 1024 := by omega
  have hN2 : 2 + 2 * nn ≤ N := by omega
  have HNN := Lib.hid hnn
  have HM := Lib.hid hm
  have HWN := Lib.hid hwn
  have HN := Lib.hid hN
  have HT := Lib.hid hT
  have HOK : Hid (okC (nn : Int) ((0 : Nat) : Int) ((0 : Nat) : Int) = true) := Lib.hid (by simp [okC]; omega)
  have HFR : Hid (∀ x ∈ frL T nn nn 0 N, 0 ≤ x ∧ x < 18446744073709551616) := Lib.hid (frL_rng (by omega) (by omega) n2)
  have hup : upL 1 nn = 1 :: upL (1 + 1) (nn - 1) := by
    obtain ⟨d, hd⟩ : ∃ d, nn = d + 1 := ⟨nn - 1, by omega⟩
    rw [hd]
    rfl
  have hmv : Lt nn tg (1 :: upL (1 + 1) (nn - 1)) N (frL T nn nn 0 N) := ⟨hup ▸ fresh_at1 hT t0 t1 hN2 n1 n2, frL_len _ _ _ _ _, HFR.out⟩
  obtain ⟨ws0, hws0⟩ : ∃ ws0, frL T nn nn 0 N = ws0 := ⟨_, rfl⟩
  rw [hws0] at hmv
  have hmv1 := hmv
  have HW0 := Lib.hid hws0
  clear hmv hws0
  obtain ⟨l, hl⟩ : ∃ l, (1 :: upL (1 + 1) (nn - 1)) = l := ⟨_, rfl⟩
  obtain ⟨T1, hT1⟩ : ∃ T1, tg = T1 := ⟨_, rfl⟩
  rw [hl, hT1] at hmv1
  have hlen0 := hmv1.len
  obtain ⟨y, hy⟩ : ∃ y, rdW ws0 1 = y := ⟨_, rfl⟩
  have hyw : y = hdI l + T1 % 4294967296 * 4294967296 := by rw [← hy]; exact hmv1.word
  have hhd := hdI_rng (nn := nn) (l := l) hmv1.free.rng
  have y0 : 0 ≤ y := by omega
  have y1 : y < 18446744073709551616 := by omega
  have w4 : 4 ≤ ws0.length := by omega
  have HYW := Lib.hid hyw
  have HLX : Hid (l ≠ []) := Lib.hid (by rw [← hl]; simp)
  have h1 : y % 4294967296 = 1 := by rw [hyw, ← hl]; show (1 + T1 % 4294967296 * 4294967296) % 4294967296 = 1; omega
  have HE0 := Lib.hid (late0t (tg := tg) (nn := nn) HOK.out hy h1 w4)
  have HMV := Lib.hid hmv1
  have H := Lib.hid (St.nil w)
  have d0 : decide ((nn : Int) < 1) = false := decide_eq_false (by omega)
  have HL0 := Lib.hid hlen0
  have HHD := Lib.hid hhd
  clear hx0 hx1 hx2 hx3 hp hnn hpm hm hwn hN hT hup hmv1 hlen0 hy hyw hl hT1 hhd h1
  obtain ⟨n, hn⟩ : ∃ n : Nat, n = m := ⟨_, rfl⟩
  have hn3 : n ≤ 3 := by omega
  have HNL : Hid (n ≠ 0 → l ≠ []) := Lib.hid (fun h c => absurd c HLX.out)
  obtain rfl := hn.symm
  go_enter Try.func5, Try.ntmps5
  go_wp2_with (first | ((have _h := H7); go_at_call 29; refine (pick7_is bt 4 m _ HM.out (by decide) (by decide) m0 m1).mono ?_; rintro e w8 ⟨rfl, rfl⟩; (have H8 := Lib.hid (H7.out)); clear _h) | ((have _h := H6); go_at_call 29; refine (pick7_is wn 2 0 _ HWN.out (by decide) (by decide) k0 k1).mono ?_; rintro e w7 ⟨rfl, rfl⟩; (have H7 := Lib.hid (H6.out)); clear _h) | ((have _h := H5); go_at_call 30; refine (pstepK (.pointer none) (.inl ⟨rfl, rfl, rfl⟩) HE0.out (TM.told0 _) H5.out (newTk_ok _ _ _ _ _ _) (by simp)).mono ?_; rintro e w6 ⟨rfl, ho, h⟩; (have H6 := Lib.hid (h)); (have HO1 := Lib.hid ho); clear h ho; clear q0 q1 q2 q3 lq; clear e0 e1 e2 lp; (obtain ⟨q0, q1, q2, q3⟩ := cells4 (H6.out.cells 3 rfl)); (have lq := lt_of_heap (H6.out.cells 3 rfl)); (obtain ⟨e0, e1, e2⟩ := cells3 (H6.out.cells 2 rfl)); (have lp := lt_of_heap (H6.out.cells 2 rfl)); clear _h) | ((have _h := H4); go_at_call 36; refine (take_new nn 0 0 tg 1 H4.out).mono ?_; rintro e w5 ⟨p, rfl, h⟩; (have H5 := Lib.hid (show St w [memA q ws0 [], tlA p (newTk nn 0 0 tg 1), boxA w5.heap.size #[.pointer (some ⟨p, 0, none⟩), .pointer none, .pointer none] 56, bxC w2.heap.size nn 0 0 tg] _ from (h.alloc #[.pointer (some ⟨p, 0, none⟩), .pointer none, .pointer none] 56).re 3 [2, 1, 0])); clear h; clear q0 q1 q2 q3 lq; (obtain ⟨q0, q1, q2, q3⟩ := cells4 (H5.out.cells 3 rfl)); (have lq := lt_of_heap (H5.out.cells 3 rfl)); (obtain ⟨e0, e1, e2⟩ := cells3 (H5.out.cells 2 rfl)); (have lp := lt_of_heap (H5.out.cells 2 rfl)); clear _h) | ((have _h := H3); go_at_call 26; refine (new_st H3.out.tail (some ⟨_, 0, none⟩) _ N (frL T nn nn 0 N) (rowRd (H3.out.row 0 rfl) (frL_len _ _ _ _ _)) hN4 HFR.out (frL_len _ _ _ _ _)).mono ?_; rintro e w4 ⟨q, rfl, h⟩; (have H4 := Lib.hid ((by have h9 := h; rw [HW0.out] at h9; exact h9))); clear h; clear q0 q1 q2 q3 lq; (obtain ⟨q0, q1, q2, q3⟩ := cells4 (H4.out.cells 1 rfl)); (have lq := lt_of_heap (H4.out.cells 1 rfl)); clear _h) | ((have _h := H2); go_at_call 16; refine (fresh_ok nn 0 0 tg T N H2.out HOK.out HN.out HT.out t0 t1).mono ?_; rintro e w3 ⟨g, rfl, h⟩; (have H3 := Lib.hid (h)); clear h; clear q0 q1 q2 q3 lq; (obtain ⟨q0, q1, q2, q3⟩ := cells4 (H3.out.cells 1 rfl)); (have lq := lt_of_heap (H3.out.cells 1 rfl)); clear _h) | ((have _h := H1); go_at_call 35; refine (cfg7_is a0 0 0 tg nn 0 0 _ HNN.out rfl rfl a00 a01 (by decide) (by decide) (by decide) (by decide)).mono ?_; rintro e w2 ⟨rfl, hb⟩; (have H2 := Lib.hid ((H1.out.below hb).alloc #[.int .i64 nn, .int .i64 0, .int .i64 0, .int .u32 tg] 26)); clear hb; (obtain ⟨q0, q1, q2, q3⟩ := cells4 (H2.out.cells 0 rfl)); (have lq := lt_of_heap (H2.out.cells 0 rfl)); clear _h) | ((have _h := H); go_at_call 25; refine (shown7 _).mono ?_; rintro e w1 ⟨rfl, hb⟩; (have H1 := Lib.hid (H.out.below hb)); clear hb; clear _h))
  have HREL := Lib.hid (show LtRel w q p w5.heap.size w2.heap.size nn tg (lateT nn tg false y .second) #[.pointer (some ⟨p, 0, none⟩), .pointer none, .pointer none] (T1 + 2 * ((0 : Nat) : Int)) l N 10 _ from ⟨_, _, (by simp), by simpa using HMV.out, by have := HO1.out; rw [HMV.out.len] at this; exact this, H8.out⟩)
  clear H1 H2 H3 H4 H5 H6 H7 H8 q0 q1 q2 q3 lq e0 e1 e2 lp
  obtain ⟨bc, hbc⟩ : ∃ bc, w2.heap.size = bc := ⟨_, rfl⟩
  obtain ⟨bp, hbp⟩ : ∃ bp, w5.heap.size = bp := ⟨_, rfl⟩
  simp only [hbc, hbp] at *
  go_loopg [21] 5 (fun kq z w' => ∃ j : Nat, z = .int .i64 (j : Int) ∧ j ≤ m ∧ j + kq = 5 ∧ LtRel w q p bp bc nn tg (lateT nn tg false y .second) #[.pointer (some ⟨p, 0, none⟩), .pointer none, .pointer none] (T1 + 2 * (j : Int)) l N (10 + 6 * j) w')
  case atStart => exact ⟨0, rfl, by omega, by omega, HREL.out⟩
  case round =>
    obtain ⟨j, rfl, hj, hkq, ws, ns, hns, hlt, hok, hS⟩ := hrel
    clear HREL HMV
    obtain ⟨q0, q1, q2, q3⟩ := cells4 (hS.cells 3 rfl)
    have lq := lt_of_heap (hS.cells 3 rfl)
    obtain ⟨e0, e1, e2⟩ := cells3 (hS.cells 2 rfl)
    have lp := lt_of_heap (hS.cells 2 rfl)
    cases gk with
    | zero => omega
    | succ kk =>
      by_cases c4 : j < m
      · have c4b : decide ((j : Int) < ((m : Nat) : Int)) = true := decide_eq_true (by omega)
        obtain ⟨i, r, hlr⟩ : ∃ i r, l = i :: r := by
          cases l with
          | nil => exact absurd rfl (HNL.out (by omega))
          | cons i r => exact ⟨i, r, rfl⟩
        have hi := hlt.free.rng i (by rw [hlr]; simp)
        have hnd := hlt.free.nd
        rw [hlr] at hlt hnd
        have hni : i ∉ r := (List.nodup_cons.1 hnd).1
        obtain ⟨ws1, ⟨S1, hr1⟩, hm1⟩ := Lt.take (t := tg) HOK.out hlt hN2
        obtain ⟨ws2, ⟨S2, hr2⟩, hm2⟩ := Lt.give (t := tg) HOK.out hm1 hN2 ⟨by omega, by omega⟩ hni
        obtain ⟨A1, A2, wa, wb, na, nb, nc, h1, h2, h3⟩ := hr1.ex
        have HA1 := Lib.hid h1
        have HA2 := Lib.hid h2
        have HA3 := Lib.hid h3
        have HI1 := Lib.hid hr1.i
        have HR2 := Lib.hid hr2
        have HM2 := Lib.hid hm2
        have HLR := Lib.hid hlr
        have HPO := Lib.hid hok
        have i00 : (0 : Int) ≤ i := by omega
        have i01 : i < 4294967296 := by omega
        have hnl : ns.length ≤ 40 := by omega
        have HNS := Lib.hid hns
        have L := Lib.hid hS
        clear hS hlt hok hr1 hr2 hm1 hm2 h1 h2 h3 hlr hns hnd hni hi
        go_wp2_with (first | ((have _h := L5); go_at_call 37; refine (ends7 (.pointer none) 3 i (.inr ⟨rfl, rfl, rfl⟩) HR2.out.toN HR2.out.i L5.out (newGv_ok _ _ _ _ _ i00 i01 _) (by simp; omega) (by decide)).mono ?_; rintro e v6 ⟨rfl, n2t, hn2, _, _, h⟩; (have L6 := Lib.hid (h.re 2 [0])); (have HN2 := Lib.hid hn2); clear h hn2; clear q0 q1 q2 q3 lq; (obtain ⟨q0, q1, q2, q3⟩ := cells4 (L6.out.cells 3 rfl)); (have lq := lt_of_heap (L6.out.cells 3 rfl)); clear _h) | ((have _h := L4); go_at_call 38; refine (give_new nn 0 0 tg 1 i L4.out).mono ?_; rintro e v5 ⟨pb, rfl, h⟩; (have L5 := Lib.hid (h.swap)); clear h; clear q0 q1 q2 q3 lq; (obtain ⟨q0, q1, q2, q3⟩ := cells4 (L5.out.cells 4 rfl)); (have lq := lt_of_heap (L5.out.cells 4 rfl)); clear _h) | ((have _h := L3); go_at_call 39; refine (tkK HA3.out ((TM.told1 _).trans HI1.out) HG2.out L3.out HQ2.out (by simp; omega)).mono ?_; rintro e v4 ⟨rfl, ho, hg, h⟩; (have L4 := Lib.hid (h.re 2 [0])); clear h ho hg; clear q0 q1 q2 q3 lq; (obtain ⟨q0, q1, q2, q3⟩ := cells4 (L4.out.cells 3 rfl)); (have lq := lt_of_heap (L4.out.cells 3 rfl)); clear _h) | ((have _h := L2); go_at_call 39; refine (tkK HA2.out (TM.told0 _) HG1.out L2.out HQ1.out (by simp; omega)).mono ?_; rintro e v3 ⟨rfl, ho, hg, h⟩; (have L3 := Lib.hid (h)); (have HQ2 := Lib.hid ho); (have HG2 := Lib.hid hg); clear h ho hg; clear q0 q1 q2 q3 lq; (obtain ⟨q0, q1, q2, q3⟩ := cells4 (L3.out.cells 4 rfl)); (have lq := lt_of_heap (L3.out.cells 4 rfl)); clear _h) | ((have _h := L1); go_at_call 39; refine (tkK HA1.out (TM.told0 _) rfl L1.out (newTk_ok _ _ _ _ _ _) (by omega)).mono ?_; rintro e v2 ⟨rfl, ho, hg, h⟩; (have L2 := Lib.hid (h)); (have HQ1 := Lib.hid ho); (have HG1 := Lib.hid hg); clear h ho hg; clear q0 q1 q2 q3 lq; (obtain ⟨q0, q1, q2, q3⟩ := cells4 (L2.out.cells 4 rfl)); (have lq := lt_of_heap (L2.out.cells 4 rfl)); clear _h) | ((have _h := L); go_at_call 36; refine (take_new nn 0 0 tg 1 L.out).mono ?_; rintro e v1 ⟨pa, rfl, h⟩; (have L1 := Lib.hid (h.swap)); clear h; clear q0 q1 q2 q3 lq; (obtain ⟨q0, q1, q2, q3⟩ := cells4 (L1.out.cells 4 rfl)); (have lq := lt_of_heap (L1.out.cells 4 rfl)); clear _h))
        go_roundg kk
        case measure => omega
        case rel =>
          refine ⟨j + 1, by rfl, by omega, by omega, ws2, _, ?_, ?_, HPO.out, L6.out⟩
          · have a1 := HN2.out
            have a2 := HNS.out
            simp only [List.length_append, List.length_cons, List.length_nil]
            omega
          · have e1 : T1 + 2 * ((j + 1 : Nat) : Int) = T1 + 2 * (j : Int) + 1 + 1 := by omega
            rw [e1, HLR.out]
            exact HM2.out
      · have c4b : decide ((j : Int) < ((m : Nat) : Int)) = false := decide_eq_false (by omega)
        obtain rfl : j = m := by omega
        have Z := Lib.hid hS
        have HLT := Lib.hid hlt
        have w4' : 4 ≤ ws.length := by have := hlt.len; omega
        have HPK := Lib.hid hok
        have HWL := Lib.hid hlt.len
        have hnl : ns.length ≤ 40 := by omega
        have HE1 := Lib.hid (late1t (tg := tg) (nn := nn) (y := y) HOK.out w4')
        have hx : (0 : Int) = 0 := rfl
        have wsE : rdW ws 1 = hdI l + (T1 + 2 * (j : Int)) % 4294967296 * 4294967296 := hlt.word
        have HWE : Hid (ws.length = N) := Lib.hid (by simpa using HWL.out)
        by_cases c0 : j = 0
        · have hye : rdW ws 1 = y := by rw [wsE, HYW.out, c0]; simp
          obtain ⟨ws3, nt3, he3⟩ := late2a (nn := nn) (tg := tg) (g := false) (x := (rdW ws 2)) hye
          have HE3 := Lib.hid he3
          have c0b : ((j : Int) == 0) = true := by simp; omega
          clear hS hlt hok hns hkq hx wsE hye he3 c0 hj
          go_wp2_with (first | ((have _h := Z3); go_at_call 30; refine (pstepK (.pointer none) (.inl ⟨rfl, rfl, rfl⟩) HE3.out (TM.told1 _) Z3.out HPL.out (by simp; omega)).mono ?_; rintro e z4 ⟨rfl, ho, h⟩; (have Z4 := Lib.hid (h)); clear h ho; clear _h) | ((have _h := Z2); go_at_call 34; refine (words_st Z2.out N HWE.out).mono ?_; rintro e z3 ⟨al, cl, rfl, hrw, _, hb⟩; (have Z3 := Lib.hid (Z2.out.below hb)); (have HRW := Lib.hid hrw); clear hrw hb; clear e0 e1 e2 lp; (obtain ⟨e0, e1, e2⟩ := cells3 (Z3.out.cells 2 rfl)); (have lp := lt_of_heap (Z3.out.cells 2 rfl)); clear _h) | ((have _h := Z1); go_at_call 30; refine (pstepK (.pointer none) (.inl ⟨rfl, rfl, rfl⟩) HE1.out (TM.told0 _) Z1.out (by rw [HWL.out]; exact HPK.out) (by omega)).mono ?_; rintro e z2 ⟨rfl, ho, h⟩; (have Z2 := Lib.hid (h)); (have HPL := Lib.hid ho); clear h ho; clear e0 e1 e2 lp; (obtain ⟨e0, e1, e2⟩ := cells3 (Z2.out.cells 2 rfl)); (have lp := lt_of_heap (Z2.out.cells 2 rfl)); clear _h) | ((have _h := Z); go_at_call 29; refine (pick7_is wn 2 0 _ HWN.out (by decide) (by decide) k0 k1).mono ?_; rintro e z1 ⟨rfl, rfl⟩; (have Z1 := Lib.hid (Z.out)); clear _h))
          go_ret
          exact ⟨rfl, Z4.out.bel⟩
        · have hye : rdW ws 1 ≠ y := by rw [wsE, HYW.out]; have := HHD.out; omega
          have HE3 := Lib.hid (late2b (nn := nn) (tg := tg) (g := false) (x := (rdW ws 2)) hye)
          have c0b : ((j : Int) == 0) = false := by simp; omega
          clear hS hlt hok hns hkq hx wsE hye c0 hj
          go_wp2_with (first | ((have _h := Y5); go_at_call 33; refine (same2 bl al N dl cl _ _ HRV.out (rowRd (Y5.out.rowOf 3 rfl) HWE.out) HWE.out hN4).mono ?_; rintro e u6 ⟨rfl, hb⟩; (have Y6 := Lib.hid (Y5.out.below hb)); clear hb; clear _h) | ((have _h := Y4); go_at_call 34; refine (words_st Y4.out N HWE.out).mono ?_; rintro e u5 ⟨bl, dl, rfl, hrw, _, hb⟩; (have Y5 := Lib.hid (Y4.out.below hb)); (have HRV := Lib.hid hrw); clear hrw hb; clear _h) | ((have _h := Y3); go_at_call 30; refine (pstepK (.pointer none) (.inl ⟨rfl, rfl, rfl⟩) HE3.out (TM.told3 _) Y3.out HPL.out (by simp; omega)).mono ?_; rintro e u4 ⟨rfl, ho, h⟩; (have Y4 := Lib.hid (h)); clear h ho; clear _h) | ((have _h := Y2); go_at_call 34; refine (words_row Y2.out N HWE.out).mono ?_; rintro e u3 ⟨al, cl, rfl, h⟩; (have Y3 := Lib.hid (h.re 4 [1, 2, 3, 0])); clear h; clear e0 e1 e2 lp; (obtain ⟨e0, e1, e2⟩ := cells3 (Y3.out.cells 2 rfl)); (have lp := lt_of_heap (Y3.out.cells 2 rfl)); clear _h) | ((have _h := Y1); go_at_call 30; refine (pstepK (.pointer none) (.inl ⟨rfl, rfl, rfl⟩) HE1.out (TM.told0 _) Y1.out (by rw [HWL.out]; exact HPK.out) (by omega)).mono ?_; rintro e u2 ⟨rfl, ho, h⟩; (have Y2 := Lib.hid (h)); (have HPL := Lib.hid ho); clear h ho; clear e0 e1 e2 lp; (obtain ⟨e0, e1, e2⟩ := cells3 (Y2.out.cells 2 rfl)); (have lp := lt_of_heap (Y2.out.cells 2 rfl)); clear _h) | ((have _h := Z); go_at_call 29; refine (pick7_is wn 2 0 _ HWN.out (by decide) (by decide) k0 k1).mono ?_; rintro e u1 ⟨rfl, rfl⟩; (have Y1 := Lib.hid (Z.out)); clear _h))
          go_ret
          exact ⟨rfl, Y6.out.bel⟩
set_option maxRecDepth 20000 in
set_option maxHeartbeats 16000000 in
theorem taglistLate_t1 (a0 tg bt wn : Int) (w : World) (hx0 : (Lit.int .i64 a0).wf = true) (hx1 : (Lit.int .u32 tg).wf = true) (hx2 : (Lit.int .i64 bt).wf = true) (hx3 : (Lit.int .i64 wn).wf = true) (hwn : pickI wn 2 = 1) :
    Calls Try.prog 5 #[.int .i64 a0, .int .u32 tg, .int .i64 bt, .int .i64 wn, .bool false] w fun e w' => e = .returned (.bool true) ∧ Below w.heap.size w w' := by
  obtain ⟨a00, a01⟩ := rngI64 hx0
  obtain ⟨t0, t1⟩ := rngU32 hx1
  obtain ⟨m0, m1⟩ := rngI64 hx2
  obtain ⟨k0, k1⟩ := rngI64 hx3
  have hp := pickI_rng (c := a0) (n := 64) (by decide)
  obtain ⟨nn, hnn⟩ : ∃ nn : Nat, 1 + pickI a0 64 = (nn : Int) := Int.eq_ofNat_of_zero_le (by omega)
  have n1 : 1 ≤ nn := by omega
  have n2 : nn ≤ 64 := by omega
  have hpm := pickI_rng (c := bt) (n := 4) (by decide)
  obtain ⟨m, hm⟩ : ∃ m : Nat, pickI bt 4 = (m : Int) := Int.eq_ofNat_of_zero_le hpm.1
  have hm3 : m ≤ 3 := by omega
  obtain ⟨N, hN⟩ : ∃ N, N = 2 + 2 * nn + 0 + 0 := ⟨_, rfl⟩
  obtain ⟨T, hT⟩ : ∃ T, tg * 4294967296 = T := ⟨_, rfl⟩
  have hN4 : N ≤ 1024 := by omega
  have hN2 : 2 + 2 * nn ≤ N := by omega
  have HNN := Lib.hid hnn
  have HM := Lib.hid hm
  have HWN := Lib.hid hwn
  have HN := Lib.hid hN
  have HT := Lib.hid hT
  have HOK : Hid (okC (nn : Int) ((0 : Nat) : Int) ((0 : Nat) : Int) = true) := Lib.hid (by simp [okC]; omega)
  have HFR : Hid (∀ x ∈ frL T nn nn 0 N, 0 ≤ x ∧ x < 18446744073709551616) := Lib.hid (frL_rng (by omega) (by omega) n2)
  have hup : upL 1 nn = 1 :: upL (1 + 1) (nn - 1) := by
    obtain ⟨d, hd⟩ : ∃ d, nn = d + 1 := ⟨nn - 1, by omega⟩
    rw [hd]
    rfl
  have hmv : Lt nn tg (1 :: upL (1 + 1) (nn - 1)) N (frL T nn nn 0 N) := ⟨hup ▸ fresh_at1 hT t0 t1 hN2 n1 n2, frL_len _ _ _ _ _, HFR.out⟩
  obtain ⟨ws0, hws0⟩ : ∃ ws0, frL T nn nn 0 N = ws0 := ⟨_, rfl⟩
  rw [hws0] at hmv
  have hmv1 := hmv
  have HW0 := Lib.hid hws0
  clear hmv hws0
  obtain ⟨l, hl⟩ : ∃ l, (1 :: upL (1 + 1) (nn - 1)) = l := ⟨_, rfl⟩
  obtain ⟨T1, hT1⟩ : ∃ T1, tg = T1 := ⟨_, rfl⟩
  rw [hl, hT1] at hmv1
  have hlen0 := hmv1.len
  obtain ⟨y, hy⟩ : ∃ y, rdW ws0 1 = y := ⟨_, rfl⟩
  have hyw : y = hdI l + T1 % 4294967296 * 4294967296 := by rw [← hy]; exact hmv1.word
  have hhd := hdI_rng (nn := nn) (l := l) hmv1.free.rng
  have y0 : 0 ≤ y := by omega
  have y1 : y < 18446744073709551616 := by omega
  have w4 : 4 ≤ ws0.length := by omega
  have HYW := Lib.hid hyw
  have HLX : Hid (l ≠ []) := Lib.hid (by rw [← hl]; simp)
  have h1 : y % 4294967296 = 1 := by rw [hyw, ← hl]; show (1 + T1 % 4294967296 * 4294967296) % 4294967296 = 1; omega
  have HE0 := Lib.hid (late0t (tg := tg) (nn := nn) HOK.out hy h1 w4)
  have HE1 := Lib.hid (late1t (tg := tg) (nn := nn) (y := y) HOK.out w4)
  have HMV := Lib.hid hmv1
  have H := Lib.hid (St.nil w)
  have d0 : decide ((nn : Int) < 1) = false := decide_eq_false (by omega)
  have HL0 := Lib.hid hlen0
  have HHD := Lib.hid hhd
  clear hx0 hx1 hx2 hx3 hp hnn hpm hm hwn hN hT hup hmv1 hlen0 hy hyw hl hT1 hhd h1
  obtain ⟨n, hn⟩ : ∃ n : Nat, n = m := ⟨_, rfl⟩
  have hn3 : n ≤ 3 := by omega
  have HNL : Hid (n ≠ 0 → l ≠ []) := Lib.hid (fun h c => absurd c HLX.out)
  obtain rfl := hn.symm
  go_enter Try.func5, Try.ntmps5
  go_wp2_with (first | ((have _h := H8); go_at_call 29; refine (pick7_is bt 4 m _ HM.out (by decide) (by decide) m0 m1).mono ?_; rintro e w9 ⟨rfl, rfl⟩; (have H9 := Lib.hid (H8.out)); clear _h) | ((have _h := H7); go_at_call 30; refine (pstepK (.pointer none) (.inl ⟨rfl, rfl, rfl⟩) HE1.out (TM.told0 _) H7.out HO1.out (by simp)).mono ?_; rintro e w8 ⟨rfl, ho, h⟩; (have H8 := Lib.hid (h)); (have HO2 := Lib.hid ho); clear h ho; clear q0 q1 q2 q3 lq; clear e0 e1 e2 lp; (obtain ⟨q0, q1, q2, q3⟩ := cells4 (H8.out.cells 3 rfl)); (have lq := lt_of_heap (H8.out.cells 3 rfl)); (obtain ⟨e0, e1, e2⟩ := cells3 (H8.out.cells 2 rfl)); (have lp := lt_of_heap (H8.out.cells 2 rfl)); clear _h) | ((have _h := H6); go_at_call 29; refine (pick7_is wn 2 1 _ HWN.out (by decide) (by decide) k0 k1).mono ?_; rintro e w7 ⟨rfl, rfl⟩; (have H7 := Lib.hid (H6.out)); clear _h) | ((have _h := H5); go_at_call 30; refine (pstepK (.pointer none) (.inl ⟨rfl, rfl, rfl⟩) HE0.out (TM.told0 _) H5.out (newTk_ok _ _ _ _ _ _) (by simp)).mono ?_; rintro e w6 ⟨rfl, ho, h⟩; (have H6 := Lib.hid (h)); (have HO1 := Lib.hid ho); clear h ho; clear q0 q1 q2 q3 lq; clear e0 e1 e2 lp; (obtain ⟨q0, q1, q2, q3⟩ := cells4 (H6.out.cells 3 rfl)); (have lq := lt_of_heap (H6.out.cells 3 rfl)); (obtain ⟨e0, e1, e2⟩ := cells3 (H6.out.cells 2 rfl)); (have lp := lt_of_heap (H6.out.cells 2 rfl)); clear _h) | ((have _h := H4); go_at_call 36; refine (take_new nn 0 0 tg 1 H4.out).mono ?_; rintro e w5 ⟨p, rfl, h⟩; (have H5 := Lib.hid (show St w [memA q ws0 [], tlA p (newTk nn 0 0 tg 1), boxA w5.heap.size #[.pointer (some ⟨p, 0, none⟩), .pointer none, .pointer none] 56, bxC w2.heap.size nn 0 0 tg] _ from (h.alloc #[.pointer (some ⟨p, 0, none⟩), .pointer none, .pointer none] 56).re 3 [2, 1, 0])); clear h; clear q0 q1 q2 q3 lq; (obtain ⟨q0, q1, q2, q3⟩ := cells4 (H5.out.cells 3 rfl)); (have lq := lt_of_heap (H5.out.cells 3 rfl)); (obtain ⟨e0, e1, e2⟩ := cells3 (H5.out.cells 2 rfl)); (have lp := lt_of_heap (H5.out.cells 2 rfl)); clear _h) | ((have _h := H3); go_at_call 26; refine (new_st H3.out.tail (some ⟨_, 0, none⟩) _ N (frL T nn nn 0 N) (rowRd (H3.out.row 0 rfl) (frL_len _ _ _ _ _)) hN4 HFR.out (frL_len _ _ _ _ _)).mono ?_; rintro e w4 ⟨q, rfl, h⟩; (have H4 := Lib.hid ((by have h9 := h; rw [HW0.out] at h9; exact h9))); clear h; clear q0 q1 q2 q3 lq; (obtain ⟨q0, q1, q2, q3⟩ := cells4 (H4.out.cells 1 rfl)); (have lq := lt_of_heap (H4.out.cells 1 rfl)); clear _h) | ((have _h := H2); go_at_call 16; refine (fresh_ok nn 0 0 tg T N H2.out HOK.out HN.out HT.out t0 t1).mono ?_; rintro e w3 ⟨g, rfl, h⟩; (have H3 := Lib.hid (h)); clear h; clear q0 q1 q2 q3 lq; (obtain ⟨q0, q1, q2, q3⟩ := cells4 (H3.out.cells 1 rfl)); (have lq := lt_of_heap (H3.out.cells 1 rfl)); clear _h) | ((have _h := H1); go_at_call 35; refine (cfg7_is a0 0 0 tg nn 0 0 _ HNN.out rfl rfl a00 a01 (by decide) (by decide) (by decide) (by decide)).mono ?_; rintro e w2 ⟨rfl, hb⟩; (have H2 := Lib.hid ((H1.out.below hb).alloc #[.int .i64 nn, .int .i64 0, .int .i64 0, .int .u32 tg] 26)); clear hb; (obtain ⟨q0, q1, q2, q3⟩ := cells4 (H2.out.cells 0 rfl)); (have lq := lt_of_heap (H2.out.cells 0 rfl)); clear _h) | ((have _h := H); go_at_call 25; refine (shown7 _).mono ?_; rintro e w1 ⟨rfl, hb⟩; (have H1 := Lib.hid (H.out.below hb)); clear hb; clear _h))
  have HREL := Lib.hid (show LtRel w q p w5.heap.size w2.heap.size nn tg (lateT nn tg false y (.last (rdW ws0 2))) #[.pointer (some ⟨p, 0, none⟩), .pointer none, .pointer none] (T1 + 2 * ((0 : Nat) : Int)) l N 10 _ from ⟨_, _, (by simp), by simpa using HMV.out, by have := HO2.out; rw [HMV.out.len] at this; exact this, H9.out⟩)
  clear H1 H2 H3 H4 H5 H6 H7 H8 H9 q0 q1 q2 q3 lq e0 e1 e2 lp
  obtain ⟨bc, hbc⟩ : ∃ bc, w2.heap.size = bc := ⟨_, rfl⟩
  obtain ⟨bp, hbp⟩ : ∃ bp, w5.heap.size = bp := ⟨_, rfl⟩
  simp only [hbc, hbp] at *
  go_loopg [21] 5 (fun kq z w' => ∃ j : Nat, z = .int .i64 (j : Int) ∧ j ≤ m ∧ j + kq = 5 ∧ LtRel w q p bp bc nn tg (lateT nn tg false y (.last (rdW ws0 2))) #[.pointer (some ⟨p, 0, none⟩), .pointer none, .pointer none] (T1 + 2 * (j : Int)) l N (10 + 6 * j) w')
  case atStart => exact ⟨0, rfl, by omega, by omega, HREL.out⟩
  case round =>
    obtain ⟨j, rfl, hj, hkq, ws, ns, hns, hlt, hok, hS⟩ := hrel
    clear HREL HMV
    obtain ⟨q0, q1, q2, q3⟩ := cells4 (hS.cells 3 rfl)
    have lq := lt_of_heap (hS.cells 3 rfl)
    obtain ⟨e0, e1, e2⟩ := cells3 (hS.cells 2 rfl)
    have lp := lt_of_heap (hS.cells 2 rfl)
    cases gk with
    | zero => omega
    | succ kk =>
      by_cases c4 : j < m
      · have c4b : decide ((j : Int) < ((m : Nat) : Int)) = true := decide_eq_true (by omega)
        obtain ⟨i, r, hlr⟩ : ∃ i r, l = i :: r := by
          cases l with
          | nil => exact absurd rfl (HNL.out (by omega))
          | cons i r => exact ⟨i, r, rfl⟩
        have hi := hlt.free.rng i (by rw [hlr]; simp)
        have hnd := hlt.free.nd
        rw [hlr] at hlt hnd
        have hni : i ∉ r := (List.nodup_cons.1 hnd).1
        obtain ⟨ws1, ⟨S1, hr1⟩, hm1⟩ := Lt.take (t := tg) HOK.out hlt hN2
        obtain ⟨ws2, ⟨S2, hr2⟩, hm2⟩ := Lt.give (t := tg) HOK.out hm1 hN2 ⟨by omega, by omega⟩ hni
        obtain ⟨A1, A2, wa, wb, na, nb, nc, h1, h2, h3⟩ := hr1.ex
        have HA1 := Lib.hid h1
        have HA2 := Lib.hid h2
        have HA3 := Lib.hid h3
        have HI1 := Lib.hid hr1.i
        have HR2 := Lib.hid hr2
        have HM2 := Lib.hid hm2
        have HLR := Lib.hid hlr
        have HPO := Lib.hid hok
        have i00 : (0 : Int) ≤ i := by omega
        have i01 : i < 4294967296 := by omega
        have hnl : ns.length ≤ 40 := by omega
        have HNS := Lib.hid hns
        have L := Lib.hid hS
        clear hS hlt hok hr1 hr2 hm1 hm2 h1 h2 h3 hlr hns hnd hni hi
        go_wp2_with (first | ((have _h := L5); go_at_call 37; refine (ends7 (.pointer none) 3 i (.inr ⟨rfl, rfl, rfl⟩) HR2.out.toN HR2.out.i L5.out (newGv_ok _ _ _ _ _ i00 i01 _) (by simp; omega) (by decide)).mono ?_; rintro e v6 ⟨rfl, n2t, hn2, _, _, h⟩; (have L6 := Lib.hid (h.re 2 [0])); (have HN2 := Lib.hid hn2); clear h hn2; clear q0 q1 q2 q3 lq; (obtain ⟨q0, q1, q2, q3⟩ := cells4 (L6.out.cells 3 rfl)); (have lq := lt_of_heap (L6.out.cells 3 rfl)); clear _h) | ((have _h := L4); go_at_call 38; refine (give_new nn 0 0 tg 1 i L4.out).mono ?_; rintro e v5 ⟨pb, rfl, h⟩; (have L5 := Lib.hid (h.swap)); clear h; clear q0 q1 q2 q3 lq; (obtain ⟨q0, q1, q2, q3⟩ := cells4 (L5.out.cells 4 rfl)); (have lq := lt_of_heap (L5.out.cells 4 rfl)); clear _h) | ((have _h := L3); go_at_call 39; refine (tkK HA3.out ((TM.told1 _).trans HI1.out) HG2.out L3.out HQ2.out (by simp; omega)).mono ?_; rintro e v4 ⟨rfl, ho, hg, h⟩; (have L4 := Lib.hid (h.re 2 [0])); clear h ho hg; clear q0 q1 q2 q3 lq; (obtain ⟨q0, q1, q2, q3⟩ := cells4 (L4.out.cells 3 rfl)); (have lq := lt_of_heap (L4.out.cells 3 rfl)); clear _h) | ((have _h := L2); go_at_call 39; refine (tkK HA2.out (TM.told0 _) HG1.out L2.out HQ1.out (by simp; omega)).mono ?_; rintro e v3 ⟨rfl, ho, hg, h⟩; (have L3 := Lib.hid (h)); (have HQ2 := Lib.hid ho); (have HG2 := Lib.hid hg); clear h ho hg; clear q0 q1 q2 q3 lq; (obtain ⟨q0, q1, q2, q3⟩ := cells4 (L3.out.cells 4 rfl)); (have lq := lt_of_heap (L3.out.cells 4 rfl)); clear _h) | ((have _h := L1); go_at_call 39; refine (tkK HA1.out (TM.told0 _) rfl L1.out (newTk_ok _ _ _ _ _ _) (by omega)).mono ?_; rintro e v2 ⟨rfl, ho, hg, h⟩; (have L2 := Lib.hid (h)); (have HQ1 := Lib.hid ho); (have HG1 := Lib.hid hg); clear h ho hg; clear q0 q1 q2 q3 lq; (obtain ⟨q0, q1, q2, q3⟩ := cells4 (L2.out.cells 4 rfl)); (have lq := lt_of_heap (L2.out.cells 4 rfl)); clear _h) | ((have _h := L); go_at_call 36; refine (take_new nn 0 0 tg 1 L.out).mono ?_; rintro e v1 ⟨pa, rfl, h⟩; (have L1 := Lib.hid (h.swap)); clear h; clear q0 q1 q2 q3 lq; (obtain ⟨q0, q1, q2, q3⟩ := cells4 (L1.out.cells 4 rfl)); (have lq := lt_of_heap (L1.out.cells 4 rfl)); clear _h))
        go_roundg kk
        case measure => omega
        case rel =>
          refine ⟨j + 1, by rfl, by omega, by omega, ws2, _, ?_, ?_, HPO.out, L6.out⟩
          · have a1 := HN2.out
            have a2 := HNS.out
            simp only [List.length_append, List.length_cons, List.length_nil]
            omega
          · have e1 : T1 + 2 * ((j + 1 : Nat) : Int) = T1 + 2 * (j : Int) + 1 + 1 := by omega
            rw [e1, HLR.out]
            exact HM2.out
      · have c4b : decide ((j : Int) < ((m : Nat) : Int)) = false := decide_eq_false (by omega)
        obtain rfl : j = m := by omega
        have Z := Lib.hid hS
        have HLT := Lib.hid hlt
        have w4' : 4 ≤ ws.length := by have := hlt.len; omega
        have HPK := Lib.hid hok
        have HWL := Lib.hid hlt.len
        have hnl : ns.length ≤ 40 := by omega
        obtain ⟨x, hx⟩ : ∃ x : Int, rdW ws0 2 = x := ⟨_, rfl⟩
        try rw [hx] at Z HPK
        have wsE : rdW ws 1 = hdI l + (T1 + 2 * (j : Int)) % 4294967296 * 4294967296 := hlt.word
        have HWE : Hid (ws.length = N) := Lib.hid (by simpa using HWL.out)
        by_cases c0 : j = 0
        · have hye : rdW ws 1 = y := by rw [wsE, HYW.out, c0]; simp
          obtain ⟨ws3, nt3, he3⟩ := late2a (nn := nn) (tg := tg) (g := false) (x := x) hye
          have HE3 := Lib.hid he3
          have c0b : ((j : Int) == 0) = true := by simp; omega
          clear hS hlt hok hns hkq hx wsE hye he3 c0 hj
          go_wp2_with (first | ((have _h := Z2); go_at_call 30; refine (pstepK (.pointer none) (.inl ⟨rfl, rfl, rfl⟩) HE3.out (TM.told1 _) Z2.out (by rw [HWL.out]; exact HPK.out) (by omega)).mono ?_; rintro e z3 ⟨rfl, ho, h⟩; (have Z3 := Lib.hid (h)); clear h ho; clear _h) | ((have _h := Z1); go_at_call 34; refine (words_st Z1.out N HWE.out).mono ?_; rintro e z2 ⟨al, cl, rfl, hrw, _, hb⟩; (have Z2 := Lib.hid (Z1.out.below hb)); (have HRW := Lib.hid hrw); clear hrw hb; clear e0 e1 e2 lp; (obtain ⟨e0, e1, e2⟩ := cells3 (Z2.out.cells 2 rfl)); (have lp := lt_of_heap (Z2.out.cells 2 rfl)); clear _h) | ((have _h := Z); go_at_call 29; refine (pick7_is wn 2 1 _ HWN.out (by decide) (by decide) k0 k1).mono ?_; rintro e z1 ⟨rfl, rfl⟩; (have Z1 := Lib.hid (Z.out)); clear _h))
          go_ret
          exact ⟨rfl, Z3.out.bel⟩
        · have hye : rdW ws 1 ≠ y := by rw [wsE, HYW.out]; have := HHD.out; omega
          have HE3 := Lib.hid (late2b (nn := nn) (tg := tg) (g := false) (x := x) hye)
          have c0b : ((j : Int) == 0) = false := by simp; omega
          clear hS hlt hok hns hkq hx wsE hye c0 hj
          go_wp2_with (first | ((have _h := Y4); go_at_call 33; refine (same2 bl al N dl cl _ _ HRV.out (rowRd (Y4.out.rowOf 3 rfl) HWE.out) HWE.out hN4).mono ?_; rintro e u5 ⟨rfl, hb⟩; (have Y5 := Lib.hid (Y4.out.below hb)); clear hb; clear _h) | ((have _h := Y3); go_at_call 34; refine (words_st Y3.out N HWE.out).mono ?_; rintro e u4 ⟨bl, dl, rfl, hrw, _, hb⟩; (have Y4 := Lib.hid (Y3.out.below hb)); (have HRV := Lib.hid hrw); clear hrw hb; clear _h) | ((have _h := Y2); go_at_call 30; refine (pstepK (.pointer none) (.inl ⟨rfl, rfl, rfl⟩) HE3.out (TM.told3 _) Y2.out (by rw [HWL.out]; exact HPK.out) (by omega)).mono ?_; rintro e u3 ⟨rfl, ho, h⟩; (have Y3 := Lib.hid (h)); clear h ho; clear _h) | ((have _h := Y1); go_at_call 34; refine (words_row Y1.out N HWE.out).mono ?_; rintro e u2 ⟨al, cl, rfl, h⟩; (have Y2 := Lib.hid (h.re 4 [1, 2, 3, 0])); clear h; clear e0 e1 e2 lp; (obtain ⟨e0, e1, e2⟩ := cells3 (Y2.out.cells 2 rfl)); (have lp := lt_of_heap (Y2.out.cells 2 rfl)); clear _h) | ((have _h := Z); go_at_call 29; refine (pick7_is wn 2 1 _ HWN.out (by decide) (by decide) k0 k1).mono ?_; rintro e u1 ⟨rfl, rfl⟩; (have Y1 := Lib.hid (Z.out)); clear _h))
          go_ret
          exact ⟨rfl, Y5.out.bel⟩
set_option maxRecDepth 20000 in
set_option maxHeartbeats 16000000 in
theorem taglistLate_g0 (a0 tg bt wn : Int) (w : World) (hx0 : (Lit.int .i64 a0).wf = true) (hx1 : (Lit.int .u32 tg).wf = true) (hx2 : (Lit.int .i64 bt).wf = true) (hx3 : (Lit.int .i64 wn).wf = true) (hwn : pickI wn 2 = 0) :
    Calls Try.prog 5 #[.int .i64 a0, .int .u32 tg, .int .i64 bt, .int .i64 wn, .bool true] w fun e w' => e = .returned (.bool true) ∧ Below w.heap.size w w' := by
  obtain ⟨a00, a01⟩ := rngI64 hx0
  obtain ⟨t0, t1⟩ := rngU32 hx1
  obtain ⟨m0, m1⟩ := rngI64 hx2
  obtain ⟨k0, k1⟩ := rngI64 hx3
  have hp := pickI_rng (c := a0) (n := 64) (by decide)
  obtain ⟨nn, hnn⟩ : ∃ nn : Nat, 1 + pickI a0 64 = (nn : Int) := Int.eq_ofNat_of_zero_le (by omega)
  have n1 : 1 ≤ nn := by omega
  have n2 : nn ≤ 64 := by omega
  have hpm := pickI_rng (c := bt) (n := 4) (by decide)
  obtain ⟨m, hm⟩ : ∃ m : Nat, pickI bt 4 = (m : Int) := Int.eq_ofNat_of_zero_le hpm.1
  have hm3 : m ≤ 3 := by omega
  obtain ⟨N, hN⟩ : ∃ N, N = 2 + 2 * nn + 0 + 0 := ⟨_, rfl⟩
  obtain ⟨T, hT⟩ : ∃ T, tg * 4294967296 = T := ⟨_, rfl⟩
  have hN4 : N ≤ 1024 := by omega
  have hN2 : 2 + 2 * nn ≤ N := by omega
  have HNN := Lib.hid hnn
  have HM := Lib.hid hm
  have HWN := Lib.hid hwn
  have HN := Lib.hid hN
  have HT := Lib.hid hT
  have HOK : Hid (okC (nn : Int) ((0 : Nat) : Int) ((0 : Nat) : Int) = true) := Lib.hid (by simp [okC]; omega)
  have HFR : Hid (∀ x ∈ frL T nn nn 0 N, 0 ≤ x ∧ x < 18446744073709551616) := Lib.hid (frL_rng (by omega) (by omega) n2)
  have hup : upL 1 nn = 1 :: upL (1 + 1) (nn - 1) := by
    obtain ⟨d, hd⟩ : ∃ d, nn = d + 1 := ⟨nn - 1, by omega⟩
    rw [hd]
    rfl
  have hmv : Lt nn tg (1 :: upL (1 + 1) (nn - 1)) N (frL T nn nn 0 N) := ⟨hup ▸ fresh_at1 hT t0 t1 hN2 n1 n2, frL_len _ _ _ _ _, HFR.out⟩
  obtain ⟨ws0, ⟨S0, hr0⟩, hmv1⟩ := Lt.take (t := tg) HOK.out hmv hN2
  have HR0 := Lib.hid hr0
  clear hmv hr0
  obtain ⟨l, hl⟩ : ∃ l, (upL (1 + 1) (nn - 1)) = l := ⟨_, rfl⟩
  obtain ⟨T1, hT1⟩ : ∃ T1, (tg + 1) = T1 := ⟨_, rfl⟩
  rw [hl, hT1] at hmv1
  have hlen0 := hmv1.len
  obtain ⟨y, hy⟩ : ∃ y, rdW ws0 1 = y := ⟨_, rfl⟩
  have hyw : y = hdI l + T1 % 4294967296 * 4294967296 := by rw [← hy]; exact hmv1.word
  have hhd := hdI_rng (nn := nn) (l := l) hmv1.free.rng
  have y0 : 0 ≤ y := by omega
  have y1 : y < 18446744073709551616 := by omega
  have w4 : 4 ≤ ws0.length := by omega
  have HYW := Lib.hid hyw
  have HL2 : Hid (∀ i ∈ l, 2 ≤ i) := Lib.hid (fun i hi => by rw [← hl] at hi; have := mem_upL.1 hi; omega)
  have HLN : Hid (l = [] → nn < 2) := Lib.hid (fun h => by rw [← hl] at h; have := congrArg List.length h; rw [upL_len] at this; simp at this; omega)
  have HE0 := Lib.hid (late0g (tg := tg) (nn := nn) HOK.out hy w4)
  have HMV := Lib.hid hmv1
  have H := Lib.hid (St.nil w)
  have d0 : decide ((nn : Int) < 1) = false := decide_eq_false (by omega)
  have HL0 := Lib.hid hlen0
  have HHD := Lib.hid hhd
  clear hx0 hx1 hx2 hx3 hp hnn hpm hm hwn hN hT hup hmv1 hlen0 hy hyw hl hT1 hhd
  obtain ⟨n, hn⟩ : ∃ n : Nat, n = if nn < 2 then 0 else m := ⟨_, rfl⟩
  have hn3 : n ≤ 3 := by rw [hn]; split <;> omega
  have HNL : Hid (n ≠ 0 → l ≠ []) := Lib.hid (fun h c => h (by rw [hn, if_pos (HLN.out c)]))
  have HNM := Lib.hid hn
  clear hn
  by_cases cn : nn < 2
  · have dn : decide ((nn : Int) < 2) = true := decide_eq_true (by omega)
    obtain rfl : n = 0 := by rw [HNM.out, if_pos cn]
    go_enter Try.func5, Try.ntmps5
    go_wp2_with (first | ((have _h := H9); go_at_call 29; refine (pick7_is bt 4 m _ HM.out (by decide) (by decide) m0 m1).mono ?_; rintro e w10 ⟨rfl, rfl⟩; (have H10 := Lib.hid (H9.out)); clear _h) | ((have _h := H8); go_at_call 29; refine (pick7_is wn 2 0 _ HWN.out (by decide) (by decide) k0 k1).mono ?_; rintro e w9 ⟨rfl, rfl⟩; (have H9 := Lib.hid (H8.out)); clear _h) | ((have _h := H7); go_at_call 30; refine (pstepK (.pointer none) (.inr ⟨rfl, rfl, rfl⟩) HE0.out (TM.told0 _) H7.out (newGv_ok _ _ _ _ _ (by decide) (by decide) _) (by simp; omega)).mono ?_; rintro e w8 ⟨rfl, ho, h⟩; (have H8 := Lib.hid (h)); clear f0 f1 f2; (have HO1 := Lib.hid ho); clear h ho; clear q0 q1 q2 q3 lq; clear e0 e1 e2 lp; (obtain ⟨q0, q1, q2, q3⟩ := cells4 (H8.out.cells 3 rfl)); (have lq := lt_of_heap (H8.out.cells 3 rfl)); (obtain ⟨e0, e1, e2⟩ := cells3 (H8.out.cells 2 rfl)); (have lp := lt_of_heap (H8.out.cells 2 rfl)); clear _h) | ((have _h := H6); go_at_call 38; refine (give_new nn 0 0 tg 1 1 H6.out).mono ?_; rintro e w7 ⟨p2, rfl, h⟩; (have H7 := Lib.hid ((((h.setAt 2 rfl 0 (.pointer none)).setAt 2 rfl 1 (.pointer (some ⟨p2, 0, none⟩))).setAt 2 rfl 2 (.pointer none)).re 3 [1, 0, 2] (hn := Nat.le_add_left 3 _))); (have hp2 := h.cells 2 rfl); clear e0 e1 e2 lp; obtain ⟨e0, e1, e2⟩ := cells3 hp2; (have f0 := free_of hp2 0); (have f1 := free_of hp2 1); (have f2 := free_of hp2 2); (have lp := lt_of_heap hp2); clear hp2; clear q0 q1 q2 q3 lq; (obtain ⟨q0, q1, q2, q3⟩ := cells4 (h.cells 3 rfl)); (have lq := lt_of_heap (h.cells 3 rfl)); clear h; clear _h) | ((have _h := H5); go_at_call 37; refine (ends7 (.pointer none) 3 1 (.inl ⟨rfl, rfl, rfl⟩) HR0.out.toN HR0.out.i H5.out (newTk_ok _ _ _ _ _ _) (by simp) (by decide)).mono ?_; rintro e w6 ⟨rfl, n1t, hn1, _, _, h⟩; (have H6 := Lib.hid (show St w [memA q ws0 ([] ++ n1t), boxA w5.heap.size #[.pointer (some ⟨p, 0, none⟩), .pointer none, .pointer none] 56, bxC w2.heap.size nn 0 0 tg] _ from h.re 2 [0] (hn := Nat.le_add_left 2 _))); (have HN1 := Lib.hid hn1); (have hl1 : n1t.length ≤ 3 := by omega); clear h hn1; clear q0 q1 q2 q3 lq; clear e0 e1 e2 lp; (obtain ⟨q0, q1, q2, q3⟩ := cells4 (H6.out.cells 2 rfl)); (have lq := lt_of_heap (H6.out.cells 2 rfl)); (obtain ⟨e0, e1, e2⟩ := cells3 (H6.out.cells 1 rfl)); (have lp := lt_of_heap (H6.out.cells 1 rfl)); clear _h) | ((have _h := H4); go_at_call 36; refine (take_new nn 0 0 tg 1 H4.out).mono ?_; rintro e w5 ⟨p, rfl, h⟩; (have H5 := Lib.hid (show St w [memA q (frL T nn nn 0 N) [], tlA p (newTk nn 0 0 tg 1), boxA w5.heap.size #[.pointer (some ⟨p, 0, none⟩), .pointer none, .pointer none] 56, bxC w2.heap.size nn 0 0 tg] _ from (h.alloc #[.pointer (some ⟨p, 0, none⟩), .pointer none, .pointer none] 56).re 3 [2, 1, 0])); clear h; clear q0 q1 q2 q3 lq; (obtain ⟨q0, q1, q2, q3⟩ := cells4 (H5.out.cells 3 rfl)); (have lq := lt_of_heap (H5.out.cells 3 rfl)); (obtain ⟨e0, e1, e2⟩ := cells3 (H5.out.cells 2 rfl)); (have lp := lt_of_heap (H5.out.cells 2 rfl)); clear _h) | ((have _h := H3); go_at_call 26; refine (new_st H3.out.tail (some ⟨_, 0, none⟩) _ N (frL T nn nn 0 N) (rowRd (H3.out.row 0 rfl) (frL_len _ _ _ _ _)) hN4 HFR.out (frL_len _ _ _ _ _)).mono ?_; rintro e w4 ⟨q, rfl, h⟩; (have H4 := Lib.hid (h)); clear h; clear q0 q1 q2 q3 lq; (obtain ⟨q0, q1, q2, q3⟩ := cells4 (H4.out.cells 1 rfl)); (have lq := lt_of_heap (H4.out.cells 1 rfl)); clear _h) | ((have _h := H2); go_at_call 16; refine (fresh_ok nn 0 0 tg T N H2.out HOK.out HN.out HT.out t0 t1).mono ?_; rintro e w3 ⟨g, rfl, h⟩; (have H3 := Lib.hid (h)); clear h; clear q0 q1 q2 q3 lq; (obtain ⟨q0, q1, q2, q3⟩ := cells4 (H3.out.cells 1 rfl)); (have lq := lt_of_heap (H3.out.cells 1 rfl)); clear _h) | ((have _h := H1); go_at_call 35; refine (cfg7_is a0 0 0 tg nn 0 0 _ HNN.out rfl rfl a00 a01 (by decide) (by decide) (by decide) (by decide)).mono ?_; rintro e w2 ⟨rfl, hb⟩; (have H2 := Lib.hid ((H1.out.below hb).alloc #[.int .i64 nn, .int .i64 0, .int .i64 0, .int .u32 tg] 26)); clear hb; (obtain ⟨q0, q1, q2, q3⟩ := cells4 (H2.out.cells 0 rfl)); (have lq := lt_of_heap (H2.out.cells 0 rfl)); clear _h) | ((have _h := H); go_at_call 25; refine (shown7 _).mono ?_; rintro e w1 ⟨rfl, hb⟩; (have H1 := Lib.hid (H.out.below hb)); clear hb; clear _h))
    have HREL := Lib.hid (show LtRel w q p2 w5.heap.size w2.heap.size nn tg (lateT nn tg true y .second) #[.pointer none, .pointer (some ⟨p2, 0, none⟩), .pointer none] (T1 + 2 * ((0 : Nat) : Int)) l N 10 _ from ⟨_, _, (by simp; omega), by simpa using HMV.out, by have := HO1.out; rw [HMV.out.len] at this; exact this, H10.out⟩)
    clear H1 H2 H3 H4 H5 H6 H7 H8 H9 H10 q0 q1 q2 q3 lq e0 e1 e2 lp cn
    obtain ⟨bc, hbc⟩ : ∃ bc, w2.heap.size = bc := ⟨_, rfl⟩
    obtain ⟨bp, hbp⟩ : ∃ bp, w5.heap.size = bp := ⟨_, rfl⟩
    simp only [hbc, hbp] at *
    go_loopg [21] 5 (fun kq z w' => ∃ j : Nat, z = .int .i64 (j : Int) ∧ j ≤ 0 ∧ j + kq = 5 ∧ LtRel w q p2 bp bc nn tg (lateT nn tg true y .second) #[.pointer none, .pointer (some ⟨p2, 0, none⟩), .pointer none] (T1 + 2 * (j : Int)) l N (10 + 6 * j) w')
    case atStart => exact ⟨0, rfl, by omega, by omega, HREL.out⟩
    case round =>
      obtain ⟨j, rfl, hj, hkq, ws, ns, hns, hlt, hok, hS⟩ := hrel
      clear HREL HMV
      obtain ⟨q0, q1, q2, q3⟩ := cells4 (hS.cells 3 rfl)
      have lq := lt_of_heap (hS.cells 3 rfl)
      obtain ⟨e0, e1, e2⟩ := cells3 (hS.cells 2 rfl)
      have lp := lt_of_heap (hS.cells 2 rfl)
      cases gk with
      | zero => omega
      | succ kk =>
        by_cases c4 : j < 0
        · have c4b : decide ((j : Int) < ((0 : Nat) : Int)) = true := decide_eq_true (by omega)
          exact absurd c4 (by omega)
        · have c4b : decide ((j : Int) < ((0 : Nat) : Int)) = false := decide_eq_false (by omega)
          have ej : j = 0 := by omega
          have Z := Lib.hid hS
          have HLT := Lib.hid hlt
          have w4' : 4 ≤ ws.length := by have := hlt.len; omega
          have HPK := Lib.hid hok
          have HWL := Lib.hid hlt.len
          have hnl : ns.length ≤ 40 := by omega
          have HE1 := Lib.hid (late1g (tg := tg) (nn := nn) (y := y) HOK.out w4')
          have hx : (0 : Int) = 0 := rfl
          have wsE : rdW (ws.set 2 (y % 4294967296)) 1 = hdI l + (T1 + 2 * (j : Int)) % 4294967296 * 4294967296 := (rdW_other _ _ _ _ (by decide)).trans hlt.word
          have HWE : Hid ((ws.set 2 (y % 4294967296)).length = N) := Lib.hid (by simpa using HWL.out)
          by_cases c0 : j = 0
          · have hye : rdW (ws.set 2 (y % 4294967296)) 1 = y := by rw [wsE, HYW.out, c0]; simp
            obtain ⟨ws3, nt3, he3⟩ := late2a (nn := nn) (tg := tg) (g := true) (x := 0) hye
            have HE3 := Lib.hid he3
            have c0b : ((j : Int) == 0) = true := by simp; omega
            clear hS hlt hok hns hkq hx wsE hye he3 c0 hj
            go_wp2_with (first | ((have _h := Z3); go_at_call 30; refine (pstepK (.pointer none) (.inr ⟨rfl, rfl, rfl⟩) HE3.out (TM.told1 _) Z3.out HPL.out (by simp; omega)).mono ?_; rintro e z4 ⟨rfl, ho, h⟩; (have Z4 := Lib.hid (h)); clear h ho; clear _h) | ((have _h := Z2); go_at_call 34; refine (words_st Z2.out N HWE.out).mono ?_; rintro e z3 ⟨al, cl, rfl, hrw, _, hb⟩; (have Z3 := Lib.hid (Z2.out.below hb)); (have HRW := Lib.hid hrw); clear hrw hb; clear e0 e1 e2 lp; (obtain ⟨e0, e1, e2⟩ := cells3 (Z3.out.cells 2 rfl)); (have lp := lt_of_heap (Z3.out.cells 2 rfl)); clear _h) | ((have _h := Z1); go_at_call 30; refine (pstepK (.pointer none) (.inr ⟨rfl, rfl, rfl⟩) HE1.out (TM.told0 _) Z1.out (by rw [HWL.out]; exact HPK.out) (by omega)).mono ?_; rintro e z2 ⟨rfl, ho, h⟩; (have Z2 := Lib.hid (h)); (have HPL := Lib.hid ho); clear h ho; clear e0 e1 e2 lp; (obtain ⟨e0, e1, e2⟩ := cells3 (Z2.out.cells 2 rfl)); (have lp := lt_of_heap (Z2.out.cells 2 rfl)); clear _h) | ((have _h := Z); go_at_call 29; refine (pick7_is wn 2 0 _ HWN.out (by decide) (by decide) k0 k1).mono ?_; rintro e z1 ⟨rfl, rfl⟩; (have Z1 := Lib.hid (Z.out)); clear _h))
            go_ret
            exact ⟨rfl, Z4.out.bel⟩
          · exact absurd ej c0
  · have dn : decide ((nn : Int) < 2) = false := decide_eq_false (by omega)
    obtain rfl : m = n := by rw [HNM.out, if_neg cn]
    go_enter Try.func5, Try.ntmps5
    go_wp2_with (first | ((have _h := H9); go_at_call 29; refine (pick7_is bt 4 m _ HM.out (by decide) (by decide) m0 m1).mono ?_; rintro e w10 ⟨rfl, rfl⟩; (have H10 := Lib.hid (H9.out)); clear _h) | ((have _h := H8); go_at_call 29; refine (pick7_is wn 2 0 _ HWN.out (by decide) (by decide) k0 k1).mono ?_; rintro e w9 ⟨rfl, rfl⟩; (have H9 := Lib.hid (H8.out)); clear _h) | ((have _h := H7); go_at_call 30; refine (pstepK (.pointer none) (.inr ⟨rfl, rfl, rfl⟩) HE0.out (TM.told0 _) H7.out (newGv_ok _ _ _ _ _ (by decide) (by decide) _) (by simp; omega)).mono ?_; rintro e w8 ⟨rfl, ho, h⟩; (have H8 := Lib.hid (h)); clear f0 f1 f2; (have HO1 := Lib.hid ho); clear h ho; clear q0 q1 q2 q3 lq; clear e0 e1 e2 lp; (obtain ⟨q0, q1, q2, q3⟩ := cells4 (H8.out.cells 3 rfl)); (have lq := lt_of_heap (H8.out.cells 3 rfl)); (obtain ⟨e0, e1, e2⟩ := cells3 (H8.out.cells 2 rfl)); (have lp := lt_of_heap (H8.out.cells 2 rfl)); clear _h) | ((have _h := H6); go_at_call 38; refine (give_new nn 0 0 tg 1 1 H6.out).mono ?_; rintro e w7 ⟨p2, rfl, h⟩; (have H7 := Lib.hid ((((h.setAt 2 rfl 0 (.pointer none)).setAt 2 rfl 1 (.pointer (some ⟨p2, 0, none⟩))).setAt 2 rfl 2 (.pointer none)).re 3 [1, 0, 2] (hn := Nat.le_add_left 3 _))); (have hp2 := h.cells 2 rfl); clear e0 e1 e2 lp; obtain ⟨e0, e1, e2⟩ := cells3 hp2; (have f0 := free_of hp2 0); (have f1 := free_of hp2 1); (have f2 := free_of hp2 2); (have lp := lt_of_heap hp2); clear hp2; clear q0 q1 q2 q3 lq; (obtain ⟨q0, q1, q2, q3⟩ := cells4 (h.cells 3 rfl)); (have lq := lt_of_heap (h.cells 3 rfl)); clear h; clear _h) | ((have _h := H5); go_at_call 37; refine (ends7 (.pointer none) 3 1 (.inl ⟨rfl, rfl, rfl⟩) HR0.out.toN HR0.out.i H5.out (newTk_ok _ _ _ _ _ _) (by simp) (by decide)).mono ?_; rintro e w6 ⟨rfl, n1t, hn1, _, _, h⟩; (have H6 := Lib.hid (show St w [memA q ws0 ([] ++ n1t), boxA w5.heap.size #[.pointer (some ⟨p, 0, none⟩), .pointer none, .pointer none] 56, bxC w2.heap.size nn 0 0 tg] _ from h.re 2 [0] (hn := Nat.le_add_left 2 _))); (have HN1 := Lib.hid hn1); (have hl1 : n1t.length ≤ 3 := by omega); clear h hn1; clear q0 q1 q2 q3 lq; clear e0 e1 e2 lp; (obtain ⟨q0, q1, q2, q3⟩ := cells4 (H6.out.cells 2 rfl)); (have lq := lt_of_heap (H6.out.cells 2 rfl)); (obtain ⟨e0, e1, e2⟩ := cells3 (H6.out.cells 1 rfl)); (have lp := lt_of_heap (H6.out.cells 1 rfl)); clear _h) | ((have _h := H4); go_at_call 36; refine (take_new nn 0 0 tg 1 H4.out).mono ?_; rintro e w5 ⟨p, rfl, h⟩; (have H5 := Lib.hid (show St w [memA q (frL T nn nn 0 N) [], tlA p (newTk nn 0 0 tg 1), boxA w5.heap.size #[.pointer (some ⟨p, 0, none⟩), .pointer none, .pointer none] 56, bxC w2.heap.size nn 0 0 tg] _ from (h.alloc #[.pointer (some ⟨p, 0, none⟩), .pointer none, .pointer none] 56).re 3 [2, 1, 0])); clear h; clear q0 q1 q2 q3 lq; (obtain ⟨q0, q1, q2, q3⟩ := cells4 (H5.out.cells 3 rfl)); (have lq := lt_of_heap (H5.out.cells 3 rfl)); (obtain ⟨e0, e1, e2⟩ := cells3 (H5.out.cells 2 rfl)); (have lp := lt_of_heap (H5.out.cells 2 rfl)); clear _h) | ((have _h := H3); go_at_call 26; refine (new_st H3.out.tail (some ⟨_, 0, none⟩) _ N (frL T nn nn 0 N) (rowRd (H3.out.row 0 rfl) (frL_len _ _ _ _ _)) hN4 HFR.out (frL_len _ _ _ _ _)).mono ?_; rintro e w4 ⟨q, rfl, h⟩; (have H4 := Lib.hid (h)); clear h; clear q0 q1 q2 q3 lq; (obtain ⟨q0, q1, q2, q3⟩ := cells4 (H4.out.cells 1 rfl)); (have lq := lt_of_heap (H4.out.cells 1 rfl)); clear _h) | ((have _h := H2); go_at_call 16; refine (fresh_ok nn 0 0 tg T N H2.out HOK.out HN.out HT.out t0 t1).mono ?_; rintro e w3 ⟨g, rfl, h⟩; (have H3 := Lib.hid (h)); clear h; clear q0 q1 q2 q3 lq; (obtain ⟨q0, q1, q2, q3⟩ := cells4 (H3.out.cells 1 rfl)); (have lq := lt_of_heap (H3.out.cells 1 rfl)); clear _h) | ((have _h := H1); go_at_call 35; refine (cfg7_is a0 0 0 tg nn 0 0 _ HNN.out rfl rfl a00 a01 (by decide) (by decide) (by decide) (by decide)).mono ?_; rintro e w2 ⟨rfl, hb⟩; (have H2 := Lib.hid ((H1.out.below hb).alloc #[.int .i64 nn, .int .i64 0, .int .i64 0, .int .u32 tg] 26)); clear hb; (obtain ⟨q0, q1, q2, q3⟩ := cells4 (H2.out.cells 0 rfl)); (have lq := lt_of_heap (H2.out.cells 0 rfl)); clear _h) | ((have _h := H); go_at_call 25; refine (shown7 _).mono ?_; rintro e w1 ⟨rfl, hb⟩; (have H1 := Lib.hid (H.out.below hb)); clear hb; clear _h))
    have HREL := Lib.hid (show LtRel w q p2 w5.heap.size w2.heap.size nn tg (lateT nn tg true y .second) #[.pointer none, .pointer (some ⟨p2, 0, none⟩), .pointer none] (T1 + 2 * ((0 : Nat) : Int)) l N 10 _ from ⟨_, _, (by simp; omega), by simpa using HMV.out, by have := HO1.out; rw [HMV.out.len] at this; exact this, H10.out⟩)
    clear H1 H2 H3 H4 H5 H6 H7 H8 H9 H10 q0 q1 q2 q3 lq e0 e1 e2 lp cn
    obtain ⟨bc, hbc⟩ : ∃ bc, w2.heap.size = bc := ⟨_, rfl⟩
    obtain ⟨bp, hbp⟩ : ∃ bp, w5.heap.size = bp := ⟨_, rfl⟩
    simp only [hbc, hbp] at *
    go_loopg [21] 5 (fun kq z w' => ∃ j : Nat, z = .int .i64 (j : Int) ∧ j ≤ m ∧ j + kq = 5 ∧ LtRel w q p2 bp bc nn tg (lateT nn tg true y .second) #[.pointer none, .pointer (some ⟨p2, 0, none⟩), .pointer none] (T1 + 2 * (j : Int)) l N (10 + 6 * j) w')
    case atStart => exact ⟨0, rfl, by omega, by omega, HREL.out⟩
    case round =>
      obtain ⟨j, rfl, hj, hkq, ws, ns, hns, hlt, hok, hS⟩ := hrel
      clear HREL HMV
      obtain ⟨q0, q1, q2, q3⟩ := cells4 (hS.cells 3 rfl)
      have lq := lt_of_heap (hS.cells 3 rfl)
      obtain ⟨e0, e1, e2⟩ := cells3 (hS.cells 2 rfl)
      have lp := lt_of_heap (hS.cells 2 rfl)
      cases gk with
      | zero => omega
      | succ kk =>
        by_cases c4 : j < m
        · have c4b : decide ((j : Int) < ((m : Nat) : Int)) = true := decide_eq_true (by omega)
          obtain ⟨i, r, hlr⟩ : ∃ i r, l = i :: r := by
            cases l with
            | nil => exact absurd rfl (HNL.out (by omega))
            | cons i r => exact ⟨i, r, rfl⟩
          have hi := hlt.free.rng i (by rw [hlr]; simp)
          have hnd := hlt.free.nd
          rw [hlr] at hlt hnd
          have hni : i ∉ r := (List.nodup_cons.1 hnd).1
          obtain ⟨ws1, ⟨S1, hr1⟩, hm1⟩ := Lt.take (t := tg) HOK.out hlt hN2
          obtain ⟨ws2, ⟨S2, hr2⟩, hm2⟩ := Lt.give (t := tg) HOK.out hm1 hN2 ⟨by omega, by omega⟩ hni
          obtain ⟨A1, A2, wa, wb, na, nb, nc, h1, h2, h3⟩ := hr1.ex
          have HA1 := Lib.hid h1
          have HA2 := Lib.hid h2
          have HA3 := Lib.hid h3
          have HI1 := Lib.hid hr1.i
          have HR2 := Lib.hid hr2
          have HM2 := Lib.hid hm2
          have HLR := Lib.hid hlr
          have HPO := Lib.hid hok
          have i00 : (0 : Int) ≤ i := by omega
          have i01 : i < 4294967296 := by omega
          have hnl : ns.length ≤ 40 := by omega
          have HNS := Lib.hid hns
          have L := Lib.hid hS
          clear hS hlt hok hr1 hr2 hm1 hm2 h1 h2 h3 hlr hns hnd hni hi
          go_wp2_with (first | ((have _h := L5); go_at_call 37; refine (ends7 (.pointer none) 3 i (.inr ⟨rfl, rfl, rfl⟩) HR2.out.toN HR2.out.i L5.out (newGv_ok _ _ _ _ _ i00 i01 _) (by simp; omega) (by decide)).mono ?_; rintro e v6 ⟨rfl, n2t, hn2, _, _, h⟩; (have L6 := Lib.hid (h.re 2 [0])); (have HN2 := Lib.hid hn2); clear h hn2; clear q0 q1 q2 q3 lq; (obtain ⟨q0, q1, q2, q3⟩ := cells4 (L6.out.cells 3 rfl)); (have lq := lt_of_heap (L6.out.cells 3 rfl)); clear _h) | ((have _h := L4); go_at_call 38; refine (give_new nn 0 0 tg 1 i L4.out).mono ?_; rintro e v5 ⟨pb, rfl, h⟩; (have L5 := Lib.hid (h.swap)); clear h; clear q0 q1 q2 q3 lq; (obtain ⟨q0, q1, q2, q3⟩ := cells4 (L5.out.cells 4 rfl)); (have lq := lt_of_heap (L5.out.cells 4 rfl)); clear _h) | ((have _h := L3); go_at_call 39; refine (tkK HA3.out ((TM.told1 _).trans HI1.out) HG2.out L3.out HQ2.out (by simp; omega)).mono ?_; rintro e v4 ⟨rfl, ho, hg, h⟩; (have L4 := Lib.hid (h.re 2 [0])); clear h ho hg; clear q0 q1 q2 q3 lq; (obtain ⟨q0, q1, q2, q3⟩ := cells4 (L4.out.cells 3 rfl)); (have lq := lt_of_heap (L4.out.cells 3 rfl)); clear _h) | ((have _h := L2); go_at_call 39; refine (tkK HA2.out (TM.told0 _) HG1.out L2.out HQ1.out (by simp; omega)).mono ?_; rintro e v3 ⟨rfl, ho, hg, h⟩; (have L3 := Lib.hid (h)); (have HQ2 := Lib.hid ho); (have HG2 := Lib.hid hg); clear h ho hg; clear q0 q1 q2 q3 lq; (obtain ⟨q0, q1, q2, q3⟩ := cells4 (L3.out.cells 4 rfl)); (have lq := lt_of_heap (L3.out.cells 4 rfl)); clear _h) | ((have _h := L1); go_at_call 39; refine (tkK HA1.out (TM.told0 _) rfl L1.out (newTk_ok _ _ _ _ _ _) (by omega)).mono ?_; rintro e v2 ⟨rfl, ho, hg, h⟩; (have L2 := Lib.hid (h)); (have HQ1 := Lib.hid ho); (have HG1 := Lib.hid hg); clear h ho hg; clear q0 q1 q2 q3 lq; (obtain ⟨q0, q1, q2, q3⟩ := cells4 (L2.out.cells 4 rfl)); (have lq := lt_of_heap (L2.out.cells 4 rfl)); clear _h) | ((have _h := L); go_at_call 36; refine (take_new nn 0 0 tg 1 L.out).mono ?_; rintro e v1 ⟨pa, rfl, h⟩; (have L1 := Lib.hid (h.swap)); clear h; clear q0 q1 q2 q3 lq; (obtain ⟨q0, q1, q2, q3⟩ := cells4 (L1.out.cells 4 rfl)); (have lq := lt_of_heap (L1.out.cells 4 rfl)); clear _h))
          go_roundg kk
          case measure => omega
          case rel =>
            refine ⟨j + 1, by rfl, by omega, by omega, ws2, _, ?_, ?_, HPO.out, L6.out⟩
            · have a1 := HN2.out
              have a2 := HNS.out
              simp only [List.length_append, List.length_cons, List.length_nil]
              omega
            · have e1 : T1 + 2 * ((j + 1 : Nat) : Int) = T1 + 2 * (j : Int) + 1 + 1 := by omega
              rw [e1, HLR.out]
              exact HM2.out
        · have c4b : decide ((j : Int) < ((m : Nat) : Int)) = false := decide_eq_false (by omega)
          obtain rfl : j = m := by omega
          have Z := Lib.hid hS
          have HLT := Lib.hid hlt
          have w4' : 4 ≤ ws.length := by have := hlt.len; omega
          have HPK := Lib.hid hok
          have HWL := Lib.hid hlt.len
          have hnl : ns.length ≤ 40 := by omega
          have HE1 := Lib.hid (late1g (tg := tg) (nn := nn) (y := y) HOK.out w4')
          have hx : (0 : Int) = 0 := rfl
          have wsE : rdW (ws.set 2 (y % 4294967296)) 1 = hdI l + (T1 + 2 * (j : Int)) % 4294967296 * 4294967296 := (rdW_other _ _ _ _ (by decide)).trans hlt.word
          have HWE : Hid ((ws.set 2 (y % 4294967296)).length = N) := Lib.hid (by simpa using HWL.out)
          by_cases c0 : j = 0
          · have hye : rdW (ws.set 2 (y % 4294967296)) 1 = y := by rw [wsE, HYW.out, c0]; simp
            obtain ⟨ws3, nt3, he3⟩ := late2a (nn := nn) (tg := tg) (g := true) (x := 0) hye
            have HE3 := Lib.hid he3
            have c0b : ((j : Int) == 0) = true := by simp; omega
            clear hS hlt hok hns hkq hx wsE hye he3 c0 hj
            go_wp2_with (first | ((have _h := Z3); go_at_call 30; refine (pstepK (.pointer none) (.inr ⟨rfl, rfl, rfl⟩) HE3.out (TM.told1 _) Z3.out HPL.out (by simp; omega)).mono ?_; rintro e z4 ⟨rfl, ho, h⟩; (have Z4 := Lib.hid (h)); clear h ho; clear _h) | ((have _h := Z2); go_at_call 34; refine (words_st Z2.out N HWE.out).mono ?_; rintro e z3 ⟨al, cl, rfl, hrw, _, hb⟩; (have Z3 := Lib.hid (Z2.out.below hb)); (have HRW := Lib.hid hrw); clear hrw hb; clear e0 e1 e2 lp; (obtain ⟨e0, e1, e2⟩ := cells3 (Z3.out.cells 2 rfl)); (have lp := lt_of_heap (Z3.out.cells 2 rfl)); clear _h) | ((have _h := Z1); go_at_call 30; refine (pstepK (.pointer none) (.inr ⟨rfl, rfl, rfl⟩) HE1.out (TM.told0 _) Z1.out (by rw [HWL.out]; exact HPK.out) (by omega)).mono ?_; rintro e z2 ⟨rfl, ho, h⟩; (have Z2 := Lib.hid (h)); (have HPL := Lib.hid ho); clear h ho; clear e0 e1 e2 lp; (obtain ⟨e0, e1, e2⟩ := cells3 (Z2.out.cells 2 rfl)); (have lp := lt_of_heap (Z2.out.cells 2 rfl)); clear _h) | ((have _h := Z); go_at_call 29; refine (pick7_is wn 2 0 _ HWN.out (by decide) (by decide) k0 k1).mono ?_; rintro e z1 ⟨rfl, rfl⟩; (have Z1 := Lib.hid (Z.out)); clear _h))
            go_ret
            exact ⟨rfl, Z4.out.bel⟩
          · have hye : rdW (ws.set 2 (y % 4294967296)) 1 ≠ y := by rw [wsE, HYW.out]; have := HHD.out; omega
            have HE3 := Lib.hid (late2b (nn := nn) (tg := tg) (g := true) (x := 0) hye)
            have c0b : ((j : Int) == 0) = false := by simp; omega
            clear hS hlt hok hns hkq hx wsE hye c0 hj
            go_wp2_with (first | ((have _h := Y5); go_at_call 33; refine (same2 bl al N dl cl _ _ HRV.out (rowRd (Y5.out.rowOf 3 rfl) HWE.out) HWE.out hN4).mono ?_; rintro e u6 ⟨rfl, hb⟩; (have Y6 := Lib.hid (Y5.out.below hb)); clear hb; clear _h) | ((have _h := Y4); go_at_call 34; refine (words_st Y4.out N HWE.out).mono ?_; rintro e u5 ⟨bl, dl, rfl, hrw, _, hb⟩; (have Y5 := Lib.hid (Y4.out.below hb)); (have HRV := Lib.hid hrw); clear hrw hb; clear _h) | ((have _h := Y3); go_at_call 30; refine (pstepK (.pointer none) (.inr ⟨rfl, rfl, rfl⟩) HE3.out (TM.told3 _) Y3.out HPL.out (by simp; omega)).mono ?_; rintro e u4 ⟨rfl, ho, h⟩; (have Y4 := Lib.hid (h)); clear h ho; clear _h) | ((have _h := Y2); go_at_call 34; refine (words_row Y2.out N HWE.out).mono ?_; rintro e u3 ⟨al, cl, rfl, h⟩; (have Y3 := Lib.hid (h.re 4 [1, 2, 3, 0])); clear h; clear e0 e1 e2 lp; (obtain ⟨e0, e1, e2⟩ := cells3 (Y3.out.cells 2 rfl)); (have lp := lt_of_heap (Y3.out.cells 2 rfl)); clear _h) | ((have _h := Y1); go_at_call 30; refine (pstepK (.pointer none) (.inr ⟨rfl, rfl, rfl⟩) HE1.out (TM.told0 _) Y1.out (by rw [HWL.out]; exact HPK.out) (by omega)).mono ?_; rintro e u2 ⟨rfl, ho, h⟩; (have Y2 := Lib.hid (h)); (have HPL := Lib.hid ho); clear h ho; clear e0 e1 e2 lp; (obtain ⟨e0, e1, e2⟩ := cells3 (Y2.out.cells 2 rfl)); (have lp := lt_of_heap (Y2.out.cells 2 rfl)); clear _h) | ((have _h := Z); go_at_call 29; refine (pick7_is wn 2 0 _ HWN.out (by decide) (by decide) k0 k1).mono ?_; rintro e u1 ⟨rfl, rfl⟩; (have Y1 := Lib.hid (Z.out)); clear _h))
            go_ret
            exact ⟨rfl, Y6.out.bel⟩
set_option maxRecDepth 20000 in
set_option maxHeartbeats 16000000 in
theorem taglistLate_g1 (a0 tg bt wn : Int) (w : World) (hx0 : (Lit.int .i64 a0).wf = true) (hx1 : (Lit.int .u32 tg).wf = true) (hx2 : (Lit.int .i64 bt).wf = true) (hx3 : (Lit.int .i64 wn).wf = true) (hwn : pickI wn 2 = 1) :
    Calls Try.prog 5 #[.int .i64 a0, .int .u32 tg, .int .i64 bt, .int .i64 wn, .bool true] w fun e w' => e = .returned (.bool true) ∧ Below w.heap.size w w' := by
  obtain ⟨a00, a01⟩ := rngI64 hx0
  obtain ⟨t0, t1⟩ := rngU32 hx1
  obtain ⟨m0, m1⟩ := rngI64 hx2
  obtain ⟨k0, k1⟩ := rngI64 hx3
  have hp := pickI_rng (c := a0) (n := 64) (by decide)
  obtain ⟨nn, hnn⟩ : ∃ nn : Nat, 1 + pickI a0 64 = (nn : Int) := Int.eq_ofNat_of_zero_le (by omega)
  have n1 : 1 ≤ nn := by omega
  have n2 : nn ≤ 64 := by omega
  have hpm := pickI_rng (c := bt) (n := 4) (by decide)
  obtain ⟨m, hm⟩ : ∃ m : Nat, pickI bt 4 = (m : Int) := Int.eq_ofNat_of_zero_le hpm.1
  have hm3 : m ≤ 3 := by omega
  obtain ⟨N, hN⟩ : ∃ N, N = 2 + 2 * nn + 0 + 0 := ⟨_, rfl⟩
  obtain ⟨T, hT⟩ : ∃ T, tg * 4294967296 = T := ⟨_, rfl⟩
  have hN4 : N ≤ 1024 := by omega
  have hN2 : 2 + 2 * nn ≤ N := by omega
  have HNN := Lib.hid hnn
  have HM := Lib.hid hm
  have HWN := Lib.hid hwn
  have HN := Lib.hid hN
  have HT := Lib.hid hT
  have HOK : Hid (okC (nn : Int) ((0 : Nat) : Int) ((0 : Nat) : Int) = true) := Lib.hid (by simp [okC]; omega)
  have HFR : Hid (∀ x ∈ frL T nn nn 0 N, 0 ≤ x ∧ x < 18446744073709551616) := Lib.hid (frL_rng (by omega) (by omega) n2)
  have hup : upL 1 nn = 1 :: upL (1 + 1) (nn - 1) := by
    obtain ⟨d, hd⟩ : ∃ d, nn = d + 1 := ⟨nn - 1, by omega⟩
    rw [hd]
    rfl
  have hmv : Lt nn tg (1 :: upL (1 + 1) (nn - 1)) N (frL T nn nn 0 N) := ⟨hup ▸ fresh_at1 hT t0 t1 hN2 n1 n2, frL_len _ _ _ _ _, HFR.out⟩
  obtain ⟨ws0, ⟨S0, hr0⟩, hmv1⟩ := Lt.take (t := tg) HOK.out hmv hN2
  have HR0 := Lib.hid hr0
  clear hmv hr0
  obtain ⟨l, hl⟩ : ∃ l, (upL (1 + 1) (nn - 1)) = l := ⟨_, rfl⟩
  obtain ⟨T1, hT1⟩ : ∃ T1, (tg + 1) = T1 := ⟨_, rfl⟩
  rw [hl, hT1] at hmv1
  have hlen0 := hmv1.len
  obtain ⟨y, hy⟩ : ∃ y, rdW ws0 1 = y := ⟨_, rfl⟩
  have hyw : y = hdI l + T1 % 4294967296 * 4294967296 := by rw [← hy]; exact hmv1.word
  have hhd := hdI_rng (nn := nn) (l := l) hmv1.free.rng
  have y0 : 0 ≤ y := by omega
  have y1 : y < 18446744073709551616 := by omega
  have w4 : 4 ≤ ws0.length := by omega
  have HYW := Lib.hid hyw
  have HL2 : Hid (∀ i ∈ l, 2 ≤ i) := Lib.hid (fun i hi => by rw [← hl] at hi; have := mem_upL.1 hi; omega)
  have HLN : Hid (l = [] → nn < 2) := Lib.hid (fun h => by rw [← hl] at h; have := congrArg List.length h; rw [upL_len] at this; simp at this; omega)
  have HE0 := Lib.hid (late0g (tg := tg) (nn := nn) HOK.out hy w4)
  have HE1 := Lib.hid (late1g (tg := tg) (nn := nn) (y := y) HOK.out w4)
  have HMV := Lib.hid (hmv1.other HL2.out (v := y % 4294967296) (by omega) (by omega))
  have H := Lib.hid (St.nil w)
  have d0 : decide ((nn : Int) < 1) = false := decide_eq_false (by omega)
  have HL0 := Lib.hid hlen0
  have HHD := Lib.hid hhd
  clear hx0 hx1 hx2 hx3 hp hnn hpm hm hwn hN hT hup hmv1 hlen0 hy hyw hl hT1 hhd
  obtain ⟨n, hn⟩ : ∃ n : Nat, n = if nn < 2 then 0 else m := ⟨_, rfl⟩
  have hn3 : n ≤ 3 := by rw [hn]; split <;> omega
  have HNL : Hid (n ≠ 0 → l ≠ []) := Lib.hid (fun h c => h (by rw [hn, if_pos (HLN.out c)]))
  have HNM := Lib.hid hn
  clear hn
  by_cases cn : nn < 2
  · have dn : decide ((nn : Int) < 2) = true := decide_eq_true (by omega)
    obtain rfl : n = 0 := by rw [HNM.out, if_pos cn]
    go_enter Try.func5, Try.ntmps5
    go_wp2_with (first | ((have _h := H10); go_at_call 29; refine (pick7_is bt 4 m _ HM.out (by decide) (by decide) m0 m1).mono ?_; rintro e w11 ⟨rfl, rfl⟩; (have H11 := Lib.hid (H10.out)); clear _h) | ((have _h := H9); go_at_call 30; refine (pstepK (.pointer none) (.inr ⟨rfl, rfl, rfl⟩) HE1.out (TM.told0 _) H9.out HO1.out (by simp; omega)).mono ?_; rintro e w10 ⟨rfl, ho, h⟩; (have H10 := Lib.hid (h)); (have HO2 := Lib.hid ho); clear h ho; clear q0 q1 q2 q3 lq; clear e0 e1 e2 lp; (obtain ⟨q0, q1, q2, q3⟩ := cells4 (H10.out.cells 3 rfl)); (have lq := lt_of_heap (H10.out.cells 3 rfl)); (obtain ⟨e0, e1, e2⟩ := cells3 (H10.out.cells 2 rfl)); (have lp := lt_of_heap (H10.out.cells 2 rfl)); clear _h) | ((have _h := H8); go_at_call 29; refine (pick7_is wn 2 1 _ HWN.out (by decide) (by decide) k0 k1).mono ?_; rintro e w9 ⟨rfl, rfl⟩; (have H9 := Lib.hid (H8.out)); clear _h) | ((have _h := H7); go_at_call 30; refine (pstepK (.pointer none) (.inr ⟨rfl, rfl, rfl⟩) HE0.out (TM.told0 _) H7.out (newGv_ok _ _ _ _ _ (by decide) (by decide) _) (by simp; omega)).mono ?_; rintro e w8 ⟨rfl, ho, h⟩; (have H8 := Lib.hid (h)); clear f0 f1 f2; (have HO1 := Lib.hid ho); clear h ho; clear q0 q1 q2 q3 lq; clear e0 e1 e2 lp; (obtain ⟨q0, q1, q2, q3⟩ := cells4 (H8.out.cells 3 rfl)); (have lq := lt_of_heap (H8.out.cells 3 rfl)); (obtain ⟨e0, e1, e2⟩ := cells3 (H8.out.cells 2 rfl)); (have lp := lt_of_heap (H8.out.cells 2 rfl)); clear _h) | ((have _h := H6); go_at_call 38; refine (give_new nn 0 0 tg 1 1 H6.out).mono ?_; rintro e w7 ⟨p2, rfl, h⟩; (have H7 := Lib.hid ((((h.setAt 2 rfl 0 (.pointer none)).setAt 2 rfl 1 (.pointer (some ⟨p2, 0, none⟩))).setAt 2 rfl 2 (.pointer none)).re 3 [1, 0, 2] (hn := Nat.le_add_left 3 _))); (have hp2 := h.cells 2 rfl); clear e0 e1 e2 lp; obtain ⟨e0, e1, e2⟩ := cells3 hp2; (have f0 := free_of hp2 0); (have f1 := free_of hp2 1); (have f2 := free_of hp2 2); (have lp := lt_of_heap hp2); clear hp2; clear q0 q1 q2 q3 lq; (obtain ⟨q0, q1, q2, q3⟩ := cells4 (h.cells 3 rfl)); (have lq := lt_of_heap (h.cells 3 rfl)); clear h; clear _h) | ((have _h := H5); go_at_call 37; refine (ends7 (.pointer none) 3 1 (.inl ⟨rfl, rfl, rfl⟩) HR0.out.toN HR0.out.i H5.out (newTk_ok _ _ _ _ _ _) (by simp) (by decide)).mono ?_; rintro e w6 ⟨rfl, n1t, hn1, _, _, h⟩; (have H6 := Lib.hid (show St w [memA q ws0 ([] ++ n1t), boxA w5.heap.size #[.pointer (some ⟨p, 0, none⟩), .pointer none, .pointer none] 56, bxC w2.heap.size nn 0 0 tg] _ from h.re 2 [0] (hn := Nat.le_add_left 2 _))); (have HN1 := Lib.hid hn1); (have hl1 : n1t.length ≤ 3 := by omega); clear h hn1; clear q0 q1 q2 q3 lq; clear e0 e1 e2 lp; (obtain ⟨q0, q1, q2, q3⟩ := cells4 (H6.out.cells 2 rfl)); (have lq := lt_of_heap (H6.out.cells 2 rfl)); (obtain ⟨e0, e1, e2⟩ := cells3 (H6.out.cells 1 rfl)); (have lp := lt_of_heap (H6.out.cells 1 rfl)); clear _h) | ((have _h := H4); go_at_call 36; refine (take_new nn 0 0 tg 1 H4.out).mono ?_; rintro e w5 ⟨p, rfl, h⟩; (have H5 := Lib.hid (show St w [memA q (frL T nn nn 0 N) [], tlA p (newTk nn 0 0 tg 1), boxA w5.heap.size #[.pointer (some ⟨p, 0, none⟩), .pointer none, .pointer none] 56, bxC w2.heap.size nn 0 0 tg] _ from (h.alloc #[.pointer (some ⟨p, 0, none⟩), .pointer none, .pointer none] 56).re 3 [2, 1, 0])); clear h; clear q0 q1 q2 q3 lq; (obtain ⟨q0, q1, q2, q3⟩ := cells4 (H5.out.cells 3 rfl)); (have lq := lt_of_heap (H5.out.cells 3 rfl)); (obtain ⟨e0, e1, e2⟩ := cells3 (H5.out.cells 2 rfl)); (have lp := lt_of_heap (H5.out.cells 2 rfl)); clear _h) | ((have _h := H3); go_at_call 26; refine (new_st H3.out.tail (some ⟨_, 0, none⟩) _ N (frL T nn nn 0 N) (rowRd (H3.out.row 0 rfl) (frL_len _ _ _ _ _)) hN4 HFR.out (frL_len _ _ _ _ _)).mono ?_; rintro e w4 ⟨q, rfl, h⟩; (have H4 := Lib.hid (h)); clear h; clear q0 q1 q2 q3 lq; (obtain ⟨q0, q1, q2, q3⟩ := cells4 (H4.out.cells 1 rfl)); (have lq := lt_of_heap (H4.out.cells 1 rfl)); clear _h) | ((have _h := H2); go_at_call 16; refine (fresh_ok nn 0 0 tg T N H2.out HOK.out HN.out HT.out t0 t1).mono ?_; rintro e w3 ⟨g, rfl, h⟩; (have H3 := Lib.hid (h)); clear h; clear q0 q1 q2 q3 lq; (obtain ⟨q0, q1, q2, q3⟩ := cells4 (H3.out.cells 1 rfl)); (have lq := lt_of_heap (H3.out.cells 1 rfl)); clear _h) | ((have _h := H1); go_at_call 35; refine (cfg7_is a0 0 0 tg nn 0 0 _ HNN.out rfl rfl a00 a01 (by decide) (by decide) (by decide) (by decide)).mono ?_; rintro e w2 ⟨rfl, hb⟩; (have H2 := Lib.hid ((H1.out.below hb).alloc #[.int .i64 nn, .int .i64 0, .int .i64 0, .int .u32 tg] 26)); clear hb; (obtain ⟨q0, q1, q2, q3⟩ := cells4 (H2.out.cells 0 rfl)); (have lq := lt_of_heap (H2.out.cells 0 rfl)); clear _h) | ((have _h := H); go_at_call 25; refine (shown7 _).mono ?_; rintro e w1 ⟨rfl, hb⟩; (have H1 := Lib.hid (H.out.below hb)); clear hb; clear _h))
    have HREL := Lib.hid (show LtRel w q p2 w5.heap.size w2.heap.size nn tg (lateT nn tg true y (.last 0)) #[.pointer none, .pointer (some ⟨p2, 0, none⟩), .pointer none] (T1 + 2 * ((0 : Nat) : Int)) l N 10 _ from ⟨_, _, (by simp; omega), by simpa using HMV.out, by have := HO2.out; rw [HMV.out.len] at this; exact this, H11.out⟩)
    clear H1 H2 H3 H4 H5 H6 H7 H8 H9 H10 H11 q0 q1 q2 q3 lq e0 e1 e2 lp cn
    obtain ⟨bc, hbc⟩ : ∃ bc, w2.heap.size = bc := ⟨_, rfl⟩
    obtain ⟨bp, hbp⟩ : ∃ bp, w5.heap.size = bp := ⟨_, rfl⟩
    simp only [hbc, hbp] at *
    go_loopg [21] 5 (fun kq z w' => ∃ j : Nat, z = .int .i64 (j : Int) ∧ j ≤ 0 ∧ j + kq = 5 ∧ LtRel w q p2 bp bc nn tg (lateT nn tg true y (.last 0)) #[.pointer none, .pointer (some ⟨p2, 0, none⟩), .pointer none] (T1 + 2 * (j : Int)) l N (10 + 6 * j) w')
    case atStart => exact ⟨0, rfl, by omega, by omega, HREL.out⟩
    case round =>
      obtain ⟨j, rfl, hj, hkq, ws, ns, hns, hlt, hok, hS⟩ := hrel
      clear HREL HMV
      obtain ⟨q0, q1, q2, q3⟩ := cells4 (hS.cells 3 rfl)
      have lq := lt_of_heap (hS.cells 3 rfl)
      obtain ⟨e0, e1, e2⟩ := cells3 (hS.cells 2 rfl)
      have lp := lt_of_heap (hS.cells 2 rfl)
      cases gk with
      | zero => omega
      | succ kk =>
        by_cases c4 : j < 0
        · have c4b : decide ((j : Int) < ((0 : Nat) : Int)) = true := decide_eq_true (by omega)
          exact absurd c4 (by omega)
        · have c4b : decide ((j : Int) < ((0 : Nat) : Int)) = false := decide_eq_false (by omega)
          have ej : j = 0 := by omega
          have Z := Lib.hid hS
          have HLT := Lib.hid hlt
          have w4' : 4 ≤ ws.length := by have := hlt.len; omega
          have HPK := Lib.hid hok
          have HWL := Lib.hid hlt.len
          have hnl : ns.length ≤ 40 := by omega
          have hx : (0 : Int) = 0 := rfl
          have wsE : rdW ws 1 = hdI l + (T1 + 2 * (j : Int)) % 4294967296 * 4294967296 := hlt.word
          have HWE : Hid (ws.length = N) := Lib.hid (by simpa using HWL.out)
          by_cases c0 : j = 0
          · have hye : rdW ws 1 = y := by rw [wsE, HYW.out, c0]; simp
            obtain ⟨ws3, nt3, he3⟩ := late2a (nn := nn) (tg := tg) (g := true) (x := 0) hye
            have HE3 := Lib.hid he3
            have c0b : ((j : Int) == 0) = true := by simp; omega
            clear hS hlt hok hns hkq hx wsE hye he3 c0 hj
            go_wp2_with (first | ((have _h := Z2); go_at_call 30; refine (pstepK (.pointer none) (.inr ⟨rfl, rfl, rfl⟩) HE3.out (TM.told1 _) Z2.out (by rw [HWL.out]; exact HPK.out) (by omega)).mono ?_; rintro e z3 ⟨rfl, ho, h⟩; (have Z3 := Lib.hid (h)); clear h ho; clear _h) | ((have _h := Z1); go_at_call 34; refine (words_st Z1.out N HWE.out).mono ?_; rintro e z2 ⟨al, cl, rfl, hrw, _, hb⟩; (have Z2 := Lib.hid (Z1.out.below hb)); (have HRW := Lib.hid hrw); clear hrw hb; clear e0 e1 e2 lp; (obtain ⟨e0, e1, e2⟩ := cells3 (Z2.out.cells 2 rfl)); (have lp := lt_of_heap (Z2.out.cells 2 rfl)); clear _h) | ((have _h := Z); go_at_call 29; refine (pick7_is wn 2 1 _ HWN.out (by decide) (by decide) k0 k1).mono ?_; rintro e z1 ⟨rfl, rfl⟩; (have Z1 := Lib.hid (Z.out)); clear _h))
            go_ret
            exact ⟨rfl, Z3.out.bel⟩
          · exact absurd ej c0
  · have dn : decide ((nn : Int) < 2) = false := decide_eq_false (by omega)
    obtain rfl : m = n := by rw [HNM.out, if_neg cn]
    go_enter Try.func5, Try.ntmps5
    go_wp2_with (first | ((have _h := H10); go_at_call 29; refine (pick7_is bt 4 m _ HM.out (by decide) (by decide) m0 m1).mono ?_; rintro e w11 ⟨rfl, rfl⟩; (have H11 := Lib.hid (H10.out)); clear _h) | ((have _h := H9); go_at_call 30; refine (pstepK (.pointer none) (.inr ⟨rfl, rfl, rfl⟩) HE1.out (TM.told0 _) H9.out HO1.out (by simp; omega)).mono ?_; rintro e w10 ⟨rfl, ho, h⟩; (have H10 := Lib.hid (h)); (have HO2 := Lib.hid ho); clear h ho; clear q0 q1 q2 q3 lq; clear e0 e1 e2 lp; (obtain ⟨q0, q1, q2, q3⟩ := cells4 (H10.out.cells 3 rfl)); (have lq := lt_of_heap (H10.out.cells 3 rfl)); (obtain ⟨e0, e1, e2⟩ := cells3 (H10.out.cells 2 rfl)); (have lp := lt_of_heap (H10.out.cells 2 rfl)); clear _h) | ((have _h := H8); go_at_call 29; refine (pick7_is wn 2 1 _ HWN.out (by decide) (by decide) k0 k1).mono ?_; rintro e w9 ⟨rfl, rfl⟩; (have H9 := Lib.hid (H8.out)); clear _h) | ((have _h := H7); go_at_call 30; refine (pstepK (.pointer none) (.inr ⟨rfl, rfl, rfl⟩) HE0.out (TM.told0 _) H7.out (newGv_ok _ _ _ _ _ (by decide) (by decide) _) (by simp; omega)).mono ?_; rintro e w8 ⟨rfl, ho, h⟩; (have H8 := Lib.hid (h)); clear f0 f1 f2; (have HO1 := Lib.hid ho); clear h ho; clear q0 q1 q2 q3 lq; clear e0 e1 e2 lp; (obtain ⟨q0, q1, q2, q3⟩ := cells4 (H8.out.cells 3 rfl)); (have lq := lt_of_heap (H8.out.cells 3 rfl)); (obtain ⟨e0, e1, e2⟩ := cells3 (H8.out.cells 2 rfl)); (have lp := lt_of_heap (H8.out.cells 2 rfl)); clear _h) | ((have _h := H6); go_at_call 38; refine (give_new nn 0 0 tg 1 1 H6.out).mono ?_; rintro e w7 ⟨p2, rfl, h⟩; (have H7 := Lib.hid ((((h.setAt 2 rfl 0 (.pointer none)).setAt 2 rfl 1 (.pointer (some ⟨p2, 0, none⟩))).setAt 2 rfl 2 (.pointer none)).re 3 [1, 0, 2] (hn := Nat.le_add_left 3 _))); (have hp2 := h.cells 2 rfl); clear e0 e1 e2 lp; obtain ⟨e0, e1, e2⟩ := cells3 hp2; (have f0 := free_of hp2 0); (have f1 := free_of hp2 1); (have f2 := free_of hp2 2); (have lp := lt_of_heap hp2); clear hp2; clear q0 q1 q2 q3 lq; (obtain ⟨q0, q1, q2, q3⟩ := cells4 (h.cells 3 rfl)); (have lq := lt_of_heap (h.cells 3 rfl)); clear h; clear _h) | ((have _h := H5); go_at_call 37; refine (ends7 (.pointer none) 3 1 (.inl ⟨rfl, rfl, rfl⟩) HR0.out.toN HR0.out.i H5.out (newTk_ok _ _ _ _ _ _) (by simp) (by decide)).mono ?_; rintro e w6 ⟨rfl, n1t, hn1, _, _, h⟩; (have H6 := Lib.hid (show St w [memA q ws0 ([] ++ n1t), boxA w5.heap.size #[.pointer (some ⟨p, 0, none⟩), .pointer none, .pointer none] 56, bxC w2.heap.size nn 0 0 tg] _ from h.re 2 [0] (hn := Nat.le_add_left 2 _))); (have HN1 := Lib.hid hn1); (have hl1 : n1t.length ≤ 3 := by omega); clear h hn1; clear q0 q1 q2 q3 lq; clear e0 e1 e2 lp; (obtain ⟨q0, q1, q2, q3⟩ := cells4 (H6.out.cells 2 rfl)); (have lq := lt_of_heap (H6.out.cells 2 rfl)); (obtain ⟨e0, e1, e2⟩ := cells3 (H6.out.cells 1 rfl)); (have lp := lt_of_heap (H6.out.cells 1 rfl)); clear _h) | ((have _h := H4); go_at_call 36; refine (take_new nn 0 0 tg 1 H4.out).mono ?_; rintro e w5 ⟨p, rfl, h⟩; (have H5 := Lib.hid (show St w [memA q (frL T nn nn 0 N) [], tlA p (newTk nn 0 0 tg 1), boxA w5.heap.size #[.pointer (some ⟨p, 0, none⟩), .pointer none, .pointer none] 56, bxC w2.heap.size nn 0 0 tg] _ from (h.alloc #[.pointer (some ⟨p, 0, none⟩), .pointer none, .pointer none] 56).re 3 [2, 1, 0])); clear h; clear q0 q1 q2 q3 lq; (obtain ⟨q0, q1, q2, q3⟩ := cells4 (H5.out.cells 3 rfl)); (have lq := lt_of_heap (H5.out.cells 3 rfl)); (obtain ⟨e0, e1, e2⟩ := cells3 (H5.out.cells 2 rfl)); (have lp := lt_of_heap (H5.out.cells 2 rfl)); clear _h) | ((have _h := H3); go_at_call 26; refine (new_st H3.out.tail (some ⟨_, 0, none⟩) _ N (frL T nn nn 0 N) (rowRd (H3.out.row 0 rfl) (frL_len _ _ _ _ _)) hN4 HFR.out (frL_len _ _ _ _ _)).mono ?_; rintro e w4 ⟨q, rfl, h⟩; (have H4 := Lib.hid (h)); clear h; clear q0 q1 q2 q3 lq; (obtain ⟨q0, q1, q2, q3⟩ := cells4 (H4.out.cells 1 rfl)); (have lq := lt_of_heap (H4.out.cells 1 rfl)); clear _h) | ((have _h := H2); go_at_call 16; refine (fresh_ok nn 0 0 tg T N H2.out HOK.out HN.out HT.out t0 t1).mono ?_; rintro e w3 ⟨g, rfl, h⟩; (have H3 := Lib.hid (h)); clear h; clear q0 q1 q2 q3 lq; (obtain ⟨q0, q1, q2, q3⟩ := cells4 (H3.out.cells 1 rfl)); (have lq := lt_of_heap (H3.out.cells 1 rfl)); clear _h) | ((have _h := H1); go_at_call 35; refine (cfg7_is a0 0 0 tg nn 0 0 _ HNN.out rfl rfl a00 a01 (by decide) (by decide) (by decide) (by decide)).mono ?_; rintro e w2 ⟨rfl, hb⟩; (have H2 := Lib.hid ((H1.out.below hb).alloc #[.int .i64 nn, .int .i64 0, .int .i64 0, .int .u32 tg] 26)); clear hb; (obtain ⟨q0, q1, q2, q3⟩ := cells4 (H2.out.cells 0 rfl)); (have lq := lt_of_heap (H2.out.cells 0 rfl)); clear _h) | ((have _h := H); go_at_call 25; refine (shown7 _).mono ?_; rintro e w1 ⟨rfl, hb⟩; (have H1 := Lib.hid (H.out.below hb)); clear hb; clear _h))
    have HREL := Lib.hid (show LtRel w q p2 w5.heap.size w2.heap.size nn tg (lateT nn tg true y (.last 0)) #[.pointer none, .pointer (some ⟨p2, 0, none⟩), .pointer none] (T1 + 2 * ((0 : Nat) : Int)) l N 10 _ from ⟨_, _, (by simp; omega), by simpa using HMV.out, by have := HO2.out; rw [HMV.out.len] at this; exact this, H11.out⟩)
    clear H1 H2 H3 H4 H5 H6 H7 H8 H9 H10 H11 q0 q1 q2 q3 lq e0 e1 e2 lp cn
    obtain ⟨bc, hbc⟩ : ∃ bc, w2.heap.size = bc := ⟨_, rfl⟩
    obtain ⟨bp, hbp⟩ : ∃ bp, w5.heap.size = bp := ⟨_, rfl⟩
    simp only [hbc, hbp] at *
    go_loopg [21] 5 (fun kq z w' => ∃ j : Nat, z = .int .i64 (j : Int) ∧ j ≤ m ∧ j + kq = 5 ∧ LtRel w q p2 bp bc nn tg (lateT nn tg true y (.last 0)) #[.pointer none, .pointer (some ⟨p2, 0, none⟩), .pointer none] (T1 + 2 * (j : Int)) l N (10 + 6 * j) w')
    case atStart => exact ⟨0, rfl, by omega, by omega, HREL.out⟩
    case round =>
      obtain ⟨j, rfl, hj, hkq, ws, ns, hns, hlt, hok, hS⟩ := hrel
      clear HREL HMV
      obtain ⟨q0, q1, q2, q3⟩ := cells4 (hS.cells 3 rfl)
      have lq := lt_of_heap (hS.cells 3 rfl)
      obtain ⟨e0, e1, e2⟩ := cells3 (hS.cells 2 rfl)
      have lp := lt_of_heap (hS.cells 2 rfl)
      cases gk with
      | zero => omega
      | succ kk =>
        by_cases c4 : j < m
        · have c4b : decide ((j : Int) < ((m : Nat) : Int)) = true := decide_eq_true (by omega)
          obtain ⟨i, r, hlr⟩ : ∃ i r, l = i :: r := by
            cases l with
            | nil => exact absurd rfl (HNL.out (by omega))
            | cons i r => exact ⟨i, r, rfl⟩
          have hi := hlt.free.rng i (by rw [hlr]; simp)
          have hnd := hlt.free.nd
          rw [hlr] at hlt hnd
          have hni : i ∉ r := (List.nodup_cons.1 hnd).1
          obtain ⟨ws1, ⟨S1, hr1⟩, hm1⟩ := Lt.take (t := tg) HOK.out hlt hN2
          obtain ⟨ws2, ⟨S2, hr2⟩, hm2⟩ := Lt.give (t := tg) HOK.out hm1 hN2 ⟨by omega, by omega⟩ hni
          obtain ⟨A1, A2, wa, wb, na, nb, nc, h1, h2, h3⟩ := hr1.ex
          have HA1 := Lib.hid h1
          have HA2 := Lib.hid h2
          have HA3 := Lib.hid h3
          have HI1 := Lib.hid hr1.i
          have HR2 := Lib.hid hr2
          have HM2 := Lib.hid hm2
          have HLR := Lib.hid hlr
          have HPO := Lib.hid hok
          have i00 : (0 : Int) ≤ i := by omega
          have i01 : i < 4294967296 := by omega
          have hnl : ns.length ≤ 40 := by omega
          have HNS := Lib.hid hns
          have L := Lib.hid hS
          clear hS hlt hok hr1 hr2 hm1 hm2 h1 h2 h3 hlr hns hnd hni hi
          go_wp2_with (first | ((have _h := L5); go_at_call 37; refine (ends7 (.pointer none) 3 i (.inr ⟨rfl, rfl, rfl⟩) HR2.out.toN HR2.out.i L5.out (newGv_ok _ _ _ _ _ i00 i01 _) (by simp; omega) (by decide)).mono ?_; rintro e v6 ⟨rfl, n2t, hn2, _, _, h⟩; (have L6 := Lib.hid (h.re 2 [0])); (have HN2 := Lib.hid hn2); clear h hn2; clear q0 q1 q2 q3 lq; (obtain ⟨q0, q1, q2, q3⟩ := cells4 (L6.out.cells 3 rfl)); (have lq := lt_of_heap (L6.out.cells 3 rfl)); clear _h) | ((have _h := L4); go_at_call 38; refine (give_new nn 0 0 tg 1 i L4.out).mono ?_; rintro e v5 ⟨pb, rfl, h⟩; (have L5 := Lib.hid (h.swap)); clear h; clear q0 q1 q2 q3 lq; (obtain ⟨q0, q1, q2, q3⟩ := cells4 (L5.out.cells 4 rfl)); (have lq := lt_of_heap (L5.out.cells 4 rfl)); clear _h) | ((have _h := L3); go_at_call 39; refine (tkK HA3.out ((TM.told1 _).trans HI1.out) HG2.out L3.out HQ2.out (by simp; omega)).mono ?_; rintro e v4 ⟨rfl, ho, hg, h⟩; (have L4 := Lib.hid (h.re 2 [0])); clear h ho hg; clear q0 q1 q2 q3 lq; (obtain ⟨q0, q1, q2, q3⟩ := cells4 (L4.out.cells 3 rfl)); (have lq := lt_of_heap (L4.out.cells 3 rfl)); clear _h) | ((have _h := L2); go_at_call 39; refine (tkK HA2.out (TM.told0 _) HG1.out L2.out HQ1.out (by simp; omega)).mono ?_; rintro e v3 ⟨rfl, ho, hg, h⟩; (have L3 := Lib.hid (h)); (have HQ2 := Lib.hid ho); (have HG2 := Lib.hid hg); clear h ho hg; clear q0 q1 q2 q3 lq; (obtain ⟨q0, q1, q2, q3⟩ := cells4 (L3.out.cells 4 rfl)); (have lq := lt_of_heap (L3.out.cells 4 rfl)); clear _h) | ((have _h := L1); go_at_call 39; refine (tkK HA1.out (TM.told0 _) rfl L1.out (newTk_ok _ _ _ _ _ _) (by omega)).mono ?_; rintro e v2 ⟨rfl, ho, hg, h⟩; (have L2 := Lib.hid (h)); (have HQ1 := Lib.hid ho); (have HG1 := Lib.hid hg); clear h ho hg; clear q0 q1 q2 q3 lq; (obtain ⟨q0, q1, q2, q3⟩ := cells4 (L2.out.cells 4 rfl)); (have lq := lt_of_heap (L2.out.cells 4 rfl)); clear _h) | ((have _h := L); go_at_call 36; refine (take_new nn 0 0 tg 1 L.out).mono ?_; rintro e v1 ⟨pa, rfl, h⟩; (have L1 := Lib.hid (h.swap)); clear h; clear q0 q1 q2 q3 lq; (obtain ⟨q0, q1, q2, q3⟩ := cells4 (L1.out.cells 4 rfl)); (have lq := lt_of_heap (L1.out.cells 4 rfl)); clear _h))
          go_roundg kk
          case measure => omega
          case rel =>
            refine ⟨j + 1, by rfl, by omega, by omega, ws2, _, ?_, ?_, HPO.out, L6.out⟩
            · have a1 := HN2.out
              have a2 := HNS.out
              simp only [List.length_append, List.length_cons, List.length_nil]
              omega
            · have e1 : T1 + 2 * ((j + 1 : Nat) : Int) = T1 + 2 * (j : Int) + 1 + 1 := by omega
              rw [e1, HLR.out]
              exact HM2.out
        · have c4b : decide ((j : Int) < ((m : Nat) : Int)) = false := decide_eq_false (by omega)
          obtain rfl : j = m := by omega
          have Z := Lib.hid hS
          have HLT := Lib.hid hlt
          have w4' : 4 ≤ ws.length := by have := hlt.len; omega
          have HPK := Lib.hid hok
          have HWL := Lib.hid hlt.len
          have hnl : ns.length ≤ 40 := by omega
          have hx : (0 : Int) = 0 := rfl
          have wsE : rdW ws 1 = hdI l + (T1 + 2 * (j : Int)) % 4294967296 * 4294967296 := hlt.word
          have HWE : Hid (ws.length = N) := Lib.hid (by simpa using HWL.out)
          by_cases c0 : j = 0
          · have hye : rdW ws 1 = y := by rw [wsE, HYW.out, c0]; simp
            obtain ⟨ws3, nt3, he3⟩ := late2a (nn := nn) (tg := tg) (g := true) (x := 0) hye
            have HE3 := Lib.hid he3
            have c0b : ((j : Int) == 0) = true := by simp; omega
            clear hS hlt hok hns hkq hx wsE hye he3 c0 hj
            go_wp2_with (first | ((have _h := Z2); go_at_call 30; refine (pstepK (.pointer none) (.inr ⟨rfl, rfl, rfl⟩) HE3.out (TM.told1 _) Z2.out (by rw [HWL.out]; exact HPK.out) (by omega)).mono ?_; rintro e z3 ⟨rfl, ho, h⟩; (have Z3 := Lib.hid (h)); clear h ho; clear _h) | ((have _h := Z1); go_at_call 34; refine (words_st Z1.out N HWE.out).mono ?_; rintro e z2 ⟨al, cl, rfl, hrw, _, hb⟩; (have Z2 := Lib.hid (Z1.out.below hb)); (have HRW := Lib.hid hrw); clear hrw hb; clear e0 e1 e2 lp; (obtain ⟨e0, e1, e2⟩ := cells3 (Z2.out.cells 2 rfl)); (have lp := lt_of_heap (Z2.out.cells 2 rfl)); clear _h) | ((have _h := Z); go_at_call 29; refine (pick7_is wn 2 1 _ HWN.out (by decide) (by decide) k0 k1).mono ?_; rintro e z1 ⟨rfl, rfl⟩; (have Z1 := Lib.hid (Z.out)); clear _h))
            go_ret
            exact ⟨rfl, Z3.out.bel⟩
          · have hye : rdW ws 1 ≠ y := by rw [wsE, HYW.out]; have := HHD.out; omega
            have HE3 := Lib.hid (late2b (nn := nn) (tg := tg) (g := true) (x := 0) hye)
            have c0b : ((j : Int) == 0) = false := by simp; omega
            clear hS hlt hok hns hkq hx wsE hye c0 hj
            go_wp2_with (first | ((have _h := Y4); go_at_call 33; refine (same2 bl al N dl cl _ _ HRV.out (rowRd (Y4.out.rowOf 3 rfl) HWE.out) HWE.out hN4).mono ?_; rintro e u5 ⟨rfl, hb⟩; (have Y5 := Lib.hid (Y4.out.below hb)); clear hb; clear _h) | ((have _h := Y3); go_at_call 34; refine (words_st Y3.out N HWE.out).mono ?_; rintro e u4 ⟨bl, dl, rfl, hrw, _, hb⟩; (have Y4 := Lib.hid (Y3.out.below hb)); (have HRV := Lib.hid hrw); clear hrw hb; clear _h) | ((have _h := Y2); go_at_call 30; refine (pstepK (.pointer none) (.inr ⟨rfl, rfl, rfl⟩) HE3.out (TM.told3 _) Y2.out (by rw [HWL.out]; exact HPK.out) (by omega)).mono ?_; rintro e u3 ⟨rfl, ho, h⟩; (have Y3 := Lib.hid (h)); clear h ho; clear _h) | ((have _h := Y1); go_at_call 34; refine (words_row Y1.out N HWE.out).mono ?_; rintro e u2 ⟨al, cl, rfl, h⟩; (have Y2 := Lib.hid (h.re 4 [1, 2, 3, 0])); clear h; clear e0 e1 e2 lp; (obtain ⟨e0, e1, e2⟩ := cells3 (Y2.out.cells 2 rfl)); (have lp := lt_of_heap (Y2.out.cells 2 rfl)); clear _h) | ((have _h := Z); go_at_call 29; refine (pick7_is wn 2 1 _ HWN.out (by decide) (by decide) k0 k1).mono ?_; rintro e u1 ⟨rfl, rfl⟩; (have Y1 := Lib.hid (Z.out)); clear _h))
            go_ret
            exact ⟨rfl, Y5.out.bel⟩
theorem taglistLate_walk (a0 tg bt wn : Int) (g : Bool) (w : World) (hx0 : (Lit.int .i64 a0).wf = true) (hx1 : (Lit.int .u32 tg).wf = true) (hx2 : (Lit.int .i64 bt).wf = true) (hx3 : (Lit.int .i64 wn).wf = true) :
    Calls Try.prog 5 #[.int .i64 a0, .int .u32 tg, .int .i64 bt, .int .i64 wn, .bool g] w fun e w' => e = .returned (.bool true) ∧ Below w.heap.size w w' := by
  have h2 := pickI_rng (c := wn) (n := 2) (by decide)
  by_cases hw : pickI wn 2 = 1
  · cases g with
    | false => exact taglistLate_t1 a0 tg bt wn w hx0 hx1 hx2 hx3 hw
    | true => exact taglistLate_g1 a0 tg bt wn w hx0 hx1 hx2 hx3 hw
  · have h0 : pickI wn 2 = 0 := by omega
    cases g with
    | false => exact taglistLate_t0 a0 tg bt wn w hx0 hx1 hx2 hx3 h0
    | true => exact taglistLate_g0 a0 tg bt wn w hx0 hx1 hx2 hx3 h0
end Go.Proofs.Ytndigbkhaajjoaa
