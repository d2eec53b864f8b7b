/-
  SchedTurns: machines that each have a place of their own.
-/
import Derived.Test.YtadphmpbhkhhfaaMn
import Derived.Test.YtadphmpbhkhhfaaOpen2
import Derived.Deep.DeepCutAuto
namespace Go.Proofs.Ytadphmpbhkhhfaa
open Go.RowKit
set_option linter.unusedVariables false
set_option linter.unusedSimpArgs false

def tuK (zs : List Int) (t : Nat) : Nat := (1 + pickI (zs.getD t 0) 10).toNat
theorem tuK_is (zs : List Int) (t : Nat) : ((tuK zs t : Nat) : Int) = 1 + pickI (zs.getD t 0) 10 ∧ 1 ≤ tuK zs t ∧ tuK zs t ≤ 10 := by
  have := pickI_rng (c := zs.getD t 0) (n := 10) (by decide)
  unfold tuK
  omega
theorem adW_zero (t : Nat) : adW t 0 = 0 := by unfold adW; simp
def tuZ (n : Nat) : List Int := rngL n fun t => adW t 0
theorem tuZ_row (n : Nat) : (tuZ n).map (fun x => Value.int .u64 x) = List.replicate n (.int .u64 0) := by
  have : tuZ n = List.replicate n 0 := (rngL_same fun j _ => adW_zero j).trans (rngL_const n 0)
  rw [this, List.map_replicate]
theorem infoU64s : (Try.prog.info? 22).map (fun i => (i.zero, i.size, i.bytes)) = some (some (.int .u64 0), 1, 8) := by kernel_rfl
/-- Behind i machines that begin. -/
def BgSt (w0 : World) (p q r g gz n : Nat) (zs : List Int) (i : Nat) (w : World) : Prop :=
  ∃ xs, xs.length = i ∧ St w0 (schB p q r g n 0 :: ((thR g n (rngL n fun t => if t < i then adV (xs.getD t 0) else .nilIface) :: memA q (tuZ n) [] :: [srcA r 0 [], rowG gz n 22 1 n (List.replicate n (.int .u64 0))]) ++ manyA (fun x S => adA x S) xs (rngL i fun t => adS (tuK zs) t 0))) w
/-- Behind i turns, of which T are given. -/
def TnSt (w0 : World) (p q r g gz n : Nat) (zs : List Int) (xs : List Nat) (T i : Nat) (w : World) : Prop :=
  ∃ c, TuC n (tuK zs) c ∧ (∀ t, t < n → occ T n t (i - T) ≤ c t ∨ c t = 2 * tuK zs t) ∧ TuSt w0 p q r g n (tuK zs) xs [srcA r 0 [], rowG gz n 22 1 n (List.replicate n (.int .u64 0))] c w
theorem TnSt.pick {w0 w : World} {p q r g gz n : Nat} {zs : List Int} {xs : List Nat} {T i : Nat} (h : TnSt w0 p q r g gz n zs xs T i w) (hxs : xs.length = n) (t : Nat) (ht : t < n) (hk : T ≤ i → i % n = t) :
    Calls Try.prog 10 #[.pointer (some ⟨p, 0, none⟩), .int .i64 t] w fun e w' => ∃ s v er, e = .returned (.tuple #[.int .i64 s, .int .u64 v, .int .i64 er]) ∧ TnSt w0 p q r g gz n zs xs T (i + 1) w' := by
  obtain ⟨c, hC, ho, hS⟩ := h
  refine (tu_pick hC hxs t ht hS).mono ?_
  rintro e w' ⟨s, v, er, rfl, h⟩
  refine ⟨s, v, er, rfl, ?_⟩
  have up : ∀ j, occ T n j (i + 1 - T) ≤ occ T n j (i - T) + (if j = t then 1 else 0) := fun j => by
    by_cases c1 : T ≤ i
    · rw [show i + 1 - T = (i - T) + 1 by omega]
      simp only [occ]
      rw [show T + (i - T) = i by omega, hk c1]
      by_cases c2 : t = j
      · simp [c2]
      · simp [c2]
    · rw [show i + 1 - T = 0 by omega]
      exact Nat.zero_le _
  by_cases hc : c t < 2 * tuK zs t
  · rw [if_pos hc] at h
    refine ⟨_, tu_next hC ht hc, fun j hj => ?_, h⟩
    have u := up j
    by_cases e : j = t
    · subst e
      rw [upC_self]
      rw [if_pos rfl] at u
      have := hC.le j hj
      rcases ho j hj with h1 | h1
      · exact .inl (by omega)
      · omega
    · rw [upC_ne _ _ e]
      rw [if_neg e] at u
      rcases ho j hj with h1 | h1
      · exact .inl (by omega)
      · exact .inr h1
  · rw [if_neg hc] at h
    refine ⟨_, hC, fun j hj => ?_, h⟩
    have u := up j
    by_cases e : j = t
    · subst e
      have := hC.le j hj
      exact .inr (by omega)
    · rw [if_neg e] at u
      rcases ho j hj with h1 | h1
      · exact .inl (by omega)
      · exact .inr h1
/-- When all have ended. -/
theorem TnSt.ended {w0 w : World} {p q r g gz n : Nat} {zs : List Int} {xs : List Nat} {T : Nat} (h : TnSt w0 p q r g gz n zs xs T (T + 20 * n) w) :
    TuSt w0 p q r g n (tuK zs) xs [srcA r 0 [], rowG gz n 22 1 n (List.replicate n (.int .u64 0))] (fun t => 2 * tuK zs t) w := by
  obtain ⟨c, hC, ho, ns, hns, hS⟩ := h
  have e : ∀ t, t < n → c t = 2 * tuK zs t := fun t ht => by
    have h1 := ho t ht
    rw [show T + 20 * n - T = 20 * n by omega, occ_rounds n t ht] at h1
    have h2 := hC.le t ht
    have h3 := hC.k1 t ht
    omega
  have e1 : sumC n c = sumC n fun t => 2 * tuK zs t := sumC_same e
  have e2 : rngL n (tuV (tuK zs) xs c) = rngL n (tuV (tuK zs) xs fun t => 2 * tuK zs t) := rngL_same fun t ht => by unfold tuV; rw [e t ht]
  have e3 : (rngL n fun t => adW t (c t)) = rngL n fun t => adW t (2 * tuK zs t) := rngL_same fun t ht => by rw [e t ht]
  have e4 : (rngL n fun t => adS (tuK zs) t (c t)) = rngL n fun t => adS (tuK zs) t (2 * tuK zs t) := rngL_same fun t ht => by rw [e t ht]
  refine ⟨ns, by rw [hns, e1], ?_⟩
  rw [e1, e2, e3, e4] at hS
  exact hS
theorem sumC_two (n : Nat) (K : Nat → Nat) : sumC n (fun t => 2 * K t) = 2 * sumC n K := by
  induction n with
  | zero => rfl
  | succ n ih => show sumC n _ + 2 * K n = 2 * (sumC n K + K n); rw [ih]; omega
theorem BgSt.next {w0 w w1 : World} {p q r g gz n x i : Nat} {zs : List Int} {xs : List Nat} {kp : Int} (hxs : xs.length = i) (hi : i < n) (hk : ((tuK zs i : Nat) : Int) = 1 + kp)
    (h : St w0 (schB p q r g n 0 :: thR g n ((rngL n fun t => if t < i then adV (xs.getD t 0) else .nilIface).set i (adV x)) :: boxA x #[.int .i64 i, .int .i64 (1 + kp), .int .u64 ((i : Int) + 1), .bool false, .int .u64 0, .int .i64 0] 32 :: (memA q (tuZ n) [] :: srcA r 0 [] :: rowG gz n 22 1 n (List.replicate n (.int .u64 0)) :: manyA (fun x S => adA x S) xs (rngL i fun t => adS (tuK zs) t 0))) w) : BgSt w0 p q r g gz n zs (i + 1) w := by
  refine ⟨xs ++ [x], by simp [hxs], ?_⟩
  have e1 : (rngL n fun t => if t < i then adV (xs.getD t 0) else Value.nilIface).set i (adV x) = rngL n fun t => if t < i + 1 then adV ((xs ++ [x]).getD t 0) else .nilIface := rngL_set hi (by
    rw [if_pos (by omega), List.getD_eq_getElem?_getD, List.getElem?_append_right (by omega), hxs]
    simp) fun j hj hne => by
    by_cases c : j < i
    · rw [if_pos (by omega), if_pos c, List.getD_eq_getElem?_getD, List.getElem?_append_left (by omega), List.getD_eq_getElem?_getD]
    · rw [if_neg (by omega), if_neg c]
  rw [e1] at h
  have e2 : adS (tuK zs) i 0 = ⟨i, 1 + kp, (i : Int) + 1, false, 0, 0⟩ := by unfold adS; rw [adW_zero]; simp [hk]
  rw [rngL_snoc, e2]
  have h2 : St w0 (schB p q r g n 0 :: adA x ⟨i, 1 + kp, (i : Int) + 1, false, 0, 0⟩ :: ((thR g n _ :: memA q (tuZ n) [] :: [srcA r 0 [], rowG gz n 22 1 n (List.replicate n (.int .u64 0))]) ++ manyA (fun x S => adA x S) xs (rngL i fun t => adS (tuK zs) t 0))) w := h.re 3 [0, 2, 1]
  exact St.snoc h2 (by rw [rngL_len]; exact hxs)
set_option maxRecDepth 20000 in
set_option maxHeartbeats 16000000 in
theorem schedTurns_none (A : Option Addr) (m c0 : Nat) (B : Option Addr) (T d0 : Nat) (w : World) (hm : m ≤ maxLen) (hT : T ≤ maxLen) (h0 : m = 0) :
    Calls Try.prog 5 #[.slice A m c0, .slice B T d0] w fun e w' => e = .returned (.bool true) ∧ Below w.heap.size w w' := by
  unfold maxLen at hm hT
  subst h0
  have b0 : (min ((0 : Nat) : Int) 8 == 0) = true := by decide
  have H := Lib.hid (St.nil w)
  go_enter Try.func5, Try.ntmps5
  go_wp2_with (first | ((have _h := H); go_at_call 7; refine (shown16 _).mono ?_; rintro e w1 ⟨rfl, hb⟩; (have H1 := Lib.hid (H.out.below hb)); clear hb; clear _h))
  go_ret
  exact ⟨rfl, H1.out.bel⟩
set_option maxRecDepth 20000 in
set_option maxHeartbeats 16000000 in
theorem schedTurns_long (A : Option Addr) (m c0 : Nat) (B : Option Addr) (T d0 : Nat) (w : World) (hm : m ≤ maxLen) (hT : T ≤ maxLen) (n : Nat) (hn : min (m : Int) 8 = (n : Int)) (h0 : 0 < n) (h2 : 300 < T) :
    Calls Try.prog 5 #[.slice A m c0, .slice B T d0] w fun e w' => e = .returned (.bool true) ∧ Below w.heap.size w w' := by
  unfold maxLen at hm hT
  have b0 : (min (m : Int) 8 == 0) = false := by rw [hn]; simp; omega
  have b1 : decide ((300 : Int) < T) = true := decide_eq_true (by omega)
  have H := Lib.hid (St.nil w)
  go_enter Try.func5, Try.ntmps5
  go_wp2_with (first | ((have _h := H); go_at_call 7; refine (shown16 _).mono ?_; rintro e w1 ⟨rfl, hb⟩; (have H1 := Lib.hid (H.out.below hb)); clear hb; clear _h))
  go_ret
  exact ⟨rfl, H1.out.bel⟩
set_option maxRecDepth 20000 in
set_option maxHeartbeats 16000000 in
theorem schedTurns_body (A : Option Addr) (m c0 : Nat) (B : Option Addr) (T d0 : Nat) (w : World) (hm : m ≤ maxLen) (hT : T ≤ maxLen) (n : Nat) (zs ys : List Int) (hn : min (m : Int) 8 = (n : Int)) (h0 : 0 < n) (h2 : T ≤ 300) (hI : RdI w A zs m) (hJ : RdI w B ys T) :
    Calls Try.prog 5 #[.slice A m c0, .slice B T d0] w fun e w' => e = .returned (.bool true) ∧ Below w.heap.size w w' := by
  unfold maxLen at hm hT
  have b0 : (min (m : Int) 8 == 0) = false := by rw [hn]; simp; omega
  have b1 : decide ((300 : Int) < T) = false := decide_eq_false (by omega)
  have n8 : n ≤ 8 := by omega
  have nm : n ≤ m := by omega
  obtain ⟨iU, hiU, hzU0, hzU1, hzU2⟩ := info_parts infoU64s
  have HI := Lib.hid hI
  have HJ := Lib.hid hJ
  have HZL : Hid ((tuZ n).length = n) := Lib.hid (rngL_len _ _)
  have HZV : Hid (∀ x ∈ tuZ n, 0 ≤ x ∧ x < 18446744073709551616) := Lib.hid fun x hx => by
    obtain ⟨j, hj, e⟩ := List.mem_iff_getElem.1 hx
    have h1 := rngL_get (f := fun t => adW t 0) (n := n) (k := j) (by rw [HZL.out] at hj; exact hj)
    have h3 : (tuZ n)[j]? = some x := by rw [List.getElem?_eq_getElem hj, e]
    unfold tuZ at h3
    rw [h1] at h3
    have := adW_zero j
    simp only [Option.some.injEq] at h3
    omega
  have hn3 : (n : Int) < 1 → False := by omega
  clear hI hJ
  have H := Lib.hid (St.nil w)
  go_enter Try.func5, Try.ntmps5
  go_upto_region 5 with (go_at_call 7; refine (shown16 _).mono ?_; rintro e w1 ⟨rfl, hb⟩; (have H1 := Lib.hid (H.out.below hb)); clear hb)
  try rw [hn]
  clear b0 b1
  go_wp2_with (first | ((have _h := MK); go_at_call 8; refine (sched_new (some ⟨w1.heap.size, 0, none⟩) n n (tuZ n) n MK.out MR.out (by omega) HZV.out HZL.out h0 n8).mono ?_; rintro e w2 ⟨p, q, r, g, rfl, h⟩; (have H2 := Lib.hid (show St w (schB p q r g n 0 :: thR g n (List.replicate n .nilIface) :: memA q (tuZ n) [] :: [srcA r 0 [], rowG w1.heap.size n 22 1 n (List.replicate n (.int .u64 0))]) _ from h.re 5 [1, 2, 0, 3, 4])); clear h _h) | ((have _h := H1); refine wpList_make_full _ (by rfl) _ _ _ (by rfl) _ 22 iU _ 1 Try.underlying28 hiU hzU0 hzU1 .i64 .i64 _ _ n (by rfl) (by rfl) rfl rfl (by rw [hzU2]; omega) (by unfold maxLen; omega) (Nat.le_refl _) ?_; intro wM hown hgrow; (have MK := Lib.hid (show St w [rowG w1.heap.size n 22 1 n (List.replicate n (.int .u64 0))] wM by have h9 := St.made H1.out hown hgrow; rw [show (madeCells (Value.int .u64 0).cells (n * 1)).toList = List.replicate n (.int .u64 0) from made_one _ _] at h9; exact h9)); (have MR : Hid (RdU wM (some ⟨w1.heap.size, 0, none⟩) (tuZ n)) := Lib.hid (by have h8 := MK.out.row 0 rfl; rw [← tuZ_row] at h8; have e8 := HZL.out; rw [← e8] at h8; exact (row_rdU (c := n) (by rw [e8] at h8 ⊢; exact h8)).1)); clear hown hgrow _h))
  obtain ⟨gz, hgz⟩ : ∃ gz, w1.heap.size = gz := ⟨_, rfl⟩
  rw [hgz] at H2
  have HREL := Lib.hid (show BgSt w p q r g gz n zs 0 w2 from ⟨[], rfl, by
    have h9 := H2.out
    rw [← rngL_const n Value.nilIface] at h9
    exact h9⟩)
  clear H1 H2 MK MR HZL HZV hgz hiU hzU0 hzU1 hzU2
  go_loopg [9] (n + 1) (fun kq y w' => ∃ i : Nat, y = .int .i64 i ∧ i ≤ n ∧ i + kq = n + 1 ∧ BgSt w p q r g gz n zs i w')
  case atStart => exact ⟨0, rfl, Nat.zero_le _, by omega, HREL.out⟩
  case round =>
    obtain ⟨i, rfl, hi, hkq, xs, hxs, hS⟩ := hrel
    have HS := Lib.hid hS
    have HXS := Lib.hid hxs
    clear HREL
    cases gk with
    | zero => omega
    | succ kk =>
      by_cases c4 : i < n
      · have c4b : decide ((i : Int) < (n : Int)) = true := decide_eq_true (by omega)
        obtain ⟨bd, rfl, hcell, hwf⟩ := HI.out i (by omega)
        have hcz := (hS.bel.cell (World.block_lt_of_cell? _ _ hcell)).trans hcell
        obtain ⟨z0, z1⟩ := rngI64 hwf
        obtain ⟨kp, hkp⟩ : ∃ kp, pickI (zs.getD i 0) 10 = kp := ⟨_, rfl⟩
        have hpr := pickI_rng (c := zs.getD i 0) (n := 10) (by decide)
        have hK := (tuK_is zs i).1
        rw [hkp] at hpr hK
        have HKP := Lib.hid hkp
        have HK := Lib.hid hK
        obtain ⟨p0, p1⟩ := hpr
        have i0 : (0 : Int) ≤ (i : Int) := by omega
        have i1 : (i : Int) < (m : Int) := by omega
        have u0 : IntKind.i64.wrap (1 + kp) = 1 + kp := by rw [IntKind.wrap_i64]; omega
        have u1 : IntKind.i64.wrap ((i : Int) + 1) = (i : Int) + 1 := by rw [IntKind.wrap_i64]; omega
        have u2 : IntKind.u64.wrap ((i : Int) + 1) = (i : Int) + 1 := by rw [IntKind.wrap_u64]; omega
        have u3 : ((i : Int) + 1) % 18446744073709551616 = (i : Int) + 1 := by omega
        have HTX : Hid ((rngL n fun t => if t < i then adV (xs.getD t 0) else Value.nilIface)[i]? = some .nilIface) := Lib.hid (by rw [rngL_get c4, if_neg (by omega)])
        generalize zs.getD i 0 = z at *
        clear hS hcell hwf hkp hK hxs
        go_wp2_with (first | ((have _h := A1); go_at_call 9; refine (begin_ok (show St w (schB p q r g n 0 :: thR g n _ :: boxA wr.heap.size #[.int .i64 i, .int .i64 (1 + kp), .int .u64 ((i : Int) + 1), .bool false, .int .u64 0, .int .i64 0] 32 :: (memA q (tuZ n) [] :: srcA r 0 [] :: rowG gz n 22 1 n (List.replicate n (.int .u64 0)) :: manyA (fun x S => adA x S) xs _)) _ from (HS.out.alloc #[.int .i64 i, .int .i64 (1 + kp), .int .u64 ((i : Int) + 1), .bool false, .int .u64 0, .int .i64 0] 32).re 3 [1, 2, 0]) i c4 _ _ HTX.out).mono ?_; rintro e w2 ⟨rfl, h⟩; (have HN1 := Lib.hid h); clear h _h) | (go_at_call 14; refine (pick16_is z 10 kp _ HKP.out (by decide) (by decide) z0 z1).mono ?_; rintro e w1 ⟨rfl, rfl⟩; (have A1 : True := trivial)))
        go_roundg kk
        case measure => omega
        case rel => exact ⟨i + 1, by simp, by omega, by omega, BgSt.next (w1 := w) HXS.out c4 HK.out HN1.out⟩
      · obtain rfl : n = i := by omega
        have c4b : decide (((n : Nat) : Int) < (n : Int)) = false := decide_eq_false (by omega)
        have HT0 := Lib.hid (show TnSt w p q r g gz n zs xs T 0 wr from ⟨fun _ => 0, ⟨n8, fun t _ => (tuK_is zs t).2, fun t _ => Nat.zero_le _⟩, fun t _ => .inl (by rw [show 0 - T = 0 by omega]; exact Nat.zero_le _), [], by
          have : ∀ k, sumC k (fun _ => 0) = 0 := fun k => by induction k with | zero => rfl | succ k ih => show sumC k _ + 0 = 0; rw [ih]
          rw [this]; rfl, by
          have e0 : ∀ k, sumC k (fun _ => 0) = 0 := fun k => by induction k with | zero => rfl | succ k ih => show sumC k _ + 0 = 0; rw [ih]
          rw [e0]
          have e1 : (rngL n fun t => if t < n then adV (xs.getD t 0) else Value.nilIface) = rngL n (tuV (tuK zs) xs fun _ => 0) := rngL_same fun t ht => by
            unfold tuV
            rw [if_pos ht, if_pos (by show 0 < 2 * tuK zs t; have := (tuK_is zs t).2; omega)]
          have h9 := hS
          rw [e1] at h9
          exact h9⟩)
        clear hS HS c4 hxs
        go_wp2
        go_loopg [10] (T + 20 * n + 1) (fun kq y w' => ∃ i : Nat, y = .int .i64 i ∧ i ≤ T + 20 * n ∧ i + kq = T + 20 * n + 1 ∧ TnSt w p q r g gz n zs xs T i w')
        case atStart => exact ⟨0, rfl, Nat.zero_le _, by omega, HT0.out⟩
        case round =>
          obtain ⟨i, rfl, hi, hkq, hS⟩ := hrel
          have HS := Lib.hid hS
          clear HT0
          have v1 : IntKind.i64.wrap ((n : Int) * 20) = (n : Int) * 20 := by rw [IntKind.wrap_i64]; omega
          have v2 : IntKind.i64.wrap ((T : Int) + (n : Int) * 20) = (T : Int) + (n : Int) * 20 := by rw [IntKind.wrap_i64]; omega
          cases gk with
          | zero => omega
          | succ k2 =>
            by_cases c5 : i < T + 20 * n
            · have c5b : decide ((i : Int) < (T : Int) + (n : Int) * 20) = true := decide_eq_true (by omega)
              have hkr := Nat.mod_lt i h0
              obtain ⟨kr, hkr2⟩ : ∃ kr : Nat, i % n = kr := ⟨_, rfl⟩
              have HKR := Lib.hid hkr2
              have t1 : (i : Int).tmod (n : Int) = (kr : Int) := by rw [Int.tmod_eq_emod_of_nonneg (by omega), ← hkr2]; exact (Int.natCast_emod i n).symm
              have t2 : (i : Int) % (n : Int) = (kr : Int) := by rw [← hkr2]; exact (Int.natCast_emod i n).symm
              have t3 : ((n : Int) == 0) = false := by simp; omega
              rw [hkr2] at hkr
              have i0 : (0 : Int) ≤ (i : Int) := by omega
              clear hkr2 hS
              by_cases c6 : i < T
              · have c6b : decide ((i : Int) < (T : Int)) = true := decide_eq_true (by omega)
                obtain ⟨be, rfl, hcell, hwf⟩ := HJ.out i c6
                have hcz : wr.cell? (be.add i) = some (.int .i64 (ys.getD i 0)) := by
                  obtain ⟨_, _, _, _, _, h⟩ := HS.out
                  exact (h.bel.cell (World.block_lt_of_cell? _ _ hcell)).trans hcell
                obtain ⟨z0, z1⟩ := rngI64 hwf
                have hpz := pickI_rng (c := ys.getD i 0) (n := (n : Int)) (by omega)
                obtain ⟨k, hk⟩ : ∃ k : Nat, pickI (ys.getD i 0) n = (k : Int) := Int.eq_ofNat_of_zero_le hpz.1
                have hkn : k < n := by omega
                have HK := Lib.hid hk
                have i1 : (i : Int) < (T : Int) := by omega
                have n1 : (0 : Int) < (n : Int) := by omega
                have n2 : (n : Int) < 9223372036854775808 := by omega
                generalize ys.getD i 0 = z at *
                clear hcell hwf hpz hk
                go_wp2_with (first | ((have _h := A1); go_at_call 10; refine (TnSt.pick HS.out HXS.out k hkn (fun h => absurd h (by omega))).mono ?_; rintro e w2 ⟨s9, v9, e9, rfl, h⟩; (have HN1 := Lib.hid h); clear h _h) | (go_at_call 14; refine (pick16_is z n k _ HK.out n1 n2 z0 z1).mono ?_; rintro e w1 ⟨rfl, rfl⟩; (have A1 : True := trivial)))
                go_roundg k2
                case measure => omega
                case rel => exact ⟨i + 1, by simp, by omega, by omega, HN1.out⟩
              · have c6b : decide ((i : Int) < (T : Int)) = false := decide_eq_false (by omega)
                go_wp2_with (go_at_call 10; refine (TnSt.pick HS.out HXS.out kr hkr (fun _ => HKR.out)).mono ?_; rintro e w2 ⟨s9, v9, e9, rfl, h⟩; (have HN1 := Lib.hid h); clear h)
                go_roundg k2
                case measure => omega
                case rel => exact ⟨i + 1, by simp, by omega, by omega, HN1.out⟩
            · obtain rfl : i = T + 20 * n := by omega
              have c5b : decide (((T + 20 * n : Nat) : Int) < (T : Int) + (n : Int) * 20) = false := decide_eq_false (by omega)
              have HE := Lib.hid (TnSt.ended HS.out)
              clear hS HS c5
              obtain ⟨i9, hi9⟩ : ∃ i9 : Int, ((T + 20 * n : Nat) : Int) = i9 := ⟨_, rfl⟩
              rw [hi9] at c5b ⊢
              clear hi9
              go_wp2
              obtain ⟨K, hKd⟩ : ∃ K, tuK zs = K := ⟨_, rfl⟩
              rw [hKd] at HE
              have HKD := Lib.hid hKd
              clear hKd
              go_loopg [12, 13] (n + 1) (fun kq y z w' => ∃ t : Nat, z = .int .i64 t ∧ y = .int .i64 (2 * sumC t K : Nat) ∧ t ≤ n ∧ t + kq = n + 1 ∧ TuSt w p q r g n K xs [srcA r 0 [], rowG gz n 22 1 n (List.replicate n (.int .u64 0))] (fun t => 2 * K t) w')
              case atStart => exact ⟨0, rfl, rfl, Nat.zero_le _, by omega, HE.out⟩
              case round =>
                obtain ⟨t, rfl, rfl, ht, htq, ns, hns, hS⟩ := hrel
                have HS := Lib.hid hS
                have HNS := Lib.hid hns
                have hsle := sumC_le (n := t) (c := K) (b := 10) fun s hs => by have := (tuK_is zs s).2; rw [HKD.out] at this; omega
                clear HE
                cases gk with
                | zero => omega
                | succ k3 =>
                  by_cases c7 : t < n
                  · have c7b : decide ((t : Int) < (n : Int)) = true := decide_eq_true (by omega)
                    obtain ⟨bd, rfl, hcell, hwf⟩ := HI.out t (by omega)
                    have hcz := (hS.bel.cell (World.block_lt_of_cell? _ _ hcell)).trans hcell
                    obtain ⟨z0, z1⟩ := rngI64 hwf
                    obtain ⟨kp, hkp⟩ : ∃ kp, pickI (zs.getD t 0) 10 = kp := ⟨_, rfl⟩
                    have hpr := pickI_rng (c := zs.getD t 0) (n := 10) (by decide)
                    have hK := (tuK_is zs t).1
                    rw [HKD.out] at hK
                    rw [hkp] at hpr hK
                    have HKP := Lib.hid hkp
                    have HK := Lib.hid hK
                    obtain ⟨p0, p1⟩ := hpr
                    obtain ⟨v, hv⟩ : ∃ v, adW t (2 * K t) = v := ⟨_, rfl⟩
                    have hvr := adW_le (t := t) (c := 2 * K t) (by omega) (by omega)
                    have hv2 : (1 + kp) * ((t : Int) + 1) = v := by
                      rw [← hv, ← hK]
                      unfold adW
                      rw [show 2 * K t / 2 = K t by omega]
                      rw [Int.natCast_mul, Int.mul_comm]
                      rfl
                    rw [hv] at hvr
                    obtain ⟨v0, v1⟩ := hvr
                    obtain ⟨S, hSm⟩ : ∃ S : Int, ((2 * sumC t K : Nat) : Int) = S := ⟨_, rfl⟩
                    have hSr : 0 ≤ S ∧ S ≤ 200 := by have : t * 10 ≤ 8 * 10 := Nat.mul_le_mul_right _ (by omega); omega
                    rw [hSm]
                    obtain ⟨s0, s1⟩ := hSr
                    have i0 : (0 : Int) ≤ (t : Int) := by omega
                    have i1 : (t : Int) < (m : Int) := by omega
                    have i2 : (t : Int) < (n : Int) := by omega
                    have w1 : IntKind.i64.wrap (1 + kp) = 1 + kp := by rw [IntKind.wrap_i64]; omega
                    have w2 : IntKind.i64.wrap ((t : Int) + 1) = (t : Int) + 1 := by rw [IntKind.wrap_i64]; omega
                    have w3 : IntKind.i64.wrap ((1 + kp) * ((t : Int) + 1)) = v := by rw [hv2, IntKind.wrap_i64]; omega
                    have w4 : IntKind.u64.wrap v = v := by rw [IntKind.wrap_u64]; omega
                    have w5 : v % 18446744073709551616 = v := by omega
                    have w6 : IntKind.i64.wrap (2 * (1 + kp)) = 2 * (1 + kp) := by rw [IntKind.wrap_i64]; omega
                    have w7 : IntKind.i64.wrap (S + 2 * (1 + kp)) = S + 2 * (1 + kp) := by rw [IntKind.wrap_i64]; omega
                    have w8 : IntKind.i64.wrap v = v := by rw [IntKind.wrap_i64]; omega
                    have HTX : Hid ((rngL n (tuV K xs fun t => 2 * K t))[t]? = some .nilIface) := Lib.hid (by rw [rngL_get c7]; unfold tuV; rw [if_neg (by show ¬ 2 * K t < 2 * K t; omega)])
                    have HRW : Hid (rdW (rngL n fun t => adW t (2 * K t)) t = v) := Lib.hid (by unfold rdW; rw [List.getD_eq_getElem?_getD, rngL_get c7]; exact hv)
                    have HSM := Lib.hid hSm
                    generalize zs.getD t 0 = z at *
                    clear hS hcell hwf hkp hK hv hSm hns hsle
                    go_wp2_with (first | ((have _h := A3); go_at_call 12; refine (words_pos n (HS.out.front 2 rfl) (rngL_len _ _) h0).mono ?_; rintro e wv ⟨g5, c5, rfl, hw5, _, _, hb⟩; (have hx5 := hw5 t c7); rw [HRW.out] at hx5; (have HN1 := Lib.hid (HS.out.below hb)); clear hw5 hb _h) | ((have _h := A2); go_at_call 11; refine (sch_mem HS.out).mono ?_; rintro e w1 ⟨rfl, rfl⟩; (have A3 : True := trivial)) | ((have _h := A1); go_at_call 13; refine (busy_idle HS.out t c7 HTX.out).mono ?_; rintro e w1 ⟨rfl, rfl⟩; (have A2 : True := trivial)) | (go_at_call 14; refine (pick16_is z 10 kp _ HKP.out (by decide) (by decide) z0 z1).mono ?_; rintro e w1 ⟨rfl, rfl⟩; (have A1 : True := trivial)))
                    go_roundg k3
                    case measure => omega
                    case rel =>
                      have e9 : S + 2 * (1 + kp) = ((2 * sumC (t + 1) K : Nat) : Int) := by
                        have h1 := HSM.out
                        have h2 := HK.out
                        show _ = ((2 * (sumC t K + K t) : Nat) : Int)
                        omega
                      exact ⟨t + 1, by simp, by rw [e9], by omega, by omega, ns, HNS.out, HN1.out⟩
                  · obtain rfl : t = n := by omega
                    have c7b : decide (((t : Nat) : Int) < (t : Int)) = false := decide_eq_false (by omega)
                    obtain ⟨S, hSm⟩ : ∃ S : Int, ((2 * sumC t K : Nat) : Int) = S := ⟨_, rfl⟩
                    rw [hSm]
                    have HP1 : Hid (((sumC t fun t => 2 * K t : Nat) : Int) = S) := Lib.hid (by rw [sumC_two]; exact hSm)
                    have HP2 : Hid ((ns.length : Int) = S) := Lib.hid (by rw [hns, sumC_two]; exact hSm)
                    clear hS hns c7 hSm hsle
                    go_wp2_with (first | ((have _h := A2); go_at_call 16; refine (count_st (HS.out.front 2 rfl) S HP2.out).mono ?_; rintro e w1 ⟨rfl, rfl⟩) | ((have _h := A1); go_at_call 11; refine (sch_mem HS.out).mono ?_; rintro e w1 ⟨rfl, rfl⟩; (have A2 : True := trivial)) | (go_at_call 15; refine (sch_picks HS.out).mono ?_; rintro e w1 ⟨rfl, rfl⟩; (rw [HP1.out]); (have A1 : True := trivial)))
                    go_ret
                    exact ⟨rfl, HS.out.bel⟩
theorem IsRow.le64 {w : World} {A : Option Addr} {len cap : Nat} {zs : List Int} (h : IsRow .i64 w A len cap zs) : len ≤ maxLen := h.le
theorem schedTurns_walk (A : Option Addr) (m c0 : Nat) (zs : List Int) (B : Option Addr) (T d0 : Nat) (ys : List Int) (w : World) (hI : IsRow .i64 w A m c0 zs) (hJ : IsRow .i64 w B T d0 ys) :
    Calls Try.prog 5 #[.slice A m c0, .slice B T d0] w fun e w' => e = .returned (.bool true) ∧ Below w.heap.size w w' := by
  obtain ⟨n, hn⟩ : ∃ n : Nat, min (m : Int) 8 = (n : Int) := Int.eq_ofNat_of_zero_le (by omega)
  by_cases h0 : m = 0
  · exact schedTurns_none A m c0 B T d0 w hI.le hJ.le h0
  by_cases h2 : T ≤ 300
  · exact schedTurns_body A m c0 B T d0 w hI.le hJ.le n zs ys hn (by omega) h2 hI.rdI hJ.rdI
  · exact schedTurns_long A m c0 B T d0 w hI.le hJ.le n hn (by omega) (by omega)
end Go.Proofs.Ytadphmpbhkhhfaa
