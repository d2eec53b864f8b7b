/-
  SchedApart: a pick does one step of one machine, and of no other one.
-/
import Derived.Test.YtadphmpbhkhhfaaAp
import Derived.Test.YtadphmpbhkhhfaaOpen2
import Derived.Deep.DeepCutAuto
namespace Go.Proofs.Ytadphmpbhkhhfaa
open Go.RowKit
set_option linter.unusedVariables false
set_option linter.unusedSimpArgs false

def apM (zs : List Int) (m t : Nat) : Nat := if t < m then (1 + pickI (zs.getD t 0) 20).toNat else 1
theorem apM_is (zs : List Int) (m t : Nat) : (t < m → ((apM zs m t : Nat) : Int) = 1 + pickI (zs.getD t 0) 20) ∧ (¬ t < m → apM zs m t = 1) ∧ 1 ≤ apM zs m t ∧ apM zs m t ≤ 20 := by
  have := pickI_rng (c := zs.getD t 0) (n := 20) (by decide)
  unfold apM
  split <;> omega
theorem infoPSt : (Try.prog.info? 44).map (fun i => (i.zero, i.size, i.bytes)) = some (some (.pointer none), 1, 8) := by kernel_rfl
theorem infoI64s : (Try.prog.info? 3).map (fun i => (i.zero, i.size, i.bytes)) = some (some (.int .i64 0), 1, 8) := by kernel_rfl
/-- Behind i machines that begin. -/
def BaSt (w0 : World) (p q r g n : Nat) (M : Nat → Nat) (i : Nat) (v : Value) (w : World) : Prop :=
  ∃ xs, xs.length = i ∧ St w0 (schB p q r g n 0 :: ((thR g n (rngL n fun t => if t < i then slV (xs.getD t 0) else .nilIface) :: rowA 44 1 v i (xs.map ptrV) :: memA q [1, 2] [] :: [srcA r 0 []]) ++ manyA (fun x S => slA x S) xs (rngL i fun t => slS M t 0))) w
noncomputable abbrev apR (q r ga cc gs n : Nat) (xs : List Nat) (c : Nat → Nat) : List Asn := [rowG gs n 3 1 n (rngL n fun t => Value.int .i64 (c t)), rowG ga cc 44 1 n (xs.map ptrV), memA q [1, 2] [], srcA r 0 []]
theorem BaSt.next {w0 w : World} {p q r g n x i : Nat} {M : Nat → Nat} {xs : List Nat} {v : Value} (hxs : xs.length = i) (hi : i < n) {mm : Int} (hk : (M i : Int) = mm)
    (h : St w0 (schB p q r g n 0 :: thR g n ((rngL n fun t => if t < i then slV (xs.getD t 0) else .nilIface).set i (slV x)) :: boxA x #[.int .i64 0, .int .i64 mm, .int .u64 i] 46 :: rowA 44 1 v (i + 1) (xs.map ptrV ++ [ptrV x]) :: memA q [1, 2] [] :: srcA r 0 [] :: manyA (fun x S => slA x S) xs (rngL i fun t => slS M t 0)) w) : BaSt w0 p q r g n M (i + 1) v w := by
  refine ⟨xs ++ [x], by simp [hxs], ?_⟩
  have e1 : (rngL n fun t => if t < i then slV (xs.getD t 0) else Value.nilIface).set i (slV x) = rngL n fun t => if t < i + 1 then slV ((xs ++ [x]).getD t 0) else .nilIface := rngL_set hi (by
    rw [if_pos (by omega), List.getD_eq_getElem?_getD, List.getElem?_append_right (by omega), hxs]
    simp) fun j hj hne => by
    by_cases c : j < i
    · rw [if_pos (by omega), if_pos c, List.getD_eq_getElem?_getD, List.getElem?_append_left (by omega), List.getD_eq_getElem?_getD]
    · rw [if_neg (by omega), if_neg c]
  rw [e1] at h
  have e2 : slS M i 0 = ⟨0, mm, i⟩ := by unfold slS; simp [hk]
  rw [rngL_snoc, e2, List.map_append]
  have h2 : St w0 (schB p q r g n 0 :: slA x ⟨0, mm, i⟩ :: ((thR g n _ :: rowA 44 1 v (i + 1) (xs.map ptrV ++ [ptrV x]) :: memA q [1, 2] [] :: [srcA r 0 []]) ++ manyA (fun x S => slA x S) xs (rngL i fun t => slS M t 0))) w := h.re 4 [0, 2, 1, 3]
  exact St.snoc h2 (by rw [rngL_len]; exact hxs)
theorem ap_steps {w0 w : World} {p q r g n ga cc gs : Nat} {M : Nat → Nat} {xs : List Nat} {c : Nat → Nat} {t : Nat} (ht : t < n) (d : Nat → Nat) (hd : ∀ j, j < n → j ≠ t → d j = c j)
    (h : St w0 (apL p q r g n M xs (apR q r ga cc gs n xs c) d) w) : St w0 (apL p q r g n M xs (apR q r ga cc gs n xs d) d) (w.setCell ⟨gs, t, none⟩ (.int .i64 (d t))) := by
  have h2 := h.rowSet 2 rfl t (by omega) (.int .i64 (d t))
  have e : (rngL n fun t => Value.int .i64 (c t)).set t (.int .i64 (d t)) = rngL n fun t => Value.int .i64 (d t) := rngL_set ht rfl fun j hj hne => by rw [hd j hj hne]
  simp only [apL, apR, List.cons_append, List.set_cons_succ, List.set_cons_zero] at h2
  rw [e] at h2
  exact h2
theorem sumC_zero (n : Nat) : sumC n (fun _ => 0) = 0 := by
  induction n with
  | zero => rfl
  | succ n ih => show sumC n _ + 0 = 0; rw [ih]
theorem ap_begin {w0 w : World} {p q r g n ga cc gs : Nat} {M : Nat → Nat} {xs : List Nat} (hM : ∀ t, t < n → 1 ≤ M t) (h : St w0 (rowG gs n 3 1 n (List.replicate n (.int .i64 0)) :: schB p q r g n 0 :: ((thR g n (rngL n fun t => if t < n then slV (xs.getD t 0) else .nilIface) :: rowG ga cc 44 1 n (xs.map ptrV) :: memA q [1, 2] [] :: [srcA r 0 []]) ++ manyA (fun x S => slA x S) xs (rngL n fun t => slS M t 0))) w) :
    St w0 (apL p q r g n M xs (apR q r ga cc gs n xs fun _ => 0) fun _ => 0) w := by
  have e1 : (rngL n fun t => if t < n then slV (xs.getD t 0) else Value.nilIface) = rngL n (apV M xs fun _ => 0) := rngL_same fun t ht => by
    unfold apV
    rw [if_pos ht, if_pos (by show 0 < M t; have := hM t ht; omega)]
  have e2 : (rngL n fun t => Value.int .i64 (((fun _ => 0) t : Nat) : Int)) = List.replicate n (.int .i64 0) := rngL_const n _
  rw [e1] at h
  unfold apL apR
  rw [e2, sumC_zero]
  exact h.re 4 [1, 2, 0, 3]
theorem two_rng : ∀ x ∈ ([1, 2] : List Int), 0 ≤ x ∧ x < 18446744073709551616 := by decide
theorem rdU_2 {w : World} {b : Nat} {x y : Int} (h : w.heap[b]? = some (.cells #[.int .u64 x, .int .u64 y] 22 (0, 0))) : RdU w (some ⟨b, 0, none⟩) [x, y] := ⟨fun e => (by cases e), fun _ => ⟨_, rfl, fun j u hu => by
  match j with
  | 0 => simp only [List.map_cons, List.getElem?_cons_zero, Option.some.injEq] at hu; subst hu; exact cell_of h 0
  | 1 => simp only [List.map_cons, List.getElem?_cons_succ, List.getElem?_cons_zero, Option.some.injEq] at hu; subst hu; exact cell_of h 1
  | j + 2 => simp at hu⟩⟩
set_option maxRecDepth 20000 in
set_option maxHeartbeats 16000000 in
theorem schedApart_many (th : Int) (A : Option Addr) (m c0 : Nat) (B : Option Addr) (T d0 : Nat) (w : World) (hth : (Lit.int .i64 th).wf = true) (hm : m ≤ maxLen) (hT : T ≤ maxLen) (h1 : 8 < m) :
    Calls Try.prog 4 #[.int .i64 th, .slice A m c0, .slice B T d0] w fun e w' => e = .returned (.bool true) ∧ Below w.heap.size w w' := by
  unfold maxLen at hm hT
  obtain ⟨q0, q1⟩ := rngI64 hth
  have hp8 := pickI_rng (c := th) (n := 8) (by decide)
  obtain ⟨np, hnp⟩ : ∃ np, pickI th 8 = np := ⟨_, rfl⟩
  rw [hnp] at hp8
  obtain ⟨p80, p81⟩ := hp8
  obtain ⟨n, hn⟩ : ∃ n : Nat, 1 + np = (n : Int) := Int.eq_ofNat_of_zero_le (by omega)
  have h0 : 0 < n := by omega
  have n8 : n ≤ 8 := by omega
  have HNP := Lib.hid hnp
  clear hnp hth
  have b0 : decide ((8 : Int) < (m : Int)) = true := decide_eq_true (by omega)
  have H := Lib.hid (St.nil w)
  go_enter Try.func4, Try.ntmps4
  go_wp2_with (first | ((have _h := H2); go_at_call 8; refine (sched_new (some ⟨_, 0, none⟩) _ 2 [1, 2] n (H2.out.below (bl_alloc (bl_refl _) _)) (rdU_2 (heap_new rfl)) (by decide) two_rng rfl h0 n8).mono ?_; rintro e w3 ⟨p, q, r, g, rfl, h⟩; (have H3 := Lib.hid ((show St w (schB p q r g n 0 :: thR g n (List.replicate n .nilIface) :: memA q [1, 2] [] :: [srcA r 0 []]) _ from h.re 4 [1, 2, 0, 3]))); clear h; clear _h) | ((have _h := H1); go_at_call 14; refine (pick16_is th 8 np _ HNP.out (by decide) (by decide) q0 q1).mono ?_; rintro e w2 ⟨rfl, rfl⟩; (have H2 := Lib.hid (H1.out)); try rw [hn]; clear _h) | ((have _h := H); go_at_call 7; refine (shown16 _).mono ?_; rintro e w1 ⟨rfl, hb⟩; (have H1 := Lib.hid (H.out.below hb)); clear hb; clear _h))
  go_ret
  exact ⟨rfl, H3.out.bel⟩
set_option maxRecDepth 20000 in
set_option maxHeartbeats 16000000 in
theorem schedApart_long (th : Int) (A : Option Addr) (m c0 : Nat) (B : Option Addr) (T d0 : Nat) (w : World) (hth : (Lit.int .i64 th).wf = true) (hm : m ≤ maxLen) (hT : T ≤ maxLen) (h1 : m ≤ 8) (h2 : 300 < T) :
    Calls Try.prog 4 #[.int .i64 th, .slice A m c0, .slice B T d0] w fun e w' => e = .returned (.bool true) ∧ Below w.heap.size w w' := by
  unfold maxLen at hm hT
  obtain ⟨q0, q1⟩ := rngI64 hth
  have hp8 := pickI_rng (c := th) (n := 8) (by decide)
  obtain ⟨np, hnp⟩ : ∃ np, pickI th 8 = np := ⟨_, rfl⟩
  rw [hnp] at hp8
  obtain ⟨p80, p81⟩ := hp8
  obtain ⟨n, hn⟩ : ∃ n : Nat, 1 + np = (n : Int) := Int.eq_ofNat_of_zero_le (by omega)
  have h0 : 0 < n := by omega
  have n8 : n ≤ 8 := by omega
  have HNP := Lib.hid hnp
  clear hnp hth
  have b0 : decide ((8 : Int) < (m : Int)) = false := decide_eq_false (by omega)
  have b1 : decide ((300 : Int) < (T : Int)) = true := decide_eq_true (by omega)
  have H := Lib.hid (St.nil w)
  go_enter Try.func4, Try.ntmps4
  go_wp2_with (first | ((have _h := H2); go_at_call 8; refine (sched_new (some ⟨_, 0, none⟩) _ 2 [1, 2] n (H2.out.below (bl_alloc (bl_refl _) _)) (rdU_2 (heap_new rfl)) (by decide) two_rng rfl h0 n8).mono ?_; rintro e w3 ⟨p, q, r, g, rfl, h⟩; (have H3 := Lib.hid ((show St w (schB p q r g n 0 :: thR g n (List.replicate n .nilIface) :: memA q [1, 2] [] :: [srcA r 0 []]) _ from h.re 4 [1, 2, 0, 3]))); clear h; clear _h) | ((have _h := H1); go_at_call 14; refine (pick16_is th 8 np _ HNP.out (by decide) (by decide) q0 q1).mono ?_; rintro e w2 ⟨rfl, rfl⟩; (have H2 := Lib.hid (H1.out)); try rw [hn]; clear _h) | ((have _h := H); go_at_call 7; refine (shown16 _).mono ?_; rintro e w1 ⟨rfl, hb⟩; (have H1 := Lib.hid (H.out.below hb)); clear hb; clear _h))
  go_ret
  exact ⟨rfl, H3.out.bel⟩
set_option maxRecDepth 20000 in
set_option maxHeartbeats 16000000 in
theorem schedApart_body (th : Int) (A : Option Addr) (m c0 : Nat) (B : Option Addr) (T d0 : Nat) (w : World) (hth : (Lit.int .i64 th).wf = true) (hm : m ≤ maxLen) (hT : T ≤ maxLen) (zs ys : List Int) (h1 : m ≤ 8) (h2 : T ≤ 300) (hI : RdI w A zs m) (hJ : RdI w B ys T) :
    Calls Try.prog 4 #[.int .i64 th, .slice A m c0, .slice B T d0] w fun e w' => e = .returned (.bool true) ∧ Below w.heap.size w w' := by
  unfold maxLen at hm hT
  obtain ⟨q0, q1⟩ := rngI64 hth
  have hp8 := pickI_rng (c := th) (n := 8) (by decide)
  obtain ⟨np, hnp⟩ : ∃ np, pickI th 8 = np := ⟨_, rfl⟩
  rw [hnp] at hp8
  obtain ⟨p80, p81⟩ := hp8
  obtain ⟨n, hn⟩ : ∃ n : Nat, 1 + np = (n : Int) := Int.eq_ofNat_of_zero_le (by omega)
  have h0 : 0 < n := by omega
  have n8 : n ≤ 8 := by omega
  have HNP := Lib.hid hnp
  clear hnp hth
  have b0 : decide ((8 : Int) < (m : Int)) = false := decide_eq_false (by omega)
  have b1 : decide ((300 : Int) < (T : Int)) = false := decide_eq_false (by omega)
  obtain ⟨iI, hiI, hzI0, hzI1, hzI2⟩ := info_parts infoI64s
  obtain ⟨i0, hi0, hz0, hz1, hz2⟩ := info_parts infoPSt
  have HI := Lib.hid hI
  have HJ := Lib.hid hJ
  clear hI hJ
  have H := Lib.hid (St.nil w)
  go_enter Try.func4, Try.ntmps4
  go_wp2_with (first | ((have _h := H2); go_at_call 8; refine (sched_new (some ⟨_, 0, none⟩) _ 2 [1, 2] n (H2.out.below (bl_alloc (bl_refl _) _)) (rdU_2 (heap_new rfl)) (by decide) two_rng rfl h0 n8).mono ?_; rintro e w3 ⟨p, q, r, g, rfl, h⟩; (have H3 := Lib.hid ((show St w (schB p q r g n 0 :: thR g n (List.replicate n .nilIface) :: memA q [1, 2] [] :: [srcA r 0 []]) _ from h.re 4 [1, 2, 0, 3]))); clear h; clear _h) | ((have _h := H1); go_at_call 14; refine (pick16_is th 8 np _ HNP.out (by decide) (by decide) q0 q1).mono ?_; rintro e w2 ⟨rfl, rfl⟩; (have H2 := Lib.hid (H1.out)); try rw [hn]; clear _h) | ((have _h := H); go_at_call 7; refine (shown16 _).mono ?_; rintro e w1 ⟨rfl, hb⟩; (have H1 := Lib.hid (H.out.below hb)); clear hb; clear _h))
  obtain ⟨M, hM⟩ : ∃ M, apM zs m = M := ⟨_, rfl⟩
  have HM := Lib.hid hM
  have HREL := Lib.hid (show BaSt w p q r g n M 0 (.slice none 0 0) _ from ⟨[], rfl, by
    have h9 := H3.out.rowNil 44 1
    rw [← rngL_const n Value.nilIface] at h9
    exact h9.re 5 [1, 2, 0, 3, 4]⟩)
  clear H1 H2 H3 hM
  go_loopg [11, 12] (n + 1) (fun kq v y w' => ∃ i : Nat, y = .int .i64 i ∧ i ≤ n ∧ i + kq = n + 1 ∧ BaSt w p q r g n M i v w')
  case atStart => exact ⟨0, rfl, Nat.zero_le _, by omega, HREL.out⟩
  case round =>
    obtain ⟨i, rfl, hi, hkq, xs, hxs, hS⟩ := hrel
    obtain ⟨A1, c1, rfl, hml⟩ := row_is (hS.rowOf 2 rfl)
    have HS := Lib.hid hS
    have HXS := Lib.hid hxs
    unfold maxLen at hml
    clear HREL
    cases gk with
    | zero => omega
    | succ kk =>
      by_cases c4 : i < n
      · have c4b : decide ((i : Int) < (n : Int)) = true := decide_eq_true (by omega)
        have r0 : (0 : Int) ≤ (i : Int) := by omega
        have u2 : IntKind.u64.wrap (i : Int) = (i : Int) := by rw [IntKind.wrap_u64]; omega
        have u3 : (i : Int) % 18446744073709551616 = (i : Int) := by omega
        have HTX : Hid ((rngL n fun t => if t < i then slV (xs.getD t 0) else Value.nilIface)[i]? = some .nilIface) := Lib.hid (by rw [rngL_get c4, if_neg (by omega)])
        have HTS : Hid ((((rngL n fun t => if t < i then slV (xs.getD t 0) else Value.nilIface).set i (slV wr.heap.size))[i]?) = some (slV wr.heap.size)) := Lib.hid (List.getElem?_set_self (by rw [rngL_len]; exact c4))
        have hbox := HS.out.alloc #[.int .i64 0, .int .i64 1, .int .u64 i] 46
        by_cases c5 : i < m
        · have c5b : decide ((i : Int) < (m : Int)) = true := decide_eq_true (by omega)
          obtain ⟨bd, rfl, hcell, hwf⟩ := HI.out i c5
          have hcz : (wr.alloc (.cells #[.int .i64 0, .int .i64 1, .int .u64 i] 46)).cell? (bd.add i) = some (.int .i64 (zs.getD i 0)) := (hbox.bel.cell (World.block_lt_of_cell? _ _ hcell)).trans hcell
          obtain ⟨z0, z1⟩ := rngI64 hwf
          obtain ⟨kp, hkp⟩ : ∃ kp, pickI (zs.getD i 0) 20 = kp := ⟨_, rfl⟩
          have hpr := pickI_rng (c := zs.getD i 0) (n := 20) (by decide)
          have hK := (apM_is zs m i).1 c5
          rw [hkp] at hpr hK
          rw [HM.out] at hK
          have HKP := Lib.hid hkp
          have HK := Lib.hid hK
          obtain ⟨p0, p1⟩ := hpr
          have i1 : (i : Int) < (m : Int) := by omega
          have u0 : IntKind.i64.wrap (1 + kp) = 1 + kp := by rw [IntKind.wrap_i64]; omega
          have HB1 : Hid (St w (schB p q r g n 0 :: thR g n _ :: boxA wr.heap.size #[.int .i64 0, .int .i64 (1 + kp), .int .u64 i] 46 :: rowA 44 1 (.slice A1 i c1) i (xs.map ptrV) :: memA q [1, 2] [] :: srcA r 0 [] :: manyA (fun x S => slA x S) xs _) _) := Lib.hid ((HS.out.alloc #[.int .i64 0, .int .i64 (1 + kp), .int .u64 i] 46).re 3 [1, 2, 0])
          generalize zs.getD i 0 = z at *
          clear hS hcell hwf hkp hK hxs
          go_wp2_with (first | ((have _h := HN2); at_builtin; go_must (refine wpList_append_lies _ (by rfl) _ _ _ (by rfl) 0 44 i0 _ 1 8 Try.underlying43 hi0 hz0 hz1 hz2 rfl (by decide) (.slice A1 i c1) i (xs.map ptrV) (by rfl) ((HN2.out.below (bl_alloc (bl_refl _) _)).rowOf 3 rfl) ⟨_, 0, none⟩ 1 1 [.pointer (some ⟨wr.heap.size, 0, none⟩)] (by rfl) rfl (by exact World.news_of_block (cs := #[.pointer (some ⟨wr.heap.size, 0, none⟩)]) (t := 44) (fr := (0, 0)) (heap_new (by first | rfl | simp))) (by simp [Value.oneCell']) (by decide) (by unfold maxLen; omega) (by omega) (Nat.zero_le _) _ rfl ?_); go_must (intro g9 cp wA hown hgrow hat hlt); (have L2 := Lib.hid (((HN2.out.below (bl_alloc (bl_refl _) _)).front 3 rfl).append hown hgrow hat)); clear hown hgrow hat hlt _h) | ((have _h := HN1); go_at_call 9; refine (begin_busy (show St w (schB p q r g n 0 :: thR g n _ :: boxA wr.heap.size #[.int .i64 0, .int .i64 (1 + kp), .int .u64 i] 46 :: rowA 44 1 (.slice A1 i c1) i (xs.map ptrV) :: memA q [1, 2] [] :: srcA r 0 [] :: manyA (fun x S => slA x S) xs _) _ from (HN1.out.alloc #[.int .i64 0, .int .i64 0, .int .u64 0] 46).tail) i _ c4 _ _ HTS.out).mono ?_; rintro e w3 ⟨rfl, rfl⟩; (have HN2 := Lib.hid (show St w (schB p q r g n 0 :: thR g n _ :: boxA wr.heap.size #[.int .i64 0, .int .i64 (1 + kp), .int .u64 i] 46 :: rowA 44 1 (.slice A1 i c1) i (xs.map ptrV) :: memA q [1, 2] [] :: srcA r 0 [] :: manyA (fun x S => slA x S) xs _) _ from (HN1.out.alloc #[.int .i64 0, .int .i64 0, .int .u64 0] 46).tail)); clear _h) | ((have _h := AP1); go_at_call 9; refine (begin_ok HB1.out i c4 _ _ HTX.out).mono ?_; rintro e w2 ⟨rfl, h⟩; (have HN1 := Lib.hid (show St w (schB p q r g n 0 :: thR g n _ :: boxA wr.heap.size #[.int .i64 0, .int .i64 (1 + kp), .int .u64 i] 46 :: rowA 44 1 (.slice A1 i c1) i (xs.map ptrV) :: memA q [1, 2] [] :: srcA r 0 [] :: manyA (fun x S => slA x S) xs _) w2 from h)); clear h) | (go_at_call 14; refine (pick16_is z 20 kp _ HKP.out (by decide) (by decide) z0 z1).mono ?_; rintro e w1 ⟨rfl, rfl⟩; (have AP1 : True := trivial)))
          go_roundg kk
          case measure => omega
          case rel => exact ⟨i + 1, by simp, by omega, by omega, BaSt.next HXS.out c4 HK.out (L2.out.re 4 [1, 2, 3, 0])⟩
        · have c5b : decide ((i : Int) < (m : Int)) = false := decide_eq_false (by omega)
          have hK := (apM_is zs m i).2.1 c5
          rw [HM.out] at hK
          have HK : Hid ((M i : Int) = 1) := Lib.hid (by omega)
          have HB1 : Hid (St w (schB p q r g n 0 :: thR g n _ :: boxA wr.heap.size #[.int .i64 0, .int .i64 1, .int .u64 i] 46 :: rowA 44 1 (.slice A1 i c1) i (xs.map ptrV) :: memA q [1, 2] [] :: srcA r 0 [] :: manyA (fun x S => slA x S) xs _) _) := Lib.hid (hbox.re 3 [1, 2, 0])
          clear hS hK hxs
          go_wp2_with (first | ((have _h := HN2); at_builtin; go_must (refine wpList_append_lies _ (by rfl) _ _ _ (by rfl) 0 44 i0 _ 1 8 Try.underlying43 hi0 hz0 hz1 hz2 rfl (by decide) (.slice A1 i c1) i (xs.map ptrV) (by rfl) ((HN2.out.below (bl_alloc (bl_refl _) _)).rowOf 3 rfl) ⟨_, 0, none⟩ 1 1 [.pointer (some ⟨wr.heap.size, 0, none⟩)] (by rfl) rfl (by exact World.news_of_block (cs := #[.pointer (some ⟨wr.heap.size, 0, none⟩)]) (t := 44) (fr := (0, 0)) (heap_new (by first | rfl | simp))) (by simp [Value.oneCell']) (by decide) (by unfold maxLen; omega) (by omega) (Nat.zero_le _) _ rfl ?_); go_must (intro g9 cp wA hown hgrow hat hlt); (have L2 := Lib.hid (((HN2.out.below (bl_alloc (bl_refl _) _)).front 3 rfl).append hown hgrow hat)); clear hown hgrow hat hlt _h) | ((have _h := HN1); go_at_call 9; refine (begin_busy (show St w (schB p q r g n 0 :: thR g n _ :: boxA wr.heap.size #[.int .i64 0, .int .i64 1, .int .u64 i] 46 :: rowA 44 1 (.slice A1 i c1) i (xs.map ptrV) :: memA q [1, 2] [] :: srcA r 0 [] :: manyA (fun x S => slA x S) xs _) _ from (HN1.out.alloc #[.int .i64 0, .int .i64 0, .int .u64 0] 46).tail) i _ c4 _ _ HTS.out).mono ?_; rintro e w3 ⟨rfl, rfl⟩; (have HN2 := Lib.hid (show St w (schB p q r g n 0 :: thR g n _ :: boxA wr.heap.size #[.int .i64 0, .int .i64 1, .int .u64 i] 46 :: rowA 44 1 (.slice A1 i c1) i (xs.map ptrV) :: memA q [1, 2] [] :: srcA r 0 [] :: manyA (fun x S => slA x S) xs _) _ from (HN1.out.alloc #[.int .i64 0, .int .i64 0, .int .u64 0] 46).tail)); clear _h) | (go_at_call 9; refine (begin_ok HB1.out i c4 _ _ HTX.out).mono ?_; rintro e w2 ⟨rfl, h⟩; (have HN1 := Lib.hid (show St w (schB p q r g n 0 :: thR g n _ :: boxA wr.heap.size #[.int .i64 0, .int .i64 1, .int .u64 i] 46 :: rowA 44 1 (.slice A1 i c1) i (xs.map ptrV) :: memA q [1, 2] [] :: srcA r 0 [] :: manyA (fun x S => slA x S) xs _) w2 from h)); clear h))
          go_roundg kk
          case measure => omega
          case rel => exact ⟨i + 1, by simp, by omega, by omega, BaSt.next HXS.out c4 HK.out (L2.out.re 4 [1, 2, 3, 0])⟩
      · obtain rfl : n = i := by omega
        have c4b : decide (((n : Nat) : Int) < (n : Int)) = false := decide_eq_false (by omega)
        obtain ⟨ga, cc, he⟩ := row_some (hS.rowOf 2 rfl) h0
        cases he
        have HS3 := HS
        clear hS HS c4
        go_wp2_with ((have _h := HS3); refine wpList_make_full _ (by rfl) _ _ _ (by rfl) _ 3 iI _ 1 Try.underlying33 hiI hzI0 hzI1 .i64 .i64 _ _ n (by rfl) (by rfl) rfl rfl (by rw [hzI2]; omega) (by unfold maxLen; omega) (Nat.le_refl _) ?_; intro wM hown hgrow; (have HM1 := Lib.hid (show St w (apL p q r g n M xs (apR q r ga c1 wr.heap.size n xs fun _ => 0) fun _ => 0) wM by have h9 := St.made HS3.out hown hgrow; rw [show (madeCells (Value.int .i64 0).cells (n * 1)).toList = List.replicate n (.int .i64 0) from made_one _ _] at h9; exact ap_begin (by intro t ht; have := (apM_is zs m t).2.2.1; rw [HM.out] at this; exact this) h9)); clear hown hgrow _h)
        generalize wr.heap.size = gs at *
        have HC0 : Hid (ApC n M fun _ => 0) := Lib.hid ⟨n8, fun t _ => by have := (apM_is zs m t).2.2; rw [HM.out] at this; exact this, fun t _ => Nat.zero_le _⟩
        have HZ0 : Hid (sumC n (fun _ => 0) = 0) := Lib.hid (sumC_zero n)
        clear HS3 hiI hzI0 hzI1 hzI2 hi0 hz0 hz1 hz2
        go_loopg [14, 16] (T + 1) (fun kq y z w' => ∃ (i : Nat) (c : Nat → Nat), z = .int .i64 i ∧ y = .int .i64 (sumC n c : Nat) ∧ i ≤ T ∧ i + kq = T + 1 ∧ ApC n M c ∧ St w (apL p q r g n M xs (apR q r ga c1 gs n xs c) c) w')
        case atStart => exact ⟨0, fun _ => 0, rfl, by rw [HZ0.out]; rfl, Nat.zero_le _, by omega, HC0.out, HM1.out⟩
        case round =>
          obtain ⟨i, c, rfl, rfl, hi, hkq, hC, hS⟩ := hrel
          have HS := Lib.hid hS
          have HC := Lib.hid hC
          have hsum := ap_sum hC
          clear HM1 HC0 HZ0
          obtain ⟨S, hSm⟩ : ∃ S : Int, ((sumC n c : Nat) : Int) = S := ⟨_, rfl⟩
          have s0 : 0 ≤ S := by omega
          have s1 : S ≤ 160 := by omega
          rw [hSm]
          have HSM := Lib.hid hSm
          clear hSm hsum
          cases gk with
          | zero => omega
          | succ k2 =>
            by_cases c5 : i < T
            · have c5b : decide ((i : Int) < (T : Int)) = true := decide_eq_true (by omega)
              obtain ⟨be, rfl, hcell, hwf⟩ := HJ.out i c5
              have hcz := (hS.bel.cell (World.block_lt_of_cell? _ _ hcell)).trans hcell
              obtain ⟨z0, z1⟩ := rngI64 hwf
              have hpz := pickI_rng (c := ys.getD i 0) (n := (n : Int)) (by omega)
              obtain ⟨t, ht⟩ : ∃ t : Nat, pickI (ys.getD i 0) n = (t : Int) := Int.eq_ofNat_of_zero_le hpz.1
              have htn : t < n := by omega
              have HT := Lib.hid ht
              obtain ⟨x, hx, ex0, ex1⟩ := ap_cells HXS.out htn hS
              obtain ⟨ct, hct⟩ : ∃ ct, c t = ct := ⟨_, rfl⟩
              obtain ⟨mt, hmt⟩ : ∃ mt, M t = mt := ⟨_, rfl⟩
              have hle := hC.le t htn
              have hmr := hC.m1 t htn
              have HX := Lib.hid hx
              have HCT := Lib.hid hct
              have HMT := Lib.hid hmt
              rw [hct, hmt] at hle
              rw [hmt] at hmr
              obtain ⟨m0, m1⟩ := hmr
              have i0 : (0 : Int) ≤ (i : Int) := by omega
              have i1 : (i : Int) < (T : Int) := by omega
              have n1 : (0 : Int) < (n : Int) := by omega
              have n2 : (n : Int) < 9223372036854775808 := by omega
              have k0 : (0 : Int) ≤ (t : Int) := by omega
              have k1 : (t : Int) < (n : Int) := by omega
              have v2 : IntKind.u64.wrap (t : Int) = (t : Int) := by rw [IntKind.wrap_u64]; omega
              have v3 : (t : Int) % 18446744073709551616 = (t : Int) := by omega
              generalize ys.getD i 0 = z at *
              clear hcell hwf hpz ht hS hC hx ex0 ex1 hct hmt c5
              by_cases cA : ct < mt
              · by_cases cB : ct + 1 < mt
                · have HTX := Lib.hid (ap_at (M := M) (c := c) (xs := xs) (t := t) (by rw [HCT.out, HMT.out]; exact cA) htn HXS.out)
                  go_upto_region 27 with (first | ((have _h := A2); go_at_call 10; refine (ap_go HC.out HXS.out t htn (by rw [HCT.out, HMT.out]; exact cB) HS.out).mono ?_; rintro e wn ⟨rfl, h⟩; (have HN1 := Lib.hid h); clear h _h; (obtain ⟨f1, f2⟩ := HN1.out.at_ 2 rfl t (rngL_get (f := fun t => Value.int .i64 (c t : Nat)) htn)); rw [HCT.out] at f1) | ((have _h := A1); go_at_call 13; (obtain ⟨x8, _, hx8⟩ := HTX.out); refine (busy_yes HS.out t htn _ _ hx8).mono ?_; rintro e w1 ⟨rfl, rfl⟩; (have A2 : True := trivial)) | (go_at_call 14; refine (pick16_is z n t _ HT.out n1 n2 z0 z1).mono ?_; rintro e w1 ⟨rfl, rfl⟩; (have A1 : True := trivial)))
                  obtain ⟨d, hd⟩ : ∃ d, upC c t (c t + 1) = d := ⟨_, rfl⟩
                  have hdt : d t = ct + 1 := by rw [← hd, upC_self, HCT.out]
                  have hdo : ∀ j, j < n → j ≠ t → d j = c j := fun j _ hne => by rw [← hd, upC_ne _ _ hne]
                  have h9 := ap_steps htn d hdo (by rw [← hd]; exact HN1.out)
                  have e9 : ((d t : Nat) : Int) = (ct : Int) + 1 := by omega
                  rw [e9] at h9
                  generalize wn.setCell ⟨gs, t, none⟩ (.int .i64 ((ct : Int) + 1)) = W9 at *
                  have H9 := Lib.hid h9
                  have HCD : Hid (ApC n M d) := Lib.hid (by rw [← hd]; exact ap_next HC.out htn (by rw [HCT.out, HMT.out]; exact cA))
                  have HSD : Hid (((sumC n d : Nat) : Int) = S + 1) := Lib.hid (by rw [← hd, sumC_up c htn]; have := HSM.out; omega)
                  have HDT := Lib.hid hdt
                  obtain ⟨x, hx, ex0, ex1⟩ := ap_cells HXS.out htn h9
                  rw [HMT.out] at ex1
                  obtain ⟨g1, _⟩ := h9.at_ 3 rfl t (u := .pointer (some ⟨x, 0, none⟩)) (by rw [List.getElem?_map, hx]; rfl)
                  obtain ⟨g2, _⟩ := h9.at_ 2 rfl t (rngL_get (f := fun t => Value.int .i64 (d t : Nat)) htn)
                  rw [e9] at g2
                  have l1 : ((ct : Int) + 1 == (mt : Int)) = false := by simp; omega
                  clear h9 hx e9 f1 f2 ex0 hd hdt hdo
                  go_quiet (fail)
                  have HD := Lib.hid (H9.out.drewN nq)
                  clear g1 g2 ex1
                  go_wp2_with (first | ((have _h := B1); go_at_call 13; (obtain ⟨x8, _, hx8⟩ := ap_at (M := M) (c := d) (xs := xs) (t := t) (by rw [HDT.out, HMT.out]; exact cB) htn HXS.out); refine (busy_yes HD.out t htn _ _ hx8).mono ?_; rintro e w1 ⟨rfl, rfl⟩; (have B2 : True := trivial)) | (go_at_call 15; refine (sch_picks HD.out).mono ?_; rintro e w1 ⟨rfl, rfl⟩; rw [HSD.out]; (have B1 : True := trivial)))
                  have HIN := Lib.hid (show St w (apL p q r g n M xs (apR q r ga c1 gs n xs d) d) _ from HD.out)
                  go_loopg [23] (n + 1) (fun kq y w' => ∃ k : Nat, y = .int .i64 k ∧ k ≤ n ∧ k + kq = n + 1 ∧ St w (apL p q r g n M xs (apR q r ga c1 gs n xs d) d) w')
                  case atStart => exact ⟨0, rfl, Nat.zero_le _, by omega, HIN.out⟩
                  case round =>
                    obtain ⟨k, rfl, hk, hkq3, hS⟩ := hrel
                    have HS9 := Lib.hid hS
                    clear HIN
                    cases gk with
                    | zero => omega
                    | succ k3 =>
                      by_cases c9 : k < n
                      · have c9b : decide ((k : Int) < (n : Int)) = true := decide_eq_true (by omega)
                        obtain ⟨x9, hx9, ey0, ey1⟩ := ap_cells HXS.out c9 hS
                        obtain ⟨ey2, _⟩ := hS.at_ 3 rfl k (u := .pointer (some ⟨x9, 0, none⟩)) (by rw [List.getElem?_map, hx9]; rfl)
                        obtain ⟨ey3, _⟩ := hS.at_ 2 rfl k (rngL_get (f := fun t => Value.int .i64 ((d) t : Nat)) c9)
                        obtain ⟨dk, hdk⟩ : ∃ dk, (d) k = dk := ⟨_, rfl⟩
                        rw [hdk] at ey0 ey3
                        have j0 : (0 : Int) ≤ (k : Int) := by omega
                        have j1 : (k : Int) < (n : Int) := by omega
                        clear hS hx9 hdk ey1
                        go_wp2
                        go_quiet (fail)
                        have HD9 := Lib.hid (HS9.out.drewN nq)
                        go_wp2
                        go_roundg k3
                        case measure => omega
                        case rel => exact ⟨k + 1, by simp, by omega, by omega, HD9.out⟩
                      · obtain rfl : k = n := by omega
                        have c9b : decide (((k : Nat) : Int) < (k : Int)) = false := decide_eq_false (by omega)
                        clear hS c9
                        go_wp2
                        go_roundg k2
                        case measure => omega
                        case rel => exact ⟨i + 1, d, by simp, by rw [HSD.out], by omega, by omega, HCD.out, HS9.out⟩
                · have cB2 : ct + 1 = mt := by omega
                  have HTX := Lib.hid (ap_at (M := M) (c := c) (xs := xs) (t := t) (by rw [HCT.out, HMT.out]; exact cA) htn HXS.out)
                  go_upto_region 27 with (first | ((have _h := A2); go_at_call 10; refine (ap_end HC.out HXS.out t htn (by rw [HCT.out, HMT.out]; exact cB2) HS.out).mono ?_; rintro e wn ⟨rfl, h⟩; (have HN1 := Lib.hid h); clear h _h; (obtain ⟨f1, f2⟩ := HN1.out.at_ 2 rfl t (rngL_get (f := fun t => Value.int .i64 (c t : Nat)) htn)); rw [HCT.out] at f1) | ((have _h := A1); go_at_call 13; (obtain ⟨x8, _, hx8⟩ := HTX.out); refine (busy_yes HS.out t htn _ _ hx8).mono ?_; rintro e w1 ⟨rfl, rfl⟩; (have A2 : True := trivial)) | (go_at_call 14; refine (pick16_is z n t _ HT.out n1 n2 z0 z1).mono ?_; rintro e w1 ⟨rfl, rfl⟩; (have A1 : True := trivial)))
                  obtain ⟨d, hd⟩ : ∃ d, upC c t (c t + 1) = d := ⟨_, rfl⟩
                  have hdt : d t = ct + 1 := by rw [← hd, upC_self, HCT.out]
                  have hdo : ∀ j, j < n → j ≠ t → d j = c j := fun j _ hne => by rw [← hd, upC_ne _ _ hne]
                  have h9 := ap_steps htn d hdo (by rw [← hd]; exact HN1.out)
                  have e9 : ((d t : Nat) : Int) = (ct : Int) + 1 := by omega
                  rw [e9] at h9
                  generalize wn.setCell ⟨gs, t, none⟩ (.int .i64 ((ct : Int) + 1)) = W9 at *
                  have H9 := Lib.hid h9
                  have HCD : Hid (ApC n M d) := Lib.hid (by rw [← hd]; exact ap_next HC.out htn (by rw [HCT.out, HMT.out]; exact cA))
                  have HSD : Hid (((sumC n d : Nat) : Int) = S + 1) := Lib.hid (by rw [← hd, sumC_up c htn]; have := HSM.out; omega)
                  have HDT := Lib.hid hdt
                  obtain ⟨x, hx, ex0, ex1⟩ := ap_cells HXS.out htn h9
                  rw [HMT.out] at ex1
                  obtain ⟨g1, _⟩ := h9.at_ 3 rfl t (u := .pointer (some ⟨x, 0, none⟩)) (by rw [List.getElem?_map, hx]; rfl)
                  obtain ⟨g2, _⟩ := h9.at_ 2 rfl t (rngL_get (f := fun t => Value.int .i64 (d t : Nat)) htn)
                  rw [e9] at g2
                  have l1 : ((ct : Int) + 1 == (mt : Int)) = true := by simp; omega
                  clear h9 hx e9 f1 f2 ex0 hd hdt hdo
                  go_quiet (fail)
                  have HD := Lib.hid (H9.out.drewN nq)
                  clear g1 g2 ex1
                  go_wp2_with (first | ((have _h := B1); go_at_call 13; refine (busy_idle HD.out t htn (ap_idle t htn (by rw [HDT.out, HMT.out]; omega))).mono ?_; rintro e w1 ⟨rfl, rfl⟩; (have B2 : True := trivial)) | (go_at_call 15; refine (sch_picks HD.out).mono ?_; rintro e w1 ⟨rfl, rfl⟩; rw [HSD.out]; (have B1 : True := trivial)))
                  have HIN := Lib.hid (show St w (apL p q r g n M xs (apR q r ga c1 gs n xs d) d) _ from HD.out)
                  go_loopg [23] (n + 1) (fun kq y w' => ∃ k : Nat, y = .int .i64 k ∧ k ≤ n ∧ k + kq = n + 1 ∧ St w (apL p q r g n M xs (apR q r ga c1 gs n xs d) d) w')
                  case atStart => exact ⟨0, rfl, Nat.zero_le _, by omega, HIN.out⟩
                  case round =>
                    obtain ⟨k, rfl, hk, hkq3, hS⟩ := hrel
                    have HS9 := Lib.hid hS
                    clear HIN
                    cases gk with
                    | zero => omega
                    | succ k3 =>
                      by_cases c9 : k < n
                      · have c9b : decide ((k : Int) < (n : Int)) = true := decide_eq_true (by omega)
                        obtain ⟨x9, hx9, ey0, ey1⟩ := ap_cells HXS.out c9 hS
                        obtain ⟨ey2, _⟩ := hS.at_ 3 rfl k (u := .pointer (some ⟨x9, 0, none⟩)) (by rw [List.getElem?_map, hx9]; rfl)
                        obtain ⟨ey3, _⟩ := hS.at_ 2 rfl k (rngL_get (f := fun t => Value.int .i64 ((d) t : Nat)) c9)
                        obtain ⟨dk, hdk⟩ : ∃ dk, (d) k = dk := ⟨_, rfl⟩
                        rw [hdk] at ey0 ey3
                        have j0 : (0 : Int) ≤ (k : Int) := by omega
                        have j1 : (k : Int) < (n : Int) := by omega
                        clear hS hx9 hdk ey1
                        go_wp2
                        go_quiet (fail)
                        have HD9 := Lib.hid (HS9.out.drewN nq)
                        go_wp2
                        go_roundg k3
                        case measure => omega
                        case rel => exact ⟨k + 1, by simp, by omega, by omega, HD9.out⟩
                      · obtain rfl : k = n := by omega
                        have c9b : decide (((k : Nat) : Int) < (k : Int)) = false := decide_eq_false (by omega)
                        clear hS c9
                        go_wp2
                        go_roundg k2
                        case measure => omega
                        case rel => exact ⟨i + 1, d, by simp, by rw [HSD.out], by omega, by omega, HCD.out, HS9.out⟩
              · have cA2 : ct = mt := by omega
                have HTX : Hid ((rngL n (apV M xs c))[t]? = some .nilIface) := Lib.hid (ap_idle t htn (by rw [HCT.out, HMT.out]; exact cA))
                go_upto_region 27 with (first | ((have _h := A2); go_at_call 10; refine (pick_idle HS.out t htn HTX.out).mono ?_; rintro e w1 ⟨rfl, rfl⟩; (have A3 : True := trivial)) | ((have _h := A1); go_at_call 13; refine (busy_idle HS.out t htn HTX.out).mono ?_; rintro e w1 ⟨rfl, rfl⟩; (have A2 : True := trivial)) | (go_at_call 14; refine (pick16_is z n t _ HT.out n1 n2 z0 z1).mono ?_; rintro e w1 ⟨rfl, rfl⟩; (have A1 : True := trivial)))
                have h9 := HS.out
                obtain ⟨x, hx, ex0, ex1⟩ := ap_cells HXS.out htn h9
                rw [HMT.out] at ex1
                obtain ⟨g1, _⟩ := h9.at_ 3 rfl t (u := .pointer (some ⟨x, 0, none⟩)) (by rw [List.getElem?_map, hx]; rfl)
                obtain ⟨g2, _⟩ := h9.at_ 2 rfl t (rngL_get (f := fun t => Value.int .i64 (c t : Nat)) htn)
                rw [HCT.out] at g2
                have l1 : ((ct : Int) == (mt : Int)) = true := by simp; omega
                clear h9 hx ex0
                go_quiet (fail)
                have HD := Lib.hid (HS.out.drewN nq)
                clear g1 g2 ex1
                go_wp2_with (first | ((have _h := B1); go_at_call 13; refine (busy_idle HD.out t htn HTX.out).mono ?_; rintro e w1 ⟨rfl, rfl⟩; (have B2 : True := trivial)) | (go_at_call 15; refine (sch_picks HD.out).mono ?_; rintro e w1 ⟨rfl, rfl⟩; rw [HSM.out]; (have B1 : True := trivial)))
                have HIN := Lib.hid (show St w (apL p q r g n M xs (apR q r ga c1 gs n xs c) c) _ from HD.out)
                go_loopg [23] (n + 1) (fun kq y w' => ∃ k : Nat, y = .int .i64 k ∧ k ≤ n ∧ k + kq = n + 1 ∧ St w (apL p q r g n M xs (apR q r ga c1 gs n xs c) c) w')
                case atStart => exact ⟨0, rfl, Nat.zero_le _, by omega, HIN.out⟩
                case round =>
                  obtain ⟨k, rfl, hk, hkq3, hS⟩ := hrel
                  have HS9 := Lib.hid hS
                  clear HIN
                  cases gk with
                  | zero => omega
                  | succ k3 =>
                    by_cases c9 : k < n
                    · have c9b : decide ((k : Int) < (n : Int)) = true := decide_eq_true (by omega)
                      obtain ⟨x9, hx9, ey0, ey1⟩ := ap_cells HXS.out c9 hS
                      obtain ⟨ey2, _⟩ := hS.at_ 3 rfl k (u := .pointer (some ⟨x9, 0, none⟩)) (by rw [List.getElem?_map, hx9]; rfl)
                      obtain ⟨ey3, _⟩ := hS.at_ 2 rfl k (rngL_get (f := fun t => Value.int .i64 ((c) t : Nat)) c9)
                      obtain ⟨dk, hdk⟩ : ∃ dk, (c) k = dk := ⟨_, rfl⟩
                      rw [hdk] at ey0 ey3
                      have j0 : (0 : Int) ≤ (k : Int) := by omega
                      have j1 : (k : Int) < (n : Int) := by omega
                      clear hS hx9 hdk ey1
                      go_wp2
                      go_quiet (fail)
                      have HD9 := Lib.hid (HS9.out.drewN nq)
                      go_wp2
                      go_roundg k3
                      case measure => omega
                      case rel => exact ⟨k + 1, by simp, by omega, by omega, HD9.out⟩
                    · obtain rfl : k = n := by omega
                      have c9b : decide (((k : Nat) : Int) < (k : Int)) = false := decide_eq_false (by omega)
                      clear hS c9
                      go_wp2
                      go_roundg k2
                      case measure => omega
                      case rel => exact ⟨i + 1, c, by simp, by rw [HSM.out], by omega, by omega, HC.out, HS9.out⟩
            · obtain rfl : i = T := by omega
              have c5b : decide (((i : Nat) : Int) < (i : Int)) = false := decide_eq_false (by omega)
              clear hS hC c5
              go_wp2_with (first | ((have _h := B3); go_at_call 12; refine (words_pos 2 (HS.out.front 4 rfl) rfl (by decide)).mono ?_; rintro e wv ⟨g5, c5, rfl, _, _, _, hb⟩; (have HN1 := Lib.hid (HS.out.below hb)); clear hb _h) | ((have _h := B2); go_at_call 11; refine (sch_mem HS.out).mono ?_; rintro e w1 ⟨rfl, rfl⟩; (have B3 : True := trivial)) | ((have _h := B1); go_at_call 16; refine (count_st (HS.out.front 4 rfl) 0 rfl).mono ?_; rintro e w1 ⟨rfl, rfl⟩; (have B2 : True := trivial)) | (go_at_call 11; refine (sch_mem HS.out).mono ?_; rintro e w1 ⟨rfl, rfl⟩; (have B1 : True := trivial)))
              go_ret
              exact ⟨rfl, HN1.out.bel⟩
theorem schedApart_walk (th : Int) (A : Option Addr) (m c0 : Nat) (zs : List Int) (B : Option Addr) (T d0 : Nat) (ys : List Int) (w : World) (hth : (Lit.int .i64 th).wf = true) (hI : IsRow .i64 w A m c0 zs) (hJ : IsRow .i64 w B T d0 ys) :
    Calls Try.prog 4 #[.int .i64 th, .slice A m c0, .slice B T d0] w fun e w' => e = .returned (.bool true) ∧ Below w.heap.size w w' := by
  by_cases h1 : m ≤ 8
  · by_cases h2 : T ≤ 300
    · exact schedApart_body th A m c0 B T d0 w hth hI.le hJ.le zs ys h1 h2 hI.rdI hJ.rdI
    · exact schedApart_long th A m c0 B T d0 w hth hI.le hJ.le h1 (by omega)
  · exact schedApart_many th A m c0 B T d0 w hth hI.le hJ.le (by omega)
end Go.Proofs.Ytadphmpbhkhhfaa
