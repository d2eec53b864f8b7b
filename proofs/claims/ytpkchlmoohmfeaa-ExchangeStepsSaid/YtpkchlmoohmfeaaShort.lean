/-
  The law ExchangeShort: the walk.
-/
import Derived.Test.YtpkchlmoohmfeaaLaw10
import Derived.Test.YtpkchlmoohmfeaaVinv
import Derived.Test.YtpkchlmoohmfeaaOpen2
import Derived.OwnWalk
namespace Go.Proofs.Ytpkchlmoohmfeaa
open Go.RowKit
set_option linter.unusedVariables false
set_option linter.unusedSimpArgs false

def ptrV (p : Nat) : Value := .pointer (some ⟨p, 0, none⟩)
def i64V (x : Int) : Value := .int .i64 x
def freshS (n : Nat) (P : Nat → Bool) (m : Nat) : List VM := (List.range m).map fun k => (⟨0, P k, (k : Int) + 1, bigD, n, 0, .first, 0, false⟩ : VM)
theorem freshS_succ (n : Nat) (P : Nat → Bool) (m : Nat) : freshS n P (m + 1) = freshS n P m ++ [⟨0, P m, (m : Int) + 1, bigD, n, 0, .first, 0, false⟩] := by simp [freshS, List.range_succ]
theorem freshS_len (n : Nat) (P : Nat → Bool) (m : Nat) : (freshS n P m).length = m := by simp [freshS]
theorem freshS_st (n : Nat) (P : Nat → Bool) (m : Nat) : (freshS n P m).map (fun S => Value.int .i64 S.st) = List.replicate m (.int .i64 0) := by
  induction m with
  | zero => rfl
  | succ m ih => rw [freshS_succ, List.map_append, ih, List.replicate_succ']; rfl
/-- Visits that are made one behind the other. -/
def MakeRel (w : World) (q n : Nat) (P : Nat → Bool) (x : Int) (ns : List Note) (i : Nat) (v : Value) (w' : World) : Prop :=
  ∃ ps, ps.length = i ∧ St w (memA q [x] ns :: ([rowA 36 1 v i (ps.map ptrV)] ++ manyA visA ps (freshS n P i))) w'
/-- The turns: the visits, the word, what the law notes of each. -/
def ShortRel (w : World) (q n : Nat) (P : Nat → Bool) (ga ca gs gt : Nat) (ps : List Nat) (m i : Nat) (w' : World) : Prop :=
  ∃ x Ss cs ns, ps.length = m ∧ Ss.length = m ∧ VsI n P x Ss cs ∧ ns.length ≤ i ∧ St w (memA q [x] ns :: ([rowG gt m 39 1 m (Ss.map fun S => Value.int .i64 S.st), rowG gs m 3 1 m (cs.map fun c : Nat => Value.int .i64 c), rowG ga ca 36 1 m (ps.map ptrV)] ++ manyA visA ps Ss)) w'
theorem infoPV : (Try.prog.info? 36).map (fun i => (i.zero, i.size, i.bytes)) = some (some (.pointer none), 1, 8) := by kernel_rfl
theorem infoI : (Try.prog.info? 3).map (fun i => (i.zero, i.size, i.bytes)) = some (some (.int .i64 0), 1, 8) := by kernel_rfl
theorem infoS : (Try.prog.info? 39).map (fun i => (i.zero, i.size, i.bytes)) = some (some (.int .i64 0), 1, 8) := by kernel_rfl
theorem set_same {α : Type} {l : List α} {k : Nat} {a : α} (h : l[k]? = some a) : l.set k a = l := by
  obtain ⟨hk, rfl⟩ := List.getElem?_eq_some_iff.1 h
  exact List.set_getElem_self hk
theorem getE {α : Type} {l : List α} {k : Nat} (h : k < l.length) : ∃ a, l[k]? = some a := ⟨l[k], List.getElem?_eq_getElem h⟩

set_option maxHeartbeats 16000000 in
set_option maxRecDepth 100000 in
theorem short_none (A : Option Addr) (m c : Nat) (B : Option Addr) (t d : Nat) (pl m1 : Int) (w : World) (hP : pickI pl 64 = m1) (p0 : -9223372036854775808 ≤ pl) (p1 : pl < 9223372036854775808) (m10 : 0 ≤ m1) (m11 : m1 < 64) (hm : m ≤ maxLen) (ht : t ≤ maxLen) (h0 : m = 0) :
    Calls Try.prog 4 #[.slice A m c, .int .i64 pl, .slice B t d] w fun e w' => e = .returned (.bool true) ∧ Below w.heap.size w w' := by
  unfold maxLen at hm ht
  subst h0
  have b0 : (((0 : Nat) : Int) == 0) = true := rfl
  have HP := Lib.hid hP
  have H := Lib.hid (St.nil w)
  clear hP
  go_enter Try.func4, Try.ntmps4
  go_wp2_with (first | ((have _h := H2); go_at_call 14; refine (pick_is pl 64 m1 _ HP.out (by decide) (by decide) p0 p1).mono ?_; rintro e w3 ⟨rfl, rfl⟩; (have H3 := Lib.hid (H2.out)); clear _h) | ((have _h := H1); go_at_call 11; refine (new_st (H1.out.below (bl_alloc (bl_refl _) _)) (some ⟨_, 0, none⟩) _ 1 [0] (lit1 (heap_new rfl)) (by decide) (rng1 (by decide) (by decide)) rfl).mono ?_; rintro e w2 ⟨q, rfl, h⟩; (have H2 := Lib.hid (h)); clear h; clear _h) | ((have _h := H); go_at_call 10; refine (shown10 _).mono ?_; rintro e w1 ⟨rfl, hb⟩; (have H1 := Lib.hid (H.out.below hb)); clear hb; clear _h))
  go_ret
  exact ⟨rfl, H3.out.bel⟩
set_option maxHeartbeats 16000000 in
set_option maxRecDepth 100000 in
theorem short_many (A : Option Addr) (m c : Nat) (B : Option Addr) (t d : Nat) (pl m1 : Int) (w : World) (hP : pickI pl 64 = m1) (p0 : -9223372036854775808 ≤ pl) (p1 : pl < 9223372036854775808) (m10 : 0 ≤ m1) (m11 : m1 < 64) (hm : m ≤ maxLen) (ht : t ≤ maxLen) (h0 : 12 < m) :
    Calls Try.prog 4 #[.slice A m c, .int .i64 pl, .slice B t d] w fun e w' => e = .returned (.bool true) ∧ Below w.heap.size w w' := by
  unfold maxLen at hm ht
  have b0 : ((m : Int) == 0) = false := by simp; omega
  have b1 : decide ((12 : Int) < m) = true := decide_eq_true (by omega)
  have HP := Lib.hid hP
  have H := Lib.hid (St.nil w)
  clear hP
  go_enter Try.func4, Try.ntmps4
  go_wp2_with (first | ((have _h := H2); go_at_call 14; refine (pick_is pl 64 m1 _ HP.out (by decide) (by decide) p0 p1).mono ?_; rintro e w3 ⟨rfl, rfl⟩; (have H3 := Lib.hid (H2.out)); clear _h) | ((have _h := H1); go_at_call 11; refine (new_st (H1.out.below (bl_alloc (bl_refl _) _)) (some ⟨_, 0, none⟩) _ 1 [0] (lit1 (heap_new rfl)) (by decide) (rng1 (by decide) (by decide)) rfl).mono ?_; rintro e w2 ⟨q, rfl, h⟩; (have H2 := Lib.hid (h)); clear h; clear _h) | ((have _h := H); go_at_call 10; refine (shown10 _).mono ?_; rintro e w1 ⟨rfl, hb⟩; (have H1 := Lib.hid (H.out.below hb)); clear hb; clear _h))
  go_ret
  exact ⟨rfl, H3.out.bel⟩
set_option maxHeartbeats 16000000 in
set_option maxRecDepth 100000 in
theorem short_long (A : Option Addr) (m c : Nat) (B : Option Addr) (t d : Nat) (pl m1 : Int) (w : World) (hP : pickI pl 64 = m1) (p0 : -9223372036854775808 ≤ pl) (p1 : pl < 9223372036854775808) (m10 : 0 ≤ m1) (m11 : m1 < 64) (hm : m ≤ maxLen) (ht : t ≤ maxLen) (h0 : 0 < m) (h1 : m ≤ 12) (h2 : 400 < t) :
    Calls Try.prog 4 #[.slice A m c, .int .i64 pl, .slice B t d] w fun e w' => e = .returned (.bool true) ∧ Below w.heap.size w w' := by
  unfold maxLen at hm ht
  have b0 : ((m : Int) == 0) = false := by simp; omega
  have b1 : decide ((12 : Int) < m) = false := decide_eq_false (by omega)
  have b2 : decide ((400 : Int) < t) = true := decide_eq_true (by omega)
  have HP := Lib.hid hP
  have H := Lib.hid (St.nil w)
  clear hP
  go_enter Try.func4, Try.ntmps4
  go_wp2_with (first | ((have _h := H2); go_at_call 14; refine (pick_is pl 64 m1 _ HP.out (by decide) (by decide) p0 p1).mono ?_; rintro e w3 ⟨rfl, rfl⟩; (have H3 := Lib.hid (H2.out)); clear _h) | ((have _h := H1); go_at_call 11; refine (new_st (H1.out.below (bl_alloc (bl_refl _) _)) (some ⟨_, 0, none⟩) _ 1 [0] (lit1 (heap_new rfl)) (by decide) (rng1 (by decide) (by decide)) rfl).mono ?_; rintro e w2 ⟨q, rfl, h⟩; (have H2 := Lib.hid (h)); clear h; clear _h) | ((have _h := H); go_at_call 10; refine (shown10 _).mono ?_; rintro e w1 ⟨rfl, hb⟩; (have H1 := Lib.hid (H.out.below hb)); clear hb; clear _h))
  go_ret
  exact ⟨rfl, H3.out.bel⟩
set_option maxHeartbeats 16000000 in
set_option maxRecDepth 100000 in
theorem short_body (A : Option Addr) (m c : Nat) (B : Option Addr) (t d : Nat) (pl m1 : Int) (w : World) (hP : pickI pl 64 = m1) (p0 : -9223372036854775808 ≤ pl) (p1 : pl < 9223372036854775808) (m10 : 0 ≤ m1) (m11 : m1 < 64) (hm : m ≤ maxLen) (ht : t ≤ maxLen) (n : Nat) (P : Nat → Bool) (zs : List Int) (hn : 1 + m1 = (n : Int)) (h0 : 0 < m) (h1 : m ≤ 12) (h2 : t ≤ 400) (hB : RdB w A m P) (hI : RdI w B zs t) :
    Calls Try.prog 4 #[.slice A m c, .int .i64 pl, .slice B t d] w fun e w' => e = .returned (.bool true) ∧ Below w.heap.size w w' := by
  unfold maxLen at hm ht
  have b0 : ((m : Int) == 0) = false := by simp; omega
  have b1 : decide ((12 : Int) < m) = false := decide_eq_false (by omega)
  have b2 : decide ((400 : Int) < t) = false := decide_eq_false (by omega)
  have hn1 : 1 ≤ n := by omega
  have hn64 : n ≤ 64 := by omega
  have HB := Lib.hid hB
  have HI := Lib.hid hI
  clear hB hI
  have HP := Lib.hid hP
  have H := Lib.hid (St.nil w)
  clear hP
  go_enter Try.func4, Try.ntmps4
  go_wp2_with (first | ((have _h := H2); go_at_call 14; refine (pick_is pl 64 m1 _ HP.out (by decide) (by decide) p0 p1).mono ?_; rintro e w3 ⟨rfl, rfl⟩; (have H3 := Lib.hid (H2.out)); clear _h) | ((have _h := H1); go_at_call 11; refine (new_st (H1.out.below (bl_alloc (bl_refl _) _)) (some ⟨_, 0, none⟩) _ 1 [0] (lit1 (heap_new rfl)) (by decide) (rng1 (by decide) (by decide)) rfl).mono ?_; rintro e w2 ⟨q, rfl, h⟩; (have H2 := Lib.hid (h)); clear h; clear _h) | ((have _h := H); go_at_call 10; refine (shown10 _).mono ?_; rintro e w1 ⟨rfl, hb⟩; (have H1 := Lib.hid (H.out.below hb)); clear hb; clear _h))
  have HRel := Lib.hid (show MakeRel w q n P 0 [] 0 (.slice none 0 0) w2 from ⟨[], rfl, (H2.out.rowNil _ _).swap⟩)
  go_loopg [11, 12] 13 (fun kq v y w' => ∃ i : Nat, y = .int .i64 i ∧ i ≤ m ∧ i + kq = 13 ∧ MakeRel w q n P 0 [] i v w')
  case atStart => exact ⟨0, rfl, by omega, by omega, HRel.out⟩
  case round =>
    obtain ⟨i, rfl, hi, hkq, ps, hps, hS⟩ := hrel
    obtain ⟨A1, c1, rfl, hml⟩ := row_is (hS.rowOf 1 rfl)
    have HE := Lib.hid hS
    unfold maxLen at hml
    clear HRel
    cases gk with
    | zero => omega
    | succ kk =>
      by_cases c4 : i < m
      · have c4b : decide ((i : Int) < m) = true := decide_eq_true (by omega)
        obtain ⟨bd, rfl, hcell⟩ := (HB.out.kept hS.bel).2 i c4
        have r0 : (0 : Int) ≤ (i : Int) := by omega
        have r1 : (i : Int) < (m : Int) := by omega
        have u1 : ((i : Int) + 1) % 4294967296 = (i : Int) + 1 := by omega
        have u2 : IntKind.u32.wrap ((i : Int) + 1) = (i : Int) + 1 := by rw [IntKind.wrap_u32]; exact u1
        obtain ⟨i0, hi0, hz0, hz1, hz2⟩ := info_parts infoPV
        have HPS := Lib.hid hps
        clear hS hps
        go_wp2_with (first | ((have _h := L1); at_builtin; go_must (refine wpList_append_lies _ (by rfl) _ _ _ (by rfl) 0 36 i0 _ 1 8 Try.underlying33 hi0 hz0 hz1 hz2 rfl (by decide) (.slice A1 i c1) i (ps.map ptrV) (by rfl) ((L1.out.below (bl_alloc (bl_refl _) _)).rowOf 2 rfl) ⟨wl1.heap.size, 0, none⟩ 1 1 [.pointer (some ⟨p, 0, none⟩)] (by rfl) rfl (by exact World.news_of_block (cs := #[.pointer (some ⟨p, 0, none⟩)]) (t := 36) (fr := (0, 0)) (heap_new rfl)) (by simp [Value.oneCell']) (by decide) (by unfold maxLen; omega) (by omega) (Nat.zero_le _) _ rfl ?_); go_must (intro g cp wA hown hgrow hat hlt); (have L2 := Lib.hid ((((L1.out.below (bl_alloc (bl_refl _) _)).front 2 rfl).append hown hgrow hat).rot3)); clear hown hgrow hat hlt _h) | ((have _h := HE); go_at_call 13; refine (visit_new 0 (P i) ((i : Int) + 1) 1152921504606846976 n HE.out).mono ?_; rintro e wl1 ⟨p, rfl, h⟩; (have L1 := Lib.hid (h)); clear h; clear _h))
        clear u1 u2
        go_roundg kk
        case measure => omega
        case rel => exact ⟨i + 1, rfl, by omega, by omega, ps ++ [p], by simp [HPS.out], by
          have h5 := St.snoc (A := [_]) L2.out (by rw [freshS_len]; exact HPS.out)
          rw [freshS_succ, List.map_append]
          rw [show (⟨0, P i, (i : Int) + 1, bigD, n, 0, .first, 0, false⟩ : VM) = newVM 0 (P i) ((i : Int) + 1) 1152921504606846976 n by simp [newVM]; omega]
          exact h5⟩
      · obtain rfl : m = i := by omega
        have c4b : decide (((m : Nat) : Int) < (m : Int)) = false := decide_eq_false (by omega)
        have HPS := Lib.hid hps
        obtain ⟨ga, ca, he⟩ := row_some (hS.rowOf 1 rfl) h0
        cases he
        clear hS hps HB c4
        have hm0 : (0 : Int) < (m : Int) := by omega
        have hm1 : (m : Int) < 9223372036854775808 := by omega
        obtain ⟨iS, hiS, hzS0, hzS1, hzS2⟩ := info_parts infoS
        obtain ⟨iI, hiI, hzI0, hzI1, hzI2⟩ := info_parts infoI
        go_wp2_with (first | ((have _h := M1); refine wpList_make_full _ (by rfl) _ _ _ (by rfl) _ 39 iS _ 1 Try.underlying34 hiS hzS0 hzS1 .i64 .i64 _ _ m (by rfl) (by rfl) rfl rfl (by rw [hzS2]; omega) (by unfold maxLen; omega) (Nat.le_refl _) ?_; intro wM2 hown hgrow; (have M2 := Lib.hid (by have h9 := St.made M1.out.swap hown hgrow; rw [show (madeCells (Value.int .i64 0).cells (m * 1)).toList = List.replicate m (.int .i64 0) from made_one _ _] at h9; exact h9)); clear hown hgrow _h) | ((have _h := HE); refine wpList_make_full _ (by rfl) _ _ _ (by rfl) _ 3 iI _ 1 Try.underlying24 hiI hzI0 hzI1 .i64 .i64 _ _ m (by rfl) (by rfl) rfl rfl (by rw [hzI2]; omega) (by unfold maxLen; omega) (Nat.le_refl _) ?_; intro wM1 hown hgrow; (have M1 := Lib.hid (by have h9 := St.made HE.out hown hgrow; rw [show (madeCells (Value.int .i64 0).cells (m * 1)).toList = List.replicate m (.int .i64 0) from made_one _ _] at h9; exact h9)); clear hown hgrow _h))
        have HS2 := Lib.hid (show ShortRel w q n P ga c1 wr.heap.size wM1.heap.size ps m 0 wM2 from ⟨0, freshS n P m, List.replicate m 0, [], HPS.out, freshS_len _ _ _, VsI.new n P 0 m (by decide) (by decide) h1, by simp, by
          have h9 := M2.out.swap
          rw [freshS_st, show (List.replicate m 0).map (fun c : Nat => Value.int .i64 c) = List.replicate m (.int .i64 0) by simp]
          exact h9⟩)
        generalize wr.heap.size = gs at *
        generalize wM1.heap.size = gt at *
        clear HE M1 M2 HPS hiS hzS0 hzS1 hzS2 hiI hzI0 hzI1 hzI2
        go_loopg [16] 401 (fun kq y w' => ∃ i : Nat, y = .int .i64 i ∧ i ≤ t ∧ i + kq = 401 ∧ ShortRel w q n P ga c1 gs gt ps m i w')
        case atStart => exact ⟨0, rfl, by omega, by omega, HS2.out⟩
        case round =>
          obtain ⟨i, rfl, hi, hkq, x, Ss, cs, ns, hps, hSl, hV, hnl0, hS⟩ := hrel
          have HE := Lib.hid hS
          have hnl : ns.length ≤ 1000000000000 := by omega
          clear HS2
          cases gk with
          | zero => omega
          | succ k3 =>
            by_cases c4 : i < t
            · have c4b : decide ((i : Int) < t) = true := decide_eq_true (by omega)
              obtain ⟨bd, rfl, hcell, hwz⟩ := HI.out.kept hS.bel i c4
              obtain ⟨z0, z1⟩ := rngI64 hwz
              have r0 : (0 : Int) ≤ (i : Int) := by omega
              have r1 : (i : Int) < (t : Int) := by omega
              obtain ⟨kk0, kk1⟩ := pickI_rng (c := zs.getD i 0) hm0
              obtain ⟨k, hk⟩ := Int.eq_ofNat_of_zero_le kk0
              have HK := Lib.hid hk
              have hkm : k < m := by omega
              have k0 : (0 : Int) ≤ (k : Int) := by omega
              have k1 : (k : Int) < (m : Int) := by omega
              obtain ⟨S, hSk⟩ := getE (l := Ss) (k := k) (by omega)
              obtain ⟨cc, hck⟩ := getE (l := cs) (k := k) (by have := hV.len; omega)
              obtain ⟨p, hpk⟩ := getE (l := ps) (k := k) (by omega)
              obtain ⟨r, S', x', nt, e, er, hVI, _, _, hV', hn0, hn1'⟩ := hV.step hn1 hn64 hSk hck
              have hrun' := hVI.run
              have HOK : Hid (S.ok [x].length ns.length) := Lib.hid ((hV.each k S cc hSk hck).ok hn64 (by omega) (by omega) hV.x0 hV.x1 _)
              obtain ⟨R, hR1, hR2⟩ := hS.pick hpk hSk
              have HPK : Hid (St w (memA q [x] ns :: visA p S :: R) wr ∧ ∀ w1 w' m' S', St w1 (m' :: visA p S' :: R) w' → St w1 (m' :: ([rowG gt m 39 1 m (Ss.map fun S => Value.int .i64 S.st), rowG gs m 3 1 m (cs.map fun c : Nat => Value.int .i64 c), rowG ga c1 36 1 m (ps.map ptrV)] ++ manyA visA ps (Ss.set k S'))) w') := Lib.hid ⟨hR1, hR2⟩
              have HC1 : Hid ((Ss.map fun S => Value.int .i64 S.st)[k]? = some (.int .i64 S.st)) := Lib.hid (by rw [List.getElem?_map, hSk]; rfl)
              have HC2 : Hid ((cs.map fun c : Nat => Value.int .i64 c)[k]? = some (.int .i64 cc)) := Lib.hid (by rw [List.getElem?_map, hck]; rfl)
              obtain ⟨c3, f3⟩ := hS.at_ 3 rfl k (u := ptrV p) (by rw [List.getElem?_map, hpk]; rfl)
              obtain ⟨c2, f2⟩ := hS.at_ 2 rfl k HC2.out
              obtain ⟨c1', f1⟩ := hS.at_ 1 rfl k HC1.out
              have c1 := c1'
              have ne1 : gs ≠ gt := hS.ne 2 1 (by decide) rfl rfl
              have ne2 : gt ≠ gs := fun e => ne1 e.symm
              have hcl : cs.length = m := by rw [hV.len, hSl]
              have HB2 := Lib.hid (And.intro hps (And.intro hSl (And.intro hcl (And.intro hSk (And.intro hck (And.intro hV' (And.intro hn0 hn1')))))))
              clear hS hR1 hR2 hk kk0 kk1 c1' hpk hSk hck hV hV' hn0 hn1' hcl hps hSl hVI
              by_cases hst : S.st = 0
              · have hsb : (S.st != 0) = false := by simp [hst]
                have hnt : nt.length = 1 := HB2.out.2.2.2.2.2.2.1 hst
                have HLEN : Hid (((ns ++ nt).length : Int) = (ns.length : Int) + 1) := Lib.hid (by rw [List.length_append, hnt]; rfl)
                rw [hst] at c1
                rw [if_pos hst] at hrun'
                have q5 : 0 ≤ (cc : Int) := by omega
                have q6 : (cc : Int) ≤ 1000 := by omega
                by_cases hs2 : S'.st = 0
                · have HST : Hid (S.step [x] 0 = ⟨0, S', [x'], nt⟩) := Lib.hid (by rw [e, er, hs2])
                  have hcb : decide ((n : Int) + 5 ≤ (cc : Int) + 1) = false := decide_eq_false (by omega)
                  have HD := Lib.hid hs2
                  have HE0 := Lib.hid hst
                  clear e er hs2 hrun' hst
                  go_wp2_with (first | ((have _h := T3); go_at_call 19; refine (count_st ((T3.out.rowSet 2 rfl k (by omega) _).rowSet 1 rfl k (by omega) _) ((ns.length : Int) + 1) HLEN.out).mono ?_; rintro e wt4 ⟨rfl, rfl⟩; (have T4 := Lib.hid (T3.out)); clear _h) | ((have _h := T2); go_at_call 15; refine (vstep _ HST.out rfl rfl HPK.out.1 HOK.out hnl).mono ?_; rintro e wt3 ⟨rfl, h⟩; (have T3 := Lib.hid ((HPK.out.2 _ _ _ _ h))); clear h c1 c2 c3 f1 f2 f3; (obtain ⟨c2, f2⟩ := T3.out.at_ 2 rfl k HC2.out); (obtain ⟨c1, f1⟩ := T3.out.at_ 1 rfl k HC1.out); clear _h) | ((have _h := T1); go_at_call 19; refine (count_st T1.out (ns.length : Int) rfl).mono ?_; rintro e wt2 ⟨rfl, rfl⟩; (have T2 := Lib.hid (T1.out)); clear _h) | ((have _h := HE); go_at_call 14; refine (pick_is (zs.getD i 0) m (k : Int) _ HK.out hm0 hm1 z0 z1).mono ?_; rintro e wt1 ⟨rfl, rfl⟩; (have T1 := Lib.hid (HE.out)); clear _h))
                  go_roundg k3
                  case measure => omega
                  case rel => exact ⟨i + 1, rfl, by omega, by omega, x', Ss.set k S', cs.set k (cc + 1), ns ++ nt, HB2.out.1, by simpa using HB2.out.2.1, by have := HB2.out.2.2.2.2.2.1; rwa [if_pos HE0.out] at this, by have := HLEN.out; omega, by
                    have h5 := (T4.out.rowSet 2 rfl k (by omega) (.int .i64 ((cc : Int) + 1))).rowSet 1 rfl k (by omega) (.int .i64 0)
                    rw [List.map_set, List.map_set, HD.out]
                    exact h5⟩
                · have hs3 : (S'.st == 0) = false := by simpa using hs2
                  have HST : Hid (S.step [x] 0 = ⟨S'.st, S', [x'], nt⟩) := Lib.hid (by rw [e, er])
                  have HE0 := Lib.hid hst
                  clear e er hs2 hrun' hst
                  go_wp2_with (first | ((have _h := T3); go_at_call 19; refine (count_st ((T3.out.rowSet 2 rfl k (by omega) _).rowSet 1 rfl k (by omega) _) ((ns.length : Int) + 1) HLEN.out).mono ?_; rintro e wt4 ⟨rfl, rfl⟩; (have T4 := Lib.hid (T3.out)); clear _h) | ((have _h := T2); go_at_call 15; refine (vstep _ HST.out rfl rfl HPK.out.1 HOK.out hnl).mono ?_; rintro e wt3 ⟨rfl, h⟩; (have T3 := Lib.hid ((HPK.out.2 _ _ _ _ h))); clear h c1 c2 c3 f1 f2 f3; (obtain ⟨c2, f2⟩ := T3.out.at_ 2 rfl k HC2.out); (obtain ⟨c1, f1⟩ := T3.out.at_ 1 rfl k HC1.out); clear _h) | ((have _h := T1); go_at_call 19; refine (count_st T1.out (ns.length : Int) rfl).mono ?_; rintro e wt2 ⟨rfl, rfl⟩; (have T2 := Lib.hid (T1.out)); clear _h) | ((have _h := HE); go_at_call 14; refine (pick_is (zs.getD i 0) m (k : Int) _ HK.out hm0 hm1 z0 z1).mono ?_; rintro e wt1 ⟨rfl, rfl⟩; (have T1 := Lib.hid (HE.out)); clear _h))
                  go_roundg k3
                  case measure => omega
                  case rel => exact ⟨i + 1, rfl, by omega, by omega, x', Ss.set k S', cs.set k (cc + 1), ns ++ nt, HB2.out.1, by simpa using HB2.out.2.1, by have := HB2.out.2.2.2.2.2.1; rwa [if_pos HE0.out] at this, by have := HLEN.out; omega, by
                    have h5 := (T4.out.rowSet 2 rfl k (by omega) (.int .i64 ((cc : Int) + 1))).rowSet 1 rfl k (by omega) (.int .i64 S'.st)
                    rw [List.map_set, List.map_set]
                    exact h5⟩
              · have hsb : (S.st != 0) = true := by simpa using hst
                obtain ⟨rfl, rfl⟩ := HB2.out.2.2.2.2.2.2.2 hst
                have HST : Hid (S'.step [x] 0 = ⟨S'.st, S', [x'], []⟩) := Lib.hid (by rw [e, er])
                have HE0 := Lib.hid hst
                clear e er hrun' hst
                go_wp2_with (first | ((have _h := T3); go_at_call 19; refine (count_st T3.out (ns.length : Int) (by simp)).mono ?_; rintro e wt4 ⟨rfl, rfl⟩; (have T4 := Lib.hid (T3.out)); clear _h) | ((have _h := T2); go_at_call 15; refine (vstep _ HST.out rfl rfl HPK.out.1 HOK.out hnl).mono ?_; rintro e wt3 ⟨rfl, h⟩; (have T3 := Lib.hid ((HPK.out.2 _ _ _ _ h))); clear h c1 c2 c3 f1 f2 f3; (obtain ⟨c2, f2⟩ := T3.out.at_ 2 rfl k HC2.out); (obtain ⟨c1, f1⟩ := T3.out.at_ 1 rfl k HC1.out); clear _h) | ((have _h := T1); go_at_call 19; refine (count_st T1.out (ns.length : Int) rfl).mono ?_; rintro e wt2 ⟨rfl, rfl⟩; (have T2 := Lib.hid (T1.out)); clear _h) | ((have _h := HE); go_at_call 14; refine (pick_is (zs.getD i 0) m (k : Int) _ HK.out hm0 hm1 z0 z1).mono ?_; rintro e wt1 ⟨rfl, rfl⟩; (have T1 := Lib.hid (HE.out)); clear _h))
                go_roundg k3
                case measure => omega
                case rel => exact ⟨i + 1, rfl, by omega, by omega, x', Ss.set k S', cs.set k cc, ns ++ [], HB2.out.1, by simpa using HB2.out.2.1, by have := HB2.out.2.2.2.2.2.1; rwa [if_neg HE0.out] at this, by simp; omega, by
                  have h5 := T4.out
                  rw [set_same HB2.out.2.2.2.2.1]
                  rw [set_same HB2.out.2.2.2.1] at h5 ⊢
                  exact h5⟩
            · have c4b : decide ((i : Int) < t) = false := decide_eq_false (by omega)
              clear hS
              go_wp2
              go_ret
              exact ⟨rfl, HE.out.bel⟩

theorem exchangeShort_walk (A : Option Addr) (m c : Nat) (P : Nat → Bool) (pl : Int) (B : Option Addr) (t d : Nat) (zs : List Int) (w : World) (hB : RdB w A m P) (w1 : (Lit.int .i64 pl).wf = true) (hI : IsRow .i64 w B t d zs) :
    Calls Try.prog 4 #[.slice A m c, .int .i64 pl, .slice B t d] w fun e w' => e = .returned (.bool true) ∧ Below w.heap.size w w' := by
  obtain ⟨p0, p1⟩ := rngI64 w1
  obtain ⟨m0, m1⟩ := pickI_rng (c := pl) (n := 64) (by decide)
  by_cases h0 : m = 0
  · exact short_none A m c B t d pl _ w rfl p0 p1 m0 m1 hB.1 hI.le h0
  by_cases h1 : 12 < m
  · exact short_many A m c B t d pl _ w rfl p0 p1 m0 m1 hB.1 hI.le h1
  by_cases h2 : 400 < t
  · exact short_long A m c B t d pl _ w rfl p0 p1 m0 m1 hB.1 hI.le (by omega) (by omega) h2
  exact short_body A m c B t d pl _ w rfl p0 p1 m0 m1 hB.1 hI.le (1 + pickI pl 64).toNat P zs (by omega) (by omega) (by omega) (by omega) hB hI.rdI
end Go.Proofs.Ytpkchlmoohmfeaa
