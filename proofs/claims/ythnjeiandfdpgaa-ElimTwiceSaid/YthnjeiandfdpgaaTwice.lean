/-
  The law ElimTwice: the walk.
-/
import Derived.Test.YthnjeiandfdpgaaAl
import Derived.Test.YthnjeiandfdpgaaVinv
namespace Go.Proofs.Ythnjeiandfdpgaa
open Go.RowKit
set_option linter.unusedVariables false
set_option linter.unusedSimpArgs false
theorem Al.ds_nil (g : Int) (j : Nat) : Al.ds [] g j = [] := by
  cases j with
  | zero => rfl
  | succ j => show drawR [] g = []; unfold drawR; split <;> rfl
def twSt (s j : Nat) : Int := if j = s then 4 else 0
abbrev twBoxes (bs bc : Nat) (R E : Int) (n : Nat) : List Asn := [boxA bs #[.int .i64 R, .int .i64 E] 23, boxA bc #[.int .i64 3, .int .i64 n, .int .i64 0, .int .u32 0] 28]
def TwRel (w : World) (q r bs bc n N : Nat) (i : Nat) (w' : World) : Prop :=
  ∃ R E x ws ns, pOk R E n = true ∧ ws.length = N ∧ rdW ws 8 = x ∧ sSt x = 0 ∧ ns.length ≤ 100 * i ∧ St w (memA q ws ns :: srcA r 0 [] :: twBoxes bs bc R E n) w'

set_option maxRecDepth 20000 in
set_option maxHeartbeats 16000000 in
theorem twice_body (slots reach many : Int) (m m2 M n N : Nat) (w : World) (hk1 : pickI slots 16 = (m : Int)) (hk2 : pickI reach n = (m2 : Int)) (hk3 : pickI many 9 = (M : Int)) (hn : n = 1 + m) (hm : m < 16) (hkn : 1 + m2 ≤ n) (hM : M < 9) (hN : N = 8 + n)
    (p0 : -9223372036854775808 ≤ slots) (p1 : slots < 9223372036854775808) (p2 : -9223372036854775808 ≤ reach) (p3 : reach < 9223372036854775808) (p4 : -9223372036854775808 ≤ many) (p5 : many < 9223372036854775808) :
    Calls Try.prog 7 #[.int .i64 slots, .int .i64 reach, .int .i64 many] w fun z w' => z = .returned (.bool true) ∧ Below w.heap.size w w' := by
  have HOK : Hid (okC ((3 : Nat) : Int) (n : Int) ((0 : Nat) : Int) = true) := Lib.hid (okC3 (by omega))
  have HN : Hid (N = 2 + 2 * 3 + n + 0) := Lib.hid (by omega)
  have HK1 := Lib.hid hk1
  have HK2 := Lib.hid hk2
  have HK3 := Lib.hid hk3
  have e1 : 1 + (m : Int) = (n : Int) := by omega
  have n0 : (0 : Int) < (n : Int) := by omega
  have n1 : (n : Int) < 9223372036854775808 := by omega
  have n16 : n ≤ 16 := by omega
  have HP0 : Hid (pOk (1 + (m2 : Int)) 0 n = true) := Lib.hid (pOk_iff.2 ⟨by omega, by omega, by omega, by omega, by omega, by omega⟩)
  have hfr : rdW (frL 0 3 3 n N) 8 = 0 := fr_slot (k := 0) (by omega) (by omega)
  have HFR := Lib.hid hfr
  have HLN : Hid ((frL 0 3 3 n N).length = N) := Lib.hid (frL_len _ _ _ _ _)
  have HAT : Hid (atI (3 : Int) n 0 1 0 = 8) := Lib.hid (at3 (n := n) (k := 0) (by omega) (by omega))
  have N8 : 8 < N := by omega
  clear hk1 hk2 hk3 hfr hn hN
  have H := Lib.hid (St.nil w)
  go_enter Try.func7, Try.ntmps7
  go_wp2_with (first | ((have _h := H4); go_at_call 10; refine (pick_is reach n (m2 : Int) _ HK2.out n0 n1 p2 p3).mono ?_; rintro e w5 ⟨rfl, rfl⟩; (have H5 := Lib.hid (H4.out)); clear q0 q1 q2 q3; (obtain ⟨q0, q1, q2, q3⟩ := cells4 (H5.out.cells 2 rfl)); clear _h) | ((have _h := H3); go_at_call 12; refine (src_new H3.out).mono ?_; rintro e w4 ⟨r, rfl, h⟩; (have H4 := Lib.hid (h.swap)); clear h; clear q0 q1 q2 q3; (obtain ⟨q0, q1, q2, q3⟩ := cells4 (H4.out.cells 2 rfl)); clear _h) | ((have _h := H2); go_at_call 11; refine (begun_ok 3 n 0 0 0 N (H2.out.alloc #[.int .i64 3, .int .i64 n, .int .i64 0, .int .u32 0] 28) HOK.out HN.out (by decide) (by decide) (by decide)).mono ?_; rintro e w3 ⟨q, rfl, h⟩; (have H3 := Lib.hid (h)); clear h; (obtain ⟨q0, q1, q2, q3⟩ := cells4 (H3.out.cells 1 rfl)); clear _h) | ((have _h := H1); go_at_call 10; refine (pick_is slots 16 (m : Int) _ HK1.out (by decide) (by decide) p0 p1).mono ?_; rintro e w2 ⟨rfl, rfl⟩; (have H2 := Lib.hid (H1.out)); clear _h) | ((have _h := H); go_at_call 9; refine (shown12 _).mono ?_; rintro e w1 ⟨rfl, hb⟩; (have H1 := Lib.hid (H.out.below hb)); clear hb; clear _h))
  have HS0 := Lib.hid (show TwRel w q r w4.heap.size w1.heap.size n N 0 (w4.alloc (.cells #[.int .i64 (1 + (m2 : Int)), .int .i64 0] 23)) from ⟨_, _, _, _, [], HP0.out, HLN.out, HFR.out, by decide, by simp, ((H5.out.alloc #[.int .i64 (1 + (m2 : Int)), .int .i64 0] 23).front 1 rfl).front 2 rfl |>.front 1 rfl⟩)
  generalize w4.heap.size = bs at *
  generalize w1.heap.size = bc at *
  clear H1 H2 H3 H4 H5 q0 q1 q2 q3
  go_loopg [13] 10 (fun kq z w' => ∃ i : Nat, z = .int .i64 i ∧ i ≤ M ∧ i + kq = 10 ∧ TwRel w q r bs bc n N i w')
  case atStart => exact ⟨0, rfl, by omega, by decide, HS0.out⟩
  case round =>
    obtain ⟨i, rfl, hi, hkq, R, E, x, ws, ns, hp, hws, hx, hx0, hns, hS⟩ := hrel
    clear HS0
    have HS := Lib.hid hS
    obtain ⟨p6, p7, p8, p9, p10, p11⟩ := pOk_iff.1 hp
    obtain ⟨q0, q1, q2, q3⟩ := cells4 (hS.cells 3 rfl)
    obtain ⟨s0, s1, s2, s3⟩ := cells2 (hS.cells 2 rfl)
    cases gk with
    | zero => omega
    | succ kk =>
      by_cases c4 : i < M
      · have c4b : decide ((i : Int) < (M : Int)) = true := decide_eq_true (by omega)
        obtain ⟨b, hb⟩ : ∃ b : Bool, ((i : Int) % 2 == 0) = b := ⟨_, rfl⟩
        have hpl := pPolls_rng E 1
        obtain ⟨K, hK⟩ := Int.eq_ofNat_of_zero_le (show 0 ≤ pPolls E 1 by omega)
        have K1 : 1 ≤ K := by omega
        have K64 : K ≤ 64 := by omega
        obtain ⟨R', hR'⟩ : ∃ R', pAr R n 4 = R' := ⟨_, rfl⟩
        obtain ⟨E', hE'⟩ : ∃ E', pAe E 4 = E' := ⟨_, rfl⟩
        have hp2 : pOk R' E' n = true := by rw [← hR', ← hE']; exact pOk_after hp
        have d1 : (R' != max (R / 2) 1) = false := by
          have : R' = max (R / 2) 1 := by rw [← hR']; unfold pAr pR; simp; omega
          simp [this]
        have d2 : (E' != min (E + 1) 6) = false := by
          have : E' = min (E + 1) 6 := by rw [← hE']; unfold pAe pE; simp; omega
          simp [this]
        have d3 : R.tdiv 2 = R / 2 := Int.tdiv_eq_ediv_of_nonneg (by omega)
        have hfit : (newEM 3 n 0 0 R E b 1 1 1000).fit = true := EM.fit_iff.2 ⟨okC3 n16, by simp [newEM]; omega, hp⟩
        have hat : atI (newEM 3 n 0 0 R E b 1 1 1000).n (newEM 3 n 0 0 R E b 1 1 1000).s (newEM 3 n 0 0 R E b 1 1 1000).h 1 (drawI [] (newEM 3 n 0 0 R E b 1 1 1000).rg) = ((8 : Nat) : Int) := by
          show atI (3 : Int) n 0 1 (drawI [] R) = _
          rw [show drawI [] R = 0 by unfold drawI; split <;> rfl]
          exact HAT.out
        have hfi : (newEM 3 n 0 0 R E b 1 1 1000).first 0 [] = (⟨8, b, 1, 1000, (K : Int), K, x⟩ : Al).V 0 := by
          unfold EM.first
          rw [hat, show pPolls (newEM 3 n 0 0 R E b 1 1 1000).ex (newEM 3 n 0 0 R E b 1 1 1000).base = (K : Int) from hK]
          rfl
        have hxs : rdW ws (⟨8, b, 1, 1000, (K : Int), K, x⟩ : Al).a = x := hx
        have HST : Hid (∀ j, j ≤ K + 2 → ((⟨8, b, 1, 1000, (K : Int), K, x⟩ : Al).E (newEM 3 n 0 0 R E b 1 1 1000) j).step ((⟨8, b, 1, 1000, (K : Int), K, x⟩ : Al).W ws j) 0 [] = ⟨if j = K + 2 then 4 else 0, 0, (⟨8, b, 1, 1000, (K : Int), K, x⟩ : Al).E (newEM 3 n 0 0 R E b 1 1 1000) (j + 1), (⟨8, b, 1, 1000, (K : Int), K, x⟩ : Al).W ws (j + 1), [(⟨8, b, 1, 1000, (K : Int), K, x⟩ : Al).nt j], []⟩) := Lib.hid (fun j hj => by
          have := Al.stepE (⟨8, b, 1, 1000, (K : Int), K, x⟩ : Al) (S := (newEM 3 n 0 0 R E b 1 1 1000)) (ws := ws) (ds := []) (now := 0) hxs (show 8 < ws.length by omega) hx0 K1 rfl rfl hfit hat (.inl hfi) hj ⟨fun j h1 h2 => ⟨show (j : Int) + 1 < max (K : Int) 1 by have h3 : j + 1 < K := h2; omega, show (0 : Int) < 1000 by decide⟩, fun h1 => .inl (show max (K : Int) 1 ≤ (K : Int) by omega)⟩
          rw [Al.ds_nil, Al.ds_nil] at this
          exact this)
        have HG0 : Hid (EGood N (100 * i + 0) ((⟨8, b, 1, 1000, (K : Int), K, x⟩ : Al).E (newEM 3 n 0 0 R E b 1 1 1000) 0) ((⟨8, b, 1, 1000, (K : Int), K, x⟩ : Al).W ws 0) (ns ++ (⟨8, b, 1, 1000, (K : Int), K, x⟩ : Al).ns 0) []) := Lib.hid ⟨newEM_ok N _ (by decide) (by decide) (by decide) (by decide) (by decide) (by decide), hws, (fun d hd => by cases hd), by simpa [Al.ns] using hns⟩
        have HRE : Hid (((⟨8, b, 1, 1000, (K : Int), K, x⟩ : Al).E (newEM 3 n 0 0 R E b 1 1 1000) (K + 3)).rg = R' ∧ ((⟨8, b, 1, 1000, (K : Int), K, x⟩ : Al).E (newEM 3 n 0 0 R E b 1 1 1000) (K + 3)).ex = E') := Lib.hid (by
          have e : (⟨8, b, 1, 1000, (K : Int), K, x⟩ : Al).E (newEM 3 n 0 0 R E b 1 1 1000) (K + 3) = { (newEM 3 n 0 0 R E b 1 1 1000) with pl := 8, V := some ((⟨8, b, 1, 1000, (K : Int), K, x⟩ : Al).V (K + 3)), en := 4, rg := pAr R n 4, ex := pAe E 4 } := if_pos rfl
          rw [e]
          exact ⟨hR', hE'⟩)
        have HXN : Hid (rdW ((⟨8, b, 1, 1000, (K : Int), K, x⟩ : Al).W ws (K + 3)) 8 = sClear (⟨8, b, 1, 1000, (K : Int), K, x⟩ : Al).v) := Lib.hid (by
          have e : (⟨8, b, 1, 1000, (K : Int), K, x⟩ : Al).W ws (K + 3) = (ws.set 8 (⟨8, b, 1, 1000, (K : Int), K, x⟩ : Al).v).set 8 (sClear (⟨8, b, 1, 1000, (K : Int), K, x⟩ : Al).v) := if_neg (by show ¬ K + 1 ≤ K; omega)
          rw [e, rdW_set _ _ _ (by rw [List.length_set]; omega)])
        have HWN : Hid (((⟨8, b, 1, 1000, (K : Int), K, x⟩ : Al).W ws (K + 3)).length = N) := Lib.hid (by rw [Al.W_len]; exact hws)
        have HP2 := Lib.hid hp2
        have HPK := Lib.hid hK
        obtain ⟨sN, hsN⟩ : ∃ sN : Nat, K + 3 = sN := ⟨_, rfl⟩
        have d4 : ((sN : Int) != 3 + (K : Int)) = false := by simp; omega
        have HX0 := Lib.hid hx0
        have HNS := Lib.hid hns
        have HWS := Lib.hid hws
        have HSN := Lib.hid hsN
        clear hp hp2 hx hx0 hxs hfit hat hfi hws hns hS hK hR' hE' hpl hsN
        go_wp2_with (first | ((have _h := T1); go_at_call 13; refine (em_new 3 n 0 0 R E b 1 1 1000 T1.out).mono ?_; rintro e wt2 ⟨p, rfl, h⟩; (have T2 := Lib.hid (h)); clear h; clear q0 q1 q2 q3; (obtain ⟨q0, q1, q2, q3⟩ := cells4 (T2.out.cells 4 rfl)); clear s0 s1 s2 s3; (obtain ⟨s0, s1, s2, s3⟩ := cells2 (T2.out.cells 3 rfl)); clear _h) | ((have _h := HS); go_at_call 10; refine (pick_is many 9 (M : Int) _ HK3.out (by decide) (by decide) p4 p5).mono ?_; rintro e wt1 ⟨rfl, rfl⟩; (have T1 := Lib.hid (HS.out)); clear q0 q1 q2 q3; (obtain ⟨q0, q1, q2, q3⟩ := cells4 (T1.out.cells 3 rfl)); clear s0 s1 s2 s3; (obtain ⟨s0, s1, s2, s3⟩ := cells2 (T1.out.cells 2 rfl)); clear _h))
        have HI0 := Lib.hid (show St w (memA q ((⟨8, b, 1, 1000, (K : Int), K, x⟩ : Al).W ws 0) (ns ++ (⟨8, b, 1, 1000, (K : Int), K, x⟩ : Al).ns 0) :: srcA r 0 [] :: emA p ((⟨8, b, 1, 1000, (K : Int), K, x⟩ : Al).E (newEM 3 n 0 0 R E b 1 1 1000) 0) :: twBoxes bs bc R E n) wt2 from by have := T2.out; rw [show ns ++ (⟨8, b, 1, 1000, (K : Int), K, x⟩ : Al).ns 0 = ns by simp [Al.ns]]; exact this)
        clear HS T1 T2 q0 q1 q2 q3 s0 s1 s2 s3
        go_loopg [15, 16] 70 (fun kq z y w' => ∃ j : Nat, z = .int .i64 j ∧ y = .int .i64 (twSt sN j) ∧ j ≤ sN ∧ j + kq = 70 ∧ EGood N (100 * i + j) ((⟨8, b, 1, 1000, (K : Int), K, x⟩ : Al).E (newEM 3 n 0 0 R E b 1 1 1000) j) ((⟨8, b, 1, 1000, (K : Int), K, x⟩ : Al).W ws j) (ns ++ (⟨8, b, 1, 1000, (K : Int), K, x⟩ : Al).ns j) [] ∧ St w (memA q ((⟨8, b, 1, 1000, (K : Int), K, x⟩ : Al).W ws j) (ns ++ (⟨8, b, 1, 1000, (K : Int), K, x⟩ : Al).ns j) :: srcA r 0 [] :: emA p ((⟨8, b, 1, 1000, (K : Int), K, x⟩ : Al).E (newEM 3 n 0 0 R E b 1 1 1000) j) :: twBoxes bs bc R E n) w')
        case atStart => exact ⟨0, rfl, by rw [show twSt sN 0 = 0 from if_neg (by have := HSN.out; omega)], by omega, rfl, HG0.out, HI0.out⟩
        case round =>
          obtain ⟨j, rfl, rfl, hj, hkq2, hg, hS⟩ := hrel
          clear HI0 HG0
          have HS := Lib.hid hS
          cases gk with
          | zero => have := HSN.out; omega
          | succ k2 =>
            by_cases c5 : j = sN
            · obtain ⟨st4, h4, h5, h6⟩ : ∃ st4 : Int, twSt sN j = st4 ∧ (st4 == 0) = false ∧ (st4 != 4) = false := ⟨_, rfl, by rw [show twSt sN j = 4 from if_pos c5]; rfl, by rw [show twSt sN j = 4 from if_pos c5]; rfl⟩
              rw [h4]
              have d5 : ((j : Int) != 3 + (K : Int)) = false := by rw [c5]; exact d4
              obtain ⟨S3, hS3⟩ : ∃ S3, (⟨8, b, 1, 1000, (K : Int), K, x⟩ : Al).E (newEM 3 n 0 0 R E b 1 1 1000) (K + 3) = S3 := ⟨_, rfl⟩
              obtain ⟨W3, hW3⟩ : ∃ W3, (⟨8, b, 1, 1000, (K : Int), K, x⟩ : Al).W ws (K + 3) = W3 := ⟨_, rfl⟩
              obtain ⟨N3, hN3⟩ : ∃ N3, ns ++ (⟨8, b, 1, 1000, (K : Int), K, x⟩ : Al).ns (K + 3) = N3 := ⟨_, rfl⟩
              have HS3 : Hid (St w (memA q W3 N3 :: srcA r 0 [] :: emA p S3 :: twBoxes bs bc R E n) wr) := Lib.hid (by
                have := hS
                rw [c5, ← HSN.out, hS3, hW3, hN3] at this
                exact this)
              have HRE3 : Hid (S3.rg = R' ∧ S3.ex = E') := Lib.hid (by rw [← hS3]; exact HRE.out)
              have HXN3 : Hid (rdW W3 8 = sClear (⟨8, b, 1, 1000, (K : Int), K, x⟩ : Al).v) := Lib.hid (by rw [← hW3]; exact HXN.out)
              have HWN3 : Hid (W3.length = N) := Lib.hid (by rw [← hW3]; exact HWN.out)
              have HN3 : Hid (N3.length ≤ 100 * (i + 1)) := Lib.hid (by
                rw [← hN3, List.length_append, Al.ns_len]
                have := HNS.out
                have := HSN.out
                omega)
              clear hS3 hW3 hN3
              obtain ⟨s0, s1, s2, s3⟩ := cells2 (hS.cells 3 rfl)
              clear HS hS hg h4 d4 c5
              go_wp2_with (first | ((have _h := U1); go_at_call 26; refine (polls_any R E 1 _ ⟨p10, p11⟩ (by decide) (by decide)).mono ?_; rintro e wu2 ⟨rfl, hb⟩; rw [HPK.out]; (have U2 := Lib.hid ((U1.out.alloc #[.int .i64 R', .int .i64 E'] 23).below hb)); clear hb _h s0 s1 s2 s3; (obtain ⟨s0, s1, s2, s3⟩ := cells2 (U2.out.cells 4 rfl)); (obtain ⟨v0, v1, v2, v3⟩ := cells2 (U2.out.cells 0 rfl)); clear sl) | (go_at_call 18; refine (e_stateV HS3.out 2 rfl R' E' HRE3.out.1 HRE3.out.2).mono ?_; rintro e wu1 ⟨rfl, hb⟩; (have U1 := Lib.hid (HS3.out.below hb)); clear hb s0 s1 s2 s3; (obtain ⟨s0, s1, s2, s3⟩ := cells2 (U1.out.cells 3 rfl)); (have sl := lt_of_heap (U1.out.cells 3 rfl))))
              go_roundg kk
              case measure => omega
              case rel =>
                have h9 := ((((U2.out.setAt 4 rfl 0 (.int .i64 R')).setAt 4 rfl 1 (.int .i64 E')).tail).front 2 rfl).tail
                exact ⟨i + 1, rfl, by omega, by omega, R', E', _, _, _, HP2.out, HWN3.out, HXN3.out, sSt_clear, HN3.out, h9⟩
            · rw [show twSt sN j = 0 from if_neg c5]
              have c6 : decide ((j : Int) < 200) = true := decide_eq_true (by have := HSN.out; omega)
              have hjK : j ≤ K + 2 := by have := HSN.out; omega
              obtain ⟨a0, ha0⟩ : ∃ a0 : Int, (if j = K + 2 then (4 : Int) else 0) = a0 := ⟨_, rfl⟩
              have hst := HST.out j hjK
              have HGN : Hid (EGood N (100 * i + (j + 1)) ((⟨8, b, 1, 1000, (K : Int), K, x⟩ : Al).E (newEM 3 n 0 0 R E b 1 1 1000) (j + 1)) ((⟨8, b, 1, 1000, (K : Int), K, x⟩ : Al).W ws (j + 1)) (ns ++ (⟨8, b, 1, 1000, (K : Int), K, x⟩ : Al).ns (j + 1)) []) := Lib.hid (by
                have := hg.step (by decide) (by decide) (fun j hj => hS.rng hj) hst
                rw [List.append_assoc, Al.ns_succ] at this
                exact this)
              have HA0 : Hid (twSt sN (j + 1) = a0) := Lib.hid (by
                unfold twSt
                rw [← ha0, ← HSN.out]
                by_cases c : j = K + 2
                · rw [if_pos c, if_pos (by omega)]
                · rw [if_neg c, if_neg (by omega)])
              rw [ha0] at hst
              have HE := Lib.hid hst
              have HOKS : Hid (((⟨8, b, 1, 1000, (K : Int), K, x⟩ : Al).E (newEM 3 n 0 0 R E b 1 1 1000) j).ok ((⟨8, b, 1, 1000, (K : Int), K, x⟩ : Al).W ws j).length (ns ++ (⟨8, b, 1, 1000, (K : Int), K, x⟩ : Al).ns j).length) := Lib.hid (by rw [hg.len]; exact hg.ok)
              have hkl : (ns ++ (⟨8, b, 1, 1000, (K : Int), K, x⟩ : Al).ns j).length ≤ 1000000000000 := by have := hg.few; have := HSN.out; omega
              have HNJ : Hid ((ns ++ (⟨8, b, 1, 1000, (K : Int), K, x⟩ : Al).ns j) ++ [(⟨8, b, 1, 1000, (K : Int), K, x⟩ : Al).nt j] = ns ++ (⟨8, b, 1, 1000, (K : Int), K, x⟩ : Al).ns (j + 1)) := Lib.hid (by rw [List.append_assoc, Al.ns_succ])
              clear hst ha0 hg hS hjK
              go_wp2_with (go_at_call 15; refine (estep HE.out HNJ.out HS.out HOKS.out (fun d hd => by cases hd) (by decide) (by decide) hkl).mono ?_; rintro e w8 ⟨rfl, h⟩; (have HT := Lib.hid h); clear h)
              go_roundg k2
              case measure => omega
              case rel => exact ⟨j + 1, rfl, by rw [HA0.out], by have := HSN.out; omega, by omega, HGN.out, HT.out⟩
      · have c4b : decide ((i : Int) < (M : Int)) = false := decide_eq_false (by omega)
        have HP := Lib.hid hp
        clear hp hx hx0 hws hns hS
        go_wp2_with (first | (go_at_call 10; refine (pick_is many 9 (M : Int) _ HK3.out (by decide) (by decide) p4 p5).mono ?_; rintro e w' ⟨rfl, rfl⟩) | (go_at_call 27; refine (right_any R E n _).mono ?_; rintro e w9 ⟨rfl, hb⟩; rw [HP.out]; (have H9 := Lib.hid (HS.out.below hb)); clear hb))
        go_ret
        exact ⟨rfl, H9.out.bel⟩

theorem elimTwice_walk (slots reach many : Int) (w : World) (h1 : (Lit.int .i64 slots).wf = true) (h2 : (Lit.int .i64 reach).wf = true) (h3 : (Lit.int .i64 many).wf = true) :
    Calls Try.prog 7 #[.int .i64 slots, .int .i64 reach, .int .i64 many] w fun z w' => z = .returned (.bool true) ∧ Below w.heap.size w w' := by
  obtain ⟨p0, p1⟩ := rngI64 h1
  obtain ⟨p2, p3⟩ := rngI64 h2
  obtain ⟨p4, p5⟩ := rngI64 h3
  have a1 := pickI_rng (c := slots) (n := 16) (by decide)
  obtain ⟨m, hk1⟩ := Int.eq_ofNat_of_zero_le a1.1
  have a2 := pickI_rng (c := reach) (n := ((1 + m : Nat) : Int)) (by omega)
  obtain ⟨m2, hk2⟩ := Int.eq_ofNat_of_zero_le a2.1
  have a3 := pickI_rng (c := many) (n := 9) (by decide)
  obtain ⟨M, hk3⟩ := Int.eq_ofNat_of_zero_le a3.1
  exact twice_body slots reach many m m2 M (1 + m) _ w hk1 hk2 hk3 rfl (by omega) (by omega) (by omega) rfl p0 p1 p2 p3 p4 p5
end Go.Proofs.Ythnjeiandfdpgaa
