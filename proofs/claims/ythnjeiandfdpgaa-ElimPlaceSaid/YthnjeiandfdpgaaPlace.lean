/-
  The law ElimPlace: the walk.
-/
import Derived.Test.YthnjeiandfdpgaaAl
import Derived.Test.YthnjeiandfdpgaaSinceS
namespace Go.Proofs.Ythnjeiandfdpgaa
open Go.RowKit
set_option linter.unusedVariables false
set_option linter.unusedSimpArgs false
theorem al6 (a : Nat) (push : Bool) (d : Int) : ∀ j, j < 6 → (noteCells ((⟨a, push, 1, d, 3, 3, 21474836480⟩ : Al).ns 6))[j * 5 + 1]? = some (.int .i64 a) := by
  intro j hj
  match j, hj with
  | 0, _ => rfl
  | 1, _ => rfl
  | 2, _ => rfl
  | 3, _ => rfl
  | 4, _ => rfl
  | 5, _ => rfl

set_option maxRecDepth 20000 in
set_option maxHeartbeats 16000000 in
theorem place_some (slots reach draw : Int) (push : Bool) (m m2 d n k wn N : Nat) (w : World) (hk1 : pickI slots 16 = (m : Int)) (hk2 : pickI reach n = (m2 : Int)) (hk3 : pickI draw 65 = (d : Int)) (hn : n = 1 + m) (hm : m < 16) (hkk : k = 1 + m2) (hkn : k ≤ n) (hN : N = 8 + n) (hwd : (d : Int) % (k : Int) = (wn : Int)) (hd : d < 64) (hwk : wn < k) (dd : List Int) (hde : dd = [(d : Int)]) (hwn : drawI dd k = (wn : Int)) (hdd : DsOk dd) (hdr : (Al.ds dd k 6).length = 0)
    (p0 : -9223372036854775808 ≤ slots) (p1 : slots < 9223372036854775808) (p2 : -9223372036854775808 ≤ reach) (p3 : reach < 9223372036854775808) (p4 : -9223372036854775808 ≤ draw) (p5 : draw < 9223372036854775808) :
    Calls Try.prog 5 #[.int .i64 slots, .int .i64 reach, .int .i64 draw, .bool push] w fun z w' => z = .returned (.bool true) ∧ Below w.heap.size w w' := by
  have HAE : Hid (addE (d : Int) = 0) := Lib.hid (by unfold addE; rw [if_neg (by omega)])
  have HAR : Hid (addR [] (d : Int) = [(d : Int)]) := Lib.hid (by unfold addR; rw [if_neg (by omega)]; rfl)
  have e3 : (d : Int) % 18446744073709551616 = (d : Int) := by omega
  have e4 : (d : Int).tmod (k : Int) = (wn : Int) := by rw [Int.tmod_eq_emod_of_nonneg (by omega), ← hwd]
  have e5 : decide ((d : Int) < 64) = true := decide_eq_true (by omega)
  have e6 : ¬ (k : Int) = 0 := by omega
  have HOK : Hid (okC ((3 : Nat) : Int) (n : Int) ((0 : Nat) : Int) = true) := Lib.hid (okC3 (by omega))
  have HN : Hid (N = 2 + 2 * 3 + n + 0) := Lib.hid (by omega)
  have HK1 := Lib.hid hk1
  have HK2 := Lib.hid hk2
  have HK3 := Lib.hid hk3
  have e1 : 1 + (m : Int) = (n : Int) := by omega
  have e2 : 1 + (m2 : Int) = (k : Int) := by omega
  have n0 : (0 : Int) < (n : Int) := by omega
  have n1 : (n : Int) < 9223372036854775808 := by omega
  have hfit : (newEM 3 n 0 5 k 0 push 1 3 2).fit = true := EM.fit_iff.2 ⟨okC3 (by omega), by simp [newEM]; omega, pOk_iff.2 ⟨by simp [newEM], by simp only [newEM]; omega, by simp only [newEM]; omega, by simp only [newEM]; omega, by simp [newEM], by simp [newEM]⟩⟩
  have hat : atI (newEM 3 n 0 5 k 0 push 1 3 2).n (newEM 3 n 0 5 k 0 push 1 3 2).s (newEM 3 n 0 5 k 0 push 1 3 2).h 1 (drawI dd (newEM 3 n 0 5 k 0 push 1 3 2).rg) = ((8 + wn : Nat) : Int) := by
    show atI (3 : Int) n 0 1 (drawI dd k) = _
    rw [hwn]
    exact at3 (by omega) (by omega)
  have hfr : rdW (frL 21474836480 3 3 n N) (8 + wn) = 21474836480 := fr_slot (by omega) (by omega)
  have HFI : Hid ((newEM 3 n 0 5 k 0 push 1 3 2).first 0 dd = (⟨8 + wn, push, 1, 2, 3, 3, 21474836480⟩ : Al).V 0) := Lib.hid (by
    unfold EM.first
    rw [hat]
    rfl)
  have HST : Hid (∀ i, i ≤ 5 → ((⟨8 + wn, push, 1, 2, 3, 3, 21474836480⟩ : Al).E (newEM 3 n 0 5 k 0 push 1 3 2) i).step ((⟨8 + wn, push, 1, 2, 3, 3, 21474836480⟩ : Al).W (frL 21474836480 3 3 n N) i) 0 (Al.ds dd k i) = ⟨if i = 3 + 2 then 4 else 0, 0, (⟨8 + wn, push, 1, 2, 3, 3, 21474836480⟩ : Al).E (newEM 3 n 0 5 k 0 push 1 3 2) (i + 1), (⟨8 + wn, push, 1, 2, 3, 3, 21474836480⟩ : Al).W (frL 21474836480 3 3 n N) (i + 1), [(⟨8 + wn, push, 1, 2, 3, 3, 21474836480⟩ : Al).nt i], Al.ds dd k (i + 1)⟩) := Lib.hid (fun i hi =>
    Al.stepE (⟨8 + wn, push, 1, 2, 3, 3, 21474836480⟩ : Al) (S := (newEM 3 n 0 5 k 0 push 1 3 2)) (ds := dd) (now := 0) hfr (by rw [frL_len]; show 8 + wn < N; omega) (show sSt 21474836480 = 0 by decide) (show 1 ≤ 3 by decide) rfl rfl hfit hat (.inl HFI.out) hi ⟨fun j h1 h2 => ⟨show (j : Int) + 1 < max 3 1 by have h3 : j + 1 < 3 := h2; omega, show (0 : Int) < 2 by decide⟩, fun h1 => .inl (show max (3 : Int) 1 ≤ ((3 : Nat) : Int) by decide)⟩)
  have HG0 : Hid (EGood N 0 ((⟨8 + wn, push, 1, 2, 3, 3, 21474836480⟩ : Al).E (newEM 3 n 0 5 k 0 push 1 3 2) 0) ((⟨8 + wn, push, 1, 2, 3, 3, 21474836480⟩ : Al).W (frL 21474836480 3 3 n N) 0) ((⟨8 + wn, push, 1, 2, 3, 3, 21474836480⟩ : Al).ns 0) (Al.ds dd k 0)) := Lib.hid ⟨newEM_ok N 0 (by decide) (by decide) (by decide) (by decide) (by decide) (by decide), frL_len _ _ _ _ _, hdd, Nat.le_refl _⟩
  have HDL : Hid ((Al.ds dd k 6).length = 0) := Lib.hid hdr
  have HAT : Hid (atI (3 : Int) n 0 1 (wn : Int) = ((8 + wn : Nat) : Int)) := Lib.hid (at3 (by omega) (by omega))
  have HEP : Hid (((⟨8 + wn, push, 1, 2, 3, 3, 21474836480⟩ : Al).E (newEM 3 n 0 5 k 0 push 1 3 2) 6).pl = ((8 + wn : Nat) : Int)) := Lib.hid rfl
  have hW6 : rdW ((⟨8 + wn, push, 1, 2, 3, 3, 21474836480⟩ : Al).W (frL 21474836480 3 3 n N) 6) (8 + wn) = 25769803776 := by
    have e : (⟨8 + wn, push, 1, 2, 3, 3, 21474836480⟩ : Al).W (frL 21474836480 3 3 n N) 6 = ((frL 21474836480 3 3 n N).set (8 + wn) (⟨8 + wn, push, 1, 2, 3, 3, 21474836480⟩ : Al).v).set (8 + wn) (sClear (⟨8 + wn, push, 1, 2, 3, 3, 21474836480⟩ : Al).v) := rfl
    rw [e, rdW_set _ _ _ (by rw [List.length_set, frL_len]; omega)]
    show sClear (sOffer 21474836480 push 1) = _
    cases push <;> decide
  have HW6 := Lib.hid hW6
  have HWL : Hid (((⟨8 + wn, push, 1, 2, 3, 3, 21474836480⟩ : Al).W (frL 21474836480 3 3 n N) 6).length = N) := Lib.hid (by rw [Al.W_len, frL_len])
  obtain ⟨sl, hsl⟩ : ∃ sl : Nat, 8 + wn = sl := ⟨_, rfl⟩
  have HSL := Lib.hid hsl
  have sl0 : (0 : Int) ≤ (sl : Int) := by omega
  have sl1 : (sl : Int) < (N : Int) := by omega
  clear hk1 hk2 hk3 hat hfr hwn hdd hdr hN hfit hW6 hsl hn hkk
  clear hwd
  subst hde
  have H := Lib.hid (St.nil w)
  go_enter Try.func5, Try.ntmps5
  go_wp2_with (first | ((have _h := H8); go_at_call 14; refine (src_add d 0 [(d : Int)] (H8.out.front 1 rfl) (by omega) (by simp) HAE.out HAR.out).mono ?_; rintro e w9 ⟨rfl, h⟩; (have H9 := Lib.hid (h.front 1 rfl)); clear h; clear q0 q1 q2 q3; (obtain ⟨q0, q1, q2, q3⟩ := cells4 (H9.out.cells 3 rfl)); clear _h) | ((have _h := H7); go_at_call 10; refine (pick_is draw 65 (d : Int) _ HK3.out (by decide) (by decide) p4 p5).mono ?_; rintro e w8 ⟨rfl, rfl⟩; (have H8 := Lib.hid (H7.out)); clear q0 q1 q2 q3; (obtain ⟨q0, q1, q2, q3⟩ := cells4 (H8.out.cells 3 rfl)); clear _h) | ((have _h := H6); go_at_call 19; refine (e_placeV H6.out 2 rfl (-1) rfl).mono ?_; rintro e w7 ⟨rfl, rfl⟩; (have H7 := Lib.hid (H6.out)); clear q0 q1 q2 q3; (obtain ⟨q0, q1, q2, q3⟩ := cells4 (H7.out.cells 3 rfl)); clear _h) | ((have _h := H5); go_at_call 13; refine (em_new 3 n 0 5 k 0 push 1 3 2 H5.out).mono ?_; rintro e w6 ⟨p, rfl, h⟩; (have H6 := Lib.hid (h)); clear h; clear q0 q1 q2 q3; (obtain ⟨q0, q1, q2, q3⟩ := cells4 (H6.out.cells 3 rfl)); clear _h) | ((have _h := H4); go_at_call 10; refine (pick_is reach n (m2 : Int) _ HK2.out n0 n1 p2 p3).mono ?_; rintro e w5 ⟨rfl, rfl⟩; (have H5 := Lib.hid (H4.out)); clear q0 q1 q2 q3; (obtain ⟨q0, q1, q2, q3⟩ := cells4 (H5.out.cells 2 rfl)); clear _h) | ((have _h := H3); go_at_call 12; refine (src_new H3.out).mono ?_; rintro e w4 ⟨r, rfl, h⟩; (have H4 := Lib.hid (h.swap)); clear h; clear q0 q1 q2 q3; (obtain ⟨q0, q1, q2, q3⟩ := cells4 (H4.out.cells 2 rfl)); clear _h) | ((have _h := H2); go_at_call 11; refine (begun_ok 3 n 0 5 21474836480 N (H2.out.alloc #[.int .i64 3, .int .i64 n, .int .i64 0, .int .u32 5] 28) HOK.out HN.out (by decide) (by decide) (by decide)).mono ?_; rintro e w3 ⟨q, rfl, h⟩; (have H3 := Lib.hid (h)); clear h; (obtain ⟨q0, q1, q2, q3⟩ := cells4 (H3.out.cells 1 rfl)); clear _h) | ((have _h := H1); go_at_call 10; refine (pick_is slots 16 (m : Int) _ HK1.out (by decide) (by decide) p0 p1).mono ?_; rintro e w2 ⟨rfl, rfl⟩; (have H2 := Lib.hid (H1.out)); clear _h) | ((have _h := H); go_at_call 9; refine (shown12 _).mono ?_; rintro e w1 ⟨rfl, hb⟩; (have H1 := Lib.hid (H.out.below hb)); clear hb; clear _h))
  have HS0 : Hid (St w (memA q ((⟨8 + wn, push, 1, 2, 3, 3, 21474836480⟩ : Al).W (frL 21474836480 3 3 n N) 0) ((⟨8 + wn, push, 1, 2, 3, 3, 21474836480⟩ : Al).ns 0) :: srcA r 0 (Al.ds [(d : Int)] k 0) :: emA p ((⟨8 + wn, push, 1, 2, 3, 3, 21474836480⟩ : Al).E (newEM 3 n 0 5 k 0 push 1 3 2) 0) :: [boxA w1.heap.size #[.int .i64 3, .int .i64 n, .int .i64 0, .int .u32 5] 28]) w9) := Lib.hid H9.out
  generalize w1.heap.size = bb at *
  clear H1 H2 H3 H4 H5 H6 H7 H8 H9 q0 q1 q2 q3
  go_loopg [18] 11 (fun kq z w' => ∃ i : Nat, z = .int .i64 i ∧ i ≤ 5 ∧ i + kq = 11 ∧ EGood N i ((⟨8 + wn, push, 1, 2, 3, 3, 21474836480⟩ : Al).E (newEM 3 n 0 5 k 0 push 1 3 2) i) ((⟨8 + wn, push, 1, 2, 3, 3, 21474836480⟩ : Al).W (frL 21474836480 3 3 n N) i) ((⟨8 + wn, push, 1, 2, 3, 3, 21474836480⟩ : Al).ns i) (Al.ds [(d : Int)] k i) ∧ St w (memA q ((⟨8 + wn, push, 1, 2, 3, 3, 21474836480⟩ : Al).W (frL 21474836480 3 3 n N) i) ((⟨8 + wn, push, 1, 2, 3, 3, 21474836480⟩ : Al).ns i) :: srcA r 0 (Al.ds [(d : Int)] k i) :: emA p ((⟨8 + wn, push, 1, 2, 3, 3, 21474836480⟩ : Al).E (newEM 3 n 0 5 k 0 push 1 3 2) i) :: [boxA bb #[.int .i64 3, .int .i64 n, .int .i64 0, .int .u32 5] 28]) w')
  case atStart => exact ⟨0, rfl, by decide, by decide, HG0.out, HS0.out⟩
  case round =>
    obtain ⟨i, rfl, hi, hkq, hg, hS⟩ := hrel
    clear HS0 HG0
    have HS := Lib.hid hS
    have c10 : decide ((i : Int) < 10) = true := decide_eq_true (by omega)
    obtain ⟨a0, ha0⟩ : ∃ a0 : Int, (if i = 3 + 2 then (4 : Int) else 0) = a0 := ⟨_, rfl⟩
    have HE := Lib.hid (HST.out i hi)
    rw [ha0] at HE
    have HGN : Hid (EGood N (i + 1) ((⟨8 + wn, push, 1, 2, 3, 3, 21474836480⟩ : Al).E (newEM 3 n 0 5 k 0 push 1 3 2) (i + 1)) ((⟨8 + wn, push, 1, 2, 3, 3, 21474836480⟩ : Al).W (frL 21474836480 3 3 n N) (i + 1)) ((⟨8 + wn, push, 1, 2, 3, 3, 21474836480⟩ : Al).ns (i + 1)) (Al.ds [(d : Int)] k (i + 1))) := Lib.hid (by
      have := hg.step (by decide) (by decide) (fun j hj => hS.rng hj) (HST.out i hi)
      rw [Al.ns_succ] at this
      exact this)
    have HOKS : Hid (((⟨8 + wn, push, 1, 2, 3, 3, 21474836480⟩ : Al).E (newEM 3 n 0 5 k 0 push 1 3 2) i).ok ((⟨8 + wn, push, 1, 2, 3, 3, 21474836480⟩ : Al).W (frL 21474836480 3 3 n N) i).length ((⟨8 + wn, push, 1, 2, 3, 3, 21474836480⟩ : Al).ns i).length) := Lib.hid (by rw [hg.len]; exact hg.ok)
    have HDS := Lib.hid hg.ds
    have hkl : ((⟨8 + wn, push, 1, 2, 3, 3, 21474836480⟩ : Al).ns i).length ≤ 1000000000000 := by rw [Al.ns_len]; omega
    have HNS := Lib.hid (Al.ns_succ (⟨8 + wn, push, 1, 2, 3, 3, 21474836480⟩ : Al) i)
    cases gk with
    | zero => omega
    | succ kk =>
      by_cases c4 : i < 5
      · have ea : a0 = 0 := by rw [← ha0, if_neg (by omega)]
        subst ea
        clear hS hg ha0
        go_wp2_with (go_at_call 15; refine (estep HE.out HNS.out HS.out HOKS.out HDS.out (by decide) (by decide) hkl).mono ?_; rintro e w8 ⟨rfl, h⟩; (have HT := Lib.hid h); clear h)
        go_roundg kk
        case measure => omega
        case rel => exact ⟨i + 1, rfl, by omega, by omega, HGN.out, HT.out⟩
      · obtain rfl : i = 5 := by omega
        have ea : a0 = 4 := by rw [← ha0]; rfl
        subst ea
        clear hS hg ha0
        go_wp2_with (first | (go_at_call 15; refine (estep HE.out HNS.out HS.out HOKS.out HDS.out (by decide) (by decide) hkl).mono ?_; rintro e w8 ⟨rfl, h⟩; (have HT0 := Lib.hid h); clear h) | ((have _h := HT0); go_at_call 22; refine (since_st HT0.out 0 0 6 (by rw [Al.ns_len]; decide) (.inr (.inr ⟨rfl, Nat.zero_le _⟩)) rfl).mono ?_; rintro e w9 ⟨al, cl, rfl, h⟩; (have HT1 := Lib.hid h); clear h _h))
        obtain ⟨gl, cl', hel⟩ := row_some (HT1.out.rowOf 0 rfl) (by decide)
        cases hel
        have HT : Hid (St w (rowG gl cl 51 5 6 (noteCells ((⟨8 + wn, push, 1, 2, 3, 3, 21474836480⟩ : Al).ns 6)) :: (memA q ((⟨8 + wn, push, 1, 2, 3, 3, 21474836480⟩ : Al).W (frL 21474836480 3 3 n N) 6) ((⟨8 + wn, push, 1, 2, 3, 3, 21474836480⟩ : Al).ns 6) :: srcA r 0 (Al.ds [(d : Int)] k 6) :: emA p ((⟨8 + wn, push, 1, 2, 3, 3, 21474836480⟩ : Al).E (newEM 3 n 0 5 k 0 push 1 3 2) 6) :: [boxA bb #[.int .i64 3, .int .i64 n, .int .i64 0, .int .u32 5] 28])) w9) := HT1
        have HRL : Hid (∀ j w', j < 6 → Below w9.heap.size w9 w' → w'.cell? ⟨gl, j * 5 + 1, none⟩ = some (.int .i64 sl)) := Lib.hid (fun j w' hj hb => by
          have := ((HT.out.below hb).at_ 0 rfl (j * 5 + 1) (al6 _ _ _ j hj)).1
          rw [HSL.out] at this
          exact this)
        have HCS : Hid (∀ w', Below w9.heap.size w9 w' → w'.cell? ⟨bb, 0, none⟩ = some (.int .i64 3) ∧ w'.cell? ⟨bb, 1, none⟩ = some (.int .i64 n) ∧ w'.cell? ⟨bb, 2, none⟩ = some (.int .i64 0) ∧ w'.cell? ⟨bb, 3, none⟩ = some (.int .u32 5)) := Lib.hid (fun w' hb => cells4 ((HT.out.below hb).cells 4 rfl))
        clear HT1 HT0 HS
        go_loopg [22] 7 (fun kq z w' => ∃ j : Nat, z = .int .i64 j ∧ j ≤ 6 ∧ j + kq = 7 ∧ Below w9.heap.size w9 w')
        case atStart => exact ⟨0, rfl, by decide, by decide, Below.refl _ _⟩
        case round =>
          obtain ⟨j, rfl, hj, hkq2, hbe⟩ := hrel
          have HBE := Lib.hid hbe
          have HBD := Lib.hid hbe.drew
          cases gk with
          | zero => omega
          | succ k2 =>
            by_cases c5 : j < 6
            · have c5b : decide ((j : Int) < 6) = true := decide_eq_true (by omega)
              have j0 : (0 : Int) ≤ (j : Int) := by omega
              have j1 : (j : Int) < (6 : Int) := by omega
              clear hbe
              go_wp2
              go_region_held3 (fun w' => w'.cell? ⟨bb, 0, none⟩ = some (.int .i64 3) ∧ w'.cell? ⟨bb, 1, none⟩ = some (.int .i64 n) ∧ w'.cell? ⟨bb, 2, none⟩ = some (.int .i64 0) ∧ w'.cell? ⟨bb, 3, none⟩ = some (.int .u32 5) ∧ w'.cell? ⟨gl, j * 5 + 1, none⟩ = some (.int .i64 sl)) (first | exact ⟨(HCS.out _ HBD.out).1, (HCS.out _ HBD.out).2.1, (HCS.out _ HBD.out).2.2.1, (HCS.out _ HBD.out).2.2.2, HRL.out j _ c5 HBD.out⟩ | exact ⟨(HCS.out _ HBE.out).1, (HCS.out _ HBE.out).2.1, (HCS.out _ HBE.out).2.2.1, (HCS.out _ HBE.out).2.2.2, HRL.out j _ c5 HBE.out⟩) ((go_at_call 23; refine (slot_any 3 n 0 5 wn _).mono ?_; rintro e w' ⟨rfl, hb⟩; rw [HAT.out, HSL.out]; (have HZ2 := Lib.hid (HBD.out.trans (hb.mono HBD.out.size))); clear hb HBD; (have HBD := HZ2); clear HZ2))
              all_goals go_wp2
              all_goals go_roundg k2
              all_goals first | omega | exact ⟨j + 1, rfl, by omega, by omega, HBD.out⟩
            · have c5b : decide ((j : Int) < 6) = false := decide_eq_false (by omega)
              clear hbe
              go_wp2
              refine wp_region_held_drew (S := (fun w' => w'.cell? ⟨bb, 0, none⟩ = some (.int .i64 3) ∧ w'.cell? ⟨bb, 1, none⟩ = some (.int .i64 n) ∧ w'.cell? ⟨bb, 2, none⟩ = some (.int .i64 0) ∧ w'.cell? ⟨bb, 3, none⟩ = some (.int .u32 5))) (by kernel_rfl) ?_ (fun hHeld0 => ?_)
              · first | exact HCS.out _ HBD.out | exact HCS.out _ HBE.out
              refine wpAnyH_take (i := 0) (v := ?_) rfl (by kernel_rfl) (by kernel_rfl) (by kernel_rfl) (fun _ _ _ h => h) (Or.inl ⟨by rfl, ?_⟩) hHeld0 ?_
              rotate_left
              · intro w hSw
                (try dsimp only at hSw)
                go_simp
                try (first | (with_reducible rfl) | rfl)
              try simp only [List.getElem_toArray, List.getElem_cons_zero, List.getElem_cons_succ, Act.put, List.setIfInBounds_toArray, List.set_cons_zero, List.set_cons_succ]
              refine wpAnyH_take (i := 1) (v := ?_) rfl (by kernel_rfl) (by kernel_rfl) (by kernel_rfl) (fun _ _ _ h => h) (Or.inl ⟨by rfl, ?_⟩) hHeld0 ?_
              rotate_left
              · intro w hSw
                (try dsimp only at hSw)
                go_simp
                try (first | (with_reducible rfl) | rfl)
              try simp only [List.getElem_toArray, List.getElem_cons_zero, List.getElem_cons_succ, Act.put, List.setIfInBounds_toArray, List.set_cons_zero, List.set_cons_succ]
              refine wpAnyH_take (i := 2) (v := ?_) rfl (by kernel_rfl) (by kernel_rfl) (by kernel_rfl) (fun _ _ _ h => h) (Or.inl ⟨by rfl, ?_⟩) hHeld0 ?_
              rotate_left
              · intro w hSw
                (try dsimp only at hSw)
                go_simp
                try (first | (with_reducible rfl) | rfl)
              try simp only [List.getElem_toArray, List.getElem_cons_zero, List.getElem_cons_succ, Act.put, List.setIfInBounds_toArray, List.set_cons_zero, List.set_cons_succ]
              refine wpAnyH_take (i := 3) (v := ?_) rfl (by kernel_rfl) (by kernel_rfl) (by kernel_rfl) (fun _ _ _ h => h) (Or.inl ⟨by rfl, ?_⟩) hHeld0 ?_
              rotate_left
              · intro w hSw
                (try dsimp only at hSw)
                go_simp
                try (first | (with_reducible rfl) | rfl)
              try simp only [List.getElem_toArray, List.getElem_cons_zero, List.getElem_cons_succ, Act.put, List.setIfInBounds_toArray, List.set_cons_zero, List.set_cons_succ]
              refine wpAnyH_take (i := 4) (v := ?_) rfl (by kernel_rfl) (by kernel_rfl) (by kernel_rfl) (fun _ _ _ h => h) (Or.inl ⟨by rfl, ?_⟩) hHeld0 ?_
              rotate_left
              · intro w hSw
                (try dsimp only at hSw)
                go_simp
                try (first | (with_reducible rfl) | rfl)
              try simp only [List.getElem_toArray, List.getElem_cons_zero, List.getElem_cons_succ, Act.put, List.setIfInBounds_toArray, List.set_cons_zero, List.set_cons_succ]
              refine wpAnyH_take (i := 6) (v := ?_) rfl (by kernel_rfl) (by kernel_rfl) (by kernel_rfl) (fun _ _ _ h => h) (Or.inl ⟨by rfl, ?_⟩) hHeld0 ?_
              rotate_left
              · intro w hSw
                (try dsimp only at hSw)
                go_simp
                try (first | (with_reducible rfl) | rfl)
              try simp only [List.getElem_toArray, List.getElem_cons_zero, List.getElem_cons_succ, Act.put, List.setIfInBounds_toArray, List.set_cons_zero, List.set_cons_succ]
              refine wpAnyH_take (i := 7) (v := ?_) rfl (by kernel_rfl) (by kernel_rfl) (by kernel_rfl) (fun _ _ _ h => h) (Or.inl ⟨by rfl, ?_⟩) hHeld0 ?_
              rotate_left
              · intro w hSw
                (try dsimp only at hSw)
                go_simp
                try (first | (with_reducible rfl) | rfl)
              try simp only [List.getElem_toArray, List.getElem_cons_zero, List.getElem_cons_succ, Act.put, List.setIfInBounds_toArray, List.set_cons_zero, List.set_cons_succ]
              refine wpAnyH_ready (rs := [5]) (by kernel_rfl) (by simp) ?_
              refine AllReadyH.cons rfl (fun K hK => ?_) ?_
              · go_simp
                (go_at_call 19; refine (e_placeV ((HT.out.below HBD.out).tail) 2 rfl (sl : Int) (HEP.out.trans (by rw [HSL.out]))).mono ?_; rintro e w' ⟨rfl, rfl⟩)
                go_wp2_with fail
                refine hK.out _ _ ?_ (fun hHeld7_5 => ?_)
                · first | exact HCS.out _ HBD.out | exact HCS.out _ HBE.out
                clear hK K
                try simp only [List.getElem_toArray, List.getElem_cons_zero, List.getElem_cons_succ, Act.put, List.setIfInBounds_toArray, List.set_cons_zero, List.set_cons_succ]
                refine wpAnyH_ready (rs := [8]) (by kernel_rfl) (by simp) ?_
                refine AllReadyH.cons rfl (fun K hK => ?_) ?_
                · go_simp
                  (go_at_call 23; refine (slot_any 3 n 0 5 wn _).mono ?_; rintro e w' ⟨rfl, hb⟩; rw [HAT.out, HSL.out]; (have HZ2 := Lib.hid (HBD.out.trans (hb.mono HBD.out.size))); clear hb HBD; (have HBD := HZ2); clear HZ2)
                  go_wp2_with fail
                  refine hK.out _ _ ?_ (fun hHeld8_8 => ?_)
                  · first | exact HCS.out _ HBD.out | exact HCS.out _ HBE.out
                  clear hK K
                  try simp only [List.getElem_toArray, List.getElem_cons_zero, List.getElem_cons_succ, Act.put, List.setIfInBounds_toArray, List.set_cons_zero, List.set_cons_succ]
                  refine wpAnyH_take (i := 9) (v := ?_) rfl (by kernel_rfl) (by kernel_rfl) (by kernel_rfl) (fun _ _ _ h => h) (Or.inl ⟨by rfl, ?_⟩) hHeld8_8 ?_
                  rotate_left
                  · intro w hSw
                    (try dsimp only at hSw)
                    go_simp
                    try (first | (with_reducible rfl) | rfl)
                  try simp only [List.getElem_toArray, List.getElem_cons_zero, List.getElem_cons_succ, Act.put, List.setIfInBounds_toArray, List.set_cons_zero, List.set_cons_succ]
                  refine wpAnyH_take (i := 10) (v := ?_) rfl (by kernel_rfl) (by kernel_rfl) (by kernel_rfl) (fun _ _ _ h => h) (Or.inl ⟨by rfl, ?_⟩) hHeld8_8 ?_
                  rotate_left
                  · intro w hSw
                    (try dsimp only at hSw)
                    go_simp
                    try (first | (with_reducible rfl) | rfl)
                  try simp only [List.getElem_toArray, List.getElem_cons_zero, List.getElem_cons_succ, Act.put, List.setIfInBounds_toArray, List.set_cons_zero, List.set_cons_succ]
                  refine wpAnyH_take (i := 11) (v := ?_) rfl (by kernel_rfl) (by kernel_rfl) (by kernel_rfl) (fun _ _ _ h => h) (Or.inl ⟨by rfl, ?_⟩) hHeld8_8 ?_
                  rotate_left
                  · intro w hSw
                    (try dsimp only at hSw)
                    go_simp
                    try (first | (with_reducible rfl) | rfl)
                  try simp only [List.getElem_toArray, List.getElem_cons_zero, List.getElem_cons_succ, Act.put, List.setIfInBounds_toArray, List.set_cons_zero, List.set_cons_succ]
                  refine wpAnyH_take (i := 12) (v := ?_) rfl (by kernel_rfl) (by kernel_rfl) (by kernel_rfl) (fun _ _ _ h => h) (Or.inl ⟨by rfl, ?_⟩) hHeld8_8 ?_
                  rotate_left
                  · intro w hSw
                    (try dsimp only at hSw)
                    go_simp
                    try (first | (with_reducible rfl) | rfl)
                  try simp only [List.getElem_toArray, List.getElem_cons_zero, List.getElem_cons_succ, Act.put, List.setIfInBounds_toArray, List.set_cons_zero, List.set_cons_succ]
                  refine wpAnyH_ready (rs := [13]) (by kernel_rfl) (by simp) ?_
                  refine AllReadyH.cons rfl (fun K hK => ?_) ?_
                  · go_simp
                    (go_at_call 17; refine (src_left 0 ((HT.out.below HBD.out).front 2 rfl) HDL.out).mono ?_; rintro e w' ⟨rfl, rfl⟩)
                    go_wp2_with fail
                    refine hK.out _ _ ?_ (fun hHeld13_13 => ?_)
                    · first | exact HCS.out _ HBD.out | exact HCS.out _ HBE.out
                    clear hK K
                    try simp only [List.getElem_toArray, List.getElem_cons_zero, List.getElem_cons_succ, Act.put, List.setIfInBounds_toArray, List.set_cons_zero, List.set_cons_succ]
                    refine wpAnyH_take (i := 14) (v := ?_) rfl (by kernel_rfl) (by kernel_rfl) (by kernel_rfl) (fun _ _ _ h => h) (Or.inl ⟨by rfl, ?_⟩) hHeld13_13 ?_
                    rotate_left
                    · intro w hSw
                      (try dsimp only at hSw)
                      go_simp
                      try (first | (with_reducible rfl) | rfl)
                    try simp only [List.getElem_toArray, List.getElem_cons_zero, List.getElem_cons_succ, Act.put, List.setIfInBounds_toArray, List.set_cons_zero, List.set_cons_succ]
                    refine wpAnyH_take (i := 15) (v := ?_) rfl (by kernel_rfl) (by kernel_rfl) (by kernel_rfl) (fun _ _ _ h => h) (Or.inl ⟨by rfl, ?_⟩) hHeld13_13 ?_
                    rotate_left
                    · intro w hSw
                      (try dsimp only at hSw)
                      go_simp
                      try (first | (with_reducible rfl) | rfl)
                    try simp only [List.getElem_toArray, List.getElem_cons_zero, List.getElem_cons_succ, Act.put, List.setIfInBounds_toArray, List.set_cons_zero, List.set_cons_succ]
                    refine wpAnyH_take (i := 16) (v := ?_) rfl (by kernel_rfl) (by kernel_rfl) (by kernel_rfl) (fun _ _ _ h => h) (Or.inl ⟨by rfl, ?_⟩) hHeld13_13 ?_
                    rotate_left
                    · intro w hSw
                      (try dsimp only at hSw)
                      go_simp
                      try (first | (with_reducible rfl) | rfl)
                    try simp only [List.getElem_toArray, List.getElem_cons_zero, List.getElem_cons_succ, Act.put, List.setIfInBounds_toArray, List.set_cons_zero, List.set_cons_succ]
                    refine wpAnyH_take (i := 17) (v := ?_) rfl (by kernel_rfl) (by kernel_rfl) (by kernel_rfl) (fun _ _ _ h => h) (Or.inl ⟨by rfl, ?_⟩) hHeld13_13 ?_
                    rotate_left
                    · intro w hSw
                      (try dsimp only at hSw)
                      go_simp
                      try (first | (with_reducible rfl) | rfl)
                    try simp only [List.getElem_toArray, List.getElem_cons_zero, List.getElem_cons_succ, Act.put, List.setIfInBounds_toArray, List.set_cons_zero, List.set_cons_succ]
                    refine wpAnyH_take (i := 19) (v := ?_) rfl (by kernel_rfl) (by kernel_rfl) (by kernel_rfl) (fun _ _ _ h => h) (Or.inl ⟨by rfl, ?_⟩) hHeld13_13 ?_
                    rotate_left
                    · intro w hSw
                      (try dsimp only at hSw)
                      go_simp
                      try (first | (with_reducible rfl) | rfl)
                    try simp only [List.getElem_toArray, List.getElem_cons_zero, List.getElem_cons_succ, Act.put, List.setIfInBounds_toArray, List.set_cons_zero, List.set_cons_succ]
                    refine wpAnyH_take (i := 20) (v := ?_) rfl (by kernel_rfl) (by kernel_rfl) (by kernel_rfl) (fun _ _ _ h => h) (Or.inl ⟨by rfl, ?_⟩) hHeld13_13 ?_
                    rotate_left
                    · intro w hSw
                      (try dsimp only at hSw)
                      go_simp
                      try (first | (with_reducible rfl) | rfl)
                    try simp only [List.getElem_toArray, List.getElem_cons_zero, List.getElem_cons_succ, Act.put, List.setIfInBounds_toArray, List.set_cons_zero, List.set_cons_succ]
                    refine wpAnyH_ready (rs := [18]) (by kernel_rfl) (by simp) ?_
                    refine AllReadyH.cons rfl (fun K hK => ?_) ?_
                    · go_simp
                      (go_at_call 21; refine (words_pos N ((HT.out.below HBD.out).tail) HWL.out (by omega)).mono ?_; rintro e w4 ⟨gw, cw, rfl, hcw, _, _, hb⟩; (have HRW := Lib.hid (show ∀ w', Below w4.heap.size w4 w' → w'.cell? ⟨gw, sl, none⟩ = some (.int .u64 25769803776) from fun w' hb => by have := hcw sl (by omega); rw [← HSL.out, HW6.out] at this; rw [← HSL.out]; exact (hb.cell (World.block_lt_of_cell? _ _ this)).trans this)); (have HB4 := Lib.hid (Below.refl w4.heap.size w4)); clear hcw; (have HZ2 := Lib.hid (HBD.out.trans (hb.mono HBD.out.size))); clear hb HBD; (have HBD := HZ2); clear HZ2)
                      go_wp2_with fail
                      refine hK.out _ _ ?_ (fun hHeld20_18 => ?_)
                      · first | exact HCS.out _ HBD.out | exact HCS.out _ HBE.out
                      clear hK K
                      try simp only [List.getElem_toArray, List.getElem_cons_zero, List.getElem_cons_succ, Act.put, List.setIfInBounds_toArray, List.set_cons_zero, List.set_cons_succ]
                      refine wpAnyH_ready (rs := [21]) (by kernel_rfl) (by simp) ?_
                      refine AllReadyH.cons rfl (fun K hK => ?_) ?_
                      · go_simp
                        (go_at_call 23; refine (slot_any 3 n 0 5 wn _).mono ?_; rintro e w' ⟨rfl, hb⟩; rw [HAT.out, HSL.out]; (have HZ3 := Lib.hid (HB4.out.trans (hb.mono HB4.out.size))); clear HB4; (have HB4 := HZ3); clear HZ3; (have HZ2 := Lib.hid (HBD.out.trans (hb.mono HBD.out.size))); clear hb HBD; (have HBD := HZ2); clear HZ2; (have kx := HRW.out _ HB4.out))
                        go_wp2_with fail
                        refine hK.out _ _ ?_ (fun hHeld21_21 => ?_)
                        · first | exact HCS.out _ HBD.out | exact HCS.out _ HBE.out
                        clear hK K
                        try simp only [List.getElem_toArray, List.getElem_cons_zero, List.getElem_cons_succ, Act.put, List.setIfInBounds_toArray, List.set_cons_zero, List.set_cons_succ]
                        refine wpAnyH_take (i := 22) (v := ?_) rfl (by kernel_rfl) (by kernel_rfl) (by kernel_rfl) (fun _ _ _ h => h) (Or.inl ⟨by rfl, ?_⟩) hHeld21_21 ?_
                        rotate_left
                        · intro w hSw
                          (try dsimp only at hSw)
                          go_simp
                          try (first | (with_reducible rfl) | rfl)
                        try simp only [List.getElem_toArray, List.getElem_cons_zero, List.getElem_cons_succ, Act.put, List.setIfInBounds_toArray, List.set_cons_zero, List.set_cons_succ]
                        refine wpAnyH_ready (rs := [23, 24]) (by kernel_rfl) (by simp) ?_
                        refine AllReadyH.cons rfl (fun K hK => ?_) ?_
                        · go_simp
                          refine hK.out _ _ ?_ (fun hHeld23_23 => ?_)
                          · first | exact HCS.out _ HBD.out | exact HCS.out _ HBE.out
                          clear hK K
                          try simp only [List.getElem_toArray, List.getElem_cons_zero, List.getElem_cons_succ, Act.put, List.setIfInBounds_toArray, List.set_cons_zero, List.set_cons_succ]
                          refine wpAnyH_ready (rs := [24]) (by kernel_rfl) (by simp) ?_
                          refine AllReadyH.cons rfl (fun K hK => ?_) ?_
                          · go_simp
                            (go_at_call 24; refine (slot_word 0 0 6 25769803776 _ (by decide) (by decide) (by decide) (by decide) (by decide) (by decide) (by decide)).mono ?_; rintro e w6 ⟨rfl, hb⟩; (have HZ3 := Lib.hid (HB4.out.trans (hb.mono HB4.out.size))); clear HB4; (have HB4 := HZ3); clear HZ3; (have HZ2 := Lib.hid (HBD.out.trans (hb.mono HBD.out.size))); clear hb HBD; (have HBD := HZ2); clear HZ2; (have kx := HRW.out _ HB4.out))
                            go_wp2_with fail
                            refine hK.out _ _ ?_ (fun hHeld24_24 => ?_)
                            · first | exact HCS.out _ HBD.out | exact HCS.out _ HBE.out
                            clear hK K
                            try simp only [List.getElem_toArray, List.getElem_cons_zero, List.getElem_cons_succ, Act.put, List.setIfInBounds_toArray, List.set_cons_zero, List.set_cons_succ]
                            refine wpAnyH_take (i := 25) (v := ?_) rfl (by kernel_rfl) (by kernel_rfl) (by kernel_rfl) (fun _ _ _ h => h) (Or.inl ⟨by rfl, ?_⟩) hHeld24_24 ?_
                            rotate_left
                            · intro w hSw
                              (try dsimp only at hSw)
                              go_simp
                              try (first | (with_reducible rfl) | rfl)
                            try simp only [List.getElem_toArray, List.getElem_cons_zero, List.getElem_cons_succ, Act.put, List.setIfInBounds_toArray, List.set_cons_zero, List.set_cons_succ]
                            refine wpAnyH_take (i := 26) (v := ?_) rfl (by kernel_rfl) (by kernel_rfl) (by kernel_rfl) (fun _ _ _ h => h) (Or.inl ⟨by rfl, ?_⟩) hHeld24_24 ?_
                            rotate_left
                            · intro w hSw
                              (try dsimp only at hSw)
                              go_simp
                              try (first | (with_reducible rfl) | rfl)
                            try simp only [List.getElem_toArray, List.getElem_cons_zero, List.getElem_cons_succ, Act.put, List.setIfInBounds_toArray, List.set_cons_zero, List.set_cons_succ]
                            refine wpAnyH_take (i := 27) (v := ?_) rfl (by kernel_rfl) (by kernel_rfl) (by kernel_rfl) (fun _ _ _ h => h) (Or.inl ⟨by rfl, ?_⟩) hHeld24_24 ?_
                            rotate_left
                            · intro w hSw
                              (try dsimp only at hSw)
                              go_simp
                              try (first | (with_reducible rfl) | rfl)
                            try simp only [List.getElem_toArray, List.getElem_cons_zero, List.getElem_cons_succ, Act.put, List.setIfInBounds_toArray, List.set_cons_zero, List.set_cons_succ]
                            refine wpAnyH_done (by kernel_rfl) ?_ _
                            go_wp2
                            go_ret
                            exact ⟨rfl, (HT.out.below HBD.out).bel⟩
                          exact AllReadyH.nil
                        refine AllReadyH.cons rfl (fun K hK => ?_) ?_
                        · go_simp
                          (go_at_call 24; refine (slot_word 0 0 6 25769803776 _ (by decide) (by decide) (by decide) (by decide) (by decide) (by decide) (by decide)).mono ?_; rintro e w6 ⟨rfl, hb⟩; (have HZ3 := Lib.hid (HB4.out.trans (hb.mono HB4.out.size))); clear HB4; (have HB4 := HZ3); clear HZ3; (have HZ2 := Lib.hid (HBD.out.trans (hb.mono HBD.out.size))); clear hb HBD; (have HBD := HZ2); clear HZ2; (have kx := HRW.out _ HB4.out))
                          go_wp2_with fail
                          refine hK.out _ _ ?_ (fun hHeld23_24 => ?_)
                          · first | exact HCS.out _ HBD.out | exact HCS.out _ HBE.out
                          clear hK K
                          try simp only [List.getElem_toArray, List.getElem_cons_zero, List.getElem_cons_succ, Act.put, List.setIfInBounds_toArray, List.set_cons_zero, List.set_cons_succ]
                          refine wpAnyH_ready (rs := [23]) (by kernel_rfl) (by simp) ?_
                          refine AllReadyH.cons rfl (fun K hK => ?_) ?_
                          · go_simp
                            refine hK.out _ _ ?_ (fun hHeld24_23 => ?_)
                            · first | exact HCS.out _ HBD.out | exact HCS.out _ HBE.out
                            clear hK K
                            try simp only [List.getElem_toArray, List.getElem_cons_zero, List.getElem_cons_succ, Act.put, List.setIfInBounds_toArray, List.set_cons_zero, List.set_cons_succ]
                            refine wpAnyH_take (i := 25) (v := ?_) rfl (by kernel_rfl) (by kernel_rfl) (by kernel_rfl) (fun _ _ _ h => h) (Or.inl ⟨by rfl, ?_⟩) hHeld24_23 ?_
                            rotate_left
                            · intro w hSw
                              (try dsimp only at hSw)
                              go_simp
                              try (first | (with_reducible rfl) | rfl)
                            try simp only [List.getElem_toArray, List.getElem_cons_zero, List.getElem_cons_succ, Act.put, List.setIfInBounds_toArray, List.set_cons_zero, List.set_cons_succ]
                            refine wpAnyH_take (i := 26) (v := ?_) rfl (by kernel_rfl) (by kernel_rfl) (by kernel_rfl) (fun _ _ _ h => h) (Or.inl ⟨by rfl, ?_⟩) hHeld24_23 ?_
                            rotate_left
                            · intro w hSw
                              (try dsimp only at hSw)
                              go_simp
                              try (first | (with_reducible rfl) | rfl)
                            try simp only [List.getElem_toArray, List.getElem_cons_zero, List.getElem_cons_succ, Act.put, List.setIfInBounds_toArray, List.set_cons_zero, List.set_cons_succ]
                            refine wpAnyH_take (i := 27) (v := ?_) rfl (by kernel_rfl) (by kernel_rfl) (by kernel_rfl) (fun _ _ _ h => h) (Or.inl ⟨by rfl, ?_⟩) hHeld24_23 ?_
                            rotate_left
                            · intro w hSw
                              (try dsimp only at hSw)
                              go_simp
                              try (first | (with_reducible rfl) | rfl)
                            try simp only [List.getElem_toArray, List.getElem_cons_zero, List.getElem_cons_succ, Act.put, List.setIfInBounds_toArray, List.set_cons_zero, List.set_cons_succ]
                            refine wpAnyH_done (by kernel_rfl) ?_ _
                            go_wp2
                            go_ret
                            exact ⟨rfl, (HT.out.below HBD.out).bel⟩
                          exact AllReadyH.nil
                        exact AllReadyH.nil
                      exact AllReadyH.nil
                    exact AllReadyH.nil
                  exact AllReadyH.nil
                exact AllReadyH.nil
              exact AllReadyH.nil

set_option maxRecDepth 20000 in
set_option maxHeartbeats 16000000 in
theorem place_none (slots reach draw : Int) (push : Bool) (m m2 d n k wn N : Nat) (w : World) (hk1 : pickI slots 16 = (m : Int)) (hk2 : pickI reach n = (m2 : Int)) (hk3 : pickI draw 65 = (d : Int)) (hn : n = 1 + m) (hm : m < 16) (hkk : k = 1 + m2) (hkn : k ≤ n) (hN : N = 8 + n) (hd : 64 ≤ d) (hwd : wn = 0) (hwk : wn < k) (dd : List Int) (hde : dd = []) (hwn : drawI dd k = (wn : Int)) (hdd : DsOk dd) (hdr : (Al.ds dd k 6).length = 0)
    (p0 : -9223372036854775808 ≤ slots) (p1 : slots < 9223372036854775808) (p2 : -9223372036854775808 ≤ reach) (p3 : reach < 9223372036854775808) (p4 : -9223372036854775808 ≤ draw) (p5 : draw < 9223372036854775808) :
    Calls Try.prog 5 #[.int .i64 slots, .int .i64 reach, .int .i64 draw, .bool push] w fun z w' => z = .returned (.bool true) ∧ Below w.heap.size w w' := by
  have e5 : decide ((d : Int) < 64) = false := decide_eq_false (by omega)
  have HOK : Hid (okC ((3 : Nat) : Int) (n : Int) ((0 : Nat) : Int) = true) := Lib.hid (okC3 (by omega))
  have HN : Hid (N = 2 + 2 * 3 + n + 0) := Lib.hid (by omega)
  have HK1 := Lib.hid hk1
  have HK2 := Lib.hid hk2
  have HK3 := Lib.hid hk3
  have e1 : 1 + (m : Int) = (n : Int) := by omega
  have e2 : 1 + (m2 : Int) = (k : Int) := by omega
  have n0 : (0 : Int) < (n : Int) := by omega
  have n1 : (n : Int) < 9223372036854775808 := by omega
  have hfit : (newEM 3 n 0 5 k 0 push 1 3 2).fit = true := EM.fit_iff.2 ⟨okC3 (by omega), by simp [newEM]; omega, pOk_iff.2 ⟨by simp [newEM], by simp only [newEM]; omega, by simp only [newEM]; omega, by simp only [newEM]; omega, by simp [newEM], by simp [newEM]⟩⟩
  have hat : atI (newEM 3 n 0 5 k 0 push 1 3 2).n (newEM 3 n 0 5 k 0 push 1 3 2).s (newEM 3 n 0 5 k 0 push 1 3 2).h 1 (drawI dd (newEM 3 n 0 5 k 0 push 1 3 2).rg) = ((8 + wn : Nat) : Int) := by
    show atI (3 : Int) n 0 1 (drawI dd k) = _
    rw [hwn]
    exact at3 (by omega) (by omega)
  have hfr : rdW (frL 21474836480 3 3 n N) (8 + wn) = 21474836480 := fr_slot (by omega) (by omega)
  have HFI : Hid ((newEM 3 n 0 5 k 0 push 1 3 2).first 0 dd = (⟨8 + wn, push, 1, 2, 3, 3, 21474836480⟩ : Al).V 0) := Lib.hid (by
    unfold EM.first
    rw [hat]
    rfl)
  have HST : Hid (∀ i, i ≤ 5 → ((⟨8 + wn, push, 1, 2, 3, 3, 21474836480⟩ : Al).E (newEM 3 n 0 5 k 0 push 1 3 2) i).step ((⟨8 + wn, push, 1, 2, 3, 3, 21474836480⟩ : Al).W (frL 21474836480 3 3 n N) i) 0 (Al.ds dd k i) = ⟨if i = 3 + 2 then 4 else 0, 0, (⟨8 + wn, push, 1, 2, 3, 3, 21474836480⟩ : Al).E (newEM 3 n 0 5 k 0 push 1 3 2) (i + 1), (⟨8 + wn, push, 1, 2, 3, 3, 21474836480⟩ : Al).W (frL 21474836480 3 3 n N) (i + 1), [(⟨8 + wn, push, 1, 2, 3, 3, 21474836480⟩ : Al).nt i], Al.ds dd k (i + 1)⟩) := Lib.hid (fun i hi =>
    Al.stepE (⟨8 + wn, push, 1, 2, 3, 3, 21474836480⟩ : Al) (S := (newEM 3 n 0 5 k 0 push 1 3 2)) (ds := dd) (now := 0) hfr (by rw [frL_len]; show 8 + wn < N; omega) (show sSt 21474836480 = 0 by decide) (show 1 ≤ 3 by decide) rfl rfl hfit hat (.inl HFI.out) hi ⟨fun j h1 h2 => ⟨show (j : Int) + 1 < max 3 1 by have h3 : j + 1 < 3 := h2; omega, show (0 : Int) < 2 by decide⟩, fun h1 => .inl (show max (3 : Int) 1 ≤ ((3 : Nat) : Int) by decide)⟩)
  have HG0 : Hid (EGood N 0 ((⟨8 + wn, push, 1, 2, 3, 3, 21474836480⟩ : Al).E (newEM 3 n 0 5 k 0 push 1 3 2) 0) ((⟨8 + wn, push, 1, 2, 3, 3, 21474836480⟩ : Al).W (frL 21474836480 3 3 n N) 0) ((⟨8 + wn, push, 1, 2, 3, 3, 21474836480⟩ : Al).ns 0) (Al.ds dd k 0)) := Lib.hid ⟨newEM_ok N 0 (by decide) (by decide) (by decide) (by decide) (by decide) (by decide), frL_len _ _ _ _ _, hdd, Nat.le_refl _⟩
  have HDL : Hid ((Al.ds dd k 6).length = 0) := Lib.hid hdr
  have HAT : Hid (atI (3 : Int) n 0 1 0 = ((8 + wn : Nat) : Int)) := Lib.hid (by have := at3 (n := n) (k := 0) (by omega) (by omega); rw [hwd]; exact this)
  have HEP : Hid (((⟨8 + wn, push, 1, 2, 3, 3, 21474836480⟩ : Al).E (newEM 3 n 0 5 k 0 push 1 3 2) 6).pl = ((8 + wn : Nat) : Int)) := Lib.hid rfl
  have hW6 : rdW ((⟨8 + wn, push, 1, 2, 3, 3, 21474836480⟩ : Al).W (frL 21474836480 3 3 n N) 6) (8 + wn) = 25769803776 := by
    have e : (⟨8 + wn, push, 1, 2, 3, 3, 21474836480⟩ : Al).W (frL 21474836480 3 3 n N) 6 = ((frL 21474836480 3 3 n N).set (8 + wn) (⟨8 + wn, push, 1, 2, 3, 3, 21474836480⟩ : Al).v).set (8 + wn) (sClear (⟨8 + wn, push, 1, 2, 3, 3, 21474836480⟩ : Al).v) := rfl
    rw [e, rdW_set _ _ _ (by rw [List.length_set, frL_len]; omega)]
    show sClear (sOffer 21474836480 push 1) = _
    cases push <;> decide
  have HW6 := Lib.hid hW6
  have HWL : Hid (((⟨8 + wn, push, 1, 2, 3, 3, 21474836480⟩ : Al).W (frL 21474836480 3 3 n N) 6).length = N) := Lib.hid (by rw [Al.W_len, frL_len])
  obtain ⟨sl, hsl⟩ : ∃ sl : Nat, 8 + wn = sl := ⟨_, rfl⟩
  have HSL := Lib.hid hsl
  have sl0 : (0 : Int) ≤ (sl : Int) := by omega
  have sl1 : (sl : Int) < (N : Int) := by omega
  clear hk1 hk2 hk3 hat hfr hwn hdd hdr hN hfit hW6 hsl hn hkk
  subst hde
  have H := Lib.hid (St.nil w)
  go_enter Try.func5, Try.ntmps5
  go_wp2_with (first | ((have _h := H7); go_at_call 10; refine (pick_is draw 65 (d : Int) _ HK3.out (by decide) (by decide) p4 p5).mono ?_; rintro e w8 ⟨rfl, rfl⟩; (have H8 := Lib.hid (H7.out)); clear q0 q1 q2 q3; (obtain ⟨q0, q1, q2, q3⟩ := cells4 (H8.out.cells 3 rfl)); clear _h) | ((have _h := H6); go_at_call 19; refine (e_placeV H6.out 2 rfl (-1) rfl).mono ?_; rintro e w7 ⟨rfl, rfl⟩; (have H7 := Lib.hid (H6.out)); clear q0 q1 q2 q3; (obtain ⟨q0, q1, q2, q3⟩ := cells4 (H7.out.cells 3 rfl)); clear _h) | ((have _h := H5); go_at_call 13; refine (em_new 3 n 0 5 k 0 push 1 3 2 H5.out).mono ?_; rintro e w6 ⟨p, rfl, h⟩; (have H6 := Lib.hid (h)); clear h; clear q0 q1 q2 q3; (obtain ⟨q0, q1, q2, q3⟩ := cells4 (H6.out.cells 3 rfl)); clear _h) | ((have _h := H4); go_at_call 10; refine (pick_is reach n (m2 : Int) _ HK2.out n0 n1 p2 p3).mono ?_; rintro e w5 ⟨rfl, rfl⟩; (have H5 := Lib.hid (H4.out)); clear q0 q1 q2 q3; (obtain ⟨q0, q1, q2, q3⟩ := cells4 (H5.out.cells 2 rfl)); clear _h) | ((have _h := H3); go_at_call 12; refine (src_new H3.out).mono ?_; rintro e w4 ⟨r, rfl, h⟩; (have H4 := Lib.hid (h.swap)); clear h; clear q0 q1 q2 q3; (obtain ⟨q0, q1, q2, q3⟩ := cells4 (H4.out.cells 2 rfl)); clear _h) | ((have _h := H2); go_at_call 11; refine (begun_ok 3 n 0 5 21474836480 N (H2.out.alloc #[.int .i64 3, .int .i64 n, .int .i64 0, .int .u32 5] 28) HOK.out HN.out (by decide) (by decide) (by decide)).mono ?_; rintro e w3 ⟨q, rfl, h⟩; (have H3 := Lib.hid (h)); clear h; (obtain ⟨q0, q1, q2, q3⟩ := cells4 (H3.out.cells 1 rfl)); clear _h) | ((have _h := H1); go_at_call 10; refine (pick_is slots 16 (m : Int) _ HK1.out (by decide) (by decide) p0 p1).mono ?_; rintro e w2 ⟨rfl, rfl⟩; (have H2 := Lib.hid (H1.out)); clear _h) | ((have _h := H); go_at_call 9; refine (shown12 _).mono ?_; rintro e w1 ⟨rfl, hb⟩; (have H1 := Lib.hid (H.out.below hb)); clear hb; clear _h))
  have HS0 : Hid (St w (memA q ((⟨8 + wn, push, 1, 2, 3, 3, 21474836480⟩ : Al).W (frL 21474836480 3 3 n N) 0) ((⟨8 + wn, push, 1, 2, 3, 3, 21474836480⟩ : Al).ns 0) :: srcA r 0 (Al.ds [] k 0) :: emA p ((⟨8 + wn, push, 1, 2, 3, 3, 21474836480⟩ : Al).E (newEM 3 n 0 5 k 0 push 1 3 2) 0) :: [boxA w1.heap.size #[.int .i64 3, .int .i64 n, .int .i64 0, .int .u32 5] 28]) w6) := Lib.hid H8.out
  generalize w1.heap.size = bb at *
  clear H1 H2 H3 H4 H5 H6 H7 H8 q0 q1 q2 q3
  go_loopg [18] 11 (fun kq z w' => ∃ i : Nat, z = .int .i64 i ∧ i ≤ 5 ∧ i + kq = 11 ∧ EGood N i ((⟨8 + wn, push, 1, 2, 3, 3, 21474836480⟩ : Al).E (newEM 3 n 0 5 k 0 push 1 3 2) i) ((⟨8 + wn, push, 1, 2, 3, 3, 21474836480⟩ : Al).W (frL 21474836480 3 3 n N) i) ((⟨8 + wn, push, 1, 2, 3, 3, 21474836480⟩ : Al).ns i) (Al.ds [] k i) ∧ St w (memA q ((⟨8 + wn, push, 1, 2, 3, 3, 21474836480⟩ : Al).W (frL 21474836480 3 3 n N) i) ((⟨8 + wn, push, 1, 2, 3, 3, 21474836480⟩ : Al).ns i) :: srcA r 0 (Al.ds [] k i) :: emA p ((⟨8 + wn, push, 1, 2, 3, 3, 21474836480⟩ : Al).E (newEM 3 n 0 5 k 0 push 1 3 2) i) :: [boxA bb #[.int .i64 3, .int .i64 n, .int .i64 0, .int .u32 5] 28]) w')
  case atStart => exact ⟨0, rfl, by decide, by decide, HG0.out, HS0.out⟩
  case round =>
    obtain ⟨i, rfl, hi, hkq, hg, hS⟩ := hrel
    clear HS0 HG0
    have HS := Lib.hid hS
    have c10 : decide ((i : Int) < 10) = true := decide_eq_true (by omega)
    obtain ⟨a0, ha0⟩ : ∃ a0 : Int, (if i = 3 + 2 then (4 : Int) else 0) = a0 := ⟨_, rfl⟩
    have HE := Lib.hid (HST.out i hi)
    rw [ha0] at HE
    have HGN : Hid (EGood N (i + 1) ((⟨8 + wn, push, 1, 2, 3, 3, 21474836480⟩ : Al).E (newEM 3 n 0 5 k 0 push 1 3 2) (i + 1)) ((⟨8 + wn, push, 1, 2, 3, 3, 21474836480⟩ : Al).W (frL 21474836480 3 3 n N) (i + 1)) ((⟨8 + wn, push, 1, 2, 3, 3, 21474836480⟩ : Al).ns (i + 1)) (Al.ds [] k (i + 1))) := Lib.hid (by
      have := hg.step (by decide) (by decide) (fun j hj => hS.rng hj) (HST.out i hi)
      rw [Al.ns_succ] at this
      exact this)
    have HOKS : Hid (((⟨8 + wn, push, 1, 2, 3, 3, 21474836480⟩ : Al).E (newEM 3 n 0 5 k 0 push 1 3 2) i).ok ((⟨8 + wn, push, 1, 2, 3, 3, 21474836480⟩ : Al).W (frL 21474836480 3 3 n N) i).length ((⟨8 + wn, push, 1, 2, 3, 3, 21474836480⟩ : Al).ns i).length) := Lib.hid (by rw [hg.len]; exact hg.ok)
    have HDS := Lib.hid hg.ds
    have hkl : ((⟨8 + wn, push, 1, 2, 3, 3, 21474836480⟩ : Al).ns i).length ≤ 1000000000000 := by rw [Al.ns_len]; omega
    have HNS := Lib.hid (Al.ns_succ (⟨8 + wn, push, 1, 2, 3, 3, 21474836480⟩ : Al) i)
    cases gk with
    | zero => omega
    | succ kk =>
      by_cases c4 : i < 5
      · have ea : a0 = 0 := by rw [← ha0, if_neg (by omega)]
        subst ea
        clear hS hg ha0
        go_wp2_with (go_at_call 15; refine (estep HE.out HNS.out HS.out HOKS.out HDS.out (by decide) (by decide) hkl).mono ?_; rintro e w8 ⟨rfl, h⟩; (have HT := Lib.hid h); clear h)
        go_roundg kk
        case measure => omega
        case rel => exact ⟨i + 1, rfl, by omega, by omega, HGN.out, HT.out⟩
      · obtain rfl : i = 5 := by omega
        have ea : a0 = 4 := by rw [← ha0]; rfl
        subst ea
        clear hS hg ha0
        go_wp2_with (first | (go_at_call 15; refine (estep HE.out HNS.out HS.out HOKS.out HDS.out (by decide) (by decide) hkl).mono ?_; rintro e w8 ⟨rfl, h⟩; (have HT0 := Lib.hid h); clear h) | ((have _h := HT0); go_at_call 22; refine (since_st HT0.out 0 0 6 (by rw [Al.ns_len]; decide) (.inr (.inr ⟨rfl, Nat.zero_le _⟩)) rfl).mono ?_; rintro e w9 ⟨al, cl, rfl, h⟩; (have HT1 := Lib.hid h); clear h _h))
        obtain ⟨gl, cl', hel⟩ := row_some (HT1.out.rowOf 0 rfl) (by decide)
        cases hel
        have HT : Hid (St w (rowG gl cl 51 5 6 (noteCells ((⟨8 + wn, push, 1, 2, 3, 3, 21474836480⟩ : Al).ns 6)) :: (memA q ((⟨8 + wn, push, 1, 2, 3, 3, 21474836480⟩ : Al).W (frL 21474836480 3 3 n N) 6) ((⟨8 + wn, push, 1, 2, 3, 3, 21474836480⟩ : Al).ns 6) :: srcA r 0 (Al.ds [] k 6) :: emA p ((⟨8 + wn, push, 1, 2, 3, 3, 21474836480⟩ : Al).E (newEM 3 n 0 5 k 0 push 1 3 2) 6) :: [boxA bb #[.int .i64 3, .int .i64 n, .int .i64 0, .int .u32 5] 28])) w9) := HT1
        have HRL : Hid (∀ j w', j < 6 → Below w9.heap.size w9 w' → w'.cell? ⟨gl, j * 5 + 1, none⟩ = some (.int .i64 sl)) := Lib.hid (fun j w' hj hb => by
          have := ((HT.out.below hb).at_ 0 rfl (j * 5 + 1) (al6 _ _ _ j hj)).1
          rw [HSL.out] at this
          exact this)
        have HCS : Hid (∀ w', Below w9.heap.size w9 w' → w'.cell? ⟨bb, 0, none⟩ = some (.int .i64 3) ∧ w'.cell? ⟨bb, 1, none⟩ = some (.int .i64 n) ∧ w'.cell? ⟨bb, 2, none⟩ = some (.int .i64 0) ∧ w'.cell? ⟨bb, 3, none⟩ = some (.int .u32 5)) := Lib.hid (fun w' hb => cells4 ((HT.out.below hb).cells 4 rfl))
        clear HT1 HT0 HS
        go_loopg [22] 7 (fun kq z w' => ∃ j : Nat, z = .int .i64 j ∧ j ≤ 6 ∧ j + kq = 7 ∧ Below w9.heap.size w9 w')
        case atStart => exact ⟨0, rfl, by decide, by decide, Below.refl _ _⟩
        case round =>
          obtain ⟨j, rfl, hj, hkq2, hbe⟩ := hrel
          have HBE := Lib.hid hbe
          have HBD := Lib.hid hbe.drew
          cases gk with
          | zero => omega
          | succ k2 =>
            by_cases c5 : j < 6
            · have c5b : decide ((j : Int) < 6) = true := decide_eq_true (by omega)
              have j0 : (0 : Int) ≤ (j : Int) := by omega
              have j1 : (j : Int) < (6 : Int) := by omega
              clear hbe
              go_wp2
              go_region_held3 (fun w' => w'.cell? ⟨bb, 0, none⟩ = some (.int .i64 3) ∧ w'.cell? ⟨bb, 1, none⟩ = some (.int .i64 n) ∧ w'.cell? ⟨bb, 2, none⟩ = some (.int .i64 0) ∧ w'.cell? ⟨bb, 3, none⟩ = some (.int .u32 5) ∧ w'.cell? ⟨gl, j * 5 + 1, none⟩ = some (.int .i64 sl)) (first | exact ⟨(HCS.out _ HBD.out).1, (HCS.out _ HBD.out).2.1, (HCS.out _ HBD.out).2.2.1, (HCS.out _ HBD.out).2.2.2, HRL.out j _ c5 HBD.out⟩ | exact ⟨(HCS.out _ HBE.out).1, (HCS.out _ HBE.out).2.1, (HCS.out _ HBE.out).2.2.1, (HCS.out _ HBE.out).2.2.2, HRL.out j _ c5 HBE.out⟩) ((go_at_call 23; refine (slot_any 3 n 0 5 0 _).mono ?_; rintro e w' ⟨rfl, hb⟩; rw [HAT.out, HSL.out]; (have HZ2 := Lib.hid (HBD.out.trans (hb.mono HBD.out.size))); clear hb HBD; (have HBD := HZ2); clear HZ2))
              all_goals go_wp2
              all_goals go_roundg k2
              all_goals first | omega | exact ⟨j + 1, rfl, by omega, by omega, HBD.out⟩
            · have c5b : decide ((j : Int) < 6) = false := decide_eq_false (by omega)
              clear hbe
              go_wp2
              refine wp_region_held_drew (S := (fun w' => w'.cell? ⟨bb, 0, none⟩ = some (.int .i64 3) ∧ w'.cell? ⟨bb, 1, none⟩ = some (.int .i64 n) ∧ w'.cell? ⟨bb, 2, none⟩ = some (.int .i64 0) ∧ w'.cell? ⟨bb, 3, none⟩ = some (.int .u32 5))) (by kernel_rfl) ?_ (fun hHeld0 => ?_)
              · first | exact HCS.out _ HBD.out | exact HCS.out _ HBE.out
              refine wpAnyH_take (i := 0) (v := ?_) rfl (by kernel_rfl) (by kernel_rfl) (by kernel_rfl) (fun _ _ _ h => h) (Or.inl ⟨by rfl, ?_⟩) hHeld0 ?_
              rotate_left
              · intro w hSw
                (try dsimp only at hSw)
                go_simp
                try (first | (with_reducible rfl) | rfl)
              try simp only [List.getElem_toArray, List.getElem_cons_zero, List.getElem_cons_succ, Act.put, List.setIfInBounds_toArray, List.set_cons_zero, List.set_cons_succ]
              refine wpAnyH_take (i := 1) (v := ?_) rfl (by kernel_rfl) (by kernel_rfl) (by kernel_rfl) (fun _ _ _ h => h) (Or.inl ⟨by rfl, ?_⟩) hHeld0 ?_
              rotate_left
              · intro w hSw
                (try dsimp only at hSw)
                go_simp
                try (first | (with_reducible rfl) | rfl)
              try simp only [List.getElem_toArray, List.getElem_cons_zero, List.getElem_cons_succ, Act.put, List.setIfInBounds_toArray, List.set_cons_zero, List.set_cons_succ]
              refine wpAnyH_take (i := 2) (v := ?_) rfl (by kernel_rfl) (by kernel_rfl) (by kernel_rfl) (fun _ _ _ h => h) (Or.inl ⟨by rfl, ?_⟩) hHeld0 ?_
              rotate_left
              · intro w hSw
                (try dsimp only at hSw)
                go_simp
                try (first | (with_reducible rfl) | rfl)
              try simp only [List.getElem_toArray, List.getElem_cons_zero, List.getElem_cons_succ, Act.put, List.setIfInBounds_toArray, List.set_cons_zero, List.set_cons_succ]
              refine wpAnyH_take (i := 3) (v := ?_) rfl (by kernel_rfl) (by kernel_rfl) (by kernel_rfl) (fun _ _ _ h => h) (Or.inl ⟨by rfl, ?_⟩) hHeld0 ?_
              rotate_left
              · intro w hSw
                (try dsimp only at hSw)
                go_simp
                try (first | (with_reducible rfl) | rfl)
              try simp only [List.getElem_toArray, List.getElem_cons_zero, List.getElem_cons_succ, Act.put, List.setIfInBounds_toArray, List.set_cons_zero, List.set_cons_succ]
              refine wpAnyH_take (i := 4) (v := ?_) rfl (by kernel_rfl) (by kernel_rfl) (by kernel_rfl) (fun _ _ _ h => h) (Or.inl ⟨by rfl, ?_⟩) hHeld0 ?_
              rotate_left
              · intro w hSw
                (try dsimp only at hSw)
                go_simp
                try (first | (with_reducible rfl) | rfl)
              try simp only [List.getElem_toArray, List.getElem_cons_zero, List.getElem_cons_succ, Act.put, List.setIfInBounds_toArray, List.set_cons_zero, List.set_cons_succ]
              refine wpAnyH_take (i := 6) (v := ?_) rfl (by kernel_rfl) (by kernel_rfl) (by kernel_rfl) (fun _ _ _ h => h) (Or.inl ⟨by rfl, ?_⟩) hHeld0 ?_
              rotate_left
              · intro w hSw
                (try dsimp only at hSw)
                go_simp
                try (first | (with_reducible rfl) | rfl)
              try simp only [List.getElem_toArray, List.getElem_cons_zero, List.getElem_cons_succ, Act.put, List.setIfInBounds_toArray, List.set_cons_zero, List.set_cons_succ]
              refine wpAnyH_take (i := 7) (v := ?_) rfl (by kernel_rfl) (by kernel_rfl) (by kernel_rfl) (fun _ _ _ h => h) (Or.inl ⟨by rfl, ?_⟩) hHeld0 ?_
              rotate_left
              · intro w hSw
                (try dsimp only at hSw)
                go_simp
                try (first | (with_reducible rfl) | rfl)
              try simp only [List.getElem_toArray, List.getElem_cons_zero, List.getElem_cons_succ, Act.put, List.setIfInBounds_toArray, List.set_cons_zero, List.set_cons_succ]
              refine wpAnyH_ready (rs := [5]) (by kernel_rfl) (by simp) ?_
              refine AllReadyH.cons rfl (fun K hK => ?_) ?_
              · go_simp
                (go_at_call 19; refine (e_placeV ((HT.out.below HBD.out).tail) 2 rfl (sl : Int) (HEP.out.trans (by rw [HSL.out]))).mono ?_; rintro e w' ⟨rfl, rfl⟩)
                go_wp2_with fail
                refine hK.out _ _ ?_ (fun hHeld7_5 => ?_)
                · first | exact HCS.out _ HBD.out | exact HCS.out _ HBE.out
                clear hK K
                try simp only [List.getElem_toArray, List.getElem_cons_zero, List.getElem_cons_succ, Act.put, List.setIfInBounds_toArray, List.set_cons_zero, List.set_cons_succ]
                refine wpAnyH_ready (rs := [8]) (by kernel_rfl) (by simp) ?_
                refine AllReadyH.cons rfl (fun K hK => ?_) ?_
                · go_simp
                  (go_at_call 23; refine (slot_any 3 n 0 5 0 _).mono ?_; rintro e w' ⟨rfl, hb⟩; rw [HAT.out, HSL.out]; (have HZ2 := Lib.hid (HBD.out.trans (hb.mono HBD.out.size))); clear hb HBD; (have HBD := HZ2); clear HZ2)
                  go_wp2_with fail
                  refine hK.out _ _ ?_ (fun hHeld8_8 => ?_)
                  · first | exact HCS.out _ HBD.out | exact HCS.out _ HBE.out
                  clear hK K
                  try simp only [List.getElem_toArray, List.getElem_cons_zero, List.getElem_cons_succ, Act.put, List.setIfInBounds_toArray, List.set_cons_zero, List.set_cons_succ]
                  refine wpAnyH_take (i := 9) (v := ?_) rfl (by kernel_rfl) (by kernel_rfl) (by kernel_rfl) (fun _ _ _ h => h) (Or.inl ⟨by rfl, ?_⟩) hHeld8_8 ?_
                  rotate_left
                  · intro w hSw
                    (try dsimp only at hSw)
                    go_simp
                    try (first | (with_reducible rfl) | rfl)
                  try simp only [List.getElem_toArray, List.getElem_cons_zero, List.getElem_cons_succ, Act.put, List.setIfInBounds_toArray, List.set_cons_zero, List.set_cons_succ]
                  refine wpAnyH_take (i := 10) (v := ?_) rfl (by kernel_rfl) (by kernel_rfl) (by kernel_rfl) (fun _ _ _ h => h) (Or.inl ⟨by rfl, ?_⟩) hHeld8_8 ?_
                  rotate_left
                  · intro w hSw
                    (try dsimp only at hSw)
                    go_simp
                    try (first | (with_reducible rfl) | rfl)
                  try simp only [List.getElem_toArray, List.getElem_cons_zero, List.getElem_cons_succ, Act.put, List.setIfInBounds_toArray, List.set_cons_zero, List.set_cons_succ]
                  refine wpAnyH_take (i := 11) (v := ?_) rfl (by kernel_rfl) (by kernel_rfl) (by kernel_rfl) (fun _ _ _ h => h) (Or.inl ⟨by rfl, ?_⟩) hHeld8_8 ?_
                  rotate_left
                  · intro w hSw
                    (try dsimp only at hSw)
                    go_simp
                    try (first | (with_reducible rfl) | rfl)
                  try simp only [List.getElem_toArray, List.getElem_cons_zero, List.getElem_cons_succ, Act.put, List.setIfInBounds_toArray, List.set_cons_zero, List.set_cons_succ]
                  refine wpAnyH_take (i := 12) (v := ?_) rfl (by kernel_rfl) (by kernel_rfl) (by kernel_rfl) (fun _ _ _ h => h) (Or.inl ⟨by rfl, ?_⟩) hHeld8_8 ?_
                  rotate_left
                  · intro w hSw
                    (try dsimp only at hSw)
                    go_simp
                    try (first | (with_reducible rfl) | rfl)
                  try simp only [List.getElem_toArray, List.getElem_cons_zero, List.getElem_cons_succ, Act.put, List.setIfInBounds_toArray, List.set_cons_zero, List.set_cons_succ]
                  refine wpAnyH_ready (rs := [13]) (by kernel_rfl) (by simp) ?_
                  refine AllReadyH.cons rfl (fun K hK => ?_) ?_
                  · go_simp
                    (go_at_call 17; refine (src_left 0 ((HT.out.below HBD.out).front 2 rfl) HDL.out).mono ?_; rintro e w' ⟨rfl, rfl⟩)
                    go_wp2_with fail
                    refine hK.out _ _ ?_ (fun hHeld13_13 => ?_)
                    · first | exact HCS.out _ HBD.out | exact HCS.out _ HBE.out
                    clear hK K
                    try simp only [List.getElem_toArray, List.getElem_cons_zero, List.getElem_cons_succ, Act.put, List.setIfInBounds_toArray, List.set_cons_zero, List.set_cons_succ]
                    refine wpAnyH_take (i := 14) (v := ?_) rfl (by kernel_rfl) (by kernel_rfl) (by kernel_rfl) (fun _ _ _ h => h) (Or.inl ⟨by rfl, ?_⟩) hHeld13_13 ?_
                    rotate_left
                    · intro w hSw
                      (try dsimp only at hSw)
                      go_simp
                      try (first | (with_reducible rfl) | rfl)
                    try simp only [List.getElem_toArray, List.getElem_cons_zero, List.getElem_cons_succ, Act.put, List.setIfInBounds_toArray, List.set_cons_zero, List.set_cons_succ]
                    refine wpAnyH_take (i := 15) (v := ?_) rfl (by kernel_rfl) (by kernel_rfl) (by kernel_rfl) (fun _ _ _ h => h) (Or.inl ⟨by rfl, ?_⟩) hHeld13_13 ?_
                    rotate_left
                    · intro w hSw
                      (try dsimp only at hSw)
                      go_simp
                      try (first | (with_reducible rfl) | rfl)
                    try simp only [List.getElem_toArray, List.getElem_cons_zero, List.getElem_cons_succ, Act.put, List.setIfInBounds_toArray, List.set_cons_zero, List.set_cons_succ]
                    refine wpAnyH_take (i := 16) (v := ?_) rfl (by kernel_rfl) (by kernel_rfl) (by kernel_rfl) (fun _ _ _ h => h) (Or.inl ⟨by rfl, ?_⟩) hHeld13_13 ?_
                    rotate_left
                    · intro w hSw
                      (try dsimp only at hSw)
                      go_simp
                      try (first | (with_reducible rfl) | rfl)
                    try simp only [List.getElem_toArray, List.getElem_cons_zero, List.getElem_cons_succ, Act.put, List.setIfInBounds_toArray, List.set_cons_zero, List.set_cons_succ]
                    refine wpAnyH_take (i := 17) (v := ?_) rfl (by kernel_rfl) (by kernel_rfl) (by kernel_rfl) (fun _ _ _ h => h) (Or.inl ⟨by rfl, ?_⟩) hHeld13_13 ?_
                    rotate_left
                    · intro w hSw
                      (try dsimp only at hSw)
                      go_simp
                      try (first | (with_reducible rfl) | rfl)
                    try simp only [List.getElem_toArray, List.getElem_cons_zero, List.getElem_cons_succ, Act.put, List.setIfInBounds_toArray, List.set_cons_zero, List.set_cons_succ]
                    refine wpAnyH_take (i := 19) (v := ?_) rfl (by kernel_rfl) (by kernel_rfl) (by kernel_rfl) (fun _ _ _ h => h) (Or.inl ⟨by rfl, ?_⟩) hHeld13_13 ?_
                    rotate_left
                    · intro w hSw
                      (try dsimp only at hSw)
                      go_simp
                      try (first | (with_reducible rfl) | rfl)
                    try simp only [List.getElem_toArray, List.getElem_cons_zero, List.getElem_cons_succ, Act.put, List.setIfInBounds_toArray, List.set_cons_zero, List.set_cons_succ]
                    refine wpAnyH_take (i := 20) (v := ?_) rfl (by kernel_rfl) (by kernel_rfl) (by kernel_rfl) (fun _ _ _ h => h) (Or.inl ⟨by rfl, ?_⟩) hHeld13_13 ?_
                    rotate_left
                    · intro w hSw
                      (try dsimp only at hSw)
                      go_simp
                      try (first | (with_reducible rfl) | rfl)
                    try simp only [List.getElem_toArray, List.getElem_cons_zero, List.getElem_cons_succ, Act.put, List.setIfInBounds_toArray, List.set_cons_zero, List.set_cons_succ]
                    refine wpAnyH_ready (rs := [18]) (by kernel_rfl) (by simp) ?_
                    refine AllReadyH.cons rfl (fun K hK => ?_) ?_
                    · go_simp
                      (go_at_call 21; refine (words_pos N ((HT.out.below HBD.out).tail) HWL.out (by omega)).mono ?_; rintro e w4 ⟨gw, cw, rfl, hcw, _, _, hb⟩; (have HRW := Lib.hid (show ∀ w', Below w4.heap.size w4 w' → w'.cell? ⟨gw, sl, none⟩ = some (.int .u64 25769803776) from fun w' hb => by have := hcw sl (by omega); rw [← HSL.out, HW6.out] at this; rw [← HSL.out]; exact (hb.cell (World.block_lt_of_cell? _ _ this)).trans this)); (have HB4 := Lib.hid (Below.refl w4.heap.size w4)); clear hcw; (have HZ2 := Lib.hid (HBD.out.trans (hb.mono HBD.out.size))); clear hb HBD; (have HBD := HZ2); clear HZ2)
                      go_wp2_with fail
                      refine hK.out _ _ ?_ (fun hHeld20_18 => ?_)
                      · first | exact HCS.out _ HBD.out | exact HCS.out _ HBE.out
                      clear hK K
                      try simp only [List.getElem_toArray, List.getElem_cons_zero, List.getElem_cons_succ, Act.put, List.setIfInBounds_toArray, List.set_cons_zero, List.set_cons_succ]
                      refine wpAnyH_ready (rs := [21]) (by kernel_rfl) (by simp) ?_
                      refine AllReadyH.cons rfl (fun K hK => ?_) ?_
                      · go_simp
                        (go_at_call 23; refine (slot_any 3 n 0 5 0 _).mono ?_; rintro e w' ⟨rfl, hb⟩; rw [HAT.out, HSL.out]; (have HZ3 := Lib.hid (HB4.out.trans (hb.mono HB4.out.size))); clear HB4; (have HB4 := HZ3); clear HZ3; (have HZ2 := Lib.hid (HBD.out.trans (hb.mono HBD.out.size))); clear hb HBD; (have HBD := HZ2); clear HZ2; (have kx := HRW.out _ HB4.out))
                        go_wp2_with fail
                        refine hK.out _ _ ?_ (fun hHeld21_21 => ?_)
                        · first | exact HCS.out _ HBD.out | exact HCS.out _ HBE.out
                        clear hK K
                        try simp only [List.getElem_toArray, List.getElem_cons_zero, List.getElem_cons_succ, Act.put, List.setIfInBounds_toArray, List.set_cons_zero, List.set_cons_succ]
                        refine wpAnyH_take (i := 22) (v := ?_) rfl (by kernel_rfl) (by kernel_rfl) (by kernel_rfl) (fun _ _ _ h => h) (Or.inl ⟨by rfl, ?_⟩) hHeld21_21 ?_
                        rotate_left
                        · intro w hSw
                          (try dsimp only at hSw)
                          go_simp
                          try (first | (with_reducible rfl) | rfl)
                        try simp only [List.getElem_toArray, List.getElem_cons_zero, List.getElem_cons_succ, Act.put, List.setIfInBounds_toArray, List.set_cons_zero, List.set_cons_succ]
                        refine wpAnyH_ready (rs := [23, 24]) (by kernel_rfl) (by simp) ?_
                        refine AllReadyH.cons rfl (fun K hK => ?_) ?_
                        · go_simp
                          refine hK.out _ _ ?_ (fun hHeld23_23 => ?_)
                          · first | exact HCS.out _ HBD.out | exact HCS.out _ HBE.out
                          clear hK K
                          try simp only [List.getElem_toArray, List.getElem_cons_zero, List.getElem_cons_succ, Act.put, List.setIfInBounds_toArray, List.set_cons_zero, List.set_cons_succ]
                          refine wpAnyH_ready (rs := [24]) (by kernel_rfl) (by simp) ?_
                          refine AllReadyH.cons rfl (fun K hK => ?_) ?_
                          · go_simp
                            (go_at_call 24; refine (slot_word 0 0 6 25769803776 _ (by decide) (by decide) (by decide) (by decide) (by decide) (by decide) (by decide)).mono ?_; rintro e w6 ⟨rfl, hb⟩; (have HZ3 := Lib.hid (HB4.out.trans (hb.mono HB4.out.size))); clear HB4; (have HB4 := HZ3); clear HZ3; (have HZ2 := Lib.hid (HBD.out.trans (hb.mono HBD.out.size))); clear hb HBD; (have HBD := HZ2); clear HZ2; (have kx := HRW.out _ HB4.out))
                            go_wp2_with fail
                            refine hK.out _ _ ?_ (fun hHeld24_24 => ?_)
                            · first | exact HCS.out _ HBD.out | exact HCS.out _ HBE.out
                            clear hK K
                            try simp only [List.getElem_toArray, List.getElem_cons_zero, List.getElem_cons_succ, Act.put, List.setIfInBounds_toArray, List.set_cons_zero, List.set_cons_succ]
                            refine wpAnyH_take (i := 25) (v := ?_) rfl (by kernel_rfl) (by kernel_rfl) (by kernel_rfl) (fun _ _ _ h => h) (Or.inl ⟨by rfl, ?_⟩) hHeld24_24 ?_
                            rotate_left
                            · intro w hSw
                              (try dsimp only at hSw)
                              go_simp
                              try (first | (with_reducible rfl) | rfl)
                            try simp only [List.getElem_toArray, List.getElem_cons_zero, List.getElem_cons_succ, Act.put, List.setIfInBounds_toArray, List.set_cons_zero, List.set_cons_succ]
                            refine wpAnyH_take (i := 26) (v := ?_) rfl (by kernel_rfl) (by kernel_rfl) (by kernel_rfl) (fun _ _ _ h => h) (Or.inl ⟨by rfl, ?_⟩) hHeld24_24 ?_
                            rotate_left
                            · intro w hSw
                              (try dsimp only at hSw)
                              go_simp
                              try (first | (with_reducible rfl) | rfl)
                            try simp only [List.getElem_toArray, List.getElem_cons_zero, List.getElem_cons_succ, Act.put, List.setIfInBounds_toArray, List.set_cons_zero, List.set_cons_succ]
                            refine wpAnyH_take (i := 27) (v := ?_) rfl (by kernel_rfl) (by kernel_rfl) (by kernel_rfl) (fun _ _ _ h => h) (Or.inl ⟨by rfl, ?_⟩) hHeld24_24 ?_
                            rotate_left
                            · intro w hSw
                              (try dsimp only at hSw)
                              go_simp
                              try (first | (with_reducible rfl) | rfl)
                            try simp only [List.getElem_toArray, List.getElem_cons_zero, List.getElem_cons_succ, Act.put, List.setIfInBounds_toArray, List.set_cons_zero, List.set_cons_succ]
                            refine wpAnyH_done (by kernel_rfl) ?_ _
                            go_wp2
                            go_ret
                            exact ⟨rfl, (HT.out.below HBD.out).bel⟩
                          exact AllReadyH.nil
                        refine AllReadyH.cons rfl (fun K hK => ?_) ?_
                        · go_simp
                          (go_at_call 24; refine (slot_word 0 0 6 25769803776 _ (by decide) (by decide) (by decide) (by decide) (by decide) (by decide) (by decide)).mono ?_; rintro e w6 ⟨rfl, hb⟩; (have HZ3 := Lib.hid (HB4.out.trans (hb.mono HB4.out.size))); clear HB4; (have HB4 := HZ3); clear HZ3; (have HZ2 := Lib.hid (HBD.out.trans (hb.mono HBD.out.size))); clear hb HBD; (have HBD := HZ2); clear HZ2; (have kx := HRW.out _ HB4.out))
                          go_wp2_with fail
                          refine hK.out _ _ ?_ (fun hHeld23_24 => ?_)
                          · first | exact HCS.out _ HBD.out | exact HCS.out _ HBE.out
                          clear hK K
                          try simp only [List.getElem_toArray, List.getElem_cons_zero, List.getElem_cons_succ, Act.put, List.setIfInBounds_toArray, List.set_cons_zero, List.set_cons_succ]
                          refine wpAnyH_ready (rs := [23]) (by kernel_rfl) (by simp) ?_
                          refine AllReadyH.cons rfl (fun K hK => ?_) ?_
                          · go_simp
                            refine hK.out _ _ ?_ (fun hHeld24_23 => ?_)
                            · first | exact HCS.out _ HBD.out | exact HCS.out _ HBE.out
                            clear hK K
                            try simp only [List.getElem_toArray, List.getElem_cons_zero, List.getElem_cons_succ, Act.put, List.setIfInBounds_toArray, List.set_cons_zero, List.set_cons_succ]
                            refine wpAnyH_take (i := 25) (v := ?_) rfl (by kernel_rfl) (by kernel_rfl) (by kernel_rfl) (fun _ _ _ h => h) (Or.inl ⟨by rfl, ?_⟩) hHeld24_23 ?_
                            rotate_left
                            · intro w hSw
                              (try dsimp only at hSw)
                              go_simp
                              try (first | (with_reducible rfl) | rfl)
                            try simp only [List.getElem_toArray, List.getElem_cons_zero, List.getElem_cons_succ, Act.put, List.setIfInBounds_toArray, List.set_cons_zero, List.set_cons_succ]
                            refine wpAnyH_take (i := 26) (v := ?_) rfl (by kernel_rfl) (by kernel_rfl) (by kernel_rfl) (fun _ _ _ h => h) (Or.inl ⟨by rfl, ?_⟩) hHeld24_23 ?_
                            rotate_left
                            · intro w hSw
                              (try dsimp only at hSw)
                              go_simp
                              try (first | (with_reducible rfl) | rfl)
                            try simp only [List.getElem_toArray, List.getElem_cons_zero, List.getElem_cons_succ, Act.put, List.setIfInBounds_toArray, List.set_cons_zero, List.set_cons_succ]
                            refine wpAnyH_take (i := 27) (v := ?_) rfl (by kernel_rfl) (by kernel_rfl) (by kernel_rfl) (fun _ _ _ h => h) (Or.inl ⟨by rfl, ?_⟩) hHeld24_23 ?_
                            rotate_left
                            · intro w hSw
                              (try dsimp only at hSw)
                              go_simp
                              try (first | (with_reducible rfl) | rfl)
                            try simp only [List.getElem_toArray, List.getElem_cons_zero, List.getElem_cons_succ, Act.put, List.setIfInBounds_toArray, List.set_cons_zero, List.set_cons_succ]
                            refine wpAnyH_done (by kernel_rfl) ?_ _
                            go_wp2
                            go_ret
                            exact ⟨rfl, (HT.out.below HBD.out).bel⟩
                          exact AllReadyH.nil
                        exact AllReadyH.nil
                      exact AllReadyH.nil
                    exact AllReadyH.nil
                  exact AllReadyH.nil
                exact AllReadyH.nil
              exact AllReadyH.nil

theorem elimPlace_walk (slots reach draw : Int) (push : Bool) (w : World) (h1 : (Lit.int .i64 slots).wf = true) (h2 : (Lit.int .i64 reach).wf = true) (h3 : (Lit.int .i64 draw).wf = true) :
    Calls Try.prog 5 #[.int .i64 slots, .int .i64 reach, .int .i64 draw, .bool push] w fun z w' => z = .returned (.bool true) ∧ Below w.heap.size w w' := by
  obtain ⟨p0, p1⟩ := rngI64 h1
  obtain ⟨p2, p3⟩ := rngI64 h2
  obtain ⟨p4, p5⟩ := rngI64 h3
  have a1 := pickI_rng (c := slots) (n := 16) (by decide)
  obtain ⟨m, hk1⟩ := Int.eq_ofNat_of_zero_le a1.1
  have a2 := pickI_rng (c := reach) (n := ((1 + m : Nat) : Int)) (by omega)
  obtain ⟨m2, hk2⟩ := Int.eq_ofNat_of_zero_le a2.1
  have a3 := pickI_rng (c := draw) (n := 65) (by decide)
  obtain ⟨d, hk3⟩ := Int.eq_ofNat_of_zero_le a3.1
  have hm : m < 16 := by omega
  have hm2 : 1 + m2 ≤ 1 + m := by omega
  by_cases hd : d < 64
  · have b0 : 0 ≤ (d : Int) % ((1 + m2 : Nat) : Int) := Int.emod_nonneg _ (by omega)
    have b1 : (d : Int) % ((1 + m2 : Nat) : Int) < ((1 + m2 : Nat) : Int) := Int.emod_lt_of_pos _ (by omega)
    obtain ⟨wn, hwd⟩ := Int.eq_ofNat_of_zero_le b0
    exact place_some slots reach draw push m m2 d (1 + m) (1 + m2) wn _ w hk1 hk2 hk3 rfl hm rfl hm2 rfl hwd hd (by omega) _ rfl (by unfold drawI; rw [if_neg (by omega)]; exact hwd) (fun x hx => by obtain rfl := List.mem_singleton.1 hx; omega) (by show (drawR [(d : Int)] _).length = 0; unfold drawR; rw [if_neg (by omega)]; rfl) p0 p1 p2 p3 p4 p5
  · exact place_none slots reach draw push m m2 d (1 + m) (1 + m2) 0 _ w hk1 hk2 hk3 rfl hm rfl hm2 rfl (by omega) rfl (by omega) _ rfl (by unfold drawI; split <;> rfl) (fun x hx => by cases hx) (by show (drawR [] _).length = 0; unfold drawR; split <;> rfl) p0 p1 p2 p3 p4 p5
end Go.Proofs.Ythnjeiandfdpgaa
