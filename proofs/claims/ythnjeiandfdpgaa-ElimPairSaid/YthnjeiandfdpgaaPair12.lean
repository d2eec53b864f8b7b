/-
  The law ElimPair: the walk.
-/
import Derived.Test.YthnjeiandfdpgaaAl
import Derived.Test.YthnjeiandfdpgaaVinv
namespace Go.Proofs.Ythnjeiandfdpgaa
open Go.RowKit
set_option linter.unusedVariables false
set_option linter.unusedSimpArgs false
theorem vm_meets {ws : List Int} {a : Nat} {x now d k i : Int} {push : Bool} (hx : rdW ws a = x) (ha : a < ws.length) (h0 : sMeets x push = true) :
    (newVM a push i d k).step ws now = ⟨0, ⟨a, push, i, d, max k 1, x, .claim, 0, false⟩, ws, [ldN a x]⟩ := by
  have h1 : ¬ ((a : Int) < 0 ∨ (ws.length : Int) ≤ (a : Int)) := by omega
  simp [VM.step, newVM, VM.go, h1, hx, h0]
  exact ha
theorem vm_claim {ws : List Int} {a : Nat} {x now d l i : Int} {push off : Bool} (hx : rdW ws a = x) (ha : a < ws.length) :
    VM.step ⟨a, push, i, d, l, x, .claim, 0, off⟩ ws now = ⟨1, ⟨a, push, sIx (sClaim x push i), d, l, x, .claim, 1, off⟩, ws.set a (sClaim x push i), [swN a x (sClaim x push i)]⟩ := by
  have h1 : ¬ ((a : Int) < 0 ∨ (ws.length : Int) ≤ (a : Int)) := by omega
  simp [VM.step, VM.go, h1, hx]
  exact ha
theorem vm_found {ws : List Int} {a : Nat} {x y now d l i : Int} {push : Bool} (hy : rdW ws a = y) (ha : a < ws.length) (hne : y ≠ x) (h3 : sSt y = 3) (ht : sTp y = sTp x) :
    VM.step ⟨a, push, i, d, l, x, .look, 0, true⟩ ws now = ⟨0, ⟨a, push, sIx y, d, l, x, .found y, 0, true⟩, ws, [ldN a y]⟩ := by
  have h1 : ¬ ((a : Int) < 0 ∨ (ws.length : Int) ≤ (a : Int)) := by omega
  simp only [VM.step, VM.go, h1, hy, ne_eq, not_true_eq_false, if_false, Int.toNat_natCast, hne, h3, ht, and_self, if_true]
theorem vm_clear {ws : List Int} {a : Nat} {x y z now d l i : Int} {push off : Bool} (hy : rdW ws a = y) (ha : a < ws.length) :
    VM.step ⟨a, push, i, d, l, x, .found z, 0, off⟩ ws now = ⟨1, ⟨a, push, i, d, l, x, .found z, 1, off⟩, ws.set a (sClear z), [stN a y (sClear z)]⟩ := by
  have h1 : ¬ ((a : Int) < 0 ∨ (ws.length : Int) ≤ (a : Int)) := by omega
  simp [VM.step, VM.go, h1, hy]
  exact ha

def rngOf2 (ws : List Int) : Prop := ∀ i, i < ws.length → 0 ≤ rdW ws i ∧ rdW ws i < 18446744073709551616
theorem rngSet {ws : List Int} {j : Nat} {x : Int} (h : ∀ i, i < ws.length → 0 ≤ rdW ws i ∧ rdW ws i < 18446744073709551616) (hx : 0 ≤ x ∧ x < 18446744073709551616) : rngOf2 (ws.set j x) := by
  intro i hi
  by_cases e : i = j
  · subst e
    rw [rdW_set _ _ _ (by simpa using hi)]
    exact hx
  · rw [rdW_other _ _ _ _ e]
    exact h i (by simpa using hi)

set_option maxRecDepth 20000 in
set_option maxHeartbeats 16000000 in
theorem pair_true (slots which i looks nd : Int) (m n k s P N : Nat) (w : World) (hk1 : pickI slots 16 = (m : Int)) (hk2 : pickI which n = (k : Int)) (hk3 : pickI looks 30 = (P : Int)) (hnd : i % 1073741824 = nd) (hn : n = 1 + m) (hm : m < 16) (hkn : k < n) (hP : P < 30) (hN : N = 8 + n) (hs0 : s = 8 + k)
    (p0 : -9223372036854775808 ≤ slots) (p1 : slots < 9223372036854775808) (p2a : -9223372036854775808 ≤ which) (p3 : which < 9223372036854775808) (p4 : -9223372036854775808 ≤ looks) (p5 : looks < 9223372036854775808) (i0 : 0 ≤ i) (i1 : i < 4294967296) :
    Calls Try.prog 4 #[.int .i64 slots, .int .i64 which, .bool true, .int .u32 i, .int .i64 looks] w fun z w' => z = .returned (.bool true) ∧ Below w.heap.size w w' := by
  have nd0 : 0 ≤ nd := by omega
  have nd1 : nd < 1073741824 := by omega
  have HOK : Hid (okC ((3 : Nat) : Int) (n : Int) ((0 : Nat) : Int) = true) := Lib.hid (okC3 (by omega))
  have HN : Hid (N = 2 + 2 * 3 + n + 0) := Lib.hid (by omega)
  have HK1 := Lib.hid hk1
  have HK2 := Lib.hid hk2
  have HK3 := Lib.hid hk3
  have e1 : 1 + (m : Int) = (n : Int) := by omega
  have n0 : (0 : Int) < (n : Int) := by omega
  have n1 : (n : Int) < 9223372036854775808 := by omega
  have e3 : (k : Int) % 18446744073709551616 = (k : Int) := by omega
  have HAE : Hid (addE (k : Int) = 0) := Lib.hid (by unfold addE; rw [if_neg (by omega)])
  have HAR1 : Hid (addR [] (k : Int) = [(k : Int)]) := Lib.hid (by unfold addR; rw [if_neg (by omega)]; rfl)
  have HAR2 : Hid (addR [(k : Int)] (k : Int) = [(k : Int), (k : Int)]) := Lib.hid (by unfold addR; rw [if_neg (by omega)]; rfl)
  have hs : s = 8 + k := hs0
  have hfr : rdW (frL 0 3 3 n N) s = 0 := by rw [hs]; exact fr_slot (by omega) (by omega)
  have hsN : s < N := by omega
  have hat0 : ∀ l : List Int, drawI ((k : Int) :: l) n = (k : Int) := fun l => by unfold drawI; rw [if_neg (by omega)]; exact Int.emod_eq_of_lt (by omega) (by omega)
  have hdr0 : ∀ l : List Int, drawR ((k : Int) :: l) n = l := fun l => by unfold drawR; rw [if_neg (by omega)]; rfl
  have hfa : (newEM 3 n 0 0 n 3 true nd 8 100).fit = true := EM.fit_iff.2 ⟨okC3 (by omega), by simp [newEM]; omega, pOk_iff.2 ⟨by simp only [newEM]; omega, by simp only [newEM]; omega, by simp only [newEM]; omega, by simp only [newEM]; omega, by simp [newEM], by simp [newEM]⟩⟩
  have hfb : (newEM 3 n 0 0 n 2 false nd 8 100).fit = true := EM.fit_iff.2 ⟨okC3 (by omega), by simp [newEM]; omega, pOk_iff.2 ⟨by simp only [newEM]; omega, by simp only [newEM]; omega, by simp only [newEM]; omega, by simp only [newEM]; omega, by simp [newEM], by simp [newEM]⟩⟩
  have hata : ∀ l : List Int, atI (3 : Int) n 0 1 (drawI ((k : Int) :: l) n) = (s : Int) := fun l => by rw [hat0, hs]; exact at3 (by omega) (by omega)
  have hfi : (newEM 3 n 0 0 n 3 true nd 8 100).first 0 [(k : Int), (k : Int)] = (⟨s, true, nd, 100, 64, 64, 0⟩ : Al).V 0 := by
    unfold EM.first
    rw [show atI (newEM 3 n 0 0 n 3 true nd 8 100).n (newEM 3 n 0 0 n 3 true nd 8 100).s (newEM 3 n 0 0 n 3 true nd 8 100).h 1 (drawI [(k : Int), (k : Int)] (newEM 3 n 0 0 n 3 true nd 8 100).rg) = (s : Int) from hata _]
    rfl
  have HST : Hid (∀ i, i ≤ 31 → ((⟨s, true, nd, 100, 64, 64, 0⟩ : Al).E (newEM 3 n 0 0 n 3 true nd 8 100) i).step ((⟨s, true, nd, 100, 64, 64, 0⟩ : Al).W (frL 0 3 3 n N) i) 0 (Al.ds [(k : Int), (k : Int)] n i) = ⟨0, 0, (⟨s, true, nd, 100, 64, 64, 0⟩ : Al).E (newEM 3 n 0 0 n 3 true nd 8 100) (i + 1), (⟨s, true, nd, 100, 64, 64, 0⟩ : Al).W (frL 0 3 3 n N) (i + 1), [(⟨s, true, nd, 100, 64, 64, 0⟩ : Al).nt i], Al.ds [(k : Int), (k : Int)] n (i + 1)⟩) := Lib.hid (fun i hi => by
    have := Al.stepE (⟨s, true, nd, 100, 64, 64, 0⟩ : Al) (S := (newEM 3 n 0 0 n 3 true nd 8 100)) (ws := (frL 0 3 3 n N)) (ds := [(k : Int), (k : Int)]) (now := 0) hfr (by rw [frL_len]; exact hsN) (show sSt 0 = 0 by decide) (show 1 ≤ 64 by decide) rfl rfl hfa (hata _) (.inl hfi) (show i ≤ 64 + 2 by omega) ⟨fun j h1 h2 => ⟨show (j : Int) + 1 < max 64 1 by have h3 : j + 1 < 64 := h2; omega, show (0 : Int) < 100 by decide⟩, fun h1 => .inl (show max (64 : Int) 1 ≤ ((64 : Nat) : Int) by decide)⟩
    rw [if_neg (show ¬ i = 64 + 2 by omega)] at this
    exact this)
  have hdd : DsOk [(k : Int), (k : Int)] := fun d hd => by
    have : d = (k : Int) := by simpa using hd
    omega
  have HG0 : Hid (EGood N 0 ((⟨s, true, nd, 100, 64, 64, 0⟩ : Al).E (newEM 3 n 0 0 n 3 true nd 8 100) 0) ((⟨s, true, nd, 100, 64, 64, 0⟩ : Al).W (frL 0 3 3 n N) 0) ((⟨s, true, nd, 100, 64, 64, 0⟩ : Al).ns 0) (Al.ds [(k : Int), (k : Int)] n 0)) := Lib.hid ⟨newEM_ok N 0 nd0 (by omega) (by decide) (by decide) (by decide) (by decide), frL_len _ _ _ _ _, hdd, Nat.le_refl _⟩
  -- behind the looks
  obtain ⟨v, hv⟩ : ∃ v, sOffer 0 true nd = v := ⟨_, rfl⟩
  obtain ⟨c, hc⟩ : ∃ c, sClaim v false nd = c := ⟨_, rfl⟩
  have hw2 : (⟨s, true, nd, 100, 64, 64, 0⟩ : Al).W (frL 0 3 3 n N) (P + 2) = (frL 0 3 3 n N).set s v := by
    have e : (⟨s, true, nd, 100, 64, 64, 0⟩ : Al).W (frL 0 3 3 n N) (P + 2) = (frL 0 3 3 n N).set s (⟨s, true, nd, 100, 64, 64, 0⟩ : Al).v := if_pos (show P ≤ 64 by omega)
    rw [e, ← hv]
    rfl
  have hVA : (⟨s, true, nd, 100, 64, 64, 0⟩ : Al).V (P + 2) = ⟨s, true, nd, 100, max 64 1 - P, v, .look, 0, true⟩ := by
    have e : (⟨s, true, nd, 100, 64, 64, 0⟩ : Al).V (P + 2) = ⟨s, true, nd, 100, max 64 1 - P, (⟨s, true, nd, 100, 64, 64, 0⟩ : Al).v, .look, 0, true⟩ := if_pos (show P < 64 by omega)
    rw [e, ← hv]
    rfl
  have hEA : (⟨s, true, nd, 100, 64, 64, 0⟩ : Al).E (newEM 3 n 0 0 n 3 true nd 8 100) (P + 2) = { (newEM 3 n 0 0 n 3 true nd 8 100) with pl := s, V := some ⟨s, true, nd, 100, max 64 1 - P, v, .look, 0, true⟩ } := by
    have e : (⟨s, true, nd, 100, 64, 64, 0⟩ : Al).E (newEM 3 n 0 0 n 3 true nd 8 100) (P + 2) = { (newEM 3 n 0 0 n 3 true nd 8 100) with pl := s, V := some ((⟨s, true, nd, 100, 64, 64, 0⟩ : Al).V (P + 2)) } := if_neg (show ¬ P + 1 = 64 + 2 by omega)
    rw [e, hVA]
  have hv0 : 0 ≤ v ∧ v < 18446744073709551616 := by rw [← hv]; exact sOffer_rng (by decide) (by decide)
  have hc0 : 0 ≤ c ∧ c < 18446744073709551616 := by rw [← hc]; exact sClaim_rng hv0.1 hv0.2
  have hlen : ((frL 0 3 3 n N).set s v).length = N := by rw [List.length_set, frL_len]
  have hlen2 : (((frL 0 3 3 n N).set s v).set s c).length = N := by rw [List.length_set, hlen]
  have hrv : rdW ((frL 0 3 3 n N).set s v) s = v := rdW_set _ _ _ (by rw [frL_len]; exact hsN)
  have hrc : rdW (((frL 0 3 3 n N).set s v).set s c) s = c := rdW_set _ _ _ (by rw [hlen]; exact hsN)
  have hmt : sMeets v false = true := by rw [← hv]; unfold sMeets; rw [sSt_offer]; rfl
  have hc3 : sSt c = 3 := by rw [← hc]; exact sSt_claim
  have hct : sTp c = sTp v := by rw [← hc]; exact sTp_claim
  have hvs : sSt v ≠ 3 := by rw [← hv, sSt_offer]; decide
  have hne : c ≠ v := fun e => hvs (by rw [← e]; exact hc3)
  have hci : sIx c = nd := by
    rw [← hc, sIx_claim nd0 (by omega)]
    rw [if_neg (by decide), ← hv, sIx_offer nd0 (by omega)]
  have hrg1 : rngOf2 ((frL 0 3 3 n N).set s v) := rngSet (rngOf (frL_rng (by decide) (by decide) (by decide))) hv0
  have hrg2 : rngOf2 (((frL 0 3 3 n N).set s v).set s c) := rngSet hrg1 hc0
  have hfb1 : (newEM 3 n 0 0 n 2 false nd 8 100).first 0 [(k : Int)] = newVM s false nd 100 32 := by
    unfold EM.first
    rw [show atI (newEM 3 n 0 0 n 2 false nd 8 100).n (newEM 3 n 0 0 n 2 false nd 8 100).s (newEM 3 n 0 0 n 2 false nd 8 100).h 1 (drawI [(k : Int)] (newEM 3 n 0 0 n 2 false nd 8 100).rg) = (s : Int) from hata _]
    rfl
  have hb1 := EM.begins (S := (newEM 3 n 0 0 n 2 false nd 8 100)) (ws := (frL 0 3 3 n N).set s v) (now := 0) (ds := [(k : Int)]) rfl rfl hfb (by rw [hfb1]; exact vm_meets hrv (by rw [hlen]; exact hsN) hmt)
  rw [show atI (newEM 3 n 0 0 n 2 false nd 8 100).n (newEM 3 n 0 0 n 2 false nd 8 100).s (newEM 3 n 0 0 n 2 false nd 8 100).h 1 (drawI [(k : Int)] (newEM 3 n 0 0 n 2 false nd 8 100).rg) = (s : Int) from hata _, show drawR [(k : Int)] (newEM 3 n 0 0 n 2 false nd 8 100).rg = [] from hdr0 _] at hb1
  have hb2 := EM.ends (S := { (newEM 3 n 0 0 n 2 false nd 8 100) with pl := s, V := some ⟨s, false, nd, 100, max 32 1, v, .claim, 0, false⟩ }) (ws := (frL 0 3 3 n N).set s v) (now := 0) (ds := []) rfl rfl (vm_claim hrv (by rw [hlen]; exact hsN)) (by decide)
  rw [hc] at hb2
  have ha1 := EM.on (S := { (newEM 3 n 0 0 n 3 true nd 8 100) with pl := s, V := some ⟨s, true, nd, 100, max 64 1 - P, v, .look, 0, true⟩ }) (ws := ((frL 0 3 3 n N).set s v).set s c) (now := 0) (ds := []) rfl rfl (vm_found hrc (by rw [hlen2]; exact hsN) hne hc3 hct)
  have ha2 := EM.ends (S := { (newEM 3 n 0 0 n 3 true nd 8 100) with pl := s, V := some ⟨s, true, sIx c, 100, max 64 1 - P, v, .found c, 0, true⟩ }) (ws := ((frL 0 3 3 n N).set s v).set s c) (now := 0) (ds := []) rfl rfl (vm_clear hrc (by rw [hlen2]; exact hsN)) (by decide)
  have hpr : pAr (n : Int) n 1 = n := by unfold pAr pR; simp; omega
  have hzb : VM.told ⟨s, false, sIx c, 100, max 32 1, v, .claim, 1, false⟩ 1 = nd := by simp [VM.told, hci]
  have hza : VM.told ⟨s, true, sIx c, 100, max 64 1 - P, v, .found c, 1, true⟩ 1 = 0 := by simp [VM.told, hci]
  rw [hzb] at hb2
  rw [hza] at ha2
  have hW0 := hw2
  have hEA0 := hEA
  have hD0 : Al.ds [(k : Int), (k : Int)] n (P + 2) = [(k : Int)] := hdr0 _
  have hq : ∀ w, (binOp .eql 23 (polV n 0) (polV n 0)).run Try.prog w = .ok (.bool true) w := fun w => by
    have := polEq (n : Int) 0 n 0 w
    rwa [show ((n : Int) == n && (0 : Int) == 0) = true by simp] at this
  clear hfr hat0 hdr0 hfa hfb hata hfi hdd hfb1 hs hs0 hn hN hk1 hk2 hk3
  have H := Lib.hid (St.nil w)
  have K_hv0 := Lib.hid hv0
  have K_hc0 := Lib.hid hc0
  have K_hlen := Lib.hid hlen
  have K_hlen2 := Lib.hid hlen2
  have K_hrv := Lib.hid hrv
  have K_hrc := Lib.hid hrc
  have K_hmt := Lib.hid hmt
  have K_hc3 := Lib.hid hc3
  have K_hct := Lib.hid hct
  have K_hvs := Lib.hid hvs
  have K_hne := Lib.hid hne
  have K_hci := Lib.hid hci
  have K_hrg1 := Lib.hid hrg1
  have K_hrg2 := Lib.hid hrg2
  have K_hb1 := Lib.hid hb1
  have K_hb2 := Lib.hid hb2
  have K_ha1 := Lib.hid ha1
  have K_ha2 := Lib.hid ha2
  have K_hpr := Lib.hid hpr
  have K_hW0 := Lib.hid hW0
  have K_hEA0 := Lib.hid hEA0
  have K_hD0 := Lib.hid hD0
  clear hv0 hc0 hlen hlen2 hrv hrc hmt hc3 hct hvs hne hci hrg1 hrg2 hb1 hb2 ha1 ha2 hpr hW0 hEA0 hD0 hzb hza hw2 hVA hEA hv hc
  go_enter Try.func4, Try.ntmps4
  go_wp2_with (first | ((have _h := H8); go_at_call 14; refine (src_add k 0 [(k : Int), (k : Int)] (H8.out.front 1 rfl) (by omega) (by simp) HAE.out HAR2.out).mono ?_; rintro e w9 ⟨rfl, h⟩; (have H9 := Lib.hid (h.front 1 rfl)); clear h; clear q0 q1 q2 q3; (obtain ⟨q0, q1, q2, q3⟩ := cells4 (H9.out.cells 4 rfl)); clear _h) | ((have _h := H7); go_at_call 14; refine (src_add k 0 [(k : Int)] (H7.out.front 1 rfl) (by omega) (by simp) HAE.out HAR1.out).mono ?_; rintro e w8 ⟨rfl, h⟩; (have H8 := Lib.hid (h.front 1 rfl)); clear h; clear q0 q1 q2 q3; (obtain ⟨q0, q1, q2, q3⟩ := cells4 (H8.out.cells 4 rfl)); clear _h) | ((have _h := H6); go_at_call 10; refine (pick_is which n (k : Int) _ HK2.out n0 n1 p2a p3).mono ?_; rintro e w7 ⟨rfl, rfl⟩; (have H7 := Lib.hid (H6.out)); clear q0 q1 q2 q3; (obtain ⟨q0, q1, q2, q3⟩ := cells4 (H7.out.cells 4 rfl)); clear _h) | ((have _h := H5); go_at_call 13; refine (em_new 3 n 0 0 n 2 false nd 8 100 H5.out).mono ?_; rintro e w6 ⟨p2, rfl, h⟩; (have H6 := Lib.hid (h)); clear h; clear q0 q1 q2 q3; (obtain ⟨q0, q1, q2, q3⟩ := cells4 (H6.out.cells 4 rfl)); clear _h) | ((have _h := H4); go_at_call 13; refine (em_new 3 n 0 0 n 3 true nd 8 100 H4.out).mono ?_; rintro e w5 ⟨p, rfl, h⟩; (have H5 := Lib.hid (h)); clear h; clear q0 q1 q2 q3; (obtain ⟨q0, q1, q2, q3⟩ := cells4 (H5.out.cells 3 rfl)); clear _h) | ((have _h := H3); go_at_call 12; refine (src_new H3.out).mono ?_; rintro e w4 ⟨r, rfl, h⟩; (have H4 := Lib.hid (h.swap)); clear h; clear q0 q1 q2 q3; (obtain ⟨q0, q1, q2, q3⟩ := cells4 (H4.out.cells 2 rfl)); clear _h) | ((have _h := H2); go_at_call 11; refine (begun_ok 3 n 0 0 0 N (H2.out.alloc #[.int .i64 3, .int .i64 n, .int .i64 0, .int .u32 0] 28) HOK.out HN.out (by decide) (by decide) (by decide)).mono ?_; rintro e w3 ⟨q, rfl, h⟩; (have H3 := Lib.hid (h)); clear h; (obtain ⟨q0, q1, q2, q3⟩ := cells4 (H3.out.cells 1 rfl)); clear _h) | ((have _h := H1); go_at_call 10; refine (pick_is slots 16 (m : Int) _ HK1.out (by decide) (by decide) p0 p1).mono ?_; rintro e w2 ⟨rfl, rfl⟩; (have H2 := Lib.hid (H1.out)); clear _h) | ((have _h := H); go_at_call 9; refine (shown12 _).mono ?_; rintro e w1 ⟨rfl, hb⟩; (have H1 := Lib.hid (H.out.below hb)); clear hb; clear _h))
  have HS0 : Hid (St w (memA q ((⟨s, true, nd, 100, 64, 64, 0⟩ : Al).W (frL 0 3 3 n N) 0) ((⟨s, true, nd, 100, 64, 64, 0⟩ : Al).ns 0) :: srcA r 0 (Al.ds [(k : Int), (k : Int)] n 0) :: emA p ((⟨s, true, nd, 100, 64, 64, 0⟩ : Al).E (newEM 3 n 0 0 n 3 true nd 8 100) 0) :: emA p2 (newEM 3 n 0 0 n 2 false nd 8 100) :: [boxA w1.heap.size #[.int .i64 3, .int .i64 n, .int .i64 0, .int .u32 0] 28]) w9) := Lib.hid (((H9.out.front 3 rfl).front 2 rfl).front 2 rfl)
  generalize w1.heap.size = bc at *
  clear H1 H2 H3 H4 H5 H6 H7 H8 H9 q0 q1 q2 q3
  go_loopg [20] 33 (fun kq z w' => ∃ j : Nat, z = .int .i64 j ∧ j ≤ P + 2 ∧ j + kq = 33 ∧ EGood N j ((⟨s, true, nd, 100, 64, 64, 0⟩ : Al).E (newEM 3 n 0 0 n 3 true nd 8 100) j) ((⟨s, true, nd, 100, 64, 64, 0⟩ : Al).W (frL 0 3 3 n N) j) ((⟨s, true, nd, 100, 64, 64, 0⟩ : Al).ns j) (Al.ds [(k : Int), (k : Int)] n j) ∧ St w (memA q ((⟨s, true, nd, 100, 64, 64, 0⟩ : Al).W (frL 0 3 3 n N) j) ((⟨s, true, nd, 100, 64, 64, 0⟩ : Al).ns j) :: srcA r 0 (Al.ds [(k : Int), (k : Int)] n j) :: emA p ((⟨s, true, nd, 100, 64, 64, 0⟩ : Al).E (newEM 3 n 0 0 n 3 true nd 8 100) j) :: emA p2 (newEM 3 n 0 0 n 2 false nd 8 100) :: [boxA bc #[.int .i64 3, .int .i64 n, .int .i64 0, .int .u32 0] 28]) w')
  case atStart => exact ⟨0, rfl, by omega, by decide, HG0.out, HS0.out⟩
  case round =>
    obtain ⟨j, rfl, hj, hkq, hg, hS⟩ := hrel
    clear HS0 HG0
    have HS := Lib.hid hS
    cases gk with
    | zero => omega
    | succ kk =>
      by_cases c4 : j < P + 2
      · have c4b : decide ((j : Int) < 2 + (P : Int)) = true := decide_eq_true (by omega)
        have hst := HST.out j (by omega)
        have HE := Lib.hid hst
        have HGN : Hid (EGood N (j + 1) ((⟨s, true, nd, 100, 64, 64, 0⟩ : Al).E (newEM 3 n 0 0 n 3 true nd 8 100) (j + 1)) ((⟨s, true, nd, 100, 64, 64, 0⟩ : Al).W (frL 0 3 3 n N) (j + 1)) ((⟨s, true, nd, 100, 64, 64, 0⟩ : Al).ns (j + 1)) (Al.ds [(k : Int), (k : Int)] n (j + 1))) := Lib.hid (by
          have := hg.step (by decide) (by decide) (fun j hj => hS.rng hj) hst
          rw [Al.ns_succ] at this
          exact this)
        have HOKS : Hid (((⟨s, true, nd, 100, 64, 64, 0⟩ : Al).E (newEM 3 n 0 0 n 3 true nd 8 100) j).ok ((⟨s, true, nd, 100, 64, 64, 0⟩ : Al).W (frL 0 3 3 n N) j).length ((⟨s, true, nd, 100, 64, 64, 0⟩ : Al).ns j).length) := Lib.hid (by rw [hg.len]; exact hg.ok)
        have hkl : ((⟨s, true, nd, 100, 64, 64, 0⟩ : Al).ns j).length ≤ 1000000000000 := by rw [Al.ns_len]; omega
        have HNS := Lib.hid (Al.ns_succ (⟨s, true, nd, 100, 64, 64, 0⟩ : Al) j)
        have HDS := Lib.hid hg.ds
        clear hst hg hS
        go_wp2_with (first | (go_at_call 10; refine (pick_is looks 30 (P : Int) _ HK3.out (by decide) (by decide) p4 p5).mono ?_; rintro e w' ⟨rfl, rfl⟩) | (go_at_call 15; refine (estep HE.out HNS.out HS.out HOKS.out HDS.out (by decide) (by decide) hkl).mono ?_; rintro e w8 ⟨rfl, h⟩; (have HT := Lib.hid h); clear h))
        go_roundg kk
        case measure => omega
        case rel => exact ⟨j + 1, rfl, by omega, by omega, HGN.out, HT.out⟩
      · have ej : j = P + 2 := by omega
        have c4b : decide ((j : Int) < 2 + (P : Int)) = false := decide_eq_false (by omega)
        rw [ej] at hg hS
        have hv0 := K_hv0.out
        have hc0 := K_hc0.out
        have hlen := K_hlen.out
        have hlen2 := K_hlen2.out
        have hrv := K_hrv.out
        have hrc := K_hrc.out
        have hmt := K_hmt.out
        have hc3 := K_hc3.out
        have hct := K_hct.out
        have hvs := K_hvs.out
        have hne := K_hne.out
        have hci := K_hci.out
        have hrg1 := K_hrg1.out
        have hrg2 := K_hrg2.out
        have hb1 := K_hb1.out
        have hb2 := K_hb2.out
        have ha1 := K_ha1.out
        have ha2 := K_ha2.out
        have hpr := K_hpr.out
        have hW0 := K_hW0.out
        have hEA0 := K_hEA0.out
        have hD0 := K_hD0.out
        have hgA := hg
        rw [hEA0, hW0, hD0] at hgA
        have gB0 : EGood N (P + 2) (newEM 3 n 0 0 n 2 false nd 8 100) ((frL 0 3 3 n N).set s v) ((⟨s, true, nd, 100, 64, 64, 0⟩ : Al).ns (P + 2)) [(k : Int)] := ⟨newEM_ok N _ nd0 (by omega) (by decide) (by decide) (by decide) (by decide), hgA.len, hgA.ds, hgA.few⟩
        have gB1 := gB0.step (by decide) (by decide) hrg1 hb1
        have gB2 := gB1.step (by decide) (by decide) hrg1 hb2
        have gA0 : EGood N (P + 2 + 1 + 1) ({ (newEM 3 n 0 0 n 3 true nd 8 100) with pl := s, V := some ⟨s, true, nd, 100, max 64 1 - P, v, .look, 0, true⟩ } : EM) (((frL 0 3 3 n N).set s v).set s c) ((((⟨s, true, nd, 100, 64, 64, 0⟩ : Al).ns (P + 2)) ++ [ldN s v]) ++ [swN s v c]) [] := ⟨hgA.ok.more (by simp), gB2.len, gB2.ds, gB2.few⟩
        have gA1 := gA0.step (by decide) (by decide) hrg2 ha1
        have HB1 := Lib.hid hb1
        have HB2 := Lib.hid hb2
        have HA1 := Lib.hid ha1
        have HA2 := Lib.hid ha2
        have HOB0 : Hid ((newEM 3 n 0 0 n 2 false nd 8 100).ok ((frL 0 3 3 n N).set s v).length ((⟨s, true, nd, 100, 64, 64, 0⟩ : Al).ns (P + 2)).length) := Lib.hid (by rw [gB0.len]; exact gB0.ok)
        have HOB1 : Hid (({ (newEM 3 n 0 0 n 2 false nd 8 100) with pl := s, V := some ⟨s, false, nd, 100, max 32 1, v, .claim, 0, false⟩ } : EM).ok ((frL 0 3 3 n N).set s v).length (((⟨s, true, nd, 100, 64, 64, 0⟩ : Al).ns (P + 2)) ++ [ldN s v]).length) := Lib.hid (by rw [gB1.len]; exact gB1.ok)
        have HOA0 : Hid (({ (newEM 3 n 0 0 n 3 true nd 8 100) with pl := s, V := some ⟨s, true, nd, 100, max 64 1 - P, v, .look, 0, true⟩ } : EM).ok (((frL 0 3 3 n N).set s v).set s c).length ((((⟨s, true, nd, 100, 64, 64, 0⟩ : Al).ns (P + 2)) ++ [ldN s v]) ++ [swN s v c]).length) := Lib.hid (by rw [gA0.len]; exact gA0.ok)
        have HOA1 : Hid (({ (newEM 3 n 0 0 n 3 true nd 8 100) with pl := s, V := some ⟨s, true, sIx c, 100, max 64 1 - P, v, .found c, 0, true⟩ } : EM).ok (((frL 0 3 3 n N).set s v).set s c).length (((((⟨s, true, nd, 100, 64, 64, 0⟩ : Al).ns (P + 2)) ++ [ldN s v]) ++ [swN s v c]) ++ [ldN s c]).length) := Lib.hid (by rw [gA1.len]; exact gA1.ok)
        have HMB : Hid (({ (newEM 3 n 0 0 n 2 false nd 8 100) with pl := s, V := some ⟨s, false, sIx c, 100, max 32 1, v, .claim, 1, false⟩, en := 1, rg := pAr (newEM 3 n 0 0 n 2 false nd 8 100).rg (newEM 3 n 0 0 n 2 false nd 8 100).s 1, ex := pAe (newEM 3 n 0 0 n 2 false nd 8 100).ex 1 } : EM).ok N ((((⟨s, true, nd, 100, 64, 64, 0⟩ : Al).ns (P + 2)) ++ [ldN s v]) ++ [swN s v c]).length) := Lib.hid gB2.ok
        have HMA : Hid (({ (newEM 3 n 0 0 n 3 true nd 8 100) with pl := s, V := some ⟨s, true, nd, 100, max 64 1 - P, v, .look, 0, true⟩ } : EM).ok N ((((⟨s, true, nd, 100, 64, 64, 0⟩ : Al).ns (P + 2)) ++ [ldN s v]) ++ [swN s v c]).length) := Lib.hid gA0.ok
        have HL2 : Hid ((((frL 0 3 3 n N).set s v).set s c).length = N) := Lib.hid hlen2
        have HTA : Hid (({ (newEM 3 n 0 0 n 3 true nd 8 100) with pl := s, V := some ⟨s, true, nd, 100, max 64 1 - P, v, .look, 0, true⟩ } : EM).met (((frL 0 3 3 n N).set s v).set s c) = true) := Lib.hid (by
          show VM.met ⟨s, true, nd, 100, max 64 1 - P, v, .look, 0, true⟩ (((frL 0 3 3 n N).set s v).set s c) = true
          unfold VM.met
          simp only [ne_eq, not_true_eq_false, Bool.true_eq_false, or_self, if_false, Int.toNat_natCast, hrc, hlen2]
          simp [hne, hsN])
        have HTB : Hid (({ (newEM 3 n 0 0 n 2 false nd 8 100) with pl := s, V := some ⟨s, false, sIx c, 100, max 32 1, v, .claim, 1, false⟩, en := 1, rg := pAr (newEM 3 n 0 0 n 2 false nd 8 100).rg (newEM 3 n 0 0 n 2 false nd 8 100).s 1, ex := pAe (newEM 3 n 0 0 n 2 false nd 8 100).ex 1 } : EM).met (((frL 0 3 3 n N).set s v).set s c) = true) := Lib.hid (by
          show VM.met ⟨s, false, sIx c, 100, max 32 1, v, .claim, 1, false⟩ (((frL 0 3 3 n N).set s v).set s c) = true
          simp [VM.met])
        have HRA : Hid (({ (newEM 3 n 0 0 n 3 true nd 8 100) with pl := s, V := some ⟨s, true, sIx c, 100, max 64 1 - P, v, .found c, 1, true⟩, en := 1, rg := pAr (newEM 3 n 0 0 n 3 true nd 8 100).rg (newEM 3 n 0 0 n 3 true nd 8 100).s 1, ex := pAe (newEM 3 n 0 0 n 3 true nd 8 100).ex 1 } : EM).rg = (n : Int) ∧ ({ (newEM 3 n 0 0 n 3 true nd 8 100) with pl := s, V := some ⟨s, true, sIx c, 100, max 64 1 - P, v, .found c, 1, true⟩, en := 1, rg := pAr (newEM 3 n 0 0 n 3 true nd 8 100).rg (newEM 3 n 0 0 n 3 true nd 8 100).s 1, ex := pAe (newEM 3 n 0 0 n 3 true nd 8 100).ex 1 } : EM).ex = 0) := Lib.hid ⟨hpr, by show pAe 3 1 = 0; decide⟩
        have HRB : Hid (({ (newEM 3 n 0 0 n 2 false nd 8 100) with pl := s, V := some ⟨s, false, sIx c, 100, max 32 1, v, .claim, 1, false⟩, en := 1, rg := pAr (newEM 3 n 0 0 n 2 false nd 8 100).rg (newEM 3 n 0 0 n 2 false nd 8 100).s 1, ex := pAe (newEM 3 n 0 0 n 2 false nd 8 100).ex 1 } : EM).rg = (n : Int) ∧ ({ (newEM 3 n 0 0 n 2 false nd 8 100) with pl := s, V := some ⟨s, false, sIx c, 100, max 32 1, v, .claim, 1, false⟩, en := 1, rg := pAr (newEM 3 n 0 0 n 2 false nd 8 100).rg (newEM 3 n 0 0 n 2 false nd 8 100).s 1, ex := pAe (newEM 3 n 0 0 n 2 false nd 8 100).ex 1 } : EM).ex = 0) := Lib.hid ⟨hpr, by show pAe 2 1 = 0; decide⟩
        have h1 := hS
        rw [hEA0, hW0, hD0] at h1
        have HS1 : Hid (St w (memA q ((frL 0 3 3 n N).set s v) ((⟨s, true, nd, 100, 64, 64, 0⟩ : Al).ns (P + 2)) :: srcA r 0 [(k : Int)] :: emA p ({ (newEM 3 n 0 0 n 3 true nd 8 100) with pl := s, V := some ⟨s, true, nd, 100, max 64 1 - P, v, .look, 0, true⟩ } : EM) :: emA p2 (newEM 3 n 0 0 n 2 false nd 8 100) :: [boxA bc #[.int .i64 3, .int .i64 n, .int .i64 0, .int .u32 0] 28]) wr) := Lib.hid h1
        have hnl : ((⟨s, true, nd, 100, 64, 64, 0⟩ : Al).ns (P + 2)).length = P + 2 := Al.ns_len _ _
        have l0 : ((⟨s, true, nd, 100, 64, 64, 0⟩ : Al).ns (P + 2)).length ≤ 1000000000000 := by rw [hnl]; omega
        have l1 : (((⟨s, true, nd, 100, 64, 64, 0⟩ : Al).ns (P + 2)) ++ [ldN s v]).length ≤ 1000000000000 := by rw [List.length_append, hnl]; simp; omega
        have l2 : ((((⟨s, true, nd, 100, 64, 64, 0⟩ : Al).ns (P + 2)) ++ [ldN s v]) ++ [swN s v c]).length ≤ 1000000000000 := by rw [List.length_append, List.length_append, hnl]; simp; omega
        have l3 : (((((⟨s, true, nd, 100, 64, 64, 0⟩ : Al).ns (P + 2)) ++ [ldN s v]) ++ [swN s v c]) ++ [ldN s c]).length ≤ 1000000000000 := by rw [List.length_append, List.length_append, List.length_append, hnl]; simp; omega
        clear hv0 hc0 hlen hlen2 hrv hrc hmt hc3 hct hvs hne hci hrg1 hrg2 hb1 hb2 ha1 ha2 hpr hW0 hEA0 hD0 hgA gB0 gB1 gB2 gA0 gA1 h1 hS hg hnl
        clear HS ej c4 hj
        go_wp2_with (first | (go_at_call 10; refine (pick_is looks 30 (P : Int) _ HK3.out (by decide) (by decide) p4 p5).mono ?_; rintro e w' ⟨rfl, rfl⟩) | ((have _h := X9); go_at_call 18; refine (e_stateV X9.out 3 rfl (n : Int) 0 HRB.out.1 HRB.out.2).mono ?_; rintro e wx10 ⟨rfl, hb⟩; (have X10 := Lib.hid (X9.out.below hb)); clear hb; clear _h) | ((have _h := X8); go_at_call 18; refine (e_stateV X8.out 2 rfl (n : Int) 0 HRA.out.1 HRA.out.2).mono ?_; rintro e wx9 ⟨rfl, hb⟩; (have X9 := Lib.hid (X8.out.below hb)); clear hb; clear _h) | ((have _h := X7); go_at_call 15; refine (estep HA2.out rfl X7.out HOA1.out (fun d hd => by cases hd) (by decide) (by decide) l3).mono ?_; rintro e wx8 ⟨rfl, h⟩; (have X8 := Lib.hid (h)); clear h; clear _h) | ((have _h := X6); go_at_call 15; refine (estep HA1.out rfl X6.out HOA0.out (fun d hd => by cases hd) (by decide) (by decide) l2).mono ?_; rintro e wx7 ⟨rfl, h⟩; (have X7 := Lib.hid (h)); clear h; clear _h) | ((have _h := X5); go_at_call 20; refine (e_met _ N _ N _ (((frL 0 3 3 n N).set s v).set s c) true (((X5.out.front 3 rfl).front 2 rfl).front 2 rfl) HMB.out HRb.out HL2.out HTB.out).mono ?_; rintro e wx6 ⟨rfl, hb⟩; (have X6 := Lib.hid (X5.out.below hb)); clear hb; clear _h) | ((have _h := X4); go_at_call 21; refine (words_st X4.out N HL2.out).mono ?_; rintro e wx5 ⟨alb, clb, rfl, hrw, _, hb⟩; (have X5 := Lib.hid (X4.out.below hb)); (have HRb := Lib.hid hrw); clear hrw hb; clear _h) | ((have _h := X3); go_at_call 20; refine (e_met _ N _ N _ (((frL 0 3 3 n N).set s v).set s c) true X3.out HMA.out HRa.out HL2.out HTA.out).mono ?_; rintro e wx4 ⟨rfl, hb⟩; (have X4 := Lib.hid (X3.out.below hb)); clear hb; clear _h) | ((have _h := X2); go_at_call 21; refine (words_st X2.out N HL2.out).mono ?_; rintro e wx3 ⟨ala, cla, rfl, hrw, _, hb⟩; (have X3 := Lib.hid (X2.out.below hb)); (have HRa := Lib.hid hrw); clear hrw hb; clear _h) | ((have _h := X1); go_at_call 15; refine (estep HB2.out rfl X1.out HOB1.out (fun d hd => by cases hd) (by decide) (by decide) l1).mono ?_; rintro e wx2 ⟨rfl, h⟩; (have X2 := Lib.hid ((((h.front 3 rfl).front 2 rfl).front 2 rfl))); clear h; clear _h) | ((have _h := HS1); go_at_call 15; refine (estep HB1.out rfl (((HS1.out.front 3 rfl).front 2 rfl).front 2 rfl) HOB0.out (fun d hd => by obtain rfl := List.mem_singleton.1 hd; omega) (by decide) (by decide) l0).mono ?_; rintro e wx1 ⟨rfl, h⟩; (have X1 := Lib.hid (h)); clear h; clear _h))
        go_ret
        exact ⟨rfl, X10.out.bel⟩

set_option maxRecDepth 20000 in
set_option maxHeartbeats 16000000 in
theorem pair_false (slots which i looks nd : Int) (m n k s P N : Nat) (w : World) (hk1 : pickI slots 16 = (m : Int)) (hk2 : pickI which n = (k : Int)) (hk3 : pickI looks 30 = (P : Int)) (hnd : i % 1073741824 = nd) (hn : n = 1 + m) (hm : m < 16) (hkn : k < n) (hP : P < 30) (hN : N = 8 + n) (hs0 : s = 8 + k)
    (p0 : -9223372036854775808 ≤ slots) (p1 : slots < 9223372036854775808) (p2a : -9223372036854775808 ≤ which) (p3 : which < 9223372036854775808) (p4 : -9223372036854775808 ≤ looks) (p5 : looks < 9223372036854775808) (i0 : 0 ≤ i) (i1 : i < 4294967296) :
    Calls Try.prog 4 #[.int .i64 slots, .int .i64 which, .bool false, .int .u32 i, .int .i64 looks] w fun z w' => z = .returned (.bool true) ∧ Below w.heap.size w w' := by
  have nd0 : 0 ≤ nd := by omega
  have nd1 : nd < 1073741824 := by omega
  have HOK : Hid (okC ((3 : Nat) : Int) (n : Int) ((0 : Nat) : Int) = true) := Lib.hid (okC3 (by omega))
  have HN : Hid (N = 2 + 2 * 3 + n + 0) := Lib.hid (by omega)
  have HK1 := Lib.hid hk1
  have HK2 := Lib.hid hk2
  have HK3 := Lib.hid hk3
  have e1 : 1 + (m : Int) = (n : Int) := by omega
  have n0 : (0 : Int) < (n : Int) := by omega
  have n1 : (n : Int) < 9223372036854775808 := by omega
  have e3 : (k : Int) % 18446744073709551616 = (k : Int) := by omega
  have HAE : Hid (addE (k : Int) = 0) := Lib.hid (by unfold addE; rw [if_neg (by omega)])
  have HAR1 : Hid (addR [] (k : Int) = [(k : Int)]) := Lib.hid (by unfold addR; rw [if_neg (by omega)]; rfl)
  have HAR2 : Hid (addR [(k : Int)] (k : Int) = [(k : Int), (k : Int)]) := Lib.hid (by unfold addR; rw [if_neg (by omega)]; rfl)
  have hs : s = 8 + k := hs0
  have hfr : rdW (frL 0 3 3 n N) s = 0 := by rw [hs]; exact fr_slot (by omega) (by omega)
  have hsN : s < N := by omega
  have hat0 : ∀ l : List Int, drawI ((k : Int) :: l) n = (k : Int) := fun l => by unfold drawI; rw [if_neg (by omega)]; exact Int.emod_eq_of_lt (by omega) (by omega)
  have hdr0 : ∀ l : List Int, drawR ((k : Int) :: l) n = l := fun l => by unfold drawR; rw [if_neg (by omega)]; rfl
  have hfa : (newEM 3 n 0 0 n 3 false nd 8 100).fit = true := EM.fit_iff.2 ⟨okC3 (by omega), by simp [newEM]; omega, pOk_iff.2 ⟨by simp only [newEM]; omega, by simp only [newEM]; omega, by simp only [newEM]; omega, by simp only [newEM]; omega, by simp [newEM], by simp [newEM]⟩⟩
  have hfb : (newEM 3 n 0 0 n 2 true nd 8 100).fit = true := EM.fit_iff.2 ⟨okC3 (by omega), by simp [newEM]; omega, pOk_iff.2 ⟨by simp only [newEM]; omega, by simp only [newEM]; omega, by simp only [newEM]; omega, by simp only [newEM]; omega, by simp [newEM], by simp [newEM]⟩⟩
  have hata : ∀ l : List Int, atI (3 : Int) n 0 1 (drawI ((k : Int) :: l) n) = (s : Int) := fun l => by rw [hat0, hs]; exact at3 (by omega) (by omega)
  have hfi : (newEM 3 n 0 0 n 3 false nd 8 100).first 0 [(k : Int), (k : Int)] = (⟨s, false, nd, 100, 64, 64, 0⟩ : Al).V 0 := by
    unfold EM.first
    rw [show atI (newEM 3 n 0 0 n 3 false nd 8 100).n (newEM 3 n 0 0 n 3 false nd 8 100).s (newEM 3 n 0 0 n 3 false nd 8 100).h 1 (drawI [(k : Int), (k : Int)] (newEM 3 n 0 0 n 3 false nd 8 100).rg) = (s : Int) from hata _]
    rfl
  have HST : Hid (∀ i, i ≤ 31 → ((⟨s, false, nd, 100, 64, 64, 0⟩ : Al).E (newEM 3 n 0 0 n 3 false nd 8 100) i).step ((⟨s, false, nd, 100, 64, 64, 0⟩ : Al).W (frL 0 3 3 n N) i) 0 (Al.ds [(k : Int), (k : Int)] n i) = ⟨0, 0, (⟨s, false, nd, 100, 64, 64, 0⟩ : Al).E (newEM 3 n 0 0 n 3 false nd 8 100) (i + 1), (⟨s, false, nd, 100, 64, 64, 0⟩ : Al).W (frL 0 3 3 n N) (i + 1), [(⟨s, false, nd, 100, 64, 64, 0⟩ : Al).nt i], Al.ds [(k : Int), (k : Int)] n (i + 1)⟩) := Lib.hid (fun i hi => by
    have := Al.stepE (⟨s, false, nd, 100, 64, 64, 0⟩ : Al) (S := (newEM 3 n 0 0 n 3 false nd 8 100)) (ws := (frL 0 3 3 n N)) (ds := [(k : Int), (k : Int)]) (now := 0) hfr (by rw [frL_len]; exact hsN) (show sSt 0 = 0 by decide) (show 1 ≤ 64 by decide) rfl rfl hfa (hata _) (.inl hfi) (show i ≤ 64 + 2 by omega) ⟨fun j h1 h2 => ⟨show (j : Int) + 1 < max 64 1 by have h3 : j + 1 < 64 := h2; omega, show (0 : Int) < 100 by decide⟩, fun h1 => .inl (show max (64 : Int) 1 ≤ ((64 : Nat) : Int) by decide)⟩
    rw [if_neg (show ¬ i = 64 + 2 by omega)] at this
    exact this)
  have hdd : DsOk [(k : Int), (k : Int)] := fun d hd => by
    have : d = (k : Int) := by simpa using hd
    omega
  have HG0 : Hid (EGood N 0 ((⟨s, false, nd, 100, 64, 64, 0⟩ : Al).E (newEM 3 n 0 0 n 3 false nd 8 100) 0) ((⟨s, false, nd, 100, 64, 64, 0⟩ : Al).W (frL 0 3 3 n N) 0) ((⟨s, false, nd, 100, 64, 64, 0⟩ : Al).ns 0) (Al.ds [(k : Int), (k : Int)] n 0)) := Lib.hid ⟨newEM_ok N 0 nd0 (by omega) (by decide) (by decide) (by decide) (by decide), frL_len _ _ _ _ _, hdd, Nat.le_refl _⟩
  -- behind the looks
  obtain ⟨v, hv⟩ : ∃ v, sOffer 0 false nd = v := ⟨_, rfl⟩
  obtain ⟨c, hc⟩ : ∃ c, sClaim v true nd = c := ⟨_, rfl⟩
  have hw2 : (⟨s, false, nd, 100, 64, 64, 0⟩ : Al).W (frL 0 3 3 n N) (P + 2) = (frL 0 3 3 n N).set s v := by
    have e : (⟨s, false, nd, 100, 64, 64, 0⟩ : Al).W (frL 0 3 3 n N) (P + 2) = (frL 0 3 3 n N).set s (⟨s, false, nd, 100, 64, 64, 0⟩ : Al).v := if_pos (show P ≤ 64 by omega)
    rw [e, ← hv]
    rfl
  have hVA : (⟨s, false, nd, 100, 64, 64, 0⟩ : Al).V (P + 2) = ⟨s, false, nd, 100, max 64 1 - P, v, .look, 0, true⟩ := by
    have e : (⟨s, false, nd, 100, 64, 64, 0⟩ : Al).V (P + 2) = ⟨s, false, nd, 100, max 64 1 - P, (⟨s, false, nd, 100, 64, 64, 0⟩ : Al).v, .look, 0, true⟩ := if_pos (show P < 64 by omega)
    rw [e, ← hv]
    rfl
  have hEA : (⟨s, false, nd, 100, 64, 64, 0⟩ : Al).E (newEM 3 n 0 0 n 3 false nd 8 100) (P + 2) = { (newEM 3 n 0 0 n 3 false nd 8 100) with pl := s, V := some ⟨s, false, nd, 100, max 64 1 - P, v, .look, 0, true⟩ } := by
    have e : (⟨s, false, nd, 100, 64, 64, 0⟩ : Al).E (newEM 3 n 0 0 n 3 false nd 8 100) (P + 2) = { (newEM 3 n 0 0 n 3 false nd 8 100) with pl := s, V := some ((⟨s, false, nd, 100, 64, 64, 0⟩ : Al).V (P + 2)) } := if_neg (show ¬ P + 1 = 64 + 2 by omega)
    rw [e, hVA]
  have hv0 : 0 ≤ v ∧ v < 18446744073709551616 := by rw [← hv]; exact sOffer_rng (by decide) (by decide)
  have hc0 : 0 ≤ c ∧ c < 18446744073709551616 := by rw [← hc]; exact sClaim_rng hv0.1 hv0.2
  have hlen : ((frL 0 3 3 n N).set s v).length = N := by rw [List.length_set, frL_len]
  have hlen2 : (((frL 0 3 3 n N).set s v).set s c).length = N := by rw [List.length_set, hlen]
  have hrv : rdW ((frL 0 3 3 n N).set s v) s = v := rdW_set _ _ _ (by rw [frL_len]; exact hsN)
  have hrc : rdW (((frL 0 3 3 n N).set s v).set s c) s = c := rdW_set _ _ _ (by rw [hlen]; exact hsN)
  have hmt : sMeets v true = true := by rw [← hv]; unfold sMeets; rw [sSt_offer]; rfl
  have hc3 : sSt c = 3 := by rw [← hc]; exact sSt_claim
  have hct : sTp c = sTp v := by rw [← hc]; exact sTp_claim
  have hvs : sSt v ≠ 3 := by rw [← hv, sSt_offer]; decide
  have hne : c ≠ v := fun e => hvs (by rw [← e]; exact hc3)
  have hci : sIx c = nd := by
    rw [← hc, sIx_claim nd0 (by omega)]
    rfl
  have hrg1 : rngOf2 ((frL 0 3 3 n N).set s v) := rngSet (rngOf (frL_rng (by decide) (by decide) (by decide))) hv0
  have hrg2 : rngOf2 (((frL 0 3 3 n N).set s v).set s c) := rngSet hrg1 hc0
  have hfb1 : (newEM 3 n 0 0 n 2 true nd 8 100).first 0 [(k : Int)] = newVM s true nd 100 32 := by
    unfold EM.first
    rw [show atI (newEM 3 n 0 0 n 2 true nd 8 100).n (newEM 3 n 0 0 n 2 true nd 8 100).s (newEM 3 n 0 0 n 2 true nd 8 100).h 1 (drawI [(k : Int)] (newEM 3 n 0 0 n 2 true nd 8 100).rg) = (s : Int) from hata _]
    rfl
  have hb1 := EM.begins (S := (newEM 3 n 0 0 n 2 true nd 8 100)) (ws := (frL 0 3 3 n N).set s v) (now := 0) (ds := [(k : Int)]) rfl rfl hfb (by rw [hfb1]; exact vm_meets hrv (by rw [hlen]; exact hsN) hmt)
  rw [show atI (newEM 3 n 0 0 n 2 true nd 8 100).n (newEM 3 n 0 0 n 2 true nd 8 100).s (newEM 3 n 0 0 n 2 true nd 8 100).h 1 (drawI [(k : Int)] (newEM 3 n 0 0 n 2 true nd 8 100).rg) = (s : Int) from hata _, show drawR [(k : Int)] (newEM 3 n 0 0 n 2 true nd 8 100).rg = [] from hdr0 _] at hb1
  have hb2 := EM.ends (S := { (newEM 3 n 0 0 n 2 true nd 8 100) with pl := s, V := some ⟨s, true, nd, 100, max 32 1, v, .claim, 0, false⟩ }) (ws := (frL 0 3 3 n N).set s v) (now := 0) (ds := []) rfl rfl (vm_claim hrv (by rw [hlen]; exact hsN)) (by decide)
  rw [hc] at hb2
  have ha1 := EM.on (S := { (newEM 3 n 0 0 n 3 false nd 8 100) with pl := s, V := some ⟨s, false, nd, 100, max 64 1 - P, v, .look, 0, true⟩ }) (ws := ((frL 0 3 3 n N).set s v).set s c) (now := 0) (ds := []) rfl rfl (vm_found hrc (by rw [hlen2]; exact hsN) hne hc3 hct)
  have ha2 := EM.ends (S := { (newEM 3 n 0 0 n 3 false nd 8 100) with pl := s, V := some ⟨s, false, sIx c, 100, max 64 1 - P, v, .found c, 0, true⟩ }) (ws := ((frL 0 3 3 n N).set s v).set s c) (now := 0) (ds := []) rfl rfl (vm_clear hrc (by rw [hlen2]; exact hsN)) (by decide)
  have hpr : pAr (n : Int) n 1 = n := by unfold pAr pR; simp; omega
  have hzb : VM.told ⟨s, true, sIx c, 100, max 32 1, v, .claim, 1, false⟩ 1 = 0 := by simp [VM.told, hci]
  have hza : VM.told ⟨s, false, sIx c, 100, max 64 1 - P, v, .found c, 1, true⟩ 1 = nd := by simp [VM.told, hci]
  rw [hzb] at hb2
  rw [hza] at ha2
  have hW0 := hw2
  have hEA0 := hEA
  have hD0 : Al.ds [(k : Int), (k : Int)] n (P + 2) = [(k : Int)] := hdr0 _
  have hq : ∀ w, (binOp .eql 23 (polV n 0) (polV n 0)).run Try.prog w = .ok (.bool true) w := fun w => by
    have := polEq (n : Int) 0 n 0 w
    rwa [show ((n : Int) == n && (0 : Int) == 0) = true by simp] at this
  clear hfr hat0 hdr0 hfa hfb hata hfi hdd hfb1 hs hs0 hn hN hk1 hk2 hk3
  have H := Lib.hid (St.nil w)
  have K_hv0 := Lib.hid hv0
  have K_hc0 := Lib.hid hc0
  have K_hlen := Lib.hid hlen
  have K_hlen2 := Lib.hid hlen2
  have K_hrv := Lib.hid hrv
  have K_hrc := Lib.hid hrc
  have K_hmt := Lib.hid hmt
  have K_hc3 := Lib.hid hc3
  have K_hct := Lib.hid hct
  have K_hvs := Lib.hid hvs
  have K_hne := Lib.hid hne
  have K_hci := Lib.hid hci
  have K_hrg1 := Lib.hid hrg1
  have K_hrg2 := Lib.hid hrg2
  have K_hb1 := Lib.hid hb1
  have K_hb2 := Lib.hid hb2
  have K_ha1 := Lib.hid ha1
  have K_ha2 := Lib.hid ha2
  have K_hpr := Lib.hid hpr
  have K_hW0 := Lib.hid hW0
  have K_hEA0 := Lib.hid hEA0
  have K_hD0 := Lib.hid hD0
  clear hv0 hc0 hlen hlen2 hrv hrc hmt hc3 hct hvs hne hci hrg1 hrg2 hb1 hb2 ha1 ha2 hpr hW0 hEA0 hD0 hzb hza hw2 hVA hEA hv hc
  go_enter Try.func4, Try.ntmps4
  go_wp2_with (first | ((have _h := H8); go_at_call 14; refine (src_add k 0 [(k : Int), (k : Int)] (H8.out.front 1 rfl) (by omega) (by simp) HAE.out HAR2.out).mono ?_; rintro e w9 ⟨rfl, h⟩; (have H9 := Lib.hid (h.front 1 rfl)); clear h; clear q0 q1 q2 q3; (obtain ⟨q0, q1, q2, q3⟩ := cells4 (H9.out.cells 4 rfl)); clear _h) | ((have _h := H7); go_at_call 14; refine (src_add k 0 [(k : Int)] (H7.out.front 1 rfl) (by omega) (by simp) HAE.out HAR1.out).mono ?_; rintro e w8 ⟨rfl, h⟩; (have H8 := Lib.hid (h.front 1 rfl)); clear h; clear q0 q1 q2 q3; (obtain ⟨q0, q1, q2, q3⟩ := cells4 (H8.out.cells 4 rfl)); clear _h) | ((have _h := H6); go_at_call 10; refine (pick_is which n (k : Int) _ HK2.out n0 n1 p2a p3).mono ?_; rintro e w7 ⟨rfl, rfl⟩; (have H7 := Lib.hid (H6.out)); clear q0 q1 q2 q3; (obtain ⟨q0, q1, q2, q3⟩ := cells4 (H7.out.cells 4 rfl)); clear _h) | ((have _h := H5); go_at_call 13; refine (em_new 3 n 0 0 n 2 true nd 8 100 H5.out).mono ?_; rintro e w6 ⟨p2, rfl, h⟩; (have H6 := Lib.hid (h)); clear h; clear q0 q1 q2 q3; (obtain ⟨q0, q1, q2, q3⟩ := cells4 (H6.out.cells 4 rfl)); clear _h) | ((have _h := H4); go_at_call 13; refine (em_new 3 n 0 0 n 3 false nd 8 100 H4.out).mono ?_; rintro e w5 ⟨p, rfl, h⟩; (have H5 := Lib.hid (h)); clear h; clear q0 q1 q2 q3; (obtain ⟨q0, q1, q2, q3⟩ := cells4 (H5.out.cells 3 rfl)); clear _h) | ((have _h := H3); go_at_call 12; refine (src_new H3.out).mono ?_; rintro e w4 ⟨r, rfl, h⟩; (have H4 := Lib.hid (h.swap)); clear h; clear q0 q1 q2 q3; (obtain ⟨q0, q1, q2, q3⟩ := cells4 (H4.out.cells 2 rfl)); clear _h) | ((have _h := H2); go_at_call 11; refine (begun_ok 3 n 0 0 0 N (H2.out.alloc #[.int .i64 3, .int .i64 n, .int .i64 0, .int .u32 0] 28) HOK.out HN.out (by decide) (by decide) (by decide)).mono ?_; rintro e w3 ⟨q, rfl, h⟩; (have H3 := Lib.hid (h)); clear h; (obtain ⟨q0, q1, q2, q3⟩ := cells4 (H3.out.cells 1 rfl)); clear _h) | ((have _h := H1); go_at_call 10; refine (pick_is slots 16 (m : Int) _ HK1.out (by decide) (by decide) p0 p1).mono ?_; rintro e w2 ⟨rfl, rfl⟩; (have H2 := Lib.hid (H1.out)); clear _h) | ((have _h := H); go_at_call 9; refine (shown12 _).mono ?_; rintro e w1 ⟨rfl, hb⟩; (have H1 := Lib.hid (H.out.below hb)); clear hb; clear _h))
  have HS0 : Hid (St w (memA q ((⟨s, false, nd, 100, 64, 64, 0⟩ : Al).W (frL 0 3 3 n N) 0) ((⟨s, false, nd, 100, 64, 64, 0⟩ : Al).ns 0) :: srcA r 0 (Al.ds [(k : Int), (k : Int)] n 0) :: emA p ((⟨s, false, nd, 100, 64, 64, 0⟩ : Al).E (newEM 3 n 0 0 n 3 false nd 8 100) 0) :: emA p2 (newEM 3 n 0 0 n 2 true nd 8 100) :: [boxA w1.heap.size #[.int .i64 3, .int .i64 n, .int .i64 0, .int .u32 0] 28]) w9) := Lib.hid (((H9.out.front 3 rfl).front 2 rfl).front 2 rfl)
  generalize w1.heap.size = bc at *
  clear H1 H2 H3 H4 H5 H6 H7 H8 H9 q0 q1 q2 q3
  go_loopg [20] 33 (fun kq z w' => ∃ j : Nat, z = .int .i64 j ∧ j ≤ P + 2 ∧ j + kq = 33 ∧ EGood N j ((⟨s, false, nd, 100, 64, 64, 0⟩ : Al).E (newEM 3 n 0 0 n 3 false nd 8 100) j) ((⟨s, false, nd, 100, 64, 64, 0⟩ : Al).W (frL 0 3 3 n N) j) ((⟨s, false, nd, 100, 64, 64, 0⟩ : Al).ns j) (Al.ds [(k : Int), (k : Int)] n j) ∧ St w (memA q ((⟨s, false, nd, 100, 64, 64, 0⟩ : Al).W (frL 0 3 3 n N) j) ((⟨s, false, nd, 100, 64, 64, 0⟩ : Al).ns j) :: srcA r 0 (Al.ds [(k : Int), (k : Int)] n j) :: emA p ((⟨s, false, nd, 100, 64, 64, 0⟩ : Al).E (newEM 3 n 0 0 n 3 false nd 8 100) j) :: emA p2 (newEM 3 n 0 0 n 2 true nd 8 100) :: [boxA bc #[.int .i64 3, .int .i64 n, .int .i64 0, .int .u32 0] 28]) w')
  case atStart => exact ⟨0, rfl, by omega, by decide, HG0.out, HS0.out⟩
  case round =>
    obtain ⟨j, rfl, hj, hkq, hg, hS⟩ := hrel
    clear HS0 HG0
    have HS := Lib.hid hS
    cases gk with
    | zero => omega
    | succ kk =>
      by_cases c4 : j < P + 2
      · have c4b : decide ((j : Int) < 2 + (P : Int)) = true := decide_eq_true (by omega)
        have hst := HST.out j (by omega)
        have HE := Lib.hid hst
        have HGN : Hid (EGood N (j + 1) ((⟨s, false, nd, 100, 64, 64, 0⟩ : Al).E (newEM 3 n 0 0 n 3 false nd 8 100) (j + 1)) ((⟨s, false, nd, 100, 64, 64, 0⟩ : Al).W (frL 0 3 3 n N) (j + 1)) ((⟨s, false, nd, 100, 64, 64, 0⟩ : Al).ns (j + 1)) (Al.ds [(k : Int), (k : Int)] n (j + 1))) := Lib.hid (by
          have := hg.step (by decide) (by decide) (fun j hj => hS.rng hj) hst
          rw [Al.ns_succ] at this
          exact this)
        have HOKS : Hid (((⟨s, false, nd, 100, 64, 64, 0⟩ : Al).E (newEM 3 n 0 0 n 3 false nd 8 100) j).ok ((⟨s, false, nd, 100, 64, 64, 0⟩ : Al).W (frL 0 3 3 n N) j).length ((⟨s, false, nd, 100, 64, 64, 0⟩ : Al).ns j).length) := Lib.hid (by rw [hg.len]; exact hg.ok)
        have hkl : ((⟨s, false, nd, 100, 64, 64, 0⟩ : Al).ns j).length ≤ 1000000000000 := by rw [Al.ns_len]; omega
        have HNS := Lib.hid (Al.ns_succ (⟨s, false, nd, 100, 64, 64, 0⟩ : Al) j)
        have HDS := Lib.hid hg.ds
        clear hst hg hS
        go_wp2_with (first | (go_at_call 10; refine (pick_is looks 30 (P : Int) _ HK3.out (by decide) (by decide) p4 p5).mono ?_; rintro e w' ⟨rfl, rfl⟩) | (go_at_call 15; refine (estep HE.out HNS.out HS.out HOKS.out HDS.out (by decide) (by decide) hkl).mono ?_; rintro e w8 ⟨rfl, h⟩; (have HT := Lib.hid h); clear h))
        go_roundg kk
        case measure => omega
        case rel => exact ⟨j + 1, rfl, by omega, by omega, HGN.out, HT.out⟩
      · have ej : j = P + 2 := by omega
        have c4b : decide ((j : Int) < 2 + (P : Int)) = false := decide_eq_false (by omega)
        rw [ej] at hg hS
        have hv0 := K_hv0.out
        have hc0 := K_hc0.out
        have hlen := K_hlen.out
        have hlen2 := K_hlen2.out
        have hrv := K_hrv.out
        have hrc := K_hrc.out
        have hmt := K_hmt.out
        have hc3 := K_hc3.out
        have hct := K_hct.out
        have hvs := K_hvs.out
        have hne := K_hne.out
        have hci := K_hci.out
        have hrg1 := K_hrg1.out
        have hrg2 := K_hrg2.out
        have hb1 := K_hb1.out
        have hb2 := K_hb2.out
        have ha1 := K_ha1.out
        have ha2 := K_ha2.out
        have hpr := K_hpr.out
        have hW0 := K_hW0.out
        have hEA0 := K_hEA0.out
        have hD0 := K_hD0.out
        have hgA := hg
        rw [hEA0, hW0, hD0] at hgA
        have gB0 : EGood N (P + 2) (newEM 3 n 0 0 n 2 true nd 8 100) ((frL 0 3 3 n N).set s v) ((⟨s, false, nd, 100, 64, 64, 0⟩ : Al).ns (P + 2)) [(k : Int)] := ⟨newEM_ok N _ nd0 (by omega) (by decide) (by decide) (by decide) (by decide), hgA.len, hgA.ds, hgA.few⟩
        have gB1 := gB0.step (by decide) (by decide) hrg1 hb1
        have gB2 := gB1.step (by decide) (by decide) hrg1 hb2
        have gA0 : EGood N (P + 2 + 1 + 1) ({ (newEM 3 n 0 0 n 3 false nd 8 100) with pl := s, V := some ⟨s, false, nd, 100, max 64 1 - P, v, .look, 0, true⟩ } : EM) (((frL 0 3 3 n N).set s v).set s c) ((((⟨s, false, nd, 100, 64, 64, 0⟩ : Al).ns (P + 2)) ++ [ldN s v]) ++ [swN s v c]) [] := ⟨hgA.ok.more (by simp), gB2.len, gB2.ds, gB2.few⟩
        have gA1 := gA0.step (by decide) (by decide) hrg2 ha1
        have HB1 := Lib.hid hb1
        have HB2 := Lib.hid hb2
        have HA1 := Lib.hid ha1
        have HA2 := Lib.hid ha2
        have HOB0 : Hid ((newEM 3 n 0 0 n 2 true nd 8 100).ok ((frL 0 3 3 n N).set s v).length ((⟨s, false, nd, 100, 64, 64, 0⟩ : Al).ns (P + 2)).length) := Lib.hid (by rw [gB0.len]; exact gB0.ok)
        have HOB1 : Hid (({ (newEM 3 n 0 0 n 2 true nd 8 100) with pl := s, V := some ⟨s, true, nd, 100, max 32 1, v, .claim, 0, false⟩ } : EM).ok ((frL 0 3 3 n N).set s v).length (((⟨s, false, nd, 100, 64, 64, 0⟩ : Al).ns (P + 2)) ++ [ldN s v]).length) := Lib.hid (by rw [gB1.len]; exact gB1.ok)
        have HOA0 : Hid (({ (newEM 3 n 0 0 n 3 false nd 8 100) with pl := s, V := some ⟨s, false, nd, 100, max 64 1 - P, v, .look, 0, true⟩ } : EM).ok (((frL 0 3 3 n N).set s v).set s c).length ((((⟨s, false, nd, 100, 64, 64, 0⟩ : Al).ns (P + 2)) ++ [ldN s v]) ++ [swN s v c]).length) := Lib.hid (by rw [gA0.len]; exact gA0.ok)
        have HOA1 : Hid (({ (newEM 3 n 0 0 n 3 false nd 8 100) with pl := s, V := some ⟨s, false, sIx c, 100, max 64 1 - P, v, .found c, 0, true⟩ } : EM).ok (((frL 0 3 3 n N).set s v).set s c).length (((((⟨s, false, nd, 100, 64, 64, 0⟩ : Al).ns (P + 2)) ++ [ldN s v]) ++ [swN s v c]) ++ [ldN s c]).length) := Lib.hid (by rw [gA1.len]; exact gA1.ok)
        have HMB : Hid (({ (newEM 3 n 0 0 n 2 true nd 8 100) with pl := s, V := some ⟨s, true, sIx c, 100, max 32 1, v, .claim, 1, false⟩, en := 1, rg := pAr (newEM 3 n 0 0 n 2 true nd 8 100).rg (newEM 3 n 0 0 n 2 true nd 8 100).s 1, ex := pAe (newEM 3 n 0 0 n 2 true nd 8 100).ex 1 } : EM).ok N ((((⟨s, false, nd, 100, 64, 64, 0⟩ : Al).ns (P + 2)) ++ [ldN s v]) ++ [swN s v c]).length) := Lib.hid gB2.ok
        have HMA : Hid (({ (newEM 3 n 0 0 n 3 false nd 8 100) with pl := s, V := some ⟨s, false, nd, 100, max 64 1 - P, v, .look, 0, true⟩ } : EM).ok N ((((⟨s, false, nd, 100, 64, 64, 0⟩ : Al).ns (P + 2)) ++ [ldN s v]) ++ [swN s v c]).length) := Lib.hid gA0.ok
        have HL2 : Hid ((((frL 0 3 3 n N).set s v).set s c).length = N) := Lib.hid hlen2
        have HTA : Hid (({ (newEM 3 n 0 0 n 3 false nd 8 100) with pl := s, V := some ⟨s, false, nd, 100, max 64 1 - P, v, .look, 0, true⟩ } : EM).met (((frL 0 3 3 n N).set s v).set s c) = true) := Lib.hid (by
          show VM.met ⟨s, false, nd, 100, max 64 1 - P, v, .look, 0, true⟩ (((frL 0 3 3 n N).set s v).set s c) = true
          unfold VM.met
          simp only [ne_eq, not_true_eq_false, Bool.true_eq_false, or_self, if_false, Int.toNat_natCast, hrc, hlen2]
          simp [hne, hsN])
        have HTB : Hid (({ (newEM 3 n 0 0 n 2 true nd 8 100) with pl := s, V := some ⟨s, true, sIx c, 100, max 32 1, v, .claim, 1, false⟩, en := 1, rg := pAr (newEM 3 n 0 0 n 2 true nd 8 100).rg (newEM 3 n 0 0 n 2 true nd 8 100).s 1, ex := pAe (newEM 3 n 0 0 n 2 true nd 8 100).ex 1 } : EM).met (((frL 0 3 3 n N).set s v).set s c) = true) := Lib.hid (by
          show VM.met ⟨s, true, sIx c, 100, max 32 1, v, .claim, 1, false⟩ (((frL 0 3 3 n N).set s v).set s c) = true
          simp [VM.met])
        have HRA : Hid (({ (newEM 3 n 0 0 n 3 false nd 8 100) with pl := s, V := some ⟨s, false, sIx c, 100, max 64 1 - P, v, .found c, 1, true⟩, en := 1, rg := pAr (newEM 3 n 0 0 n 3 false nd 8 100).rg (newEM 3 n 0 0 n 3 false nd 8 100).s 1, ex := pAe (newEM 3 n 0 0 n 3 false nd 8 100).ex 1 } : EM).rg = (n : Int) ∧ ({ (newEM 3 n 0 0 n 3 false nd 8 100) with pl := s, V := some ⟨s, false, sIx c, 100, max 64 1 - P, v, .found c, 1, true⟩, en := 1, rg := pAr (newEM 3 n 0 0 n 3 false nd 8 100).rg (newEM 3 n 0 0 n 3 false nd 8 100).s 1, ex := pAe (newEM 3 n 0 0 n 3 false nd 8 100).ex 1 } : EM).ex = 0) := Lib.hid ⟨hpr, by show pAe 3 1 = 0; decide⟩
        have HRB : Hid (({ (newEM 3 n 0 0 n 2 true nd 8 100) with pl := s, V := some ⟨s, true, sIx c, 100, max 32 1, v, .claim, 1, false⟩, en := 1, rg := pAr (newEM 3 n 0 0 n 2 true nd 8 100).rg (newEM 3 n 0 0 n 2 true nd 8 100).s 1, ex := pAe (newEM 3 n 0 0 n 2 true nd 8 100).ex 1 } : EM).rg = (n : Int) ∧ ({ (newEM 3 n 0 0 n 2 true nd 8 100) with pl := s, V := some ⟨s, true, sIx c, 100, max 32 1, v, .claim, 1, false⟩, en := 1, rg := pAr (newEM 3 n 0 0 n 2 true nd 8 100).rg (newEM 3 n 0 0 n 2 true nd 8 100).s 1, ex := pAe (newEM 3 n 0 0 n 2 true nd 8 100).ex 1 } : EM).ex = 0) := Lib.hid ⟨hpr, by show pAe 2 1 = 0; decide⟩
        have h1 := hS
        rw [hEA0, hW0, hD0] at h1
        have HS1 : Hid (St w (memA q ((frL 0 3 3 n N).set s v) ((⟨s, false, nd, 100, 64, 64, 0⟩ : Al).ns (P + 2)) :: srcA r 0 [(k : Int)] :: emA p ({ (newEM 3 n 0 0 n 3 false nd 8 100) with pl := s, V := some ⟨s, false, nd, 100, max 64 1 - P, v, .look, 0, true⟩ } : EM) :: emA p2 (newEM 3 n 0 0 n 2 true nd 8 100) :: [boxA bc #[.int .i64 3, .int .i64 n, .int .i64 0, .int .u32 0] 28]) wr) := Lib.hid h1
        have hnl : ((⟨s, false, nd, 100, 64, 64, 0⟩ : Al).ns (P + 2)).length = P + 2 := Al.ns_len _ _
        have l0 : ((⟨s, false, nd, 100, 64, 64, 0⟩ : Al).ns (P + 2)).length ≤ 1000000000000 := by rw [hnl]; omega
        have l1 : (((⟨s, false, nd, 100, 64, 64, 0⟩ : Al).ns (P + 2)) ++ [ldN s v]).length ≤ 1000000000000 := by rw [List.length_append, hnl]; simp; omega
        have l2 : ((((⟨s, false, nd, 100, 64, 64, 0⟩ : Al).ns (P + 2)) ++ [ldN s v]) ++ [swN s v c]).length ≤ 1000000000000 := by rw [List.length_append, List.length_append, hnl]; simp; omega
        have l3 : (((((⟨s, false, nd, 100, 64, 64, 0⟩ : Al).ns (P + 2)) ++ [ldN s v]) ++ [swN s v c]) ++ [ldN s c]).length ≤ 1000000000000 := by rw [List.length_append, List.length_append, List.length_append, hnl]; simp; omega
        clear hv0 hc0 hlen hlen2 hrv hrc hmt hc3 hct hvs hne hci hrg1 hrg2 hb1 hb2 ha1 ha2 hpr hW0 hEA0 hD0 hgA gB0 gB1 gB2 gA0 gA1 h1 hS hg hnl
        clear HS ej c4 hj
        go_wp2_with (first | (go_at_call 10; refine (pick_is looks 30 (P : Int) _ HK3.out (by decide) (by decide) p4 p5).mono ?_; rintro e w' ⟨rfl, rfl⟩) | ((have _h := X9); go_at_call 18; refine (e_stateV X9.out 3 rfl (n : Int) 0 HRB.out.1 HRB.out.2).mono ?_; rintro e wx10 ⟨rfl, hb⟩; (have X10 := Lib.hid (X9.out.below hb)); clear hb; clear _h) | ((have _h := X8); go_at_call 18; refine (e_stateV X8.out 2 rfl (n : Int) 0 HRA.out.1 HRA.out.2).mono ?_; rintro e wx9 ⟨rfl, hb⟩; (have X9 := Lib.hid (X8.out.below hb)); clear hb; clear _h) | ((have _h := X7); go_at_call 15; refine (estep HA2.out rfl X7.out HOA1.out (fun d hd => by cases hd) (by decide) (by decide) l3).mono ?_; rintro e wx8 ⟨rfl, h⟩; (have X8 := Lib.hid (h)); clear h; clear _h) | ((have _h := X6); go_at_call 15; refine (estep HA1.out rfl X6.out HOA0.out (fun d hd => by cases hd) (by decide) (by decide) l2).mono ?_; rintro e wx7 ⟨rfl, h⟩; (have X7 := Lib.hid (h)); clear h; clear _h) | ((have _h := X5); go_at_call 20; refine (e_met _ N _ N _ (((frL 0 3 3 n N).set s v).set s c) true (((X5.out.front 3 rfl).front 2 rfl).front 2 rfl) HMB.out HRb.out HL2.out HTB.out).mono ?_; rintro e wx6 ⟨rfl, hb⟩; (have X6 := Lib.hid (X5.out.below hb)); clear hb; clear _h) | ((have _h := X4); go_at_call 21; refine (words_st X4.out N HL2.out).mono ?_; rintro e wx5 ⟨alb, clb, rfl, hrw, _, hb⟩; (have X5 := Lib.hid (X4.out.below hb)); (have HRb := Lib.hid hrw); clear hrw hb; clear _h) | ((have _h := X3); go_at_call 20; refine (e_met _ N _ N _ (((frL 0 3 3 n N).set s v).set s c) true X3.out HMA.out HRa.out HL2.out HTA.out).mono ?_; rintro e wx4 ⟨rfl, hb⟩; (have X4 := Lib.hid (X3.out.below hb)); clear hb; clear _h) | ((have _h := X2); go_at_call 21; refine (words_st X2.out N HL2.out).mono ?_; rintro e wx3 ⟨ala, cla, rfl, hrw, _, hb⟩; (have X3 := Lib.hid (X2.out.below hb)); (have HRa := Lib.hid hrw); clear hrw hb; clear _h) | ((have _h := X1); go_at_call 15; refine (estep HB2.out rfl X1.out HOB1.out (fun d hd => by cases hd) (by decide) (by decide) l1).mono ?_; rintro e wx2 ⟨rfl, h⟩; (have X2 := Lib.hid ((((h.front 3 rfl).front 2 rfl).front 2 rfl))); clear h; clear _h) | ((have _h := HS1); go_at_call 15; refine (estep HB1.out rfl (((HS1.out.front 3 rfl).front 2 rfl).front 2 rfl) HOB0.out (fun d hd => by obtain rfl := List.mem_singleton.1 hd; omega) (by decide) (by decide) l0).mono ?_; rintro e wx1 ⟨rfl, h⟩; (have X1 := Lib.hid (h)); clear h; clear _h))
        go_ret
        exact ⟨rfl, X10.out.bel⟩

theorem elimPair_walk (slots which : Int) (pf : Bool) (i looks : Int) (w : World) (h1 : (Lit.int .i64 slots).wf = true) (h2 : (Lit.int .i64 which).wf = true) (h3 : (Lit.int .u32 i).wf = true) (h4 : (Lit.int .i64 looks).wf = true) :
    Calls Try.prog 4 #[.int .i64 slots, .int .i64 which, .bool pf, .int .u32 i, .int .i64 looks] w fun z w' => z = .returned (.bool true) ∧ Below w.heap.size w w' := by
  obtain ⟨p0, p1⟩ := rngI64 h1
  obtain ⟨p2, p3⟩ := rngI64 h2
  obtain ⟨i0, i1⟩ := rngU32 h3
  obtain ⟨p4, p5⟩ := rngI64 h4
  have a1 := pickI_rng (c := slots) (n := 16) (by decide)
  obtain ⟨m, hk1⟩ := Int.eq_ofNat_of_zero_le a1.1
  have a2 := pickI_rng (c := which) (n := ((1 + m : Nat) : Int)) (by omega)
  obtain ⟨k, hk2⟩ := Int.eq_ofNat_of_zero_le a2.1
  have a3 := pickI_rng (c := looks) (n := 30) (by decide)
  obtain ⟨P, hk3⟩ := Int.eq_ofNat_of_zero_le a3.1
  cases pf with
  | true => exact pair_true slots which i looks _ m (1 + m) k _ P _ w hk1 hk2 hk3 rfl rfl (by omega) (by omega) (by omega) rfl rfl p0 p1 p2 p3 p4 p5 i0 i1
  | false => exact pair_false slots which i looks _ m (1 + m) k _ P _ w hk1 hk2 hk3 rfl rfl (by omega) (by omega) (by omega) rfl rfl p0 p1 p2 p3 p4 p5 i0 i1
end Go.Proofs.Ythnjeiandfdpgaa
