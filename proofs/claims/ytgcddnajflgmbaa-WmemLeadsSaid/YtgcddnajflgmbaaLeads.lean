/-
  The law WmemLeads: the walk.
-/
import Derived.Test.YtgcddnajflgmbaaLeadsLaw
namespace Go.Proofs.Ytgcddnajflgmbaa
open Go.RowKit Go.Proofs.YtgcddnajflgmbaaW.PrintWords
set_option linter.unusedVariables false
set_option linter.unusedSimpArgs false

set_option maxHeartbeats 16000000 in
set_option maxRecDepth 100000 in
theorem leads_big (A B : Option Addr) (c l m d : Nat) (w : World) (hl : 1024 < l) :
    Calls Try.prog 7 #[.slice A l c, .slice B m d] w fun e w' => e = .returned (.bool true) ∧ Below w.heap.size w w' := by
  have d0 : decide ((200 : Int) < l) = true := decide_eq_true (by omega)
  go_enter Try.func7, Try.ntmps7
  go_wp2_with (first | (go_at_call 9; refine (shown_any _).mono ?_; rintro e w1 ⟨rfl, hb⟩; (have HB := Lib.hid hb); clear hb) | (go_at_call 10; refine (new_no A l c _ hl).mono ?_; rintro e w2 ⟨rfl, rfl⟩) | (go_at_call 18; refine (rnew_no A l c _ hl).mono ?_; rintro e w2 ⟨rfl, rfl⟩))
  go_ret
  exact ⟨rfl, HB.out⟩
set_option maxHeartbeats 16000000 in
set_option maxRecDepth 100000 in
theorem leads_mid (A B : Option Addr) (c m d : Nat) (ws : List Int) (w : World) (hr : RdU w A ws) (hv : ∀ x ∈ ws, 0 ≤ x ∧ x < 18446744073709551616) (hm : ws.length ≤ 1024) (hl : 200 < ws.length) :
    Calls Try.prog 7 #[.slice A ws.length c, .slice B m d] w fun e w' => e = .returned (.bool true) ∧ Below w.heap.size w w' := by
  have d0 : decide ((200 : Int) < ws.length) = true := decide_eq_true (by omega)
  have HR := Lib.hid hr
  have HV := Lib.hid hv
  clear hr hv
  go_enter Try.func7, Try.ntmps7
  go_wp2_with (first | (go_at_call 9; refine (shown_any _).mono ?_; rintro e w1 ⟨rfl, hb⟩; (have HB := Lib.hid hb); clear hb) | (go_at_call 10; refine (new_ok (fun _ => 0) 1 A c ws _ (HR.out.kept HB.out) (by omega) HV.out).mono ?_; intro e w2 h; obtain ⟨p, o1, rfl, hs⟩ := solo_of HB.out h; (have HS := Lib.hid hs); clear h hs) | (go_at_call 18; refine (rnew_any o1 2 A c ws _ (HR.out.kept HS.out.bel) (by omega) HV.out).mono ?_; intro e w3 h; obtain ⟨q, o2, rfl, h1, h2, h3, h4⟩ := HS.out.duo h; (have HD := Lib.hid (Duo.mk h1 h2 h3 h4)); clear h h1 h2 h3 h4))
  go_ret
  exact ⟨rfl, HD.out.bel⟩
set_option maxHeartbeats 16000000 in
set_option maxRecDepth 100000 in
theorem leads_many (A B : Option Addr) (c m d : Nat) (ws : List Int) (w : World) (hr : RdU w A ws) (hv : ∀ x ∈ ws, 0 ≤ x ∧ x < 18446744073709551616) (hm : ws.length ≤ 200) (hl : 200 < m) :
    Calls Try.prog 7 #[.slice A ws.length c, .slice B m d] w fun e w' => e = .returned (.bool true) ∧ Below w.heap.size w w' := by
  have d0 : decide ((200 : Int) < ws.length) = false := decide_eq_false (by omega)
  have d1 : decide ((200 : Int) < m) = true := decide_eq_true (by omega)
  have HR := Lib.hid hr
  have HV := Lib.hid hv
  clear hr hv
  go_enter Try.func7, Try.ntmps7
  go_wp2_with (first | (go_at_call 9; refine (shown_any _).mono ?_; rintro e w1 ⟨rfl, hb⟩; (have HB := Lib.hid hb); clear hb) | (go_at_call 10; refine (new_ok (fun _ => 0) 1 A c ws _ (HR.out.kept HB.out) (by omega) HV.out).mono ?_; intro e w2 h; obtain ⟨p, o1, rfl, hs⟩ := solo_of HB.out h; (have HS := Lib.hid hs); clear h hs) | (go_at_call 18; refine (rnew_any o1 2 A c ws _ (HR.out.kept HS.out.bel) (by omega) HV.out).mono ?_; intro e w3 h; obtain ⟨q, o2, rfl, h1, h2, h3, h4⟩ := HS.out.duo h; (have HD := Lib.hid (Duo.mk h1 h2 h3 h4)); clear h h1 h2 h3 h4))
  go_ret
  exact ⟨rfl, HD.out.bel⟩
set_option maxHeartbeats 16000000 in
set_option maxRecDepth 100000 in
theorem leads_body (ad : Addr) (B : Option Addr) (c m d : Nat) (ws : List Int) (w : World) (hr : RdU w (some ad) ws) (hv : ∀ x ∈ ws, 0 ≤ x ∧ x < 18446744073709551616) (F : Nat → PAct) (hb : RdActs w B m F) (h0 : 0 < ws.length) (hm : ws.length ≤ 200) (hl : m ≤ 200) :
    Calls Try.prog 7 #[.slice (some ad) ws.length c, .slice B m d] w fun e w' => e = .returned (.bool true) ∧ Below w.heap.size w w' := by
  have d0 : decide ((200 : Int) < ws.length) = false := decide_eq_false (by omega)
  have d1 : decide ((200 : Int) < m) = false := decide_eq_false (by omega)
  have HR := Lib.hid hr
  have HV := Lib.hid hv
  clear hr hv
  have HBt := Lib.hid hb
  clear hb
  go_enter Try.func7, Try.ntmps7
  go_wp2_with (first | (go_at_call 9; refine (shown_any _).mono ?_; rintro e w1 ⟨rfl, hb⟩; (have HB := Lib.hid hb); clear hb) | (go_at_call 10; refine (new_ok (fun _ => 0) 1 (some ad) c ws _ (HR.out.kept HB.out) (by omega) HV.out).mono ?_; intro e w2 h; obtain ⟨p, o1, rfl, hs⟩ := solo_of HB.out h; (have HS := Lib.hid hs); clear h hs) | (go_at_call 18; refine (rnew_any o1 2 (some ad) c ws _ (HR.out.kept HS.out.bel) (by omega) HV.out).mono ?_; intro e w3 h; obtain ⟨q, o2, rfl, h1, h2, h3, h4⟩ := HS.out.duo h; (have HD := Lib.hid (Duo.mk h1 h2 h3 h4)); clear h h1 h2 h3 h4))
  have HRel := Lib.hid (show LeadsRel w p q 0 ws w3 from ⟨o2, ws, [], HD.out, Nat.le_refl _, LeadsTo.nil ws⟩)
  go_loopg [10] (m + 1) (fun kq x w' => ∃ i : Nat, x = .int .i64 i ∧ i ≤ m ∧ i + kq = m + 1 ∧ LeadsRel w p q i ws w')
  case atStart => exact ⟨0, rfl, Nat.zero_le _, by omega, HRel.out⟩
  case round =>
    obtain ⟨i, rfl, hi, hkq, o, ws2, ns, hd, hni, hz⟩ := hrel
    have HE := Lib.hid hd
    have HZ := Lib.hid hz
    have hnl : ns.length ≤ 1000000000000 := by omega
    clear hd HRel hz
    cases gk with
    | zero => omega
    | succ k1 =>
      by_cases c4 : i < m
      · have c4b0 : decide ((i : Int) < m) = true := decide_eq_true (by omega)
        obtain ⟨bd, rfl, f0, f1, f2, f3, f4, hok⟩ := (HBt.out.kept HE.out.bel).at_ c4
        have HA := Lib.hid hok
        clear hok
        go_wp2_with (first | (go_at_call 19; refine (does_any o p q ws2 ns _ _ _ _ _ _ HE.out.mem HE.out.ref HA.out.1 HA.out.2.1 HA.out.2.2 hnl).mono ?_; rintro e w6 ⟨rfl, hp⟩; obtain ⟨o6, ws6, ns6, hd, hs⟩ := HE.out.does hp; (have HD6 := Lib.hid hd); (have HS6 := Lib.hid hs); clear hp hd hs))
        go_roundg k1
        case measure => omega
        case rel => exact ⟨i + 1, rfl, by omega, by omega, o6, ws6, ns6, HD6.out, by have := HS6.out.notes; omega, HZ.out.step HS6.out⟩
      · have c4b0 : decide ((i : Int) < m) = false := decide_eq_false (by omega)
        obtain rfl : i = m := by omega
        obtain ⟨i0, hi0, hz0, hz1, hz2⟩ := info_parts infoU64
        have hnl2 : ns.length ≤ 1000000 := by omega
        have hcl : ∀ j u, (ws.map fun x => Value.int .u64 x)[j]? = some u → (wr.alloc (.cells #[] 23)).cell? (ad.add j) = some u := by
          obtain ⟨ad', e, hc⟩ := ((HR.out.kept HE.out.bel).kept (bl_alloc (bl_refl wr) (.cells #[] 23))).at_ h0
          cases e
          exact hc
        go_wp2_with (first | (at_builtin; go_must (refine wpList_append_lies _ (by rfl) _ _ _ (by rfl) wr.heap.size 23 i0 _ 1 8 Try.underlying22 hi0 hz0 hz1 hz2 rfl (by decide) (.slice (some ⟨wr.heap.size, 0, none⟩) 0 0) 0 [] (by rfl) ⟨rfl, .inr ⟨_, 0, #[], rfl, Nat.le_refl _, heap_new rfl, by simp, by simp, by simp, by simp⟩⟩ ad ws.length c (ws.map fun x => .int .u64 x) (by rfl) (by simp) hcl (u64_one ws) h0 (by unfold maxLen; omega) (by omega) (by simp) _ rfl ?_); go_must (intro g' cap w10 hown hgrow hat hltg); (have HO := Lib.hid hown); (have HG := Lib.hid (rnew_below rfl hgrow)); (have HM10 := Lib.hid (made_row HE.out.mem (rnew_below rfl hgrow))); clear hown hgrow) | ((have _h := HM10); go_at_call 20; refine (since_all _ 1 p ws2 ns 0 _ HM10.out hnl2 (by decide)).mono ?_; rintro e w11 ⟨a11, c11, rfl, ho, hb⟩; (have HO11 := Lib.hid ho); (have HB11 := Lib.hid hb); clear ho hb))
        have hO := HO.out
        simp only [Nat.zero_add, List.nil_append] at hO
        obtain ⟨g2, cap2, e2, hg2, hnow⟩ := now_own hO h0 rfl
        simp only [Value.slice.injEq, Option.some.injEq, Addr.mk.injEq, true_and, and_true] at e2
        obtain ⟨rfl, rfl⟩ := e2
        have hg10 : g' < w10.heap.size := by obtain ⟨cur, hh, _⟩ := hnow; exact lt_of_heap hh
        have HN11 := Lib.hid (hnow.below HB11.out)
        have HR11 := Lib.hid (rdNotes HO11.out)
        have HF11 := Lib.hid (own_from HO11.out)
        obtain ⟨L, hL⟩ : ∃ L, ns.length = L := ⟨_, rfl⟩
        rw [hL]
        clear hO hnow HO11 HO
        go_loopg [13] (L + 1) (fun kq x w' => ∃ j : Nat, x = .int .i64 j ∧ j ≤ L ∧ j + kq = L + 1 ∧ LeadSt w11 g' j ws ns w')
        case atStart => exact ⟨0, rfl, Nat.zero_le _, by omega, But.refl _ _, HN11.out⟩
        case round =>
          obtain ⟨j, rfl, hj, hkj, hbut, hnow⟩ := hrel
          have HB := Lib.hid hbut
          cases gk with
          | zero => omega
          | succ k2 =>
            by_cases c6 : j < L
            · have c6b : decide ((j : Int) < L) = true := decide_eq_true (by omega)
              obtain ⟨a, ha⟩ : ∃ a, ns[j]? = some a := ⟨_, List.getElem?_eq_getElem (by omega)⟩
              obtain ⟨i', hat, hi', hold, hkind⟩ := HZ.out.each j a ha
              have hln := nowAt_len ws ns j
              obtain ⟨n0, n1, n2⟩ := hnow.cell (i := i') (by omega)
              rw [← hold] at n0
              obtain ⟨b1, rfl, f0, f1, f2, f3, f4⟩ := (HR11.out.but HB.out (fun ad' e hne => by have := HF11.out ad' e hne; omega)).at_ ha
              have HNW := Lib.hid hnow
              clear hnow hbut
              obtain ⟨kind, at_, old, new, okb⟩ := a
              simp only at hat hold hkind f0 f1 f2 f3 f4 n0
              subst hat
              have HOLD := Lib.hid hold
              have HKIND := Lib.hid hkind
              have g0 : decide ((i' : Int) < 0) = false := decide_eq_false (by omega)
              have g1 : decide ((ws.length : Int) ≤ (i' : Int)) = false := decide_eq_false (by omega)
              have g2 : (0 : Int) ≤ (i' : Int) := by omega
              have g3 : (i' : Int) < (ws.length : Int) := by omega
              have hin : i' < (nowAt ws ns j).length := by omega
              clear hold hkind
              go_wp2
              have hWB : Below wr.heap.size wr (wr.alloc (.cells #[.int .u8 kind, .int .i64 i', .int .u64 old, .int .u64 new, .bool okb] 52)) := bl_alloc (bl_refl wr) _
              have hWc : (wr.alloc (.cells #[.int .u8 kind, .int .i64 i', .int .u64 old, .int .u64 new, .bool okb] 52)).heap[wr.heap.size]? = some (.cells #[.int .u8 kind, .int .i64 i', .int .u64 old, .int .u64 new, .bool okb] 52 (0, 0)) := heap_new rfl
              generalize wr.alloc (.cells #[.int .u8 kind, .int .i64 i', .int .u64 old, .int .u64 new, .bool okb] 52) = W at *
              obtain ⟨k0, k1', k2', k3, k4, _, _, _, _, _⟩ := cells5 hWc
              have m0 : W.cell? ⟨g', i', none⟩ = some (.int .u64 old) := (hWB.cell n2).trans n0
              have m1 : W.frozen? ⟨g', i', none⟩ = false := (hWB.frozen n2).trans n1
              have HWB := Lib.hid hWB
              clear hWB hWc f0 f1 f2 f3 f4 n0 n1
              rcases HKIND.out with ⟨e1, e2, e3⟩ | ⟨e1, e3⟩ | ⟨e1, e3 | ⟨e2, e3⟩⟩
              · simp only at e1 e2 e3
                subst e1
                subst e2
                subst e3
                go_quiet (fail)
                go_wp2
                go_roundg k2
                case measure => omega
                case rel => exact ⟨j + 1, rfl, by omega, by omega, lead_next HB.out HWB.out HNW.out ha hin⟩
              · simp only at e1 e3
                subst e1
                subst e3
                go_quiet (fail)
                go_wp2
                go_roundg k2
                case measure => omega
                case rel => exact ⟨j + 1, rfl, by omega, by omega, lead_next HB.out HWB.out HNW.out ha hin⟩
              · simp only at e1 e3
                subst e1
                subst e3
                go_quiet (fail)
                go_wp2
                go_roundg k2
                case measure => omega
                case rel => exact ⟨j + 1, rfl, by omega, by omega, lead_next HB.out HWB.out HNW.out ha hin⟩
              · simp only at e1 e2 e3
                subst e1
                subst e2
                subst e3
                go_quiet (fail)
                go_wp2
                go_roundg k2
                case measure => omega
                case rel => exact ⟨j + 1, rfl, by omega, by omega, lead_next HB.out HWB.out HNW.out ha hin⟩
            · have c6b : decide ((j : Int) < L) = false := decide_eq_false (by omega)
              obtain rfl : j = L := by omega
              have hlast := HZ.out.last
              rw [hL] at hlast
              have hl2 : ws2.length = ws.length := by rw [← hlast, nowAt_len]
              have hlw : ws.length ≤ 1000000 := by omega
              have HM := Lib.hid (mem_but (HM10.out.below HB11.out) (by decide) (by simp only [show ¬ g' < _ from Nat.not_lt.2 hg2, if_false]) HB.out)
              rw [hlast] at hnow
              have HNW := Lib.hid hnow
              have HCB := Lib.hid (But.to_below HB.out HG.out HB11.out HE.out.bel hg2)
              clear hnow hbut hlast
              go_wp2_with (first | ((have _h := HB9); go_at_call 16; refine (count_is _ 1 p ws2 ns _ _ (HM.out.below HB9.out) (by rw [hL])).mono ?_; rintro e w10 ⟨rfl, rfl⟩; clear _h) | ((have _h := HB8); go_at_call 14; refine (same_rd ws2 a8 (some ⟨g', 0, none⟩) c8 _ ws.length _ hl2 hlw HR8.out (HNW.out.below HB8.out).rdU).mono ?_; rintro e w9 ⟨rfl, hb⟩; (have HB9 := Lib.hid (HB8.out.trans (hb.mono HB8.out.size))); (have HCB9 := Lib.hid (HCB.out.trans (HB9.out.mono HCB.out.size))); clear hb _h) | (go_at_call 15; refine (words_rd _ 1 p ws.length ws2 ns _ HM.out hl2).mono ?_; rintro e w8 ⟨a8, c8, rfl, hr, hc, hb⟩; (have HR8 := Lib.hid hr); (have HB8 := Lib.hid hb); clear hr hc hb))
              go_ret
              exact ⟨rfl, HCB9.out⟩
end Go.Proofs.Ytgcddnajflgmbaa
