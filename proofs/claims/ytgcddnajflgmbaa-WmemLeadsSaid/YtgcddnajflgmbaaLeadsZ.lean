/-
  The law WmemLeads: the walk.
-/
import Derived.Test.YtgcddnajflgmbaaLeads
namespace Go.Proofs.Ytgcddnajflgmbaa
open Go.RowKit Go.Proofs.YtgcddnajflgmbaaW.PrintWords
set_option linter.unusedVariables false
set_option linter.unusedSimpArgs false

set_option maxHeartbeats 16000000 in
set_option maxRecDepth 100000 in
theorem leads_zero_n (B : Option Addr) (c m d : Nat) (w : World) (hr : RdU w none []) (F : Nat → PAct) (hb : RdActs w B m F) (hl : m ≤ 200) :
    Calls Try.prog 7 #[.slice none 0 c, .slice B m d] w fun e w' => e = .returned (.bool true) ∧ Below w.heap.size w w' := by
  have d1 : decide ((200 : Int) < m) = false := decide_eq_false (by omega)
  have HR := Lib.hid hr
  have HV := Lib.hid (show ∀ x ∈ ([] : List Int), 0 ≤ x ∧ x < 18446744073709551616 from fun x h => by cases h)
  clear hr
  have HBt := Lib.hid hb
  clear hb
  go_enter Try.func7, Try.ntmps7
  go_wp2_with (first | (go_at_call 9; refine (shown_any _).mono ?_; rintro e w1 ⟨rfl, hb⟩; (have HB := Lib.hid hb); clear hb) | (go_at_call 10; refine (new_ok (fun _ => 0) 1 none c [] _ (HR.out.kept HB.out) (by decide) HV.out).mono ?_; intro e w2 h; obtain ⟨p, o1, rfl, hs⟩ := solo_of HB.out h; (have HS := Lib.hid hs); clear h hs) | (go_at_call 18; refine (rnew_any o1 2 none c [] _ (HR.out.kept HS.out.bel) (by decide) HV.out).mono ?_; intro e w3 h; obtain ⟨q, o2, rfl, h1, h2, h3, h4⟩ := HS.out.duo h; (have HD := Lib.hid (Duo.mk h1 h2 h3 h4)); clear h h1 h2 h3 h4))
  have HRel := Lib.hid (show LeadsRel w p q 0 [] w3 from ⟨o2, [], [], HD.out, Nat.le_refl _, LeadsTo.nil []⟩)
  go_loopg [10] (m + 1) (fun kq x w' => ∃ i : Nat, x = .int .i64 i ∧ i ≤ m ∧ i + kq = m + 1 ∧ LeadsRel w p q i [] w')
  case atStart => exact ⟨0, rfl, Nat.zero_le _, by omega, HRel.out⟩
  case round =>
    obtain ⟨i, rfl, hi, hkq, o, ws2, ns, hd, hni, hz⟩ := hrel
    have HE := Lib.hid hd
    have HZ := Lib.hid hz
    have hnl : ns.length ≤ 1000000000000 := by omega
    clear hd HRel hz
    cases gk with
    | zero => omega
    | succ k1 =>
      by_cases c4 : i < m
      · have c4b0 : decide ((i : Int) < m) = true := decide_eq_true (by omega)
        obtain ⟨bd, rfl, f0, f1, f2, f3, f4, hok⟩ := (HBt.out.kept HE.out.bel).at_ c4
        have HA := Lib.hid hok
        clear hok
        go_wp2_with (first | (go_at_call 19; refine (does_any o p q ws2 ns _ _ _ _ _ _ HE.out.mem HE.out.ref HA.out.1 HA.out.2.1 HA.out.2.2 hnl).mono ?_; rintro e w6 ⟨rfl, hp⟩; obtain ⟨o6, ws6, ns6, hd, hs⟩ := HE.out.does hp; (have HD6 := Lib.hid hd); (have HS6 := Lib.hid hs); clear hp hd hs))
        go_roundg k1
        case measure => omega
        case rel => exact ⟨i + 1, rfl, by omega, by omega, o6, ws6, ns6, HD6.out, by have := HS6.out.notes; omega, HZ.out.step HS6.out⟩
      · have c4b0 : decide ((i : Int) < m) = false := decide_eq_false (by omega)
        obtain rfl : i = m := by omega
        obtain rfl : ns = [] := HZ.out.none
        have hnl2 : ([] : List Note).length ≤ 1000000 := by decide
        have HM10 := Lib.hid (HE.out.mem.below (bl_alloc (bl_refl wr) (.cells #[] 23)))
        have HB10 := Lib.hid (bl_alloc (bl_refl wr) (.cells #[] 23))
        have hl2 : ws2.length = 0 := by rw [← HZ.out.last, nowAt_len]; rfl
        go_wp2_with ((have _h := HM10); go_at_call 20; refine (since_all o 1 p ws2 [] 0 _ HM10.out hnl2 (by decide)).mono ?_; rintro e w11 ⟨a11, c11, rfl, ho, hb⟩; (have HO11 := Lib.hid ho); (have HB11 := Lib.hid hb); clear ho hb)
        go_loopg [13] 1 (fun kq x w' => x = .int .i64 0 ∧ kq = 1 ∧ w' = w11)
        case atStart => exact ⟨rfl, rfl, rfl⟩
        case round =>
          obtain ⟨rfl, hk1, rfl⟩ := hrel
          have HM := Lib.hid (HM10.out.below HB11.out)
          have HCB := Lib.hid (HE.out.bel.trans ((HB10.out.mono HE.out.bel.size).trans (HB11.out.mono (Nat.le_trans HE.out.bel.size HB10.out.size))))
          go_wp2_with (first | ((have _h := HB9); go_at_call 16; refine (count_is _ 1 p ws2 [] 0 _ (HM.out.below HB9.out) rfl).mono ?_; rintro e w10 ⟨rfl, rfl⟩; clear _h) | ((have _h := HB8); go_at_call 14; refine (same_rd ws2 a8 _ c8 _ 0 _ hl2 (by decide) HR8.out ⟨fun _ => hl2, fun h => by omega⟩).mono ?_; rintro e w9 ⟨rfl, hb⟩; (have HB9 := Lib.hid (HB8.out.trans (hb.mono HB8.out.size))); (have HCB9 := Lib.hid (HCB.out.trans (HB9.out.mono HCB.out.size))); clear hb _h) | (go_at_call 15; refine (words_rd _ 1 p 0 ws2 [] _ HM.out hl2).mono ?_; rintro e w8 ⟨a8, c8, rfl, hr, hc, hb⟩; (have HR8 := Lib.hid hr); (have HB8 := Lib.hid hb); clear hr hc hb))
          go_ret
          exact ⟨rfl, HCB9.out⟩
set_option maxHeartbeats 16000000 in
set_option maxRecDepth 100000 in
theorem leads_zero_s (ad : Addr) (B : Option Addr) (c m d : Nat) (w : World) (hr : RdU w (some ad) []) (F : Nat → PAct) (hb : RdActs w B m F) (hl : m ≤ 200) :
    Calls Try.prog 7 #[.slice (some ad) 0 c, .slice B m d] w fun e w' => e = .returned (.bool true) ∧ Below w.heap.size w w' := by
  have d1 : decide ((200 : Int) < m) = false := decide_eq_false (by omega)
  have HR := Lib.hid hr
  have HV := Lib.hid (show ∀ x ∈ ([] : List Int), 0 ≤ x ∧ x < 18446744073709551616 from fun x h => by cases h)
  clear hr
  have HBt := Lib.hid hb
  clear hb
  go_enter Try.func7, Try.ntmps7
  go_wp2_with (first | (go_at_call 9; refine (shown_any _).mono ?_; rintro e w1 ⟨rfl, hb⟩; (have HB := Lib.hid hb); clear hb) | (go_at_call 10; refine (new_ok (fun _ => 0) 1 (some ad) c [] _ (HR.out.kept HB.out) (by decide) HV.out).mono ?_; intro e w2 h; obtain ⟨p, o1, rfl, hs⟩ := solo_of HB.out h; (have HS := Lib.hid hs); clear h hs) | (go_at_call 18; refine (rnew_any o1 2 (some ad) c [] _ (HR.out.kept HS.out.bel) (by decide) HV.out).mono ?_; intro e w3 h; obtain ⟨q, o2, rfl, h1, h2, h3, h4⟩ := HS.out.duo h; (have HD := Lib.hid (Duo.mk h1 h2 h3 h4)); clear h h1 h2 h3 h4))
  have HRel := Lib.hid (show LeadsRel w p q 0 [] w3 from ⟨o2, [], [], HD.out, Nat.le_refl _, LeadsTo.nil []⟩)
  go_loopg [10] (m + 1) (fun kq x w' => ∃ i : Nat, x = .int .i64 i ∧ i ≤ m ∧ i + kq = m + 1 ∧ LeadsRel w p q i [] w')
  case atStart => exact ⟨0, rfl, Nat.zero_le _, by omega, HRel.out⟩
  case round =>
    obtain ⟨i, rfl, hi, hkq, o, ws2, ns, hd, hni, hz⟩ := hrel
    have HE := Lib.hid hd
    have HZ := Lib.hid hz
    have hnl : ns.length ≤ 1000000000000 := by omega
    clear hd HRel hz
    cases gk with
    | zero => omega
    | succ k1 =>
      by_cases c4 : i < m
      · have c4b0 : decide ((i : Int) < m) = true := decide_eq_true (by omega)
        obtain ⟨bd, rfl, f0, f1, f2, f3, f4, hok⟩ := (HBt.out.kept HE.out.bel).at_ c4
        have HA := Lib.hid hok
        clear hok
        go_wp2_with (first | (go_at_call 19; refine (does_any o p q ws2 ns _ _ _ _ _ _ HE.out.mem HE.out.ref HA.out.1 HA.out.2.1 HA.out.2.2 hnl).mono ?_; rintro e w6 ⟨rfl, hp⟩; obtain ⟨o6, ws6, ns6, hd, hs⟩ := HE.out.does hp; (have HD6 := Lib.hid hd); (have HS6 := Lib.hid hs); clear hp hd hs))
        go_roundg k1
        case measure => omega
        case rel => exact ⟨i + 1, rfl, by omega, by omega, o6, ws6, ns6, HD6.out, by have := HS6.out.notes; omega, HZ.out.step HS6.out⟩
      · have c4b0 : decide ((i : Int) < m) = false := decide_eq_false (by omega)
        obtain rfl : i = m := by omega
        obtain rfl : ns = [] := HZ.out.none
        have hnl2 : ([] : List Note).length ≤ 1000000 := by decide
        have HM10 := Lib.hid (HE.out.mem.below (bl_alloc (bl_refl wr) (.cells #[] 23)))
        have HB10 := Lib.hid (bl_alloc (bl_refl wr) (.cells #[] 23))
        have hl2 : ws2.length = 0 := by rw [← HZ.out.last, nowAt_len]; rfl
        go_wp2_with ((have _h := HM10); go_at_call 20; refine (since_all o 1 p ws2 [] 0 _ HM10.out hnl2 (by decide)).mono ?_; rintro e w11 ⟨a11, c11, rfl, ho, hb⟩; (have HO11 := Lib.hid ho); (have HB11 := Lib.hid hb); clear ho hb)
        go_loopg [13] 1 (fun kq x w' => x = .int .i64 0 ∧ kq = 1 ∧ w' = w11)
        case atStart => exact ⟨rfl, rfl, rfl⟩
        case round =>
          obtain ⟨rfl, hk1, rfl⟩ := hrel
          have HM := Lib.hid (HM10.out.below HB11.out)
          have HCB := Lib.hid (HE.out.bel.trans ((HB10.out.mono HE.out.bel.size).trans (HB11.out.mono (Nat.le_trans HE.out.bel.size HB10.out.size))))
          go_wp2_with (first | ((have _h := HB9); go_at_call 16; refine (count_is _ 1 p ws2 [] 0 _ (HM.out.below HB9.out) rfl).mono ?_; rintro e w10 ⟨rfl, rfl⟩; clear _h) | ((have _h := HB8); go_at_call 14; refine (same_rd ws2 a8 _ c8 _ 0 _ hl2 (by decide) HR8.out ⟨fun _ => hl2, fun h => by omega⟩).mono ?_; rintro e w9 ⟨rfl, hb⟩; (have HB9 := Lib.hid (HB8.out.trans (hb.mono HB8.out.size))); (have HCB9 := Lib.hid (HCB.out.trans (HB9.out.mono HCB.out.size))); clear hb _h) | (go_at_call 15; refine (words_rd _ 1 p 0 ws2 [] _ HM.out hl2).mono ?_; rintro e w8 ⟨a8, c8, rfl, hr, hc, hb⟩; (have HR8 := Lib.hid hr); (have HB8 := Lib.hid hb); clear hr hc hb))
          go_ret
          exact ⟨rfl, HCB9.out⟩
theorem wmemLeads_walk (A : Option Addr) (len cap : Nat) (zs : List Int) (B : Option Addr) (m d : Nat) (F : Nat → PAct) (w : World) (h : IsRow .u64 w A len cap zs) (hs : len * 8 ≤ 140737488351232) (hB : RdActs w B m F) :
    Calls Try.prog 7 #[.slice A len cap, .slice B m d] w fun e w' => e = .returned (.bool true) ∧ Below w.heap.size w w' := by
  obtain ⟨hr, hlen, hv⟩ := h.rdU
  generalize zs.take len = ws at hr hlen hv
  subst hlen
  rcases Nat.lt_or_ge 1024 ws.length with h1 | h1
  · exact leads_big A B cap _ m d w h1
  rcases Nat.lt_or_ge 200 ws.length with h2 | h2
  · exact leads_mid A B cap m d ws w hr hv h1 h2
  rcases Nat.lt_or_ge 200 m with h4 | h4
  · exact leads_many A B cap m d ws w hr hv h2 h4
  rcases Nat.eq_zero_or_pos ws.length with h3 | h3
  · obtain rfl := List.eq_nil_of_length_eq_zero h3
    cases A with
    | none => exact leads_zero_n B cap m d w hr F hB h4
    | some ad => exact leads_zero_s ad B cap m d w hr F hB h4
  · obtain ⟨ad, rfl, _⟩ := hr.at_ h3
    exact leads_body ad B cap m d ws w hr hv F hB h3 h2 h4
end Go.Proofs.Ytgcddnajflgmbaa
