/-
  The law WmemCuts: the walk.
-/
import Derived.Test.YtgcddnajflgmbaaRdNotes
import Derived.Test.YtgcddnajflgmbaaReads
import Derived.IntWalk
import Derived.BigQuiet
import Derived.Deep.QuietTactic
namespace Go.Proofs.Ytgcddnajflgmbaa
open Go.RowKit Go.Proofs.YtgcddnajflgmbaaW.PrintWords
set_option linter.unusedVariables false
set_option linter.unusedSimpArgs false

theorem w64_sum (z j zj n : Nat) (h : zj = z + j) (hb : zj < n) (hn : n ≤ 1000000) : (0 : Int) ≤ (z : Int) + j ∧ (z : Int) + j < (n : Int) ∧ ((z : Int) + j).toNat = zj ∧ IntKind.i64.wrap ((z : Int) + j) = (z : Int) + j := ⟨by omega, by omega, by omega, IntWalk.i64_in _ (by omega)⟩
theorem pick_succ (c : Int) (m k : Nat) (w : World) (h : PWmemReads.hatstandlaw2_pick.f c ((m : Int) + 1) = some (k : Int)) :
    Calls Try.prog 11 #[.int .i64 c, .int .i64 ((m : Int) + 1)] w fun e w' => e = .returned (.int .i64 k) ∧ Below w.heap.size w w' := pick_ok c (m + 1) k w h
theorem since_all (own : Nat → Nat) (t p : Nat) (ws : List Int) (ns : List Note) (n : Int) (w : World) (h : IsMem own t w p ws ns) (hlen : ns.length ≤ 1000000) (hn : n ≤ 0) :
    Calls Try.prog 20 #[.pointer (some ⟨p, 0, none⟩), .int .i64 n] w (SincePost w ns) := since_any own t p ws ns n 0 w h hlen (by omega)
theorem since_at (own : Nat → Nat) (t p : Nat) (ws : List Int) (ns : List Note) (k : Nat) (w : World) (h : IsMem own t w p ws ns) (hlen : ns.length ≤ 1000000) (hk : k ≤ ns.length) :
    Calls Try.prog 20 #[.pointer (some ⟨p, 0, none⟩), .int .i64 k] w (SincePost w (ns.drop k)) := since_any own t p ws ns k k w h hlen (by omega)
theorem since_over (own : Nat → Nat) (t p : Nat) (ws : List Int) (ns : List Note) (n : Int) (w : World) (h : IsMem own t w p ws ns) (hlen : ns.length ≤ 1000000) (hn : (ns.length : Int) < n) :
    Calls Try.prog 20 #[.pointer (some ⟨p, 0, none⟩), .int .i64 n] w (SincePost w []) := by
  have := since_any own t p ws ns n ns.length w h hlen (by omega)
  rwa [List.drop_length] at this
set_option maxHeartbeats 16000000 in
set_option maxRecDepth 100000 in
theorem cuts_big (A B : Option Addr) (c l m d : Nat) (n : Int) (w : World) (hl : 1024 < l) :
    Calls Try.prog 6 #[.slice A l c, .slice B m d, .int .i64 n] w fun e w' => e = .returned (.bool true) ∧ Below w.heap.size w w' := by
  have d0 : decide ((200 : Int) < l) = true := decide_eq_true (by omega)
  go_enter Try.func6, Try.ntmps6
  go_wp2_with (first | (go_at_call 9; refine (shown_any _).mono ?_; rintro e w1 ⟨rfl, hb⟩; (have HB := Lib.hid hb); clear hb) | (go_at_call 10; refine (new_no A l c _ hl).mono ?_; rintro e w2 ⟨rfl, rfl⟩) | (go_at_call 18; refine (rnew_no A l c _ hl).mono ?_; rintro e w2 ⟨rfl, rfl⟩))
  go_ret
  exact ⟨rfl, HB.out⟩
set_option maxHeartbeats 16000000 in
set_option maxRecDepth 100000 in
theorem cuts_mid (A B : Option Addr) (c m d : Nat) (ws : List Int) (n : Int) (w : World) (hr : RdU w A ws) (hv : ∀ x ∈ ws, 0 ≤ x ∧ x < 18446744073709551616) (hm : ws.length ≤ 1024) (hl : 200 < ws.length) :
    Calls Try.prog 6 #[.slice A ws.length c, .slice B m d, .int .i64 n] w fun e w' => e = .returned (.bool true) ∧ Below w.heap.size w w' := by
  have d0 : decide ((200 : Int) < ws.length) = true := decide_eq_true (by omega)
  have HR := Lib.hid hr
  have HV := Lib.hid hv
  clear hr hv
  go_enter Try.func6, Try.ntmps6
  go_wp2_with (first | (go_at_call 9; refine (shown_any _).mono ?_; rintro e w1 ⟨rfl, hb⟩; (have HB := Lib.hid hb); clear hb) | (go_at_call 10; refine (new_ok (fun _ => 0) 1 A c ws _ (HR.out.kept HB.out) (by omega) HV.out).mono ?_; intro e w2 h; obtain ⟨p, o1, rfl, hs⟩ := solo_of HB.out h; (have HS := Lib.hid hs); clear h hs) | (go_at_call 18; refine (rnew_any o1 2 A c ws _ (HR.out.kept HS.out.bel) (by omega) HV.out).mono ?_; intro e w3 h; obtain ⟨q, o2, rfl, h1, h2, h3, h4⟩ := HS.out.duo h; (have HD := Lib.hid (Duo.mk h1 h2 h3 h4)); clear h h1 h2 h3 h4))
  go_ret
  exact ⟨rfl, HD.out.bel⟩
set_option maxHeartbeats 16000000 in
set_option maxRecDepth 100000 in
theorem cuts_many (A B : Option Addr) (c m d : Nat) (ws : List Int) (n : Int) (w : World) (hr : RdU w A ws) (hv : ∀ x ∈ ws, 0 ≤ x ∧ x < 18446744073709551616) (hm : ws.length ≤ 200) (hl : 100 < m) :
    Calls Try.prog 6 #[.slice A ws.length c, .slice B m d, .int .i64 n] w fun e w' => e = .returned (.bool true) ∧ Below w.heap.size w w' := by
  have d0 : decide ((200 : Int) < ws.length) = false := decide_eq_false (by omega)
  have d1 : decide ((100 : Int) < m) = true := decide_eq_true (by omega)
  have HR := Lib.hid hr
  have HV := Lib.hid hv
  clear hr hv
  go_enter Try.func6, Try.ntmps6
  go_wp2_with (first | (go_at_call 9; refine (shown_any _).mono ?_; rintro e w1 ⟨rfl, hb⟩; (have HB := Lib.hid hb); clear hb) | (go_at_call 10; refine (new_ok (fun _ => 0) 1 A c ws _ (HR.out.kept HB.out) (by omega) HV.out).mono ?_; intro e w2 h; obtain ⟨p, o1, rfl, hs⟩ := solo_of HB.out h; (have HS := Lib.hid hs); clear h hs) | (go_at_call 18; refine (rnew_any o1 2 A c ws _ (HR.out.kept HS.out.bel) (by omega) HV.out).mono ?_; intro e w3 h; obtain ⟨q, o2, rfl, h1, h2, h3, h4⟩ := HS.out.duo h; (have HD := Lib.hid (Duo.mk h1 h2 h3 h4)); clear h h1 h2 h3 h4))
  go_ret
  exact ⟨rfl, HD.out.bel⟩
def CutsRel (w : World) (p q i z : Nat) (w' : World) : Prop := ∃ o ws ns, Duo w o w' p q ws ns ∧ ns.length ≤ i ∧ z ≤ ns.length
set_option maxHeartbeats 16000000 in
set_option maxRecDepth 100000 in
theorem cuts_body (A B : Option Addr) (c m d : Nat) (ws : List Int) (n : Int) (w : World) (hr : RdU w A ws) (hv : ∀ x ∈ ws, 0 ≤ x ∧ x < 18446744073709551616) (F : Nat → PAct) (hb : RdActs w B m F) (k : Nat) (hk : k ≤ m) (hp : PWmemReads.hatstandlaw2_pick.f n ((m : Int) + 1) = some (k : Int)) (hm : ws.length ≤ 200) (hl : m ≤ 100) :
    Calls Try.prog 6 #[.slice A ws.length c, .slice B m d, .int .i64 n] w fun e w' => e = .returned (.bool true) ∧ Below w.heap.size w w' := by
  have d0 : decide ((200 : Int) < ws.length) = false := decide_eq_false (by omega)
  have d1 : decide ((100 : Int) < m) = false := decide_eq_false (by omega)
  have HR := Lib.hid hr
  have HV := Lib.hid hv
  clear hr hv
  have HBt := Lib.hid hb
  have HP := Lib.hid hp
  clear hb hp
  go_enter Try.func6, Try.ntmps6
  go_wp2_with (first | (go_at_call 9; refine (shown_any _).mono ?_; rintro e w1 ⟨rfl, hb⟩; (have HB := Lib.hid hb); clear hb) | (go_at_call 10; refine (new_ok (fun _ => 0) 1 A c ws _ (HR.out.kept HB.out) (by omega) HV.out).mono ?_; intro e w2 h; obtain ⟨p, o1, rfl, hs⟩ := solo_of HB.out h; (have HS := Lib.hid hs); clear h hs) | (go_at_call 18; refine (rnew_any o1 2 A c ws _ (HR.out.kept HS.out.bel) (by omega) HV.out).mono ?_; intro e w3 h; obtain ⟨q, o2, rfl, h1, h2, h3, h4⟩ := HS.out.duo h; (have HD := Lib.hid (Duo.mk h1 h2 h3 h4)); clear h h1 h2 h3 h4) | (go_at_call 11; refine (pick_succ n m k _ HP.out).mono ?_; rintro e w4 ⟨rfl, hb⟩; (have HD4 := Lib.hid (HD.out.below hb)); clear hb))
  have HRel := Lib.hid (show CutsRel w p q 0 0 w4 from ⟨o2, ws, [], HD4.out, Nat.le_refl _, Nat.le_refl _⟩)
  go_loopg [13, 14] (m + 1) (fun kq x y w' => ∃ i z : Nat, x = .int .i64 z ∧ y = .int .i64 i ∧ i ≤ m ∧ i + kq = m + 1 ∧ CutsRel w p q i z w')
  case atStart => exact ⟨0, 0, rfl, rfl, Nat.zero_le _, by omega, HRel.out⟩
  case round =>
    obtain ⟨i, z, rfl, rfl, hi, hkq, o, ws2, ns, hd, hni, hz⟩ := hrel
    have HE := Lib.hid hd
    clear hd HRel
    cases gk with
    | zero => omega
    | succ k1 =>
      by_cases c4 : i < m
      · have c4b0 : decide ((i : Int) < m) = true := decide_eq_true (by omega)
        obtain ⟨bd, rfl, f0, f1, f2, f3, f4, hok⟩ := (HBt.out.kept HE.out.bel).at_ c4
        have HA := Lib.hid hok
        clear hok
        by_cases c5 : i = k
        · subst c5
          have c5b : ((i : Int) == i) = true := by simp
          go_wp2_with (first | (go_at_call 16; refine (count_any o 1 p ws2 ns _ HE.out.mem).mono ?_; rintro e w7 ⟨rfl, rfl⟩) | (go_at_call 19; refine (does_any o p q ws2 ns _ _ _ _ _ _ HE.out.mem HE.out.ref HA.out.1 HA.out.2.1 HA.out.2.2 (by omega)).mono ?_; rintro e w6 ⟨rfl, hp⟩; obtain ⟨o6, ws6, ns6, hd, hs⟩ := HE.out.does hp; (have HD6 := Lib.hid hd); (have HS6 := Lib.hid hs); clear hp hd hs))
          go_roundg k1
          case measure => omega
          case rel => exact ⟨i + 1, ns.length, rfl, rfl, by omega, by omega, o6, ws6, ns6, HD6.out, by have := HS6.out.notes; omega, HS6.out.more⟩
        · have c5b : ((i : Int) == k) = false := beq_eq_false_iff_ne.mpr (by omega)
          go_wp2_with (first | (go_at_call 19; refine (does_any o p q ws2 ns _ _ _ _ _ _ HE.out.mem HE.out.ref HA.out.1 HA.out.2.1 HA.out.2.2 (by omega)).mono ?_; rintro e w6 ⟨rfl, hp⟩; obtain ⟨o6, ws6, ns6, hd, hs⟩ := HE.out.does hp; (have HD6 := Lib.hid hd); (have HS6 := Lib.hid hs); clear hp hd hs))
          go_roundg k1
          case measure => omega
          case rel => exact ⟨i + 1, z, rfl, rfl, by omega, by omega, o6, ws6, ns6, HD6.out, by have := HS6.out.notes; omega, Nat.le_trans hz HS6.out.more⟩
      · have c4b0 : decide ((i : Int) < m) = false := decide_eq_false (by omega)
        obtain rfl : i = m := by omega
        have hnl : ns.length ≤ 1000000 := by omega
        by_cases c5 : k = i
        · subst c5
          have c5b : ((k : Int) == k) = true := by simp
          have hlz : (ns.drop ns.length).length = ns.length - ns.length := List.length_drop
          have q1 : ((((ns.drop ns.length).length : Nat) : Int) != (ns.length : Int) - ns.length) = false := by rw [hlz]; simp only [bne_eq_false_iff_eq]; omega
          have hov : (ns.length : Int) < (ns.length : Int) + 5 := by omega
          have wS : wrap64 ((ns.length : Int) - ns.length) = (ns.length : Int) - ns.length := w64_in _ (by omega) (by omega)
          have wA : wrap64 ((ns.length : Int) + 5) = (ns.length : Int) + 5 := w64_in _ (by omega) (by omega)
          go_wp2_with (first | ((have _h := HD14); go_at_call 20; refine (since_over o 1 p ws2 ns ((ns.length : Int) + 5) _ HD14.out.mem hnl hov).mono ?_; rintro e w15 ⟨a15, c15, rfl, ho, hb⟩; (have HO15 := Lib.hid (rdNotes ho)); (have HB15 := Lib.hid hb); (have HD15 := Lib.hid (HD14.out.below hb)); clear ho hb _h) | ((have _h := HD12); go_at_call 20; refine (since_all o 1 p ws2 ns (-1) _ HD12.out.mem hnl (by decide)).mono ?_; rintro e w14 ⟨a14, c14, rfl, ho, hb⟩; (have HO14 := Lib.hid (rdNotes ho)); (have HB14 := Lib.hid hb); (have HD14 := Lib.hid (HD12.out.below hb)); clear ho hb _h) | ((have _h := HD12); go_at_call 16; refine (count_any o 1 p ws2 ns _ HD12.out.mem).mono ?_; rintro e w13 ⟨rfl, rfl⟩) | ((have _h := HD11); go_at_call 20; refine (since_at o 1 p ws2 ns ns.length _ HD11.out.mem hnl (Nat.le_refl _)).mono ?_; rintro e w12 ⟨a12, c12, rfl, ho, hb⟩; (have HO12 := Lib.hid (rdNotes ho)); (have HB12 := Lib.hid hb); (have HD12 := Lib.hid (HD11.out.below hb)); clear ho hb _h) | ((have _h := HE); go_at_call 20; refine (since_all o 1 p ws2 ns 0 _ HE.out.mem hnl (by decide)).mono ?_; rintro e w11 ⟨a11, c11, rfl, ho, hb⟩; (have HO11 := Lib.hid (rdNotes ho)); (have HB11 := Lib.hid hb); (have HD11 := Lib.hid (HE.out.below hb)); clear ho hb _h) | (go_at_call 16; refine (count_any o 1 p ws2 ns _ HE.out.mem).mono ?_; rintro e w10 ⟨rfl, rfl⟩))
          have hbl : Below w11.heap.size w11 w15 := HB12.out.trans ((HB14.out.mono HB12.out.size).trans (HB15.out.mono (Nat.le_trans HB12.out.size HB14.out.size)))
          have HN1 := Lib.hid (HO11.out.kept hbl)
          have HN2 := Lib.hid (HO12.out.kept ((HB14.out).trans (HB15.out.mono HB14.out.size)))
          generalize hL : (ns.drop ns.length).length = L at *
          clear hbl wS wA q1
          have qN := neq_acc
          go_loopg [17] (L + 1) (fun kq x w' => ∃ j : Nat, x = .int .i64 j ∧ j ≤ L ∧ j + kq = L + 1 ∧ Below w15.heap.size w15 w')
          case atStart => exact ⟨0, rfl, Nat.zero_le _, by omega, Below.refl _ _⟩
          case round =>
            obtain ⟨j, rfl, hj, hkj, hbj⟩ := hrel
            have HJ := Lib.hid hbj
            clear hbj
            cases gk with
            | zero => omega
            | succ k2 =>
              by_cases c6 : j < L
              · omega
              · have c6b : decide ((j : Int) < L) = false := decide_eq_false (by omega)
                go_wp2
                go_ret
                exact ⟨rfl, HD15.out.bel.trans (HJ.out.mono HD15.out.bel.size)⟩
        · have c5b : ((k : Int) == i) = false := beq_eq_false_iff_ne.mpr (by omega)
          have hlz : (ns.drop z).length = ns.length - z := List.length_drop
          have q1 : ((((ns.drop z).length : Nat) : Int) != (ns.length : Int) - z) = false := by rw [hlz]; simp only [bne_eq_false_iff_eq]; omega
          have hov : (ns.length : Int) < (ns.length : Int) + 5 := by omega
          have wS : wrap64 ((ns.length : Int) - z) = (ns.length : Int) - z := w64_in _ (by omega) (by omega)
          have wA : wrap64 ((ns.length : Int) + 5) = (ns.length : Int) + 5 := w64_in _ (by omega) (by omega)
          go_wp2_with (first | ((have _h := HD14); go_at_call 20; refine (since_over o 1 p ws2 ns ((ns.length : Int) + 5) _ HD14.out.mem hnl hov).mono ?_; rintro e w15 ⟨a15, c15, rfl, ho, hb⟩; (have HO15 := Lib.hid (rdNotes ho)); (have HB15 := Lib.hid hb); (have HD15 := Lib.hid (HD14.out.below hb)); clear ho hb _h) | ((have _h := HD12); go_at_call 20; refine (since_all o 1 p ws2 ns (-1) _ HD12.out.mem hnl (by decide)).mono ?_; rintro e w14 ⟨a14, c14, rfl, ho, hb⟩; (have HO14 := Lib.hid (rdNotes ho)); (have HB14 := Lib.hid hb); (have HD14 := Lib.hid (HD12.out.below hb)); clear ho hb _h) | ((have _h := HD12); go_at_call 16; refine (count_any o 1 p ws2 ns _ HD12.out.mem).mono ?_; rintro e w13 ⟨rfl, rfl⟩) | ((have _h := HD11); go_at_call 20; refine (since_at o 1 p ws2 ns z _ HD11.out.mem hnl hz).mono ?_; rintro e w12 ⟨a12, c12, rfl, ho, hb⟩; (have HO12 := Lib.hid (rdNotes ho)); (have HB12 := Lib.hid hb); (have HD12 := Lib.hid (HD11.out.below hb)); clear ho hb _h) | ((have _h := HE); go_at_call 20; refine (since_all o 1 p ws2 ns 0 _ HE.out.mem hnl (by decide)).mono ?_; rintro e w11 ⟨a11, c11, rfl, ho, hb⟩; (have HO11 := Lib.hid (rdNotes ho)); (have HB11 := Lib.hid hb); (have HD11 := Lib.hid (HE.out.below hb)); clear ho hb _h))
          have hbl : Below w11.heap.size w11 w15 := HB12.out.trans ((HB14.out.mono HB12.out.size).trans (HB15.out.mono (Nat.le_trans HB12.out.size HB14.out.size)))
          have HN1 := Lib.hid (HO11.out.kept hbl)
          have HN2 := Lib.hid (HO12.out.kept ((HB14.out).trans (HB15.out.mono HB14.out.size)))
          generalize hL : (ns.drop z).length = L at *
          clear hbl wS wA q1
          have qN := neq_acc
          go_loopg [17] (L + 1) (fun kq x w' => ∃ j : Nat, x = .int .i64 j ∧ j ≤ L ∧ j + kq = L + 1 ∧ Below w15.heap.size w15 w')
          case atStart => exact ⟨0, rfl, Nat.zero_le _, by omega, Below.refl _ _⟩
          case round =>
            obtain ⟨j, rfl, hj, hkj, hbj⟩ := hrel
            have HJ := Lib.hid hbj
            clear hbj
            cases gk with
            | zero => omega
            | succ k2 =>
              by_cases c6 : j < L
              · have c6b : decide ((j : Int) < L) = true := decide_eq_true (by omega)
                obtain ⟨zj, hzj⟩ : ∃ zj : Nat, zj = z + j := ⟨_, rfl⟩
                have hzl : zj < ns.length := by omega
                obtain ⟨r1, r2, r3, wJ2⟩ := w64_sum _ _ _ _ hzj hzl hnl
                obtain ⟨a, ha⟩ : ∃ a, (ns.drop z)[j]? = some a := ⟨_, List.getElem?_eq_getElem (by omega)⟩
                have ha' : ns[zj]? = some a := by rw [hzj, ← List.getElem?_drop]; exact ha
                obtain ⟨b1, rfl, f0, f1, f2, f3, f4⟩ := (HN1.out.kept HJ.out).at_ ha'
                obtain ⟨b2, rfl, g0, g1, g2, g3, g4⟩ := (HN2.out.kept HJ.out).at_ ha
                subst hzj
                go_wp2
                go_quiet (fail)
                clear r1 r2 r3 wJ2
                go_wp2
                go_roundg k2
                case measure => omega
                case rel => exact ⟨j + 1, rfl, by omega, by omega, HJ.out.trans ⟨rfl, rfl, rfl, Nat.le_refl _, fun _ _ => rfl⟩⟩
              · have c6b : decide ((j : Int) < L) = false := decide_eq_false (by omega)
                go_wp2
                go_ret
                exact ⟨rfl, HD15.out.bel.trans (HJ.out.mono HD15.out.bel.size)⟩
theorem wmemCuts_walk (A : Option Addr) (len cap : Nat) (zs : List Int) (B : Option Addr) (m d : Nat) (F : Nat → PAct) (n : Int) (w : World) (h : IsRow .u64 w A len cap zs) (hs : len * 8 ≤ 140737488351232) (hB : RdActs w B m F) (w3 : (Lit.int .i64 n).wf = true) :
    Calls Try.prog 6 #[.slice A len cap, .slice B m d, .int .i64 n] w fun e w' => e = .returned (.bool true) ∧ Below w.heap.size w w' := by
  obtain ⟨hr, hlen, hv⟩ := h.rdU
  generalize zs.take len = ws at hr hlen hv
  subst hlen
  rcases Nat.lt_or_ge 1024 ws.length with h1 | h1
  · exact cuts_big A B cap _ m d n w h1
  rcases Nat.lt_or_ge 200 ws.length with h2 | h2
  · exact cuts_mid A B cap m d ws n w hr hv h1 h2
  rcases Nat.lt_or_ge 100 m with h4 | h4
  · exact cuts_many A B cap m d ws n w hr hv h2 h4
  obtain ⟨k, hk, hp⟩ := pick_eq n (m + 1) (by omega) w3
  exact cuts_body A B cap m d ws n w hr hv F hB k (by omega) hp h2 h4
end Go.Proofs.Ytgcddnajflgmbaa
