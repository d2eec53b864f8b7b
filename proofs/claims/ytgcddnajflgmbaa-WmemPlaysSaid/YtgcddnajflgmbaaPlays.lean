/-
  The law WmemPlays: the walk.
-/
import Derived.Test.YtgcddnajflgmbaaView
namespace Go.Proofs.Ytgcddnajflgmbaa
open Go.RowKit Go.Proofs.YtgcddnajflgmbaaW.PrintWords
set_option linter.unusedVariables false
set_option linter.unusedSimpArgs false

set_option maxHeartbeats 16000000 in
set_option maxRecDepth 100000 in
theorem plays_no_many (A B : Option Addr) (c l m d : Nat) (n : Int) (w : World) (hl : 1024 < l) (hm : 200 < m) :
    Calls Try.prog 8 #[.slice A l c, .slice B m d, .int .i64 n] w fun e w' => e = .returned (.bool true) ∧ Below w.heap.size w w' := by
  have d1 : decide ((200 : Int) < m) = true := decide_eq_true (by omega)
  go_enter Try.func8, Try.ntmps8
  go_wp2_with (first | (go_at_call 9; refine (shown_any _).mono ?_; rintro e w1 ⟨rfl, hb⟩; (have HB := Lib.hid hb); clear hb) | (go_at_call 10; refine (new_no A l c _ hl).mono ?_; rintro e w2 ⟨rfl, rfl⟩) | (go_at_call 18; refine (rnew_no A l c _ hl).mono ?_; rintro e w2 ⟨rfl, rfl⟩))
  go_ret
  exact ⟨rfl, HB.out⟩
set_option maxHeartbeats 16000000 in
set_option maxRecDepth 100000 in
theorem plays_no_huge (A B : Option Addr) (c l m d : Nat) (n : Int) (w : World) (hl : 1024 < l) (hm : m ≤ 200) (hl2 : 2000 < l) :
    Calls Try.prog 8 #[.slice A l c, .slice B m d, .int .i64 n] w fun e w' => e = .returned (.bool true) ∧ Below w.heap.size w w' := by
  have d1 : decide ((200 : Int) < m) = false := decide_eq_false (by omega)
  have d2 : decide ((2000 : Int) < l) = true := decide_eq_true (by omega)
  go_enter Try.func8, Try.ntmps8
  go_wp2_with (first | (go_at_call 9; refine (shown_any _).mono ?_; rintro e w1 ⟨rfl, hb⟩; (have HB := Lib.hid hb); clear hb) | (go_at_call 10; refine (new_no A l c _ hl).mono ?_; rintro e w2 ⟨rfl, rfl⟩) | (go_at_call 18; refine (rnew_no A l c _ hl).mono ?_; rintro e w2 ⟨rfl, rfl⟩))
  go_ret
  exact ⟨rfl, HB.out⟩
set_option maxHeartbeats 16000000 in
set_option maxRecDepth 100000 in
theorem plays_no_big (A B : Option Addr) (c l m d : Nat) (n : Int) (w : World) (hl : 1024 < l) (hm : m ≤ 200) (hl2 : l ≤ 2000) :
    Calls Try.prog 8 #[.slice A l c, .slice B m d, .int .i64 n] w fun e w' => e = .returned (.bool true) ∧ Below w.heap.size w w' := by
  have d1 : decide ((200 : Int) < m) = false := decide_eq_false (by omega)
  have d2 : decide ((2000 : Int) < l) = false := decide_eq_false (by omega)
  go_enter Try.func8, Try.ntmps8
  go_wp2_with (first | (go_at_call 9; refine (shown_any _).mono ?_; rintro e w1 ⟨rfl, hb⟩; (have HB := Lib.hid hb); clear hb) | (go_at_call 10; refine (new_no A l c _ hl).mono ?_; rintro e w2 ⟨rfl, rfl⟩) | (go_at_call 18; refine (rnew_no A l c _ hl).mono ?_; rintro e w2 ⟨rfl, rfl⟩))
  go_ret
  exact ⟨rfl, HB.out⟩
set_option maxHeartbeats 16000000 in
set_option maxRecDepth 100000 in
theorem plays_many (A B : Option Addr) (c m d : Nat) (ws : List Int) (n : Int) (w : World) (hr : RdU w A ws) (hv : ∀ x ∈ ws, 0 ≤ x ∧ x < 18446744073709551616) (hm : ws.length ≤ 1024) (hl : 200 < m) :
    Calls Try.prog 8 #[.slice A ws.length c, .slice B m d, .int .i64 n] w fun e w' => e = .returned (.bool true) ∧ Below w.heap.size w w' := by
  have d1 : decide ((200 : Int) < m) = true := decide_eq_true (by omega)
  have HR := Lib.hid hr
  have HV := Lib.hid hv
  clear hr hv
  go_enter Try.func8, Try.ntmps8
  go_wp2_with (first | (go_at_call 9; refine (shown_any _).mono ?_; rintro e w1 ⟨rfl, hb⟩; (have HB := Lib.hid hb); clear hb) | (go_at_call 10; refine (new_ok (fun _ => 0) 1 A c ws _ (HR.out.kept HB.out) (by omega) HV.out).mono ?_; intro e w2 h; obtain ⟨p, o1, rfl, hs⟩ := solo_of HB.out h; (have HS := Lib.hid hs); clear h hs) | (go_at_call 18; refine (rnew_any o1 2 A c ws _ (HR.out.kept HS.out.bel) (by omega) HV.out).mono ?_; intro e w3 h; obtain ⟨q, o2, rfl, h1, h2, h3, h4⟩ := HS.out.duo h; (have HD := Lib.hid (Duo.mk h1 h2 h3 h4)); clear h h1 h2 h3 h4))
  go_ret
  exact ⟨rfl, HD.out.bel⟩
def PlaysRel (w : World) (p q i l : Nat) (w' : World) : Prop := ∃ o ws ns, Duo w o w' p q ws ns ∧ ns.length ≤ i ∧ ws.length = l
theorem hk_zero (n : Int) : n < 0 ∧ (0 : Nat) = 0 ∨ ((0 : Nat) : Int) < n ∧ (0 : Nat) = 0 ∨ n = ((0 : Nat) : Int) ∧ (0 : Nat) ≤ 0 := by omega
theorem len_ne {a b : Nat} (h : a = b) : (((a : Nat) : Int) != (b : Int)) = false := by subst h; simp
theorem max_min (n : Int) (L : Nat) : ∃ (y : Int) (k : Nat), (if n < 0 then (0 : Int) else n) = y ∧ (if (L : Int) < y then (L : Int) else y) = (k : Int) ∧ k ≤ L ∧ (n < 0 ∧ k = 0 ∨ (L : Int) < n ∧ k = L ∨ n = (k : Int) ∧ k ≤ L) := by
  by_cases h : n < 0
  · exact ⟨0, 0, if_pos h, if_neg (by omega), by omega, by omega⟩
  · by_cases h2 : (L : Int) < n
    · exact ⟨n, L, if_neg h, if_pos h2, by omega, by omega⟩
    · exact ⟨n, n.toNat, if_neg h, by rw [if_neg h2]; omega, by omega, by omega⟩
theorem len_it (own : Nat → Nat) (t p l : Nat) (ws : List Int) (ns : List Note) (w : World) (h : IsMem own t w p ws ns) (hn : ws.length = l) :
    Calls Try.prog 21 #[.pointer (some ⟨p, 0, none⟩)] w fun e w' => e = .returned (.int .i64 l) ∧ w' = w := by
  subst hn
  exact len_any own t p ws ns w h
set_option maxHeartbeats 16000000 in
set_option maxRecDepth 100000 in
theorem plays_body (A B : Option Addr) (c m d : Nat) (ws : List Int) (n : Int) (w : World) (hr : RdU w A ws) (hv : ∀ x ∈ ws, 0 ≤ x ∧ x < 18446744073709551616) (F : Nat → PAct) (hb : RdActs w B m F) (hm : ws.length ≤ 1024) (hl : m ≤ 200) :
    Calls Try.prog 8 #[.slice A ws.length c, .slice B m d, .int .i64 n] w fun e w' => e = .returned (.bool true) ∧ Below w.heap.size w w' := by
  have d1 : decide ((200 : Int) < m) = false := decide_eq_false (by omega)
  have d2 : decide ((2000 : Int) < ws.length) = false := decide_eq_false (by omega)
  have HR := Lib.hid hr
  have HV := Lib.hid hv
  clear hr hv
  have HBt := Lib.hid hb
  clear hb
  go_enter Try.func8, Try.ntmps8
  go_wp2_with (first | (go_at_call 9; refine (shown_any _).mono ?_; rintro e w1 ⟨rfl, hb⟩; (have HB := Lib.hid hb); clear hb) | (go_at_call 10; refine (new_ok (fun _ => 0) 1 A c ws _ (HR.out.kept HB.out) (by omega) HV.out).mono ?_; intro e w2 h; obtain ⟨p, o1, rfl, hs⟩ := solo_of HB.out h; (have HS := Lib.hid hs); clear h hs) | (go_at_call 18; refine (rnew_any o1 2 A c ws _ (HR.out.kept HS.out.bel) (by omega) HV.out).mono ?_; intro e w3 h; obtain ⟨q, o2, rfl, h1, h2, h3, h4⟩ := HS.out.duo h; (have HD := Lib.hid (Duo.mk h1 h2 h3 h4)); clear h h1 h2 h3 h4))
  obtain ⟨l, hlw⟩ : ∃ l, ws.length = l := ⟨_, rfl⟩
  rw [hlw]
  have hl1 : l ≤ 1000000 := by omega
  have HRel := Lib.hid (show PlaysRel w p q 0 l w3 from ⟨o2, ws, [], HD.out, Nat.le_refl _, hlw⟩)
  go_loopg [12] (m + 1) (fun kq x w' => ∃ i : Nat, x = .int .i64 i ∧ i ≤ m ∧ i + kq = m + 1 ∧ PlaysRel w p q i l w')
  case atStart => exact ⟨0, rfl, Nat.zero_le _, by omega, HRel.out⟩
  case round =>
    obtain ⟨i, rfl, hi, hkq, o, ws2, ns, hd, hni, hz⟩ := hrel
    have HE := Lib.hid hd
    have hnl : ns.length ≤ 1000000000000 := by omega
    clear hd HRel
    cases gk with
    | zero => omega
    | succ k1 =>
      by_cases c4 : i < m
      · have c4b0 : decide ((i : Int) < m) = true := decide_eq_true (by omega)
        obtain ⟨bd, rfl, f0, f1, f2, f3, f4, hok⟩ := (HBt.out.kept HE.out.bel).at_ c4
        have HA := Lib.hid hok
        clear hok
        go_wp2_with (first | (go_at_call 19; refine (does_any o p q ws2 ns _ _ _ _ _ _ HE.out.mem HE.out.ref HA.out.1 HA.out.2.1 HA.out.2.2 hnl).mono ?_; rintro e w6 ⟨rfl, hp⟩; obtain ⟨o6, ws6, ns6, hd, hs⟩ := HE.out.does hp; (have HD6 := Lib.hid hd); (have HS6 := Lib.hid hs); clear hp hd hs))
        have hl6 : ws6.length = l := HS6.out.len.trans hz
        obtain ⟨Aq, cq, Nq, cN, hP, hQ, hN, hcN, hNq⟩ := HD6.out.ref.view
        have ltq := lt_of_heap hP
        obtain ⟨q0, q1, _, _⟩ := cells2 hP
        rw [hl6] at q0
        have HQ := Lib.hid hQ
        clear hP hN hQ hNq f0 f1 f2 f3 f4
        go_region_held3 (fun w' => w'.cell? ⟨q, 0, none⟩ = some (.slice Aq l cq) ∧ w'.cell? ⟨q, 1, none⟩ = some (.slice Nq ns6.length cN)) (first | exact ⟨q0, q1⟩ | exact ⟨x0, x1⟩ | exact ⟨y0, y1⟩) (first | ((have _h := HD9); go_at_call 21; refine (len_it o6 1 p l ws6 ns6 _ HD9.out.mem hl6).mono ?_; rintro e w11 ⟨rfl, rfl⟩; clear _h) | ((have _h := HD9); go_at_call 16; refine (count_any o6 1 p ws6 ns6 _ HD9.out.mem).mono ?_; rintro e w10 ⟨rfl, rfl⟩; clear _h) | ((have _h := HD8); go_at_call 14; refine (same_rd ws6 a8 Aq c8 cq l _ hl6 hl1 HR8.out HQ8.out).mono ?_; rintro e w9 ⟨rfl, hb⟩; (have HD9 := Lib.hid (HD8.out.below hb)); (have y0 : w9.cell? ⟨q, 0, none⟩ = some (.slice Aq l cq) := (hb.cell (World.block_lt_of_cell? _ _ x0)).trans x0); (have y1 : w9.cell? ⟨q, 1, none⟩ = some (.slice Nq ns6.length cN) := (hb.cell (World.block_lt_of_cell? _ _ x1)).trans x1); clear hb _h) | ((have _h := HD6); go_at_call 15; refine (words_rd o6 1 p l ws6 ns6 _ HD6.out.drew.mem hl6).mono ?_; rintro e w8 ⟨a8, c8, rfl, hr, hc, hb⟩; (have HR8 := Lib.hid hr); (have HD8 := Lib.hid (HD6.out.drew.below hb)); (have HQ8 := Lib.hid (RdU.kept (w := w6) HQ.out ⟨hb.os, hb.tape, hb.output, hb.size, hb.block⟩)); (have x0 : w8.cell? ⟨q, 0, none⟩ = some (.slice Aq l cq) := (hb.cell ltq).trans q0); (have x1 : w8.cell? ⟨q, 1, none⟩ = some (.slice Nq ns6.length cN) := (hb.cell ltq).trans q1); clear hr hc hb _h))
        go_wp2
        go_roundg k1
        case measure => omega
        case rel => exact ⟨i + 1, rfl, by omega, by omega, o6, ws6, ns6, HD9.out, by have := HS6.out.notes; omega, hl6⟩
      · have c4b0 : decide ((i : Int) < m) = false := decide_eq_false (by omega)
        obtain rfl : i = m := by omega
        obtain ⟨L, hL⟩ : ∃ L, ns.length = L := ⟨_, rfl⟩
        obtain ⟨Aq, cq, Nq, cN, hP, hQ, hN, hcN, hNq⟩ := HE.out.ref.view
        rw [hL] at hP hcN hNq
        have hL1 : L ≤ 1000000 := by omega
        obtain ⟨y, k, h1, h2, hkL, hk⟩ := max_min n L
        have hcNk : (L : Int) ≤ cN := by omega
        have hkL' : (k : Int) ≤ L := by omega
        have hk0 : (0 : Int) ≤ k := by omega
        have hLk : (ns.drop k).length = L - k := by rw [List.length_drop, hL]
        have hLk1 : L - k ≤ 1000000 := by omega
        have ltq := lt_of_heap hP
        obtain ⟨q0, q1, _, _⟩ := cells2 hP
        have HK := Lib.hid hk
        have HN := Lib.hid hN
        clear hP hQ hN hk
        rcases hNq with ⟨rfl, rfl, rfl⟩ | ⟨g, rfl⟩
        · obtain rfl : k = 0 := by omega
          have h2 : (if (0 : Int) < y then (0 : Int) else y) = 0 := h2
          go_wp2
          go_region_held3 (fun w' => w'.cell? ⟨q, 1, none⟩ = some (.slice none 0 0)) (first | exact q1 | exact x1 | exact y1) (first | ((have _h := HB8); go_at_call 22; refine (same_notes a8 _ c8 _ _ _ _ hLk hLk1 HR8.out (HN.out.kept (w := wr) ⟨HB8.out.os, HB8.out.tape, HB8.out.output, HB8.out.size, HB8.out.block⟩)).mono ?_; rintro e w9 ⟨rfl, hb⟩; (have HD9 := Lib.hid ((HE.out.drew.below HB8.out).below hb)); (have y1 : w9.cell? ⟨q, 1, none⟩ = some (.slice none 0 0) := (hb.cell (World.block_lt_of_cell? _ _ x1)).trans x1); clear hb _h) | (go_at_call 20; refine (since_it o 1 p 0 ws2 ns n 0 _ HE.out.drew.mem hL hL1 (hk_zero n)).mono ?_; rintro e w8 ⟨a8, c8, rfl, hr, hb⟩; (have HR8 := Lib.hid hr); (have HB8 := Lib.hid hb); (have x1 : w8.cell? ⟨q, 1, none⟩ = some (.slice none 0 0) := (hb.cell ltq).trans q1); clear hr hb))
          go_wp2
          go_ret
          exact ⟨rfl, HD9.out.bel⟩
        · obtain ⟨Bq, hBq⟩ : ∃ Bq, (if cN = k then some (⟨g, 0, none⟩ : Addr) else some ⟨g, k * 5, none⟩) = Bq := ⟨_, rfl⟩
          go_wp2
          go_region_held3 (fun w' => w'.cell? ⟨q, 1, none⟩ = some (.slice (some ⟨g, 0, none⟩) L cN)) (first | exact q1 | exact x1 | exact y1) (first | ((have _h := HB8); go_at_call 22; refine (same_notes a8 _ c8 _ _ _ _ hLk hLk1 HR8.out ((HN.out.kept (w := wr) ⟨HB8.out.os, HB8.out.tape, HB8.out.output, HB8.out.size, HB8.out.block⟩).drop hL (by omega) hBq)).mono ?_; rintro e w9 ⟨rfl, hb⟩; (have HD9 := Lib.hid ((HE.out.drew.below HB8.out).below hb)); (have y1 : w9.cell? ⟨q, 1, none⟩ = some (.slice (some ⟨g, 0, none⟩) L cN) := (hb.cell (World.block_lt_of_cell? _ _ x1)).trans x1); clear hb _h) | (go_at_call 20; refine (since_it o 1 p L ws2 ns n k _ HE.out.drew.mem hL hL1 HK.out).mono ?_; rintro e w8 ⟨a8, c8, rfl, hr, hb⟩; (have HR8 := Lib.hid hr); (have HB8 := Lib.hid hb); (have x1 : w8.cell? ⟨q, 1, none⟩ = some (.slice (some ⟨g, 0, none⟩) L cN) := (hb.cell ltq).trans q1); clear hr hb))
          go_wp2
          go_ret
          exact ⟨rfl, HD9.out.bel⟩
theorem wmemPlays_walk (A : Option Addr) (len cap : Nat) (zs : List Int) (B : Option Addr) (m d : Nat) (F : Nat → PAct) (n : Int) (w : World) (h : IsRow .u64 w A len cap zs) (hs : len * 8 ≤ 140737488351232) (hB : RdActs w B m F) (w3 : (Lit.int .i64 n).wf = true) :
    Calls Try.prog 8 #[.slice A len cap, .slice B m d, .int .i64 n] w fun e w' => e = .returned (.bool true) ∧ Below w.heap.size w w' := by
  obtain ⟨hr, hlen, hv⟩ := h.rdU
  generalize zs.take len = ws at hr hlen hv
  subst hlen
  rcases Nat.lt_or_ge 1024 ws.length with h1 | h1
  · rcases Nat.lt_or_ge 200 m with h4 | h4
    · exact plays_no_many A B cap _ m d n w h1 h4
    rcases Nat.lt_or_ge 2000 ws.length with h5 | h5
    · exact plays_no_huge A B cap _ m d n w h1 h4 h5
    · exact plays_no_big A B cap _ m d n w h1 h4 h5
  rcases Nat.lt_or_ge 200 m with h4 | h4
  · exact plays_many A B cap m d ws n w hr hv h1 h4
  exact plays_body A B cap m d ws n w hr hv F hB h1 h4
end Go.Proofs.Ytgcddnajflgmbaa
