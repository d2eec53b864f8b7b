/-
  ArenaShelf: a shelf's nodes are taken from its end, then the arena's.
-/
import Derived.Test.YtndigbkhaajjoaaAlone8
import Derived.Test.YtndigbkhaajjoaaArg32
namespace Go.Proofs.Ytndigbkhaajjoaa
open Go.RowKit
set_option linter.unusedVariables false
set_option linter.unusedSimpArgs false

set_option maxRecDepth 20000 in
set_option maxHeartbeats 16000000 in
theorem arenaShelf_walk (a0 : Int) (A : Option Addr) (m cap : Nat) (zs : List Int) (bg : Int) (w : World) (hx0 : (Lit.int .i64 a0).wf = true) (hI : IsRow .u32 w A m cap zs) (hx1 : (Lit.int .i64 bg).wf = true) :
    Calls Try.prog 10 #[.int .i64 a0, .slice A m cap, .int .i64 bg] w fun e w' => e = .returned (.bool true) ∧ Below w.heap.size w w' := by
  obtain ⟨m0, m1⟩ := rngI64 hx1
  have mb : bg ≤ 9223372036854775807 := by omega
  obtain ⟨hr0, hl0, hc0, hc1, hz0⟩ := hI.rd32
  obtain ⟨l, hl⟩ : ∃ l, zs.take m = l := ⟨_, rfl⟩
  rw [hl] at hr0 hl0 hz0
  have HR := Lib.hid hr0
  have HZ := Lib.hid hz0
  have HLL := Lib.hid hl0
  clear hr0 hz0 hl0 hI hl
  obtain ⟨a00, a01⟩ := rngI64 hx0
  have hp := pickI_rng (c := a0) (n := 64) (by decide)
  obtain ⟨nn, hnn⟩ : ∃ nn : Nat, 1 + pickI a0 64 = (nn : Int) := Int.eq_ofNat_of_zero_le (by omega)
  have n1 : 1 ≤ nn := by omega
  have n2 : nn ≤ 64 := by omega
  obtain ⟨N, hN⟩ : ∃ N, N = 2 + 2 * nn + 0 + 0 := ⟨_, rfl⟩
  obtain ⟨T, hT⟩ : ∃ T : Int, 3 * 4294967296 = T := ⟨_, rfl⟩
  have hN4 : N ≤ 1024 := by omega
  have hN2 : 2 + 2 * nn ≤ N := by omega
  have t0 : (0 : Int) ≤ 3 := by omega
  have t1 : (3 : Int) < 4294967296 := by omega
  have HNN := Lib.hid hnn
  have HN := Lib.hid hN
  have HT := Lib.hid hT
  have HOK : Hid (okC (nn : Int) ((0 : Nat) : Int) ((0 : Nat) : Int) = true) := Lib.hid (by simp [okC]; omega)
  have HFR : Hid (∀ x ∈ frL T nn nn 0 N, 0 ≤ x ∧ x < 18446744073709551616) := Lib.hid (frL_rng (by omega) (by omega) n2)
  have HMV : Hid (Left nn 3 (upL 1 nn) N (frL T nn nn 0 N)) := Lib.hid ⟨fresh_at1 hT t0 t1 hN2 n1 n2, frL_len _ _ _ _ _, HFR.out⟩
  have H := Lib.hid (St.nil w)
  have d0 : decide ((nn : Int) < 1) = false := decide_eq_false (by omega)
  clear hx0 hx1 hp hnn hN hT
  by_cases h50 : m > 50
  · have c50 : decide ((50 : Int) < (m : Int)) = true := decide_eq_true (by omega)
    go_enter Try.func10, Try.ntmps10
    go_wp2_with (first | ((have _h := H2); go_at_call 16; refine (fresh_ok nn 0 0 3 T N H2.out HOK.out HN.out HT.out t0 t1).mono ?_; rintro e w3 ⟨g, rfl, h⟩; (have H3 := Lib.hid (h)); clear h; clear q0 q1 q2 q3 lq; (obtain ⟨q0, q1, q2, q3⟩ := cells4 (H3.out.cells 1 rfl)); (have lq := lt_of_heap (H3.out.cells 1 rfl)); clear _h) | ((have _h := H1); go_at_call 47; refine (cfg8_is a0 0 0 3 nn 0 0 _ HNN.out rfl rfl a00 a01 (by decide) (by decide) (by decide) (by decide)).mono ?_; rintro e w2 ⟨rfl, hb⟩; (have H2 := Lib.hid ((H1.out.below hb).alloc #[.int .i64 nn, .int .i64 0, .int .i64 0, .int .u32 3] 26)); clear hb; (obtain ⟨q0, q1, q2, q3⟩ := cells4 (H2.out.cells 0 rfl)); (have lq := lt_of_heap (H2.out.cells 0 rfl)); clear _h) | ((have _h := H); go_at_call 42; refine (shown8 _).mono ?_; rintro e w1 ⟨rfl, hb⟩; (have H1 := Lib.hid (H.out.below hb)); clear hb; clear _h))
    go_ret
    exact ⟨rfl, H3.out.bel⟩
  have c50 : decide ((50 : Int) < (m : Int)) = false := decide_eq_false (by omega)
  have m50 : m ≤ 1000000 := by omega
  go_enter Try.func10, Try.ntmps10
  go_wp2_with (first | ((have _h := H4); at_builtin; go_must (refine wpList_append_copy32 (by rfl) _ _ (by rfl) (by rfl) w4.heap.size A m cap l (by rfl) (by rfl) (heap_new rfl) (by simp) ((HR.out.kept H4.out.bel).kept (bl_alloc (bl_refl _) _)) HLL.out m50 ?_); go_must (intro a5 c5 w5 hr5 hb5); (have HB5 := Lib.hid ((bl_alloc (bl_refl w4) (.cells #[] 23)).trans hb5)); (have HR5 := Lib.hid hr5); clear hr5 hb5 _h) | ((have _h := H3); go_at_call 26; refine (new_st H3.out.tail (some ⟨_, 0, none⟩) _ N (frL T nn nn 0 N) (rowRd (H3.out.row 0 rfl) (frL_len _ _ _ _ _)) hN4 HFR.out (frL_len _ _ _ _ _)).mono ?_; rintro e w4 ⟨q, rfl, h⟩; (have H4 := Lib.hid (h)); clear h; clear q0 q1 q2 q3 lq; (obtain ⟨q0, q1, q2, q3⟩ := cells4 (H4.out.cells 1 rfl)); (have lq := lt_of_heap (H4.out.cells 1 rfl)); clear _h) | ((have _h := H2); go_at_call 16; refine (fresh_ok nn 0 0 3 T N H2.out HOK.out HN.out HT.out t0 t1).mono ?_; rintro e w3 ⟨g, rfl, h⟩; (have H3 := Lib.hid (h)); clear h; clear q0 q1 q2 q3 lq; (obtain ⟨q0, q1, q2, q3⟩ := cells4 (H3.out.cells 1 rfl)); (have lq := lt_of_heap (H3.out.cells 1 rfl)); clear _h) | ((have _h := H1); go_at_call 47; refine (cfg8_is a0 0 0 3 nn 0 0 _ HNN.out rfl rfl a00 a01 (by decide) (by decide) (by decide) (by decide)).mono ?_; rintro e w2 ⟨rfl, hb⟩; (have H2 := Lib.hid ((H1.out.below hb).alloc #[.int .i64 nn, .int .i64 0, .int .i64 0, .int .u32 3] 26)); clear hb; (obtain ⟨q0, q1, q2, q3⟩ := cells4 (H2.out.cells 0 rfl)); (have lq := lt_of_heap (H2.out.cells 0 rfl)); clear _h) | ((have _h := H); go_at_call 42; refine (shown8 _).mono ?_; rintro e w1 ⟨rfl, hb⟩; (have H1 := Lib.hid (H.out.below hb)); clear hb; clear _h))
  have H5 := Lib.hid ((H4.out.below HB5.out).re 2 [0, 1])
  clear H1 H2 H3 H4 HB5 q0 q1 q2 q3 lq
  obtain ⟨bc, hbc⟩ : ∃ bc, w2.heap.size = bc := ⟨_, rfl⟩
  simp only [hbc] at *
  go_loopg [13, 14] (m + 1) (fun kq y z w' => ∃ (k : Nat) (L r : List Int) (a : Option Addr) (c : Nat), y = .slice a k c ∧ z = .int .i64 ((k : Int) - 1) ∧ L.length = k ∧ l = L ++ r ∧ k + 1 = kq ∧ k ≤ m ∧ Rd32 w' a L ∧ St w [memA q (frL T nn nn 0 N) [], bxC bc nn 0 0 3] w')
  case atStart => exact ⟨m, l, [], a5, c5, rfl, rfl, HLL.out, by simp, rfl, Nat.le_refl _, HR5.out, H5.out⟩
  case round =>
    obtain ⟨k, L, r, a, c, rfl, rfl, hL, hlr, hkq, hkm, hrd, hS⟩ := hrel
    clear H5 HR5
    obtain ⟨q0, q1, q2, q3⟩ := cells4 (hS.cells 1 rfl)
    have lq := lt_of_heap (hS.cells 1 rfl)
    cases gk with
    | zero => omega
    | succ kk =>
      rcases List.eq_nil_or_concat L with rfl | ⟨L1, x, rfl⟩
      · have hk0 : k = 0 := by simpa using hL.symm
        subst hk0
        have c4b : decide ((0 : Int) ≤ ((0 : Nat) : Int) - 1) = false := by decide
        have Z := Lib.hid hS
        have HRD := Lib.hid hrd
        have hup : upL 1 nn = 1 :: upL (1 + 1) (nn - 1) := by
          obtain ⟨d, hd⟩ : ∃ d, nn = d + 1 := ⟨nn - 1, by omega⟩
          rw [hd]
          rfl
        obtain ⟨ws1, ⟨S1, hr1, hs1, hi1⟩, hm1⟩ := Left.take (t := 3) (b := bg) HOK.out (hup ▸ HMV.out) hN2
        have HR1 := Lib.hid hr1
        have HS1 := Lib.hid hs1
        have HI1 := Lib.hid hi1
        clear hS hrd hr1 hs1 hi1 hm1 hup hlr hL hkq
        go_wp2_with (first | ((have _h := Zb1); go_at_call 49; refine (ends8 (.pointer (some rb1)) 3 1 1 (.inl ⟨rfl, rfl, rfl⟩) HR1.out HS1.out HI1.out Zb1.out (newAT_ok _ (by omega) (by decide) (by decide)) (fun _ => by show (0 : Int) ≠ 6; decide) (by first | omega | simp) (by decide) (by decide)).mono ?_; rintro e z2 ⟨rfl, n1t, hn1, _, h⟩; (have Zb2 := Lib.hid (h.re 2 [0])); (have HTn1 := Lib.hid hn1); clear h hn1; clear q0 q1 q2 q3 lq; (obtain ⟨q0, q1, q2, q3⟩ := cells4 (Zb2.out.cells 1 rfl)); (have lq := lt_of_heap (Zb2.out.cells 1 rfl)); clear _h) | ((have _h := Z); go_at_call 43; refine (made8_tz nn 0 0 3 bg 0 a c [] Z.out HRD.out rfl).mono ?_; rintro e z1 ⟨p1, rb1, rfl, h⟩; (have Zb1 := Lib.hid ((h.alloc #[.pointer (some ⟨p1, 0, none⟩), .pointer none, .pointer (some rb1)] 84).re 3 [2, 1])); clear h; clear q0 q1 q2 q3 lq; (obtain ⟨q0, q1, q2, q3⟩ := cells4 (Zb1.out.cells 2 rfl)); (have lq := lt_of_heap (Zb1.out.cells 2 rfl)); clear _h))
        go_ret
        exact ⟨rfl, Zb2.out.bel⟩
      · have hL1 : L1.length + 1 = k := by simpa using hL
        obtain ⟨n, hn⟩ : ∃ n, L1.length = n := ⟨_, rfl⟩
        obtain rfl : k = n + 1 := by omega
        have ek : ((n + 1 : Nat) : Int) - 1 = (n : Int) := by omega
        rw [ek]
        have c4b : decide ((0 : Int) ≤ (n : Int)) = true := decide_eq_true (by omega)
        have L0 := Lib.hid hS
        have HRD := Lib.hid hrd
        have hx : l[n]? = some x := by
          rw [hlr, ← hn, List.concat_eq_append, List.append_assoc, List.getElem?_append_right (Nat.le_refl _)]
          simp
        obtain ⟨ad, hA, hcx⟩ := HR.out.cell hx
        subst hA
        have HCX := Lib.hid hcx
        have HP : Hid (Rd32 w (some ad) L1) := Lib.hid (Rd32.pre (r := x :: r) (by have := HR.out; rw [hlr, List.concat_eq_append, List.append_assoc] at this; exact this))
        have HRG : Hid (∀ y ∈ L1 ++ [x], 0 ≤ y ∧ y < 4294967296) := Lib.hid (fun y hy => HZ.out y (by rw [hlr, List.concat_eq_append]; exact List.mem_append_left _ hy))
        have HNL := Lib.hid hn
        have HLR := Lib.hid hlr
        have hL2 : (L1 ++ [x]).length = n + 1 := by rw [List.length_append, hn]; rfl
        have HL2 := Lib.hid hL2
        have i0 : (0 : Int) ≤ (n : Int) := by omega
        have i1 : (n : Int) < (m : Int) := by omega
        have i2 : (n : Int) ≤ (cap : Int) := by omega
        have n6 : n < 1000000 := by omega
        clear hS hrd hx hcx hlr hL hL1 hn hL2 ek
        go_wp2_with (first | ((have _h := Lc3); go_at_call 32; refine (count_st Lc3.out 0 (by rfl)).mono ?_; rintro e y4 ⟨rfl, rfl⟩; clear _h) | ((have _h := Lc2); go_at_call 24; refine (same6 a7 (some ad) n c7 cap L1 _ HR7.out HP7.out HNL.out (by omega)).mono ?_; rintro e y3 ⟨rfl, hb⟩; (have Lc3 := Lib.hid (Lc2.out.below hb)); (have HR8 := Lib.hid (HR7.out.kept hb)); clear hb; clear _h) | ((have _h := Lc1); go_at_call 45; refine (take_shelf8 (.pointer (some rb1)) nn 0 0 3 bg L1 x n HNL.out n6 mb HRG.out Lc1.out (by decide)).mono ?_; rintro e y2 ⟨a7, c7, rfl, hr7, h⟩; (have Lc2 := Lib.hid (h)); (have f1 := (h.bel.cell (World.block_lt_of_cell? _ _ HCX.out)).trans HCX.out); (have HP7 := Lib.hid (HP.out.kept h.bel)); (have HR7 := Lib.hid hr7); clear h hr7; clear q0 q1 q2 q3 lq; (obtain ⟨q0, q1, q2, q3⟩ := cells4 (Lc2.out.cells 1 rfl)); (have lq := lt_of_heap (Lc2.out.cells 1 rfl)); clear _h) | ((have _h := L0); go_at_call 43; refine (made8_t nn 0 0 3 bg 0 a (n + 1) c (L1 ++ [x]) L0.out (by have := HRD.out; rwa [List.concat_eq_append] at this) HL2.out (by omega) (by omega)).mono ?_; rintro e y1 ⟨p1, rb1, rfl, h⟩; (have Lc1 := Lib.hid ((h.alloc #[.pointer (some ⟨p1, 0, none⟩), .pointer none, .pointer (some rb1)] 84).re 3 [2, 1])); clear h; clear q0 q1 q2 q3 lq; (obtain ⟨q0, q1, q2, q3⟩ := cells4 (Lc1.out.cells 2 rfl)); (have lq := lt_of_heap (Lc1.out.cells 2 rfl)); clear _h))
        go_roundg kk
        case measure => omega
        case rel => exact ⟨n, L1, x :: r, a7, c7, by rfl, by rfl, HNL.out, by rw [HLR.out, List.concat_eq_append, List.append_assoc]; rfl, by omega, by omega, HR8.out, Lc3.out⟩
end Go.Proofs.Ytndigbkhaajjoaa
