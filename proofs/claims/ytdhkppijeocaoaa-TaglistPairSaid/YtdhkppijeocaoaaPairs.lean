/-
  The law TaglistPair: the walk.
-/
import Derived.Test.YtdhkppijeocaoaaHeld
import Derived.Test.YtdhkppijeocaoaaFirst
namespace Go.Proofs.Ytdhkppijeocaoaa
open Go.RowKit Go.Proofs.YtdhkppijeocaoaaW.PrintWords Go.Proofs.Ytdhkppijeocaoaa.Pl Go.Proofs.Ytdhkppijeocaoaa.PTaglistFirst Go.Proofs.Ytdhkppijeocaoaa.CTaglistFirst
set_option linter.unusedVariables false
set_option linter.unusedSimpArgs false

theorem Solo.below {w w1 w2 : World} {o : Nat → Nat} {q : Nat} {ws : List Int} {ns : List Note} (h : Solo w o w1 q ws ns) (hb : Below w1.heap.size w1 w2) : Solo w o w2 q ws ns := ⟨h.bel.trans (hb.mono h.bel.size), h.tag, h.mem.below hb⟩
def PairRel (w : World) (q n s h : Nat) (t : Int) (j : Nat) (w' : World) : Prop := ∃ o ns, Solo w o w' q (wsP n s h t (hd n t j)) ns ∧ ns.length = 3 * j
theorem word_is (a b v : Int) (w : World) (hv : a + b * 4294967296 = v) (a0 : 0 ≤ a) (a1 : a < 4294967296) (b0 : 0 ≤ b) (b1 : b < 4294967296) :
    Calls Try.prog 26 #[.int .u32 a, .int .u32 b] w fun e w' => e = .returned (.int .u64 v) ∧ Below w.heap.size w w' := by
  subst hv
  exact word_any a b w a0 a1 b0 b1
theorem u32_small {x : Int} (h0 : 0 ≤ x) (h1 : x ≤ 1000) : x % 4294967296 = x ∧ IntKind.u32.wrap x = x := by
  have e : x % 4294967296 = x := by omega
  exact ⟨e, by rw [IntKind.wrap_u32]; exact e⟩
theorem wsP_rng {n s h : Nat} {t v : Int} (t0 : 0 ≤ t) (t1 : t < 4294967296) (hn : n ≤ 64) (v0 : 0 ≤ v) (v1 : v < 18446744073709551616) : ∀ x ∈ wsP n s h t v, 0 ≤ x ∧ x < 18446744073709551616 := by
  intro x hx
  rcases List.mem_or_eq_of_mem_set hx with h | rfl
  · exact fresh_rng t0 t1 hn x h
  · exact ⟨v0, v1⟩
set_option maxHeartbeats 16000000 in
set_option maxRecDepth 100000 in
theorem pair_body (nodes t many : Int) (w : World) (n s h N k : Nat) (hC : hatstandlaw7_config.f nodes 0 0 t = some ((n : Int), (s : Int), (h : Int), t)) (hP : hatstandlaw7_pick.f many (n : Int) = some (k : Int)) (hkn : k < n) (hk : okC n s h = true) (t0 : 0 ≤ t) (t1 : t < 4294967296) (hN : N = 2 + 2 * n + s + h) :
    Calls Try.prog 6 #[.int .i64 nodes, .int .u32 t, .int .i64 many] w fun e w' => e = .returned (.bool true) ∧ Below w.heap.size w w' := by
  obtain ⟨k1, k2, k3, k4, k5, k6⟩ := okC_bounds hk
  have hn64 : n ≤ 64 := by omega
  have hn1 : 1 ≤ n := by omega
  have hlN : (wsP n s h t (hd n t 0)).length = N := by rw [wsP_len, hN]
  have hr0 := hd_rng n t 0 hn64
  have HV := Lib.hid (wsP_rng (n := n) (s := s) (h := h) (t := t) t0 t1 hn64 hr0.1 hr0.2)
  have FR := Lib.hid (fun w => (fresh_wsP n s h t hn1 t0 t1 ▸ fresh_call n s h N t w hk t0 t1 hN : Calls Try.prog 11 #[.agg #[.int .i64 n, .int .i64 s, .int .i64 h, .int .u32 t]] w (FreshPost w N (wsP n s h t (hd n t 0)))))
  have hN1024 : N ≤ 1024 := by omega
  have hN3 : (1 : Int) < (N : Int) := by omega
  have hNN : 2 + 2 * n + s + h = N := hN.symm
  have HC := Lib.hid hC
  have HP0 := Lib.hid hP
  have HK := Lib.hid hk
  clear hN k1 k2 k3 k4 k5 k6 hC hP hk hr0
  go_enter Try.func6, Try.ntmps6
  go_wp2_with (first | ((have _h := HS); go_at_call 19; refine (hatstandlaw7_pick.calls many n k _ HP0.out).mono ?_; rintro e w5 ⟨rfl, hb⟩; (have HS5 := Lib.hid (HS.out.below hb.below)); clear hb _h) | ((have _h := HB3); go_at_call 12; refine (new_len (fun _ => 0) 1 A c N _ _ HR.out hN1024 HV.out hlN).mono ?_; intro e w4 h; obtain ⟨q, o1, rfl, hs⟩ := solo_of (Below.refl _ _) h; (have HS := Lib.hid hs); (have hx := (hs.bel.block _ (lt_of_heap HX.out)).trans HX.out); clear h hs _h c0 c1 c2 c3; obtain ⟨c0, c1, c2, c3⟩ := cells4 hx; clear hx) | ((have _h := HB2); go_at_call 11; refine (FR.out _).mono ?_; rintro e w3 ⟨A, c, rfl, hr, hc, hb⟩; (have HR := Lib.hid hr); (have hx : w3.heap[w2.heap.size]? = some (.cells #[.int .i64 n, .int .i64 s, .int .i64 h, .int .u32 t] 26 (0, 0)) := (hb.block _ (by simp)).trans (heap_new rfl)); (have HX := Lib.hid hx); (have HB3 := Lib.hid ((HB1.out.trans (HB2.out.mono HB1.out.size)).trans (((bl_alloc (bl_refl w2) _).trans (hb.mono (by simp))).mono (Nat.le_trans HB1.out.size HB2.out.size)))); clear hr hc hb _h; obtain ⟨c0, c1, c2, c3⟩ := cells4 hx; clear hx) | (go_at_call 10; refine (hatstandlaw7_config.calls nodes 0 0 t n s h t _ HC.out).mono ?_; rintro e w2 ⟨rfl, hb⟩; (have HB2 := Lib.hid hb); clear hb) | (go_at_call 9; refine (shown7 _).mono ?_; rintro e w1 ⟨rfl, hb⟩; (have HB1 := Lib.hid hb); clear hb))
  have HRel := Lib.hid (show PairRel w3 q n s h t 0 w5 from ⟨o1, [], HS5.out, rfl⟩)
  go_loopg [14] (k + 1) (fun kq y w' => ∃ j : Nat, y = .int .i64 ((j : Int) + 1) ∧ j ≤ k ∧ j + kq = k + 1 ∧ PairRel w3 q n s h t j w')
  case atStart => exact ⟨0, rfl, Nat.zero_le _, by omega, HRel.out⟩
  case round =>
    obtain ⟨j, rfl, hj, hkq, o, ns, hS, hc⟩ := hrel
    have HE := Lib.hid hS
    have hnl : ns.length ≤ 1000000 := by omega
    have hx := (hS.bel.block _ (lt_of_heap HX.out)).trans HX.out
    obtain ⟨c0, c1, c2, c3⟩ := cells4 hx
    obtain ⟨u1, u2⟩ := u32_small (x := (j : Int) + 1) (by omega) (by omega)
    clear hS hx HRel
    cases gk with
    | zero => omega
    | succ kk =>
      by_cases c4 : j < k
      · have c4b0 : decide ((j : Int) + 1 ≤ k) = true := decide_eq_true (by omega)
        have hjn : j < n := by omega
        go_wp2_with (first | ((have _h := HP); go_at_call 24; refine (ends_take o2 2 1 p1 q (.pointer none) ((j : Int) + 1) (tS n s h t j) (tW n s h t j) (tN n t j ns) ns.length _ (by decide) (by decide) (by decide) HP.out.a HP.out.mem hnl (tN_len n t j ns) (take_steps HK.out j hjn ns) rfl rfl).mono ?_; rintro e w7 ⟨rfl, hk⟩; obtain ⟨o7, hs⟩ := HP.out.done hk; (have HS7 := Lib.hid hs); clear hk hs _h) | ((have _h := HE); go_at_call 13; refine (take_new o 2 n s h t 1 _).mono ?_; intro e w6 h; obtain ⟨p1, o2, rfl, hs⟩ := HE.out.take h; (have HP := Lib.hid hs); clear h hs _h c0 c1 c2 c3))
        clear u1 u2
        go_roundg kk
        case measure => omega
        case rel => exact ⟨j + 1, by congr 1, by omega, by omega, o7, _, HS7.out, by rw [tN_len n t j ns 3 (Nat.le_refl _)]; omega⟩
      · have c4b0 : decide ((j : Int) + 1 ≤ k) = false := decide_eq_false (by omega)
        obtain rfl : j = k := by omega
        have hjn : j < n := hkn
        have hlw : (wsP n s h t (hd n t j)).length = N := by rw [wsP_len]; exact hNN
        have hlw2 : (wsP n s h t (gHd t j)).length = N := by rw [wsP_len]; exact hNN
        have j0 : (0 : Int) ≤ (j : Int) + 1 := by omega
        have j1 : (j : Int) + 1 < 4294967296 := by omega
        have hnl2 : (tN n t j ns 3).length ≤ 1000000 := by rw [tN_len n t j ns 3 (Nat.le_refl _)]; omega
        have hdr := hd_rng n t j hn64
        have HLO := Lib.hid (show hd n t j % 4294967296 = (j : Int) + 1 by rw [hd_lo n t j hn64, if_pos hjn])
        have HHI := Lib.hid (hd_hi n t j hn64)
        obtain ⟨z, hz⟩ : ∃ z, ((t + j) % 4294967296 + 2) % 4294967296 = z := ⟨_, rfl⟩
        have HZE := Lib.hid (show (j : Int) + 1 + z * 4294967296 = gHd t j by rw [← hz]; exact gHd_eq t j t0 t1)
        have z0 : 0 ≤ z := by omega
        have z1 : z < 4294967296 := by omega
        have hz2 : IntKind.u32.wrap ((t + j) % 4294967296 + 2) = z := by rw [IntKind.wrap_u32]; exact hz
        go_wp2_with (first | ((have _h := HG3); go_at_call 16; refine (words_rd o5 1 q N (wsP n s h t (gHd t j)) _ _ HG3.out.mem hlw2).mono ?_; rintro e w13 ⟨a13, c13, rfl, hr, hcc, hb⟩; (have HR13 := Lib.hid hr); (have HR8 := Lib.hid (HH12.out.below hb).rd); (have HB13 := Lib.hid (HG3.out.below hb).bel); obtain ⟨ad13, rfl, k13⟩ := hr.cellA (k := 1) (by rw [hlw2]; omega); obtain ⟨ad8, rfl, k8⟩ := (HH12.out.below hb).rd.cellA (k := 1) (by rw [hlw]; omega); rw [wsP_1 _ _ _ _ _ hn1] at k13 k8; clear hr hcc hb _h) | ((have _h := HG2); go_at_call 24; refine (ends_give o4 3 1 p2 q (.pointer none) ((j : Int) + 1) (gS n s h t j) (gW n s h t j) (gN n t j (tN n t j ns 3)) (tN n t j ns 3).length _ (by decide) (by decide) (by decide) HG2.out.g HG2.out.mem hnl2 (gN_len n t j _) (give_steps HK.out j hjn _) rfl rfl).mono ?_; rintro e w12 ⟨rfl, hk⟩; obtain ⟨o5, hs, hh⟩ := HG2.out.stepGH HH11.out hk; (have HG3 := Lib.hid hs); (have HH12 := Lib.hid hh); clear hk hs hh _h HG2) | ((have _h := HG); go_at_call 24; refine (ends_take o3 2 1 p1 q (.pointer none) ((j : Int) + 1) (tS n s h t j) (tW n s h t j) (tN n t j ns) ns.length _ (by decide) (by decide) (by decide) HG.out.a HG.out.mem hnl (tN_len n t j ns) (take_steps HK.out j hjn ns) rfl rfl).mono ?_; rintro e w11 ⟨rfl, hk⟩; obtain ⟨o4, hs, hh⟩ := HG.out.stepAH HH10.out hk; (have HG2 := Lib.hid hs); (have HH11 := Lib.hid hh); clear hk hs hh _h HG) | ((have _h := HP); go_at_call 25; refine (give_new o2 3 n s h t 1 ((j : Int) + 1) _ j0 j1).mono ?_; intro e w10 h; obtain ⟨p2, o3, rfl, hs, hh⟩ := HP.out.giveH HH9.out h; (have HG := Lib.hid hs); (have HH10 := Lib.hid hh); clear h hs hh _h c0 c1 c2 c3) | ((have _h := HE8); go_at_call 13; refine (take_new o8 2 n s h t 1 _).mono ?_; intro e w9 h; obtain ⟨p1, o2, rfl, hs, hh⟩ := HE8.out.takeH HH8.out h; (have HP := Lib.hid hs); (have HH9 := Lib.hid hh); (have hx := (hs.bel.block _ (lt_of_heap HX.out)).trans HX.out); clear h hs hh _h HE8 c0 c1 c2 c3; obtain ⟨c0, c1, c2, c3⟩ := cells4 hx; clear hx) | ((have _h := HE); go_at_call 16; refine (words_held HE.out hlw).mono ?_; rintro e w8 ⟨a8, c8, o8, rfl, hs, hh, hcc⟩; (have HE8 := Lib.hid hs); (have HH8 := Lib.hid hh); (have hx := (HE8.out.bel.block _ (lt_of_heap HX.out)).trans HX.out); clear hs hh hcc _h HE c0 c1 c2 c3; obtain ⟨c0, c1, c2, c3⟩ := cells4 hx; clear hx))
        have k8' : w13.cell? ⟨ad8.block, ad8.off + 1, none⟩ = some (.int .u64 (hd n t j)) := k8
        have k13' : w13.cell? ⟨ad13.block, ad13.off + 1, none⟩ = some (.int .u64 (gHd t j)) := k13
        have HF : Hid (∀ w', Below w13.heap.size w13 w' → w'.cell? ⟨ad8.block, ad8.off + 1, none⟩ = some (.int .u64 (hd n t j)) ∧ w'.cell? ⟨ad13.block, ad13.off + 1, none⟩ = some (.int .u64 (gHd t j))) := Lib.hid (fun w' hb => ⟨(hb.cell (World.block_lt_of_cell? _ _ k8')).trans k8', (hb.cell (World.block_lt_of_cell? _ _ k13')).trans k13'⟩)
        go_region_held3 (fun w' => w'.cell? ⟨ad8.block, ad8.off + 1, none⟩ = some (.int .u64 (hd n t j)) ∧ w'.cell? ⟨ad13.block, ad13.off + 1, none⟩ = some (.int .u64 (gHd t j))) (first | exact ⟨k8', k13'⟩ | exact HF.out _ HI.out | exact HF.out _ HT.out | exact HF.out _ HIT.out | exact HF.out _ HW.out) (first | ((have _h := HIT); go_at_call 26; refine (word_is ((j : Int) + 1) z (gHd t j) _ HZE.out j0 j1 z0 z1).mono ?_; rintro e w16 ⟨rfl, hp⟩; (have HW := Lib.hid (HIT.out.trans (hp.mono HIT.out.size))); clear hp _h) | (go_at_call 27; refine (index_is (hd n t j) ((j : Int) + 1) _ HLO.out).mono ?_; rintro e w14 ⟨rfl, hp⟩; first | ((have _h := HT); (have HIT := Lib.hid (HT.out.trans (hp.mono HT.out.size))); clear hp _h) | ((have HI := Lib.hid (undrew hp)); clear hp)) | (go_at_call 15; refine (tag_is (hd n t j) ((t + j) % 4294967296) _ hdr.1 hdr.2 HHI.out).mono ?_; rintro e w15 ⟨rfl, hp⟩; first | ((have _h := HI); (have HIT := Lib.hid (HI.out.trans (hp.mono HI.out.size))); clear hp _h) | ((have HT := Lib.hid (undrew hp)); clear hp)))
        all_goals clear hz hz2 k8 k13 k8' k13' u1 u2
        · go_wp2
          go_loopg [20] (N + 1) (fun kq y w' => ∃ i : Nat, y = .int .i64 i ∧ i ≤ N ∧ i + kq = N + 1 ∧ Below w13.heap.size w13 w')
          case atStart => exact ⟨0, rfl, Nat.zero_le _, by omega, HW.out⟩
          case round =>
            obtain ⟨i, rfl, hi, hki, hbi⟩ := hrel
            have HJ := Lib.hid hbi
            clear hbi
            cases gk with
            | zero => omega
            | succ k2 =>
              by_cases c6 : i < N
              · have c6b : decide ((i : Int) < N) = true := decide_eq_true (by omega)
                have r1 : (0 : Int) ≤ (i : Int) := by omega
                have r2 : (i : Int) < (N : Int) := by omega
                by_cases c7 : i = 1
                · subst c7
                  have c7b : (((1 : Nat) : Int) != 1) = false := rfl
                  go_wp2
                  go_quiet (fail)
                  go_wp2
                  go_roundg k2
                  case measure => omega
                  case rel => exact ⟨2, rfl, by omega, by omega, HJ.out.trans ⟨rfl, rfl, rfl, Nat.le_refl _, fun _ _ => rfl⟩⟩
                · have c7b : ((i : Int) != 1) = true := by simp; omega
                  obtain ⟨bd1, e1, f0⟩ := (HR13.out.kept HJ.out).cellA (k := i) (by rw [hlw2]; exact c6)
                  obtain ⟨bd2, e2, g0⟩ := (HR8.out.kept HJ.out).cellA (k := i) (by rw [hlw]; exact c6)
                  cases e1
                  cases e2
                  rw [wsP_other n s h t (gHd t j) (hd n t j) i c7] at f0
                  go_wp2
                  go_quiet (fail)
                  go_wp2
                  go_roundg k2
                  case measure => omega
                  case rel => exact ⟨i + 1, rfl, by omega, by omega, HJ.out.trans ⟨rfl, rfl, rfl, Nat.le_refl _, fun _ _ => rfl⟩⟩
              · have c6b : decide ((i : Int) < N) = false := decide_eq_false (by omega)
                go_wp2
                go_ret
                exact ⟨rfl, HB3.out.trans ((HB13.out.trans (HJ.out.mono HB13.out.size)).mono HB3.out.size)⟩
theorem taglistPair_walk (nodes t many : Int) (w : World) (h0 : (Lit.int .i64 nodes).wf = true) (h1 : (Lit.int .u32 t).wf = true) (h2 : (Lit.int .i64 many).wf = true) :
    Calls Try.prog 6 #[.int .i64 nodes, .int .u32 t, .int .i64 many] w fun e w' => e = .returned (.bool true) ∧ Below w.heap.size w w' := by
  obtain ⟨n, s, h, hC, hn1, hn2, _, _, hk, _⟩ := config_eq (a := nodes) (b := 0) (c := 0) (t := t) h0 (by decide) (by decide)
  obtain ⟨t0, t1⟩ := wfu32 h1
  obtain ⟨m0, m1⟩ := wf64 h2
  obtain ⟨r, hP, r0, r1⟩ := pick_eq (c := many) (n := (n : Int)) (by omega) (by omega) m0 m1
  obtain ⟨k, rfl⟩ := Int.eq_ofNat_of_zero_le r0
  exact pair_body nodes t many w n s h _ k hC hP (by omega) hk t0 (by omega) rfl
end Go.Proofs.Ytdhkppijeocaoaa
