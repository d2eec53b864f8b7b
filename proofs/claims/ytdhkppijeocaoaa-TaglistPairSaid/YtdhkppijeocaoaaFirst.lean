/-
  The law TaglistFirst: the walk.
-/
import Derived.Test.YtdhkppijeocaoaaFirstLaw
import Derived.Deep.Grids
import Derived.BigQuiet
import Derived.Deep.QuietTactic
namespace Go.Proofs.Ytdhkppijeocaoaa
open Go.RowKit Go.Proofs.YtdhkppijeocaoaaW.PrintWords Go.Proofs.Ytdhkppijeocaoaa.Pl Go.Proofs.Ytdhkppijeocaoaa.PTaglistFirst Go.Proofs.Ytdhkppijeocaoaa.CTaglistFirst
set_option linter.unusedVariables false
set_option linter.unusedSimpArgs false

/-- Bools that came in. -/
def RdB (w : World) (B : Option Addr) (m : Nat) (F : Nat → Bool) : Prop := ∀ j, j < m → ∃ bd, B = some bd ∧ w.cell? (bd.add j) = some (.bool (F j))
theorem RdB.kept {w w' : World} {B : Option Addr} {m : Nat} {F : Nat → Bool} (h : RdB w B m F) (hb : Below w.heap.size w w') : RdB w' B m F := by
  intro j hj
  obtain ⟨bd, rfl, hc⟩ := h j hj
  exact ⟨bd, rfl, (hb.cell (World.block_lt_of_cell? w _ hc)).trans hc⟩
theorem tag_is (x y : Int) (w : World) (h0 : 0 ≤ x) (h1 : x < 18446744073709551616) (hy : x / 4294967296 = y) :
    Calls Try.prog 15 #[.int .u64 x] w fun e w' => e = .returned (.int .u32 y) ∧ Below w.heap.size w w' := by
  subst hy
  exact tag_any x w h0 h1
def FirstRel (w : World) (q p1 p2 : Nat) (ws0 : List Int) (n s h t x : Int) (a b c : Nat) (w' : World) : Prop :=
  ∃ o lA lB ws ns, Trio w o w' q p1 p2 (mkT n s h t x lA) (mkT n s h t x lB) ws ns ∧ Both7 ws0 t x lA lB ws ∧ ns.length ≤ c ∧ a ≤ lA ∧ b ≤ lB
theorem RdU.cellA {w : World} {A : Option Addr} {ws : List Int} (h : RdU w A ws) {k : Nat} (hk : k < ws.length) : ∃ ad, A = some ad ∧ w.cell? (ad.add k) = some (.int .u64 (rdW ws k)) := by
  obtain ⟨ad, rfl, hc⟩ := h.at_ (by omega)
  refine ⟨ad, rfl, hc k _ ?_⟩
  rw [List.getElem?_map, List.getElem?_eq_getElem hk]
  simp [rdW, hk]
theorem new_len (own : Nat → Nat) (t : Nat) (A : Option Addr) (c N : Nat) (ws : List Int) (w : World) (hr : RdU w A ws) (hl : N ≤ 1024) (hv : ∀ x ∈ ws, 0 ≤ x ∧ x < 18446744073709551616) (hN : ws.length = N) :
    Calls Try.prog 12 #[.slice A N c] w (NewPost own t w ws) := by
  subst hN
  exact new_ok own t A c ws w hr hl hv
theorem fresh_rng {n s h : Nat} {t : Int} (t0 : 0 ≤ t) (t1 : t < 4294967296) (hn : n ≤ 64) : ∀ x ∈ freshL n s h t n s, 0 ≤ x ∧ x < 18446744073709551616 := by
  intro x hx
  simp only [freshL, List.mem_map, List.mem_range] at hx
  obtain ⟨p, _, rfl⟩ := hx
  unfold fv
  split
  · omega
  split
  · omega
  split
  · split <;> omega
  split <;> omega
theorem take_over (n s h t x : Int) (ws : List Int) (ns : List Note) (l : Nat) (hl : l = 2 ∨ l = 3) : TkStep (mkT n s h t x l) ws ns (if l = 2 then 1 else 3) (mkT n s h t x l) ws ns := by
  rcases hl with rfl | rfl
  · exact TkStep.over (S := mkT n s h t x 2) (by show (1 : Int) ≠ 0; decide)
  · exact TkStep.over (S := mkT n s h t x 3) (by show (3 : Int) ≠ 0; decide)
theorem over2 (n s h t x : Int) (ws : List Int) (ns : List Note) : TkStep (mkT n s h t x 2) ws ns 1 (mkT n s h t x 2) ws ns := take_over n s h t x ws ns 2 (.inl rfl)
theorem over3 (n s h t x : Int) (ws : List Int) (ns : List Note) : TkStep (mkT n s h t x 3) ws ns 3 (mkT n s h t x 3) ws ns := take_over n s h t x ws ns 3 (.inr rfl)
set_option maxHeartbeats 16000000 in
set_option maxRecDepth 100000 in
theorem first_many (nodes t : Int) (B : Option Addr) (m d : Nat)  (w : World) (n s h N : Nat) (hC : hatstandlaw7_config.f nodes 0 0 t = some ((n : Int), (s : Int), (h : Int), t)) (hk : okC n s h = true) (t0 : 0 ≤ t) (t1 : t < 4294967296) (hN : N = 2 + 2 * n + s + h) (hl : 20 < m) :
    Calls Try.prog 3 #[.int .i64 nodes, .int .u32 t, .slice B m d] w fun e w' => e = .returned (.bool true) ∧ Below w.heap.size w w' := by
  have HC := Lib.hid hC
  have d1 : decide ((20 : Int) < m) = true := decide_eq_true (by omega)
  obtain ⟨ws0, hws⟩ : ∃ ws0, freshL n s h t n s = ws0 := ⟨_, rfl⟩
  obtain ⟨k1, k2, k3, k4, k5, k6⟩ := okC_bounds hk
  have hlN : ws0.length = N := by rw [← hws, freshL_length, hN]
  have HV := Lib.hid (show ∀ x ∈ ws0, 0 ≤ x ∧ x < 18446744073709551616 from hws ▸ fresh_rng t0 t1 (by omega))
  have FWH := Lib.hid (show FW ws0 n s h t (fv n t n s 2) from hws ▸ fw_fresh n s h t hk t0 t1)
  have FR := Lib.hid (fun w => (hws ▸ fresh_call n s h N t w hk t0 t1 hN : Calls Try.prog 11 #[.agg #[.int .i64 n, .int .i64 s, .int .i64 h, .int .u32 t]] w (FreshPost w N ws0)))
  generalize fv n t n s 2 = x at FWH
  have hN1024 : N ≤ 1024 := by omega
  have hN3 : (1 : Int) < (N : Int) := by omega
  clear hk hws hN k1 k2 k3 k4 k5 k6
  clear hC
  go_enter Try.func3, Try.ntmps3
  go_wp2_with (first | ((have _h := HB2); go_at_call 11; refine (FR.out _).mono ?_; rintro e w3 ⟨A, c, rfl, hr, hc, hb⟩; (have HR := Lib.hid hr); (have hx : w3.heap[w2.heap.size]? = some (.cells #[.int .i64 n, .int .i64 s, .int .i64 h, .int .u32 t] 26 (0, 0)) := (hb.block _ (by simp)).trans (heap_new rfl)); (have HX := Lib.hid hx); (have HB3 := Lib.hid ((HB1.out.trans (HB2.out.mono HB1.out.size)).trans (((bl_alloc (bl_refl w2) _).trans (hb.mono (by simp))).mono (Nat.le_trans HB1.out.size HB2.out.size)))); clear hr hc hb _h; obtain ⟨c0, c1, c2, c3⟩ := cells4 hx; clear hx) | (go_at_call 10; refine (hatstandlaw7_config.calls nodes 0 0 t n s h t _ HC.out).mono ?_; rintro e w2 ⟨rfl, hb⟩; (have HB2 := Lib.hid hb); clear hb) | (go_at_call 9; refine (shown7 _).mono ?_; rintro e w1 ⟨rfl, hb⟩; (have HB1 := Lib.hid hb); clear hb))
  go_ret
  exact ⟨rfl, HB3.out⟩
set_option maxHeartbeats 16000000 in
set_option maxRecDepth 100000 in
theorem first_body (nodes t : Int) (B : Option Addr) (m d : Nat) (F : Nat → Bool) (w : World) (n s h N : Nat) (hC : hatstandlaw7_config.f nodes 0 0 t = some ((n : Int), (s : Int), (h : Int), t)) (hk : okC n s h = true) (t0 : 0 ≤ t) (t1 : t < 4294967296) (hN : N = 2 + 2 * n + s + h) (hB : RdB w B m F) (hl : m ≤ 20) :
    Calls Try.prog 3 #[.int .i64 nodes, .int .u32 t, .slice B m d] w fun e w' => e = .returned (.bool true) ∧ Below w.heap.size w w' := by
  have HC := Lib.hid hC
  have d1 : decide ((20 : Int) < m) = false := decide_eq_false (by omega)
  have HBt := Lib.hid hB
  clear hB
  obtain ⟨ws0, hws⟩ : ∃ ws0, freshL n s h t n s = ws0 := ⟨_, rfl⟩
  obtain ⟨k1, k2, k3, k4, k5, k6⟩ := okC_bounds hk
  have hlN : ws0.length = N := by rw [← hws, freshL_length, hN]
  have HV := Lib.hid (show ∀ x ∈ ws0, 0 ≤ x ∧ x < 18446744073709551616 from hws ▸ fresh_rng t0 t1 (by omega))
  have FWH := Lib.hid (show FW ws0 n s h t (fv n t n s 2) from hws ▸ fw_fresh n s h t hk t0 t1)
  have FR := Lib.hid (fun w => (hws ▸ fresh_call n s h N t w hk t0 t1 hN : Calls Try.prog 11 #[.agg #[.int .i64 n, .int .i64 s, .int .i64 h, .int .u32 t]] w (FreshPost w N ws0)))
  generalize fv n t n s 2 = x at FWH
  have hN1024 : N ≤ 1024 := by omega
  have hN3 : (1 : Int) < (N : Int) := by omega
  clear hk hws hN k1 k2 k3 k4 k5 k6
  clear hC
  go_enter Try.func3, Try.ntmps3
  go_wp2_with (first | ((have _h := HT7); go_at_call 14; refine (tstepB HT7.out (by simp) (head_step FWH.out _) 0 rfl).mono ?_; rintro e w8 ⟨rfl, o8, hs⟩; (have HT8 := Lib.hid hs); clear hs _h HT7) | ((have _h := HT); go_at_call 14; refine (tstepA HT.out (by decide) (head_step FWH.out []) 0 rfl).mono ?_; rintro e w7 ⟨rfl, o7, hs⟩; (have HT7 := Lib.hid hs); clear hs _h HT) | ((have _h := HP); go_at_call 13; refine (take_new o2 3 n s h t 1 _).mono ?_; intro e w6 h; obtain ⟨p2, o3, rfl, hs⟩ := HP.out.take h; (have HT := Lib.hid hs); clear h hs _h HP c0 c1 c2 c3) | ((have _h := HS); go_at_call 13; refine (take_new o1 2 n s h t 1 _).mono ?_; intro e w5 h; obtain ⟨p1, o2, rfl, hs⟩ := HS.out.take h; (have HP := Lib.hid hs); (have hx := (hs.bel.block _ (lt_of_heap HX.out)).trans HX.out); clear h hs _h HS c0 c1 c2 c3; obtain ⟨c0, c1, c2, c3⟩ := cells4 hx; clear hx) | ((have _h := HB3); go_at_call 12; refine (new_len (fun _ => 0) 1 A c N ws0 _ HR.out hN1024 HV.out hlN).mono ?_; intro e w4 h; obtain ⟨q, o1, rfl, hs⟩ := solo_of (Below.refl _ _) h; (have HS := Lib.hid hs); (have hx := (hs.bel.block _ (lt_of_heap HX.out)).trans HX.out); clear h hs _h c0 c1 c2 c3; obtain ⟨c0, c1, c2, c3⟩ := cells4 hx; clear hx) | ((have _h := HB2); go_at_call 11; refine (FR.out _).mono ?_; rintro e w3 ⟨A, c, rfl, hr, hc, hb⟩; (have HR := Lib.hid hr); (have hx : w3.heap[w2.heap.size]? = some (.cells #[.int .i64 n, .int .i64 s, .int .i64 h, .int .u32 t] 26 (0, 0)) := (hb.block _ (by simp)).trans (heap_new rfl)); (have HX := Lib.hid hx); (have HB3 := Lib.hid ((HB1.out.trans (HB2.out.mono HB1.out.size)).trans (((bl_alloc (bl_refl w2) _).trans (hb.mono (by simp))).mono (Nat.le_trans HB1.out.size HB2.out.size)))); clear hr hc hb _h; obtain ⟨c0, c1, c2, c3⟩ := cells4 hx; clear hx) | (go_at_call 10; refine (hatstandlaw7_config.calls nodes 0 0 t n s h t _ HC.out).mono ?_; rintro e w2 ⟨rfl, hb⟩; (have HB2 := Lib.hid hb); clear hb) | (go_at_call 9; refine (shown7 _).mono ?_; rintro e w1 ⟨rfl, hb⟩; (have HB1 := Lib.hid hb); clear hb))
  have hB3 := Lib.hid (HBt.out.kept HB3.out)
  have HRel := Lib.hid (show FirstRel w3 q p1 p2 ws0 n s h t x 0 0 2 w8 from ⟨o8, 0, 0, ws0, _, HT8.out, .inl ⟨by omega, by omega, rfl⟩, by simp, Nat.le_refl _, Nat.le_refl _⟩)
  go_loopg [15] (m + 1) (fun kq y w' => ∃ i : Nat, y = .int .i64 i ∧ i ≤ m ∧ i + kq = m + 1 ∧ FirstRel w3 q p1 p2 ws0 n s h t x 0 0 (i + 2) w')
  case atStart => exact ⟨0, rfl, Nat.zero_le _, by omega, HRel.out⟩
  case round =>
    obtain ⟨i, rfl, hi, hkq, o, lA, lB, ws, ns, hT, hb, hc, _, _⟩ := hrel
    have HE := Lib.hid hT
    have HBo := Lib.hid hb
    have hnl : ns.length ≤ 1000000000000 := by omega
    clear hT hb HRel HT8
    cases gk with
    | zero => omega
    | succ k1 =>
      by_cases c4 : i < m
      · have c4b0 : decide ((i : Int) < m) = true := decide_eq_true (by omega)
        obtain ⟨bd, rfl, f0⟩ := hB3.out.kept HE.out.bel i c4
        cases hF : F i with
        | true =>
          rw [hF] at f0
          obtain ⟨r, lA', ws', ns', hw⟩ := first_step FWH.out ns HBo.out
          have HW := Lib.hid hw
          clear hw
          go_wp2_with (go_at_call 14; refine (tstepA HE.out hnl HW.out.step _ rfl).mono ?_; rintro e w9 ⟨rfl, o9, hs⟩; (have HE9 := Lib.hid hs); clear hs)
          go_roundg k1
          case measure => omega
          case rel => exact ⟨i + 1, rfl, by omega, by omega, o9, lA', lB, ws', ns', HE9.out, HW.out.both, by have := HW.out.notes; omega, Nat.zero_le _, Nat.zero_le _⟩
        | false =>
          rw [hF] at f0
          obtain ⟨r, lB', ws', ns', hw⟩ := first_step FWH.out ns HBo.out.symm
          have HW := Lib.hid hw
          clear hw
          go_wp2_with (go_at_call 14; refine (tstepB HE.out hnl HW.out.step _ rfl).mono ?_; rintro e w9 ⟨rfl, o9, hs⟩; (have HE9 := Lib.hid hs); clear hs)
          go_roundg k1
          case measure => omega
          case rel => exact ⟨i + 1, rfl, by omega, by omega, o9, lA, lB', ws', ns', HE9.out, HW.out.both.symm, by have := HW.out.notes; omega, Nat.zero_le _, Nat.zero_le _⟩
      · have c4b0 : decide ((i : Int) < m) = false := decide_eq_false (by omega)
        obtain rfl : i = m := by omega
        go_wp2
        go_loopg [16] 3 (fun kq y w' => ∃ j : Nat, y = .int .i64 j ∧ j ≤ 2 ∧ j + kq = 3 ∧ FirstRel w3 q p1 p2 ws0 n s h t x j j (22 + 2 * j) w')
        case atStart => exact ⟨0, rfl, by omega, by omega, o, lA, lB, ws, ns, HE.out, HBo.out, by omega, Nat.zero_le _, Nat.zero_le _⟩
        case round =>
          obtain ⟨j, rfl, hj, hkj, o', lA, lB, ws, ns, hT, hb, hc, ha, hb2⟩ := hrel
          have HE' := Lib.hid hT
          have HB' := Lib.hid hb
          have hnl : ns.length ≤ 1000000000000 := by omega
          clear hT hb
          cases gk with
          | zero => omega
          | succ k2 =>
            by_cases c5 : j < 2
            · have c5b : decide ((j : Int) < 2) = true := decide_eq_true (by omega)
              obtain ⟨r, lA', ws', ns', hw⟩ := first_step FWH.out ns HB'.out
              obtain ⟨r', lB', ws2, ns2, hw2⟩ := first_step FWH.out ns' hw.both.symm
              have hnl2 : ns'.length ≤ 1000000000000 := by have := hw.notes; omega
              have HW := Lib.hid hw
              have HW2 := Lib.hid hw2
              clear hw hw2
              go_wp2_with (first | ((have _h := HE9); go_at_call 14; refine (tstepB HE9.out hnl2 HW2.out.step _ rfl).mono ?_; rintro e w10 ⟨rfl, o10, hs⟩; (have HE10 := Lib.hid hs); clear hs _h) | (go_at_call 14; refine (tstepA HE'.out hnl HW.out.step _ rfl).mono ?_; rintro e w9 ⟨rfl, o9, hs⟩; (have HE9 := Lib.hid hs); clear hs))
              go_roundg k2
              case measure => omega
              case rel => exact ⟨j + 1, rfl, by omega, by omega, o10, lA', lB', ws2, ns2, HE10.out, HW2.out.both.symm, by have := HW.out.notes; have := HW2.out.notes; omega, by have := HW.out.up0; have := HW.out.up; omega, by have := HW2.out.up0; have := HW2.out.up; omega⟩
            · have c5b : decide ((j : Int) < 2) = false := decide_eq_false (by omega)
              obtain rfl : j = 2 := by omega
              have hW1 := nextW_rng (x := W0 t) (f := x % 4294967296) (by omega) (by omega)
              have hy : W1 t x / 4294967296 = (t + 1) % 4294967296 := by unfold W1 W0 nextW; omega
              have hl3 := FWH.out.len
              have e1 : ∀ v : Int, rdW (ws0.set 1 v) 1 = v := fun v => set_same (by omega)
              rcases HB'.out with ⟨g1, g2, g3⟩ | ⟨rfl, g2, g3, rfl⟩ | ⟨rfl, g2, g3, rfl⟩
              · omega
              · obtain rfl : lB = 3 := by omega
                go_wp2_with (first | ((have _h := HE13); go_at_call 15; refine (tag_is (W1 t x) _ _ hW1.1 hW1.2 hy).mono ?_; rintro e w14 ⟨rfl, hb⟩; (have HE14 := Lib.hid (HE13.out.below hb)); clear hb _h) | ((have _h := HE12); go_at_call 16; refine (words_rd o12 1 q N _ ns _ HE12.out.mem (by rw [set_len]; exact hlN)).mono ?_; rintro e w13 ⟨a13, c13, rfl, hr, hc, hb⟩; obtain ⟨ad, rfl, hcell⟩ := hr.cellA (k := 1) (by rw [set_len]; omega); rw [e1] at hcell; (have hcell2 : w13.cell? ⟨ad.block, ad.off + 1, none⟩ = some (.int .u64 (W1 t x)) := hcell); (have HE13 := Lib.hid (HE12.out.below hb)); clear hr hc hb _h) | ((have _h := HE11); go_at_call 14; refine (tstepB HE11.out hnl (over3 n s h t x _ ns) 0 rfl).mono ?_; rintro e w12 ⟨rfl, o12, hs⟩; (have HE12 := Lib.hid hs); clear hs _h) | ((have _h := HE'); go_at_call 14; refine (tstepA HE'.out hnl (over2 n s h t x _ ns) 1 rfl).mono ?_; rintro e w11 ⟨rfl, o11, hs⟩; (have HE11 := Lib.hid hs); clear hs _h))
                go_ret
                exact ⟨rfl, HB3.out.trans (HE14.out.bel.mono HB3.out.size)⟩
              · obtain rfl : lA = 3 := by omega
                go_wp2_with (first | ((have _h := HE13); go_at_call 15; refine (tag_is (W1 t x) _ _ hW1.1 hW1.2 hy).mono ?_; rintro e w14 ⟨rfl, hb⟩; (have HE14 := Lib.hid (HE13.out.below hb)); clear hb _h) | ((have _h := HE12); go_at_call 16; refine (words_rd o12 1 q N _ ns _ HE12.out.mem (by rw [set_len]; exact hlN)).mono ?_; rintro e w13 ⟨a13, c13, rfl, hr, hc, hb⟩; obtain ⟨ad, rfl, hcell⟩ := hr.cellA (k := 1) (by rw [set_len]; omega); rw [e1] at hcell; (have hcell2 : w13.cell? ⟨ad.block, ad.off + 1, none⟩ = some (.int .u64 (W1 t x)) := hcell); (have HE13 := Lib.hid (HE12.out.below hb)); clear hr hc hb _h) | ((have _h := HE11); go_at_call 14; refine (tstepB HE11.out hnl (over2 n s h t x _ ns) 1 rfl).mono ?_; rintro e w12 ⟨rfl, o12, hs⟩; (have HE12 := Lib.hid hs); clear hs _h) | ((have _h := HE'); go_at_call 14; refine (tstepA HE'.out hnl (over3 n s h t x _ ns) 0 rfl).mono ?_; rintro e w11 ⟨rfl, o11, hs⟩; (have HE11 := Lib.hid hs); clear hs _h))
                go_ret
                exact ⟨rfl, HB3.out.trans (HE14.out.bel.mono HB3.out.size)⟩
theorem taglistFirst_walk (nodes t : Int) (B : Option Addr) (m d : Nat) (F : Nat → Bool) (w : World) (h0 : (Lit.int .i64 nodes).wf = true) (h1 : (Lit.int .u32 t).wf = true) (hB : RdB w B m F) :
    Calls Try.prog 3 #[.int .i64 nodes, .int .u32 t, .slice B m d] w fun e w' => e = .returned (.bool true) ∧ Below w.heap.size w w' := by
  obtain ⟨n, s, h, hC, _, _, _, _, hk, _⟩ := config_eq (a := nodes) (b := 0) (c := 0) (t := t) h0 (by decide) (by decide)
  obtain ⟨t0, t1⟩ := wfu32 h1
  rcases Nat.lt_or_ge 20 m with h2 | h2
  · exact first_many nodes t B m d w n s h _ hC hk t0 (by omega) rfl h2
  · exact first_body nodes t B m d F w n s h _ hC hk t0 (by omega) rfl hB h2
section
variable {H : Type} {enc : TypeId × Value → H} {w : World} {base : Nat} {held : Bool}
theorem open_bls {fuel len cap : Nat} {A : Option Addr} {x : DataW H × List MemPlace} (h : DataW.trod enc Try.prog w base (fun _ => true) held fuel 23 [.slice A len cap] = some x) : ∃ F, RdB w A len F := by
  rcases Deep.open_bools Try.underlying23 Try.underlying4 (by kernel_rfl) h with ⟨hcs, _⟩ | ⟨ad, len', cap', F, hcs, _, hl, _, _, hc⟩
  · simp at hcs
    obtain ⟨rfl, rfl, rfl⟩ := hcs
    exact ⟨fun _ => false, fun j hj => by omega⟩
  · simp at hcs
    obtain ⟨rfl, rfl, rfl⟩ := hcs
    exact ⟨F, fun j hj => ⟨ad, rfl, hc j (by omega)⟩⟩
end
end Go.Proofs.Ytdhkppijeocaoaa
