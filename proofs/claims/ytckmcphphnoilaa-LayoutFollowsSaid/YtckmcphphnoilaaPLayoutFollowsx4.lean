/- The Go functions that the law LayoutFollows goes through, as Lean functions, each with its contract: written by a program of this session. -/
import Derived.Test.YtckmcphphnoilaaPLayoutFollowsx0
import Derived.Test.YtckmcphphnoilaaPLayoutFollowsx1
import Derived.Test.YtckmcphphnoilaaPLayoutFollowsx2
import Derived.Test.YtckmcphphnoilaaPLayoutFollowsx3
namespace Go.Proofs.Ytckmcphphnoilaa.PLayoutFollows
open Go.RowKit Go.Proofs.YtckmcphphnoilaaW.PrintWords Go.Proofs.YtckmcphphnoilaaW.PrintLast Go.Proofs.YtckmcphphnoilaaW.PrintMore
attribute [local go_sem] max2_int min2_int max_two min_two max_three min_three max_four min_four   -- for this text's walks alone
set_option linter.unusedVariables false
set_option linter.unusedSimpArgs false

/-! ### hatstandlaw6_LayoutFollows: function 9 -/
mutual
def hatstandlaw6_LayoutFollows.j0 : Nat → List Int → Int → Bool → List Int → Int → Bool → Int → Int → Int → Int → Option (Bool)
  | 0, _, _, _, _, _, _, _, _, _, _ => none
  | k + 1, x1, x2, x7, x9, x10, x43, x152000, x152001, x152002, x152003 => if x43 = true then (if x7 = true then (some (x10 == 0)) else (some false)) else (hatstandlaw6_LayoutFollows.l0 k x1 x2 x9 0 x152000 x152001 x152002 x152003)
def hatstandlaw6_LayoutFollows.l0 : Nat → List Int → Int → List Int → Int → Int → Int → Int → Int → Option (Bool)
  | 0, _, _, _, _, _, _, _, _ => none
  | k + 1, x1, x2, x9, x11, x152000, x152001, x152002, x152003 => if x11 < (x1.length : Int) then (hatstandlaw6_LayoutFollows.j2 k x1 x2 x9 x11 (decide (x11 < x152000)) x152000 x152001 x152002 x152003) else (hatstandlaw6_LayoutFollows.j2 k x1 x2 x9 x11 false x152000 x152001 x152002 x152003)
def hatstandlaw6_LayoutFollows.j2 : Nat → List Int → Int → List Int → Int → Bool → Int → Int → Int → Int → Option (Bool)
  | 0, _, _, _, _, _, _, _, _, _ => none
  | k + 1, x1, x2, x9, x11, x58, x152000, x152001, x152002, x152003 => if x58 = true then ((layout_Config_Next.f x152000 x152001 x152002 x152003 ((wrap64 (x11 + 1)) % 4294967296)).bind fun t157 => (if 0 ≤ x11 then (if x11 < (x1.length : Int) then ((hatstandlaw6_pick.f (rd x1 x11) (wrap64 (x152000 + 1))).bind fun t159 => (if 0 ≤ t157 then (if t157 < (x9.length : Int) then (hatstandlaw6_LayoutFollows.l0 k x1 x2 (x9.set (t157 : Int).toNat (IntKind.u64.wrap (t159))) (wrap64 (x11 + 1)) x152000 x152001 x152002 x152003) else (none)) else (none))) else (none)) else (none))) else ((hatstandlaw6_pick.f x2 x152000).bind fun t161 => ((layout_Config_Next.f x152000 x152001 x152002 x152003 ((wrap64 (1 + t161)) % 4294967296)).bind fun t162 => (if 0 ≤ t162 then (if t162 < (x9.length : Int) then ((layout_Chain.f k x152000 x152001 x152002 x152003 x9 ((wrap64 (1 + t161)) % 4294967296)).bind fun bt164 => ((layout_Chain.f k x152000 x152001 x152002 x152003 x9 (rd x9 t162)).bind fun bt168 => (if bt164.2 = true then (if bt168.2 = true then (if (bt164.1.length : Int) = (wrap64 ((bt168.1.length : Int) + 1)) then (if 0 < (bt164.1.length : Int) then (if (rd bt164.1 0) = ((wrap64 (1 + t161)) % 4294967296) then (if 1 ≤ (bt164.1.length : Int) then ((hatstandref6_Same.f k (bt164.1.drop 1) bt168.1).bind fun t177 => (some t177)) else (none)) else (some false)) else (none)) else (some false)) else (some false)) else (if bt168.2 = true then (some false) else (some ((bt164.1.length : Int) == 0)))))) else (none)) else (none))))
end
def hatstandlaw6_LayoutFollows.f (k : Nat) (a0 : Int) (l1 : List Int) (a2 : Int) : Option (Bool) := (hatstandlaw6_shown.f).bind fun t146 => ((hatstandlaw6_config.f a0 0 0 3).bind fun bt147 => ((layout_Fresh.f k bt147.1 bt147.2.1 bt147.2.2.1 bt147.2.2.2).bind fun bt152 => (if t146 = true then (if bt152.2 = 0 then ((layout_Config_Cells.f bt147.1 bt147.2.1 bt147.2.2.1 bt147.2.2.2).bind fun t156 => (if (bt152.1.length : Int) = t156 then (hatstandlaw6_LayoutFollows.j0 k l1 a2 t146 bt152.1 bt152.2 (decide ((l1.length : Int) > 100)) bt147.1 bt147.2.1 bt147.2.2.1 bt147.2.2.2) else (hatstandlaw6_LayoutFollows.j0 k l1 a2 t146 bt152.1 bt152.2 true bt147.1 bt147.2.1 bt147.2.2.1 bt147.2.2.2))) else (hatstandlaw6_LayoutFollows.j0 k l1 a2 t146 bt152.1 bt152.2 true bt147.1 bt147.2.1 bt147.2.2.1 bt147.2.2.2)) else (hatstandlaw6_LayoutFollows.j0 k l1 a2 t146 bt152.1 bt152.2 true bt147.1 bt147.2.1 bt147.2.2.1 bt147.2.2.2))))
theorem hatstandlaw6_LayoutFollows.mono_l : ∀ k, (∀ y0 y1 y2 y3 y4 y5 y6 y7 y8 y9, LeO (hatstandlaw6_LayoutFollows.j0 k y0 y1 y2 y3 y4 y5 y6 y7 y8 y9) (hatstandlaw6_LayoutFollows.j0 (k + 1) y0 y1 y2 y3 y4 y5 y6 y7 y8 y9)) ∧ (∀ y0 y1 y2 y3 y4 y5 y6 y7, LeO (hatstandlaw6_LayoutFollows.l0 k y0 y1 y2 y3 y4 y5 y6 y7) (hatstandlaw6_LayoutFollows.l0 (k + 1) y0 y1 y2 y3 y4 y5 y6 y7)) ∧ (∀ y0 y1 y2 y3 y4 y5 y6 y7 y8, LeO (hatstandlaw6_LayoutFollows.j2 k y0 y1 y2 y3 y4 y5 y6 y7 y8) (hatstandlaw6_LayoutFollows.j2 (k + 1) y0 y1 y2 y3 y4 y5 y6 y7 y8))
  | 0 => ⟨fun _ _ _ _ _ _ _ _ _ _ r h => by simp [hatstandlaw6_LayoutFollows.j0] at h, fun _ _ _ _ _ _ _ _ r h => by simp [hatstandlaw6_LayoutFollows.l0] at h, fun _ _ _ _ _ _ _ _ _ r h => by simp [hatstandlaw6_LayoutFollows.j2] at h⟩
  | k + 1 => by
    obtain ⟨ih0, ih1, ih2⟩ := hatstandlaw6_LayoutFollows.mono_l k
    refine ⟨?_, ?_, ?_⟩
    · intro y0 y1 y2 y3 y4 y5 y6 y7 y8 y9
      unfold hatstandlaw6_LayoutFollows.j0
      repeat' first
      | (with_reducible exact ih0 _ _ _ _ _ _ _ _ _ _)
      | (with_reducible exact ih1 _ _ _ _ _ _ _ _)
      | (with_reducible exact ih2 _ _ _ _ _ _ _ _ _)
      | (with_reducible exact hatstandref6_Same.mono _ _ _)
      | (with_reducible exact layout_Chain.mono _ _ _ _ _ _ _)
      | (with_reducible exact layout_Fresh.mono _ _ _ _ _)
      | (with_reducible exact LeO.refl _)
      | (with_reducible exact LeO.none _)
      | (with_reducible refine LeO.ite ?_ ?_)
      | (with_reducible refine LeO.bind ?_ (fun _ => ?_))
      | exact ih0 _ _ _ _ _ _ _ _ _ _
      | exact ih1 _ _ _ _ _ _ _ _
      | exact ih2 _ _ _ _ _ _ _ _ _
      | exact hatstandref6_Same.mono _ _ _
      | exact layout_Chain.mono _ _ _ _ _ _ _
      | exact layout_Fresh.mono _ _ _ _ _
      | exact LeO.none _
      | refine LeO.ite ?_ ?_
      | refine LeO.bind ?_ (fun _ => ?_)
    · intro y0 y1 y2 y3 y4 y5 y6 y7
      unfold hatstandlaw6_LayoutFollows.l0
      repeat' first
      | (with_reducible exact ih0 _ _ _ _ _ _ _ _ _ _)
      | (with_reducible exact ih1 _ _ _ _ _ _ _ _)
      | (with_reducible exact ih2 _ _ _ _ _ _ _ _ _)
      | (with_reducible exact hatstandref6_Same.mono _ _ _)
      | (with_reducible exact layout_Chain.mono _ _ _ _ _ _ _)
      | (with_reducible exact layout_Fresh.mono _ _ _ _ _)
      | (with_reducible exact LeO.refl _)
      | (with_reducible exact LeO.none _)
      | (with_reducible refine LeO.ite ?_ ?_)
      | (with_reducible refine LeO.bind ?_ (fun _ => ?_))
      | exact ih0 _ _ _ _ _ _ _ _ _ _
      | exact ih1 _ _ _ _ _ _ _ _
      | exact ih2 _ _ _ _ _ _ _ _ _
      | exact hatstandref6_Same.mono _ _ _
      | exact layout_Chain.mono _ _ _ _ _ _ _
      | exact layout_Fresh.mono _ _ _ _ _
      | exact LeO.none _
      | refine LeO.ite ?_ ?_
      | refine LeO.bind ?_ (fun _ => ?_)
    · intro y0 y1 y2 y3 y4 y5 y6 y7 y8
      unfold hatstandlaw6_LayoutFollows.j2
      repeat' first
      | (with_reducible exact ih0 _ _ _ _ _ _ _ _ _ _)
      | (with_reducible exact ih1 _ _ _ _ _ _ _ _)
      | (with_reducible exact ih2 _ _ _ _ _ _ _ _ _)
      | (with_reducible exact hatstandref6_Same.mono _ _ _)
      | (with_reducible exact layout_Chain.mono _ _ _ _ _ _ _)
      | (with_reducible exact layout_Fresh.mono _ _ _ _ _)
      | (with_reducible exact LeO.refl _)
      | (with_reducible exact LeO.none _)
      | (with_reducible refine LeO.ite ?_ ?_)
      | (with_reducible refine LeO.bind ?_ (fun _ => ?_))
      | exact ih0 _ _ _ _ _ _ _ _ _ _
      | exact ih1 _ _ _ _ _ _ _ _
      | exact ih2 _ _ _ _ _ _ _ _ _
      | exact hatstandref6_Same.mono _ _ _
      | exact layout_Chain.mono _ _ _ _ _ _ _
      | exact layout_Fresh.mono _ _ _ _ _
      | exact LeO.none _
      | refine LeO.ite ?_ ?_
      | refine LeO.bind ?_ (fun _ => ?_)
theorem hatstandlaw6_LayoutFollows.mono : ∀ a0 a1 a2 k, LeO (hatstandlaw6_LayoutFollows.f k a0 a1 a2) (hatstandlaw6_LayoutFollows.f (k + 1) a0 a1 a2) := by
  intro a0 a1 a2 k
  obtain ⟨ih0, ih1, ih2⟩ := hatstandlaw6_LayoutFollows.mono_l k
  unfold hatstandlaw6_LayoutFollows.f
  repeat' first
      | (with_reducible exact ih0 _ _ _ _ _ _ _ _ _ _)
      | (with_reducible exact ih1 _ _ _ _ _ _ _ _)
      | (with_reducible exact ih2 _ _ _ _ _ _ _ _ _)
      | (with_reducible exact hatstandref6_Same.mono _ _ _)
      | (with_reducible exact layout_Chain.mono _ _ _ _ _ _ _)
      | (with_reducible exact layout_Fresh.mono _ _ _ _ _)
      | (with_reducible exact LeO.refl _)
      | (with_reducible exact LeO.none _)
      | (with_reducible refine LeO.ite ?_ ?_)
      | (with_reducible refine LeO.bind ?_ (fun _ => ?_))
      | exact ih0 _ _ _ _ _ _ _ _ _ _
      | exact ih1 _ _ _ _ _ _ _ _
      | exact ih2 _ _ _ _ _ _ _ _ _
      | exact hatstandref6_Same.mono _ _ _
      | exact layout_Chain.mono _ _ _ _ _ _ _
      | exact layout_Fresh.mono _ _ _ _ _
      | exact LeO.none _
      | refine LeO.ite ?_ ?_
      | refine LeO.bind ?_ (fun _ => ?_)
def hatstandlaw6_LayoutFollows.T9 : Bool × List (List Nat × List Nat) := (true, [([], []), ([], []), ([], []), ([2], [2]), ([3], [3]), ([1, 4], [1, 4]), ([], []), ([], []), ([6, 7], [6, 7]), ([8], [8]), ([], []), ([10], [10]), ([11], [11]), ([9, 12, 5], [9, 12]), ([13], [13]), ([0, 5, 0, 1, 2, 3, 4, 5, 6, 7, 8, 9, 10, 11, 12, 13, 14], [0, 5]), ([15, 14, 13, 0, 1, 2, 3, 4, 5, 6, 7, 8, 9, 10, 11, 12, 13, 14], [14, 15])])
def hatstandlaw6_LayoutFollows.B9 : List Nat := [0, 0, 0, 4, 12, 30, 0, 0, 192, 448, 0, 1024, 3072, 8190, 16382, 32767, 65535]
theorem hatstandlaw6_LayoutFollows.tab9 : rtab .any (opsOf Try.f9 9) = hatstandlaw6_LayoutFollows.T9 := by kernel_rfl
theorem hatstandlaw6_LayoutFollows.bits9 : waitsOk hatstandlaw6_LayoutFollows.T9.2 hatstandlaw6_LayoutFollows.B9 = true := by kernel_rfl
set_option maxHeartbeats 8000000 in
set_option maxRecDepth 100000 in
theorem hatstandlaw6_LayoutFollows.calls (k : Nat) (a0 : Int) (A1 : Option Addr) (c1 : Nat) (l1 : List Int) (a2 : Int) (r : Bool) (w : World) (hr1 : Kd.C (Kd.int .i64) w A1 l1.length l1) (hc1 : l1.length ≤ c1) (h : hatstandlaw6_LayoutFollows.f k a0 l1 a2 = some r) :
    Calls Try.prog 9 #[.int .i64 a0, .slice A1 l1.length c1, .int .i64 a2] w fun e w' => e = .returned (.bool r) ∧ Below w.heap.size w w' := by
  have hu25 := Try.underlying25
  have HR1 := Aside0.mk hr1
  have HC1 := Aside0.mk hc1
  clear hr1 hc1
  have HB := Aside0.mk (Below.refl w.heap.size w)
  have H : ((hatstandlaw6_shown.f).bind fun t146 => ((hatstandlaw6_config.f a0 0 0 3).bind fun bt147 => ((layout_Fresh.f k bt147.1 bt147.2.1 bt147.2.2.1 bt147.2.2.2).bind fun bt152 => (if t146 = true then (if bt152.2 = 0 then ((layout_Config_Cells.f bt147.1 bt147.2.1 bt147.2.2.1 bt147.2.2.2).bind fun t156 => (if (bt152.1.length : Int) = t156 then (hatstandlaw6_LayoutFollows.j0 k l1 a2 t146 bt152.1 bt152.2 (decide ((l1.length : Int) > 100)) bt147.1 bt147.2.1 bt147.2.2.1 bt147.2.2.2) else (hatstandlaw6_LayoutFollows.j0 k l1 a2 t146 bt152.1 bt152.2 true bt147.1 bt147.2.1 bt147.2.2.1 bt147.2.2.2))) else (hatstandlaw6_LayoutFollows.j0 k l1 a2 t146 bt152.1 bt152.2 true bt147.1 bt147.2.1 bt147.2.2.1 bt147.2.2.2)) else (hatstandlaw6_LayoutFollows.j0 k l1 a2 t146 bt152.1 bt152.2 true bt147.1 bt147.2.1 bt147.2.2.1 bt147.2.2.2))))) = some r := h
  clear h
  replace H := Option.bind_eq_some_iff.mp H
  obtain ⟨t146, A40, H⟩ := H
  replace H : ((hatstandlaw6_config.f a0 0 0 3).bind fun bt147 => ((layout_Fresh.f k bt147.1 bt147.2.1 bt147.2.2.1 bt147.2.2.2).bind fun bt152 => (if t146 = true then (if bt152.2 = 0 then ((layout_Config_Cells.f bt147.1 bt147.2.1 bt147.2.2.1 bt147.2.2.2).bind fun t156 => (if (bt152.1.length : Int) = t156 then (hatstandlaw6_LayoutFollows.j0 k l1 a2 t146 bt152.1 bt152.2 (decide ((l1.length : Int) > 100)) bt147.1 bt147.2.1 bt147.2.2.1 bt147.2.2.2) else (hatstandlaw6_LayoutFollows.j0 k l1 a2 t146 bt152.1 bt152.2 true bt147.1 bt147.2.1 bt147.2.2.1 bt147.2.2.2))) else (hatstandlaw6_LayoutFollows.j0 k l1 a2 t146 bt152.1 bt152.2 true bt147.1 bt147.2.1 bt147.2.2.1 bt147.2.2.2)) else (hatstandlaw6_LayoutFollows.j0 k l1 a2 t146 bt152.1 bt152.2 true bt147.1 bt147.2.1 bt147.2.2.1 bt147.2.2.2)))) = some r := H
  have A4 := Aside0.mk A40
  clear A40
  replace H := Option.bind_eq_some_iff.mp H
  obtain ⟨⟨t147, t148, t149, t150⟩, A50, H⟩ := H
  replace H : ((layout_Fresh.f k t147 t148 t149 t150).bind fun bt152 => (if t146 = true then (if bt152.2 = 0 then ((layout_Config_Cells.f t147 t148 t149 t150).bind fun t156 => (if (bt152.1.length : Int) = t156 then (hatstandlaw6_LayoutFollows.j0 k l1 a2 t146 bt152.1 bt152.2 (decide ((l1.length : Int) > 100)) t147 t148 t149 t150) else (hatstandlaw6_LayoutFollows.j0 k l1 a2 t146 bt152.1 bt152.2 true t147 t148 t149 t150))) else (hatstandlaw6_LayoutFollows.j0 k l1 a2 t146 bt152.1 bt152.2 true t147 t148 t149 t150)) else (hatstandlaw6_LayoutFollows.j0 k l1 a2 t146 bt152.1 bt152.2 true t147 t148 t149 t150))) = some r := H
  have A5 := Aside0.mk A50
  clear A50
  replace H := Option.bind_eq_some_iff.mp H
  obtain ⟨⟨t152, t155⟩, A60, H⟩ := H
  replace H : (if t146 = true then (if t155 = 0 then ((layout_Config_Cells.f t147 t148 t149 t150).bind fun t156 => (if (t152.length : Int) = t156 then (hatstandlaw6_LayoutFollows.j0 k l1 a2 t146 t152 t155 (decide ((l1.length : Int) > 100)) t147 t148 t149 t150) else (hatstandlaw6_LayoutFollows.j0 k l1 a2 t146 t152 t155 true t147 t148 t149 t150))) else (hatstandlaw6_LayoutFollows.j0 k l1 a2 t146 t152 t155 true t147 t148 t149 t150)) else (hatstandlaw6_LayoutFollows.j0 k l1 a2 t146 t152 t155 true t147 t148 t149 t150)) = some r := H
  have A6 := Aside0.mk A60
  clear A60
  have HC7 := Aside0.mk H
  clear H
  go_enter Try.func9, Try.ntmps9
  go_upto_region 4 with (first | ((with_reducible refine gate_callee (f := 12) rfl ?_); refine goesL_ (some 18) rfl rfl Try.func12 (by kernel_rfl) rfl #[] rfl (by (try simp only [List.map_toArray, List.map_cons, List.map_nil]); first | done | rfl | (simp only [List.length_drop, List.length_take]; rfl)) ?_; (with_reducible refine (hatstandlaw6_shown.calls  t146 _ A4.out).mono ?_); rintro e w8 ⟨rfl, hb⟩; refine ⟨_, rfl, ?_⟩; have n0_ := Aside0.mk (below_step (by repeat (first | (with_reducible first | exact HB.out | apply below_alloc | apply pw_below_drewN | apply below_drew1) | exact HB.out)) hb); clear HB; have HB := n0_; clear n0_; (try clear hb); (try clear hb2); (try clear hk); (try clear hi)) | ((with_reducible refine gate_callee (f := 13) rfl ?_); refine goesL_ (some 20) rfl rfl Try.func13 (by kernel_rfl) rfl #[.int .i64 a0, .int .i64 0, .int .i64 0, .int .u32 3] rfl (by (try simp only [List.map_toArray, List.map_cons, List.map_nil]); first | done | rfl | (simp only [List.length_drop, List.length_take]; rfl)) ?_; (with_reducible refine (hatstandlaw6_config.calls a0 0 0 3 t147 t148 t149 t150 _ A5.out).mono ?_); rintro e w9 ⟨rfl, hb⟩; refine ⟨_, rfl, ?_⟩; have n0_ := Aside0.mk (below_step (by repeat (first | (with_reducible first | exact HB.out | apply below_alloc | apply pw_below_drewN | apply below_drew1) | exact HB.out)) hb); clear HB; have HB := n0_; clear n0_; (try clear hb); (try clear hb2); (try clear hk); (try clear hi)) | ((with_reducible refine gate_dst (N := 8) rfl ?_); (try (refine gate_guard (by rfl) ?_; dsimp only)); refine box_event ?hg (N := 8) ?hd (cs := #[.int .i64 0, .int .i64 0, .int .i64 0, .int .u32 0]) (t := 25) ?hr ?_; (case hd => rfl); (case hg => rfl); (case hr => first | (go_simp; done) | (go_simp; rfl)); intro gb151 hg w10 hbox hb; have n0_ := Aside0.mk (below_step (by repeat (first | (with_reducible first | exact HB.out | apply below_alloc | apply pw_below_drewN | apply below_drew1) | exact HB.out)) hb); have n1_ := Aside0.mk (hbox); have n2_ := Aside0.mk ((by rw [hg]; exact (below_size (by repeat (first | (with_reducible first | exact HB.out | apply below_alloc | apply pw_below_drewN | apply below_drew1) | exact HB.out))) : w.heap.size ≤ gb151)); have n3_ := Aside0.mk ((by rw [hg]; exact (below_size (by repeat (first | (with_reducible first | exact HB.out | apply below_alloc | apply pw_below_drewN | apply below_drew1) | exact HB.out))) : w.heap.size ≤ gb151)); clear HB; have HB := n0_; have BK151 := n1_; have GW151 := n2_; have GE151 := n3_; clear n0_ n1_ n2_ n3_; clear hb hbox hg; have hcz11_0 : w10.cell? ⟨gb151, 0, none⟩ = some (.int .i64 0) := (blk_cell BK151.out 0).trans rfl; have hcz11_1 : w10.cell? ⟨gb151, 1, none⟩ = some (.int .i64 0) := (blk_cell BK151.out 1).trans rfl; have hcz11_2 : w10.cell? ⟨gb151, 2, none⟩ = some (.int .i64 0) := (blk_cell BK151.out 2).trans rfl; have hcz11_3 : w10.cell? ⟨gb151, 3, none⟩ = some (.int .u32 0) := (blk_cell BK151.out 3).trans rfl; have hfz11_0 := blk_frozen BK151.out 0; have hfz11_1 := blk_frozen BK151.out 1; have hfz11_2 := blk_frozen BK151.out 2; have hfz11_3 := blk_frozen BK151.out 3) | ((with_reducible refine gate_callee (f := 31) rfl ?_); refine goesL_ (some 23) rfl rfl Try.func31 (by kernel_rfl) rfl #[.agg #[.int .i64 t147, .int .i64 t148, .int .i64 t149, .int .u32 t150]] rfl (by (try simp only [List.map_toArray, List.map_cons, List.map_nil]); first | done | rfl | (simp only [List.length_drop, List.length_take]; rfl)) ?_; (with_reducible refine (layout_Fresh.calls k t147 t148 t149 t150 t152 t155 _ A6.out).mono ?_); rintro e w12 ⟨v153, rfl, ho0, hb⟩; refine ⟨_, rfl, ?_⟩; have n0_ := Aside0.mk (Kd.R_lower ho0 (below_size (by repeat (first | (with_reducible first | exact HB.out | apply below_alloc | apply pw_below_drewN | apply below_drew1 | refine below_set ?_ GE151.out) | exact HB.out)))); have n1_ := Aside0.mk (blk_below (g := gb151) (o := .cells #[.int .i64 t147, .int .i64 t148, .int .i64 t149, .int .u32 t150] 25 (0, 0)) (by (with_reducible repeat (first | refine blk_drewN ?_ _ | refine blk_drew ?_ | refine blk_alloc ?_ _)); refine blk_put (cs := #[.int .i64 t147, .int .i64 t148, .int .i64 t149, .int .u32 0]) ?_ 3 _ rfl; (with_reducible repeat (first | refine blk_drewN ?_ _ | refine blk_drew ?_ | refine blk_alloc ?_ _)); refine blk_put (cs := #[.int .i64 t147, .int .i64 t148, .int .i64 0, .int .u32 0]) ?_ 2 _ rfl; (with_reducible repeat (first | refine blk_drewN ?_ _ | refine blk_drew ?_ | refine blk_alloc ?_ _)); refine blk_put (cs := #[.int .i64 t147, .int .i64 0, .int .i64 0, .int .u32 0]) ?_ 1 _ rfl; (with_reducible repeat (first | refine blk_drewN ?_ _ | refine blk_drew ?_ | refine blk_alloc ?_ _)); refine blk_put (cs := #[.int .i64 0, .int .i64 0, .int .i64 0, .int .u32 0]) ?_ 0 _ rfl; (with_reducible repeat (first | refine blk_drewN ?_ _ | refine blk_drew ?_ | refine blk_alloc ?_ _)); exact BK151.out) hb); have n2_ := Aside0.mk (below_step (by repeat (first | (with_reducible first | exact HB.out | apply below_alloc | apply pw_below_drewN | apply below_drew1 | refine below_set ?_ GE151.out) | exact HB.out)) hb); clear BK151; clear HB; have HO154 := n0_; have BK151 := n1_; have HB := n2_; clear n0_ n1_ n2_; (try clear hb); (try clear hb2); (try clear hk); (try clear hi); (try clear ho0)))
  (try simp only [Act.put, List.setIfInBounds_toArray, List.set_cons_zero, List.set_cons_succ])
  go_cut [43] (fun v43 wc => ∃ (kq : Nat) (x43_6 : Bool), v43 = .bool x43_6 ∧ Aside0 (hatstandlaw6_LayoutFollows.j0 kq l1 a2 t146 t152 t155 x43_6 t147 t148 t149 t150 = some r) ∧ Aside0 (kq ≤ k) ∧ Aside0 (Kd.R (Kd.int .u64) 33 wc w.heap.size (fun _ => True) v153 t152) ∧ Aside0 (wc.heap[gb151]? = some (.cells #[.int .i64 t147, .int .i64 t148, .int .i64 t149, .int .u32 t150] 25 (0, 0))) ∧ Aside0 (Below w.heap.size w wc))
  case first =>
    have H := HC7.out
    clear HC7
    by_cases c13 : t146 = true
    · subst c13
      have H1 : (if t155 = 0 then ((layout_Config_Cells.f t147 t148 t149 t150).bind fun t156 => (if (t152.length : Int) = t156 then (hatstandlaw6_LayoutFollows.j0 k l1 a2 true t152 t155 (decide ((l1.length : Int) > 100)) t147 t148 t149 t150) else (hatstandlaw6_LayoutFollows.j0 k l1 a2 true t152 t155 true t147 t148 t149 t150))) else (hatstandlaw6_LayoutFollows.j0 k l1 a2 true t152 t155 true t147 t148 t149 t150)) = some r := by rw [if_pos rfl] at H; exact H
      clear H
      have H := H1
      clear H1
      by_cases c14 : t155 = 0
      · rw [if_pos c14] at H
        have c14b0 : (t155 == 0) = true := beq_iff_eq.mpr c14
        have c14b1 : (t155 != 0) = false := bne_eq_false_iff_eq.mpr c14
        clear c14
        (first | rw [c14b0] | (simp only [i64_w, i32_w]; rw [c14b0]) | skip)
        replace H := Option.bind_eq_some_iff.mp H
        obtain ⟨t156, A150, H⟩ := H
        replace H : (if (t152.length : Int) = t156 then (hatstandlaw6_LayoutFollows.j0 k l1 a2 true t152 t155 (decide ((l1.length : Int) > 100)) t147 t148 t149 t150) else (hatstandlaw6_LayoutFollows.j0 k l1 a2 true t152 t155 true t147 t148 t149 t150)) = some r := H
        have A15 := Aside0.mk A150
        clear A150
        by_cases c16 : (t152.length : Int) = t156
        · rw [if_pos c16] at H
          have c16b0 : ((t152.length : Int) == t156) = true := beq_iff_eq.mpr c16
          have c16b1 : ((t152.length : Int) != t156) = false := bne_eq_false_iff_eq.mpr c16
          clear c16
          have H' := Aside0.mk H
          clear H
          obtain ⟨Ao17, co17, eo17⟩ := Kd.R_slice HO154.out
          subst eo17
          have hcz18_0 : w12.cell? ⟨gb151, 0, none⟩ = some (.int .i64 t147) := (blk_cell BK151.out 0).trans rfl
          have hcz18_1 : w12.cell? ⟨gb151, 1, none⟩ = some (.int .i64 t148) := (blk_cell BK151.out 1).trans rfl
          have hcz18_2 : w12.cell? ⟨gb151, 2, none⟩ = some (.int .i64 t149) := (blk_cell BK151.out 2).trans rfl
          have hcz18_3 : w12.cell? ⟨gb151, 3, none⟩ = some (.int .u32 t150) := (blk_cell BK151.out 3).trans rfl
          have hfz18_0 := blk_frozen BK151.out 0
          have hfz18_1 := blk_frozen BK151.out 1
          have hfz18_2 := blk_frozen BK151.out 2
          have hfz18_3 := blk_frozen BK151.out 3
          go_wp2_with (first | (go_at_call 18; (with_reducible refine (layout_Config_Cells.calls t147 t148 t149 t150 t156 _ A15.out).mono ?_); rintro e w19 ⟨rfl, hb⟩; have n0_ := Aside0.mk (Kd.R_below (by (with_reducible repeat (first | apply Kd.R_alloc | apply Kd.R_drewN | apply Kd.R_drew)); exact HO154.out) hb); have n1_ := Aside0.mk (blk_below (g := gb151) (o := .cells #[.int .i64 t147, .int .i64 t148, .int .i64 t149, .int .u32 t150] 25 (0, 0)) (by (with_reducible repeat (first | refine blk_drewN ?_ _ | refine blk_drew ?_ | refine blk_alloc ?_ _)); exact BK151.out) hb); have n2_ := Aside0.mk (below_step (by repeat (first | (with_reducible first | exact HB.out | apply below_alloc | apply pw_below_drewN | apply below_drew1 | refine below_set ?_ GE151.out) | exact HB.out)) hb); clear HO154; clear BK151; clear HB; have HO154 := n0_; have BK151 := n1_; have HB := n2_; clear n0_ n1_ n2_; (try clear hb); (try clear hb2); (try clear hk); (try clear hi)))
          go_meet
          case rel => exact ⟨_, (decide ((l1.length : Int) > 100)), (by first | rfl | (simp; done) | (simp [*]; done)), H', ⟨by first | omega | exact Nat.le_refl _⟩, ⟨by (with_reducible repeat (first | apply Kd.R_alloc | apply Kd.R_drewN | apply Kd.R_drew)); exact HO154.out⟩, ⟨by (with_reducible repeat (first | refine blk_drewN ?_ _ | refine blk_drew ?_ | refine blk_alloc ?_ _)); exact BK151.out⟩, ⟨by repeat (first | (with_reducible first | exact HB.out | apply below_alloc | apply pw_below_drewN | apply below_drew1 | refine below_set ?_ GE151.out) | exact HB.out)⟩⟩
        · rw [if_neg c16] at H
          have c16b0 : ((t152.length : Int) == t156) = false := beq_eq_false_iff_ne.mpr c16
          have c16b1 : ((t152.length : Int) != t156) = true := bne_iff_ne.mpr c16
          have H' := Aside0.mk H
          clear H
          obtain ⟨Ao20, co20, eo20⟩ := Kd.R_slice HO154.out
          subst eo20
          have hcz21_0 : w12.cell? ⟨gb151, 0, none⟩ = some (.int .i64 t147) := (blk_cell BK151.out 0).trans rfl
          have hcz21_1 : w12.cell? ⟨gb151, 1, none⟩ = some (.int .i64 t148) := (blk_cell BK151.out 1).trans rfl
          have hcz21_2 : w12.cell? ⟨gb151, 2, none⟩ = some (.int .i64 t149) := (blk_cell BK151.out 2).trans rfl
          have hcz21_3 : w12.cell? ⟨gb151, 3, none⟩ = some (.int .u32 t150) := (blk_cell BK151.out 3).trans rfl
          have hfz21_0 := blk_frozen BK151.out 0
          have hfz21_1 := blk_frozen BK151.out 1
          have hfz21_2 := blk_frozen BK151.out 2
          have hfz21_3 := blk_frozen BK151.out 3
          go_wp2_with (first | (go_at_call 18; (with_reducible refine (layout_Config_Cells.calls t147 t148 t149 t150 t156 _ A15.out).mono ?_); rintro e w22 ⟨rfl, hb⟩; have n0_ := Aside0.mk (Kd.R_below (by (with_reducible repeat (first | apply Kd.R_alloc | apply Kd.R_drewN | apply Kd.R_drew)); exact HO154.out) hb); have n1_ := Aside0.mk (blk_below (g := gb151) (o := .cells #[.int .i64 t147, .int .i64 t148, .int .i64 t149, .int .u32 t150] 25 (0, 0)) (by (with_reducible repeat (first | refine blk_drewN ?_ _ | refine blk_drew ?_ | refine blk_alloc ?_ _)); exact BK151.out) hb); have n2_ := Aside0.mk (below_step (by repeat (first | (with_reducible first | exact HB.out | apply below_alloc | apply pw_below_drewN | apply below_drew1 | refine below_set ?_ GE151.out) | exact HB.out)) hb); clear HO154; clear BK151; clear HB; have HO154 := n0_; have BK151 := n1_; have HB := n2_; clear n0_ n1_ n2_; (try clear hb); (try clear hb2); (try clear hk); (try clear hi)))
          go_meet
          case rel => exact ⟨_, (true), (by first | rfl | (simp; done) | (simp [*]; done)), H', ⟨by first | omega | exact Nat.le_refl _⟩, ⟨by (with_reducible repeat (first | apply Kd.R_alloc | apply Kd.R_drewN | apply Kd.R_drew)); exact HO154.out⟩, ⟨by (with_reducible repeat (first | refine blk_drewN ?_ _ | refine blk_drew ?_ | refine blk_alloc ?_ _)); exact BK151.out⟩, ⟨by repeat (first | (with_reducible first | exact HB.out | apply below_alloc | apply pw_below_drewN | apply below_drew1 | refine below_set ?_ GE151.out) | exact HB.out)⟩⟩
      · rw [if_neg c14] at H
        have c14b0 : (t155 == 0) = false := beq_eq_false_iff_ne.mpr c14
        have c14b1 : (t155 != 0) = true := bne_iff_ne.mpr c14
        (first | rw [c14b0] | (simp only [i64_w, i32_w]; rw [c14b0]) | skip)
        have H' := Aside0.mk H
        clear H
        go_wp2
        go_meet
        case rel => exact ⟨_, (true), (by first | rfl | (simp; done) | (simp [*]; done)), H', ⟨by first | omega | exact Nat.le_refl _⟩, ⟨by (with_reducible repeat (first | apply Kd.R_alloc | apply Kd.R_drewN | apply Kd.R_drew)); exact HO154.out⟩, ⟨by (with_reducible repeat (first | refine blk_drewN ?_ _ | refine blk_drew ?_ | refine blk_alloc ?_ _)); exact BK151.out⟩, ⟨by repeat (first | (with_reducible first | exact HB.out | apply below_alloc | apply pw_below_drewN | apply below_drew1 | refine below_set ?_ GE151.out) | exact HB.out)⟩⟩
    · replace c13 := Bool.eq_false_iff.mpr c13
      subst c13
      have H1 : (hatstandlaw6_LayoutFollows.j0 k l1 a2 false t152 t155 true t147 t148 t149 t150) = some r := by rw [if_neg (show ¬ (false = true) by decide)] at H; exact H
      clear H
      have H := H1
      clear H1
      have H' := Aside0.mk H
      clear H
      go_wp2
      go_meet
      case rel => exact ⟨_, (true), (by first | rfl | (simp; done) | (simp [*]; done)), H', ⟨by first | omega | exact Nat.le_refl _⟩, ⟨by (with_reducible repeat (first | apply Kd.R_alloc | apply Kd.R_drewN | apply Kd.R_drew)); exact HO154.out⟩, ⟨by (with_reducible repeat (first | refine blk_drewN ?_ _ | refine blk_drew ?_ | refine blk_alloc ?_ _)); exact BK151.out⟩, ⟨by repeat (first | (with_reducible first | exact HB.out | apply below_alloc | apply pw_below_drewN | apply below_drew1 | refine below_set ?_ GE151.out) | exact HB.out)⟩⟩
  case rest =>
    clear HC7
    try clear c1
    try clear p2
    try clear c3
    try clear c9
    try clear c12
    try clear c13
    try clear c14
    try clear c14b0
    try clear c14b1
    try clear c16
    try clear c16b0
    try clear c16b1
    try clear hcz11_0
    try clear hcz11_1
    try clear hcz11_2
    try clear hcz11_3
    try clear hcz18_0
    try clear hcz18_1
    try clear hcz18_2
    try clear hcz18_3
    try clear hcz21_0
    try clear hcz21_1
    try clear hcz21_2
    try clear hcz21_3
    try clear hfz11_0
    try clear hfz11_1
    try clear hfz11_2
    try clear hfz11_3
    try clear hfz18_0
    try clear hfz18_1
    try clear hfz18_2
    try clear hfz18_3
    try clear hfz21_0
    try clear hfz21_1
    try clear hfz21_2
    try clear hfz21_3
    obtain ⟨kq, x43_6, rfl, HA, HJ6, HO_9, BK151, HB⟩ := hcut
    cases kq with
    | zero => exact absurd HA.out (by simp [hatstandlaw6_LayoutFollows.j0])
    | succ kj6 =>
      have H := HA.out
      clear HA
      simp only [hatstandlaw6_LayoutFollows.j0] at H
      by_cases c23 : x43_6 = true
      · subst c23
        have H1 : (if t146 = true then (some (t155 == 0)) else (some false)) = some r := by rw [if_pos rfl] at H; exact H
        clear H
        have H := H1
        clear H1
        by_cases c24 : t146 = true
        · subst c24
          have H1 : (some (t155 == 0)) = some r := by rw [if_pos rfl] at H; exact H
          clear H
          have H := H1
          clear H1
          obtain rfl := Option.some.inj H
          go_wp2
          go_ret
          exact ⟨by first | rfl | (simp [errW_none, errW_some] <;> rfl) | (simp [*, errW_none, errW_some] <;> rfl), by repeat (first | (with_reducible first | exact HB.out | apply below_alloc | apply pw_below_drewN | apply below_drew1 | refine below_set ?_ GE151.out) | exact HB.out)⟩
        · replace c24 := Bool.eq_false_iff.mpr c24
          subst c24
          have H1 : (some false) = some r := by rw [if_neg (show ¬ (false = true) by decide)] at H; exact H
          clear H
          have H := H1
          clear H1
          obtain rfl := Option.some.inj H
          go_wp2
          go_ret
          exact ⟨by first | rfl | (simp [errW_none, errW_some] <;> rfl) | (simp [*, errW_none, errW_some] <;> rfl), by repeat (first | (with_reducible first | exact HB.out | apply below_alloc | apply pw_below_drewN | apply below_drew1 | refine below_set ?_ GE151.out) | exact HB.out)⟩
      · replace c23 := Bool.eq_false_iff.mpr c23
        subst c23
        have H1 : (hatstandlaw6_LayoutFollows.l0 kj6 l1 a2 t152 0 t147 t148 t149 t150) = some r := by rw [if_neg (show ¬ (false = true) by decide)] at H; exact H
        clear H
        have H := H1
        clear H1
        have H' := Aside0.mk H
        clear H
        go_wp2
        go_loopg [11] kj6 (fun kq v11 w' => ∃ (x9_2 : List Int) (x11_2 : Int), v11 = .int .i64 x11_2 ∧ Aside0 (hatstandlaw6_LayoutFollows.l0 kq l1 a2 x9_2 x11_2 t147 t148 t149 t150 = some r) ∧ Aside0 (kq ≤ kj6) ∧ Aside0 (Kd.R (Kd.int .u64) 33 w' w.heap.size (fun _ => True) v153 x9_2) ∧ Aside0 (w'.heap[gb151]? = some (.cells #[.int .i64 t147, .int .i64 t148, .int .i64 t149, .int .u32 t150] 25 (0, 0))) ∧ Aside0 (Below w.heap.size w w'))
        case atStart => exact ⟨(t152), (0), (by first | rfl | (simp; done) | (simp [*]; done)), H', ⟨Nat.le_refl _⟩, ⟨by (with_reducible repeat (first | apply Kd.R_alloc | apply Kd.R_drewN | apply Kd.R_drew)); exact HO_9.out⟩, ⟨by (with_reducible repeat (first | refine blk_drewN ?_ _ | refine blk_drew ?_ | refine blk_alloc ?_ _)); exact BK151.out⟩, ⟨by repeat (first | (with_reducible first | exact HB.out | apply below_alloc | apply pw_below_drewN | apply below_drew1 | refine below_set ?_ GE151.out) | exact HB.out)⟩⟩
        case round =>
          clear H'
          try clear c1
          try clear c2
          try clear p2
          try clear c3
          try clear c9
          try clear c12
          try clear c13
          try clear c14
          try clear c14b0
          try clear c14b1
          try clear c16
          try clear c16b0
          try clear c16b1
          try clear c23
          try clear c24
          try clear hcz11_0
          try clear hcz11_1
          try clear hcz11_2
          try clear hcz11_3
          try clear hcz18_0
          try clear hcz18_1
          try clear hcz18_2
          try clear hcz18_3
          try clear hcz21_0
          try clear hcz21_1
          try clear hcz21_2
          try clear hcz21_3
          try clear hfz11_0
          try clear hfz11_1
          try clear hfz11_2
          try clear hfz11_3
          try clear hfz18_0
          try clear hfz18_1
          try clear hfz18_2
          try clear hfz18_3
          try clear hfz21_0
          try clear hfz21_1
          try clear hfz21_2
          try clear hfz21_3
          try clear p2
          obtain ⟨x9_2, x11_2, rfl, HA, HK2, HO_9, BK151, HB⟩ := hrel
          cases gk with
          | zero => exact absurd HA.out (by simp [hatstandlaw6_LayoutFollows.l0])
          | succ k2 =>
            have H := HA.out
            clear HA
            simp only [hatstandlaw6_LayoutFollows.l0] at H
            have HC25 := Aside0.mk H
            clear H
            go_upto_region 7 with (fail)
            go_cut [58] (fun v58 wc => ∃ (kq : Nat) (x58_24 : Bool), v58 = .bool x58_24 ∧ Aside0 (hatstandlaw6_LayoutFollows.j2 kq l1 a2 x9_2 x11_2 x58_24 t147 t148 t149 t150 = some r) ∧ Aside0 (kq ≤ k2) ∧ Aside0 (Kd.R (Kd.int .u64) 33 wc w.heap.size (fun _ => True) v153 x9_2) ∧ Aside0 (wc.heap[gb151]? = some (.cells #[.int .i64 t147, .int .i64 t148, .int .i64 t149, .int .u32 t150] 25 (0, 0))) ∧ Aside0 (Below w.heap.size w wc))
            case first =>
              have H := HC25.out
              clear HC25
              by_cases c26 : x11_2 < (l1.length : Int)
              · rw [if_pos c26] at H
                have c26b0 : decide (x11_2 < (l1.length : Int)) = true := decide_eq_true c26
                clear c26
                (first | rw [c26b0] | (simp only [i64_w, i32_w]; rw [c26b0]) | skip)
                have H' := Aside0.mk H
                clear H
                have hcz27_0 : wr.cell? ⟨gb151, 0, none⟩ = some (.int .i64 t147) := (blk_cell BK151.out 0).trans rfl
                have hcz27_1 : wr.cell? ⟨gb151, 1, none⟩ = some (.int .i64 t148) := (blk_cell BK151.out 1).trans rfl
                have hcz27_2 : wr.cell? ⟨gb151, 2, none⟩ = some (.int .i64 t149) := (blk_cell BK151.out 2).trans rfl
                have hcz27_3 : wr.cell? ⟨gb151, 3, none⟩ = some (.int .u32 t150) := (blk_cell BK151.out 3).trans rfl
                have hfz27_0 := blk_frozen BK151.out 0
                have hfz27_1 := blk_frozen BK151.out 1
                have hfz27_2 := blk_frozen BK151.out 2
                have hfz27_3 := blk_frozen BK151.out 3
                go_wp2
                go_meet
                case rel => exact ⟨_, (decide (x11_2 < t147)), (by first | rfl | (simp; done) | (simp [*]; done)), H', ⟨by have := HJ6.out; have := HK2.out; first | omega | exact Nat.le_refl _⟩, ⟨by (with_reducible repeat (first | apply Kd.R_alloc | apply Kd.R_drewN | apply Kd.R_drew)); exact HO_9.out⟩, ⟨by (with_reducible repeat (first | refine blk_drewN ?_ _ | refine blk_drew ?_ | refine blk_alloc ?_ _)); exact BK151.out⟩, ⟨by repeat (first | (with_reducible first | exact HB.out | apply below_alloc | apply pw_below_drewN | apply below_drew1 | refine below_set ?_ GE151.out) | exact HB.out)⟩⟩
              · rw [if_neg c26] at H
                have c26b0 : decide (x11_2 < (l1.length : Int)) = false := decide_eq_false c26
                clear c26
                (first | rw [c26b0] | (simp only [i64_w, i32_w]; rw [c26b0]) | skip)
                have H' := Aside0.mk H
                clear H
                go_wp2
                go_meet
                case rel => exact ⟨_, (false), (by first | rfl | (simp; done) | (simp [*]; done)), H', ⟨by have := HJ6.out; have := HK2.out; first | omega | exact Nat.le_refl _⟩, ⟨by (with_reducible repeat (first | apply Kd.R_alloc | apply Kd.R_drewN | apply Kd.R_drew)); exact HO_9.out⟩, ⟨by (with_reducible repeat (first | refine blk_drewN ?_ _ | refine blk_drew ?_ | refine blk_alloc ?_ _)); exact BK151.out⟩, ⟨by repeat (first | (with_reducible first | exact HB.out | apply below_alloc | apply pw_below_drewN | apply below_drew1 | refine below_set ?_ GE151.out) | exact HB.out)⟩⟩
            case rest =>
              clear HC25
              try clear c1
              try clear c2
              try clear p2
              try clear c3
              try clear c9
              try clear c12
              try clear c13
              try clear c14
              try clear c14b0
              try clear c14b1
              try clear c16
              try clear c16b0
              try clear c16b1
              try clear c23
              try clear c24
              try clear c26
              try clear c26b0
              try clear hcz11_0
              try clear hcz11_1
              try clear hcz11_2
              try clear hcz11_3
              try clear hcz18_0
              try clear hcz18_1
              try clear hcz18_2
              try clear hcz18_3
              try clear hcz21_0
              try clear hcz21_1
              try clear hcz21_2
              try clear hcz21_3
              try clear hcz27_0
              try clear hcz27_1
              try clear hcz27_2
              try clear hcz27_3
              try clear hfz11_0
              try clear hfz11_1
              try clear hfz11_2
              try clear hfz11_3
              try clear hfz18_0
              try clear hfz18_1
              try clear hfz18_2
              try clear hfz18_3
              try clear hfz21_0
              try clear hfz21_1
              try clear hfz21_2
              try clear hfz21_3
              try clear hfz27_0
              try clear hfz27_1
              try clear hfz27_2
              try clear hfz27_3
              try clear p2
              obtain ⟨kq, x58_24, rfl, HA, HJ24, HO_9, BK151, HB⟩ := hcut
              cases kq with
              | zero => exact absurd HA.out (by simp [hatstandlaw6_LayoutFollows.j2])
              | succ kj24 =>
                have H := HA.out
                clear HA
                simp only [hatstandlaw6_LayoutFollows.j2] at H
                by_cases c28 : x58_24 = true
                · subst c28
                  have H1 : ((layout_Config_Next.f t147 t148 t149 t150 ((wrap64 (x11_2 + 1)) % 4294967296)).bind fun t157 => (if 0 ≤ x11_2 then (if x11_2 < (l1.length : Int) then ((hatstandlaw6_pick.f (rd l1 x11_2) (wrap64 (t147 + 1))).bind fun t159 => (if 0 ≤ t157 then (if t157 < (x9_2.length : Int) then (hatstandlaw6_LayoutFollows.l0 kj24 l1 a2 (x9_2.set (t157 : Int).toNat (IntKind.u64.wrap (t159))) (wrap64 (x11_2 + 1)) t147 t148 t149 t150) else (none)) else (none))) else (none)) else (none))) = some r := by rw [if_pos rfl] at H; exact H
                  clear H
                  have H := H1
                  clear H1
                  replace H := Option.bind_eq_some_iff.mp H
                  obtain ⟨t157, A290, H⟩ := H
                  replace H : (if 0 ≤ x11_2 then (if x11_2 < (l1.length : Int) then ((hatstandlaw6_pick.f (rd l1 x11_2) (wrap64 (t147 + 1))).bind fun t159 => (if 0 ≤ t157 then (if t157 < (x9_2.length : Int) then (hatstandlaw6_LayoutFollows.l0 kj24 l1 a2 (x9_2.set (t157 : Int).toNat (IntKind.u64.wrap (t159))) (wrap64 (x11_2 + 1)) t147 t148 t149 t150) else (none)) else (none))) else (none)) else (none)) = some r := H
                  have A29 := Aside0.mk A290
                  clear A290
                  by_cases c30 : 0 ≤ x11_2
                  · rw [if_pos c30] at H
                    have c30b0 : decide (0 ≤ x11_2) = true := decide_eq_true c30
                    clear c30
                    by_cases c31 : x11_2 < (l1.length : Int)
                    · rw [if_pos c31] at H
                      have c31b0 : decide (x11_2 < (l1.length : Int)) = true := decide_eq_true c31
                      clear c31
                      replace H := Option.bind_eq_some_iff.mp H
                      obtain ⟨t159, A320, H⟩ := H
                      replace H : (if 0 ≤ t157 then (if t157 < (x9_2.length : Int) then (hatstandlaw6_LayoutFollows.l0 kj24 l1 a2 (x9_2.set (t157 : Int).toNat (IntKind.u64.wrap (t159))) (wrap64 (x11_2 + 1)) t147 t148 t149 t150) else (none)) else (none)) = some r := H
                      have A32 := Aside0.mk A320
                      clear A320
                      by_cases c33 : 0 ≤ t157
                      · rw [if_pos c33] at H
                        have c33b0 : decide (0 ≤ t157) = true := decide_eq_true c33
                        clear c33
                        by_cases c34 : t157 < (x9_2.length : Int)
                        · rw [if_pos c34] at H
                          have c34b0 : decide (t157 < (x9_2.length : Int)) = true := decide_eq_true c34
                          clear c34
                          obtain ⟨y160, hy160⟩ : ∃ y_ : List Int, y_ = (x9_2.set (t157 : Int).toNat (IntKind.u64.wrap (t159))) := ⟨_, rfl⟩
                          replace H : (hatstandlaw6_LayoutFollows.l0 kj24 l1 a2 y160 (wrap64 (x11_2 + 1)) t147 t148 t149 t150) = some r := by first | (rw [hy160]; with_reducible exact H) | (have H2_ := (Option.bind_some _ _).symm.trans H; rw [hy160]; with_reducible exact H2_) | (have H2_ := (Option.bind_some _ _).symm.trans H; with_reducible exact H2_) | with_reducible exact H | (rw [hy160]; exact H) | exact H
                          have Ny160 := Aside0.mk hy160
                          clear hy160
                          have H' := Aside0.mk H
                          clear H
                          try go_wp2
                          have n0_ := Aside0.mk (Kd.R_drew HO_9.out)
                          have n1_ := Aside0.mk (blk_drew BK151.out)
                          have n2_ := Aside0.mk (below_drew1 HB.out)
                          clear HO_9
                          clear BK151
                          clear HB
                          have HO_9 := n0_
                          have BK151 := n1_
                          have HB := n2_
                          clear n0_ n1_ n2_
                          have p158 : 0 ≤ (x11_2 : Int) := of_decide_eq_true (by first | (with_reducible assumption) | assumption)
                          have q158 : x11_2 < (l1.length : Int) := of_decide_eq_true (by first | (with_reducible assumption) | assumption)
                          obtain ⟨ad158, e158, hx158_0⟩ := Kd.at_int HR1.out x11_2 p158 q158
                          have hw158_0 := hx158_0
                          cases e158
                          replace hx158_0 := (HB.out.cell (World.block_lt_of_cell? w _ hx158_0)).trans hx158_0
                          replace p158 := eq_true p158
                          replace q158 := eq_true q158
                          refine start_ (n := 17) (S := fun w' => w'.cell? ⟨gb151, 0, none⟩ = some (.int .i64 t147) ∧ w'.cell? ⟨gb151, 1, none⟩ = some (.int .i64 t148) ∧ w'.cell? ⟨gb151, 2, none⟩ = some (.int .i64 t149) ∧ w'.cell? ⟨gb151, 3, none⟩ = some (.int .u32 t150) ∧ w'.cell? (ad158.add (x11_2).toNat) = some (.int .i64 (rd l1 x11_2))) (ds := [16]) #[false, false, false, false, false, false, false, false, false, false, false, false, false, false, false, false, false] (by kernel_rfl) rfl rfl ⟨(blk_cell BK151.out 0).trans rfl, (blk_cell BK151.out 1).trans rfl, (blk_cell BK151.out 2).trans rfl, (blk_cell BK151.out 3).trans rfl, ((HB.out.cell (World.block_lt_of_cell? w _ hw158_0)).trans hw158_0)⟩ (fun hHeld => ?_); refine with_tabW hatstandlaw6_LayoutFollows.tab9 hatstandlaw6_LayoutFollows.bits9 (fun HT_ HW_ => ?_)
                          generalize wc.drew = w36 at HO_9 BK151 HB hx158_0 hHeld ⊢
                          refine pure_ (i := 0) (N := some 61) (v := ?_) (a' := ?_) #[true, false, false, false, false, false, false, false, false, false, false, false, false, false, false, false, false] rfl rfl (any_of HT_.out (by kernel_rfl)) (fun _ _ _ h => h) (Or.inl ⟨by rfl, ?_⟩) ?_ ?_
                          rotate_left
                          · intro w'
                            go_simp
                            with_reducible rfl
                          rotate_left
                          · simp only [Act.put, List.setIfInBounds_toArray, List.set_cons_zero, List.set_cons_succ, i64_w, i32_w]
                            rfl
                          refine pure_ (i := 2) (N := some 63) (v := ?_) (a' := ?_) #[true, false, true, false, false, false, false, false, false, false, false, false, false, false, false, false, false] rfl rfl (any_of HT_.out (by kernel_rfl)) (fun _ _ _ h => h) (Or.inl ⟨by rfl, ?_⟩) ?_ ?_
                          rotate_left
                          · intro w'
                            go_simp
                            with_reducible rfl
                          rotate_left
                          · simp only [Act.put, List.setIfInBounds_toArray, List.set_cons_zero, List.set_cons_succ, i64_w, i32_w]
                            rfl
                          refine pure_ (i := 3) (N := some 64) (v := ?_) (a' := ?_) #[true, false, true, true, false, false, false, false, false, false, false, false, false, false, false, false, false] rfl rfl (any_of HT_.out (by kernel_rfl)) (fun _ _ _ h => h) (Or.inl ⟨by rfl, ?_⟩) ?_ ?_
                          rotate_left
                          · intro w'
                            go_simp
                            with_reducible rfl
                          rotate_left
                          · simp only [Act.put, List.setIfInBounds_toArray, List.set_cons_zero, List.set_cons_succ, i64_w, i32_w]
                            rfl
                          refine pure_ (i := 4) (N := some 65) (v := ?_) (a' := ?_) #[true, false, true, true, true, false, false, false, false, false, false, false, false, false, false, false, false] rfl rfl (any_of HT_.out (by kernel_rfl)) (fun _ _ _ h => h) (Or.inl ⟨by rfl, ?_⟩) ?_ ?_
                          rotate_left
                          · intro w'
                            go_simp
                            with_reducible rfl
                          rotate_left
                          · simp only [Act.put, List.setIfInBounds_toArray, List.set_cons_zero, List.set_cons_succ, i64_w, i32_w]
                            rfl
                          refine pure_ (i := 6) (N := some 67) (v := ?_) (a' := ?_) #[true, false, true, true, true, false, true, false, false, false, false, false, false, false, false, false, false] rfl rfl (any_of HT_.out (by kernel_rfl)) (fun _ _ _ h => h) (Or.inl ⟨by rfl, ?_⟩) ?_ ?_
                          rotate_left
                          · intro w'
                            go_simp
                            with_reducible rfl
                          rotate_left
                          · simp only [Act.put, List.setIfInBounds_toArray, List.set_cons_zero, List.set_cons_succ, i64_w, i32_w]
                            rfl
                          refine pure_ (i := 7) (N := some 68) (v := ?_) (a' := ?_) #[true, false, true, true, true, false, true, true, false, false, false, false, false, false, false, false, false] rfl rfl (any_of HT_.out (by kernel_rfl)) (fun _ _ _ h => h) (Or.inl ⟨by rfl, ?_⟩) ?_ ?_
                          rotate_left
                          · intro w'
                            go_simp
                            with_reducible rfl
                          rotate_left
                          · simp only [Act.put, List.setIfInBounds_toArray, List.set_cons_zero, List.set_cons_succ, i64_w, i32_w]
                            rfl
                          refine pure_ (i := 8) (N := some 69) (v := ?_) (a' := ?_) #[true, false, true, true, true, false, true, true, true, false, false, false, false, false, false, false, false] rfl rfl (any_of HT_.out (by kernel_rfl)) (fun _ _ _ h => h) (Or.inl ⟨by rfl, ?_⟩) ?_ ?_
                          rotate_left
                          · intro w'
                            go_simp
                            with_reducible rfl
                          rotate_left
                          · simp only [Act.put, List.setIfInBounds_toArray, List.set_cons_zero, List.set_cons_succ, i64_w, i32_w]
                            rfl
                          refine pure_ (i := 10) (N := some 71) (v := ?_) (a' := ?_) #[true, false, true, true, true, false, true, true, true, false, true, false, false, false, false, false, false] rfl rfl (any_of HT_.out (by kernel_rfl)) (fun _ _ _ h => h) (Or.inl ⟨by rfl, ?_⟩) ?_ ?_
                          rotate_left
                          · intro w'
                            go_simp
                            with_reducible rfl
                          rotate_left
                          · simp only [Act.put, List.setIfInBounds_toArray, List.set_cons_zero, List.set_cons_succ, i64_w, i32_w]
                            rfl
                          refine take_ (i := 1) (N := some 62) (v := ?_) (a' := ?_) #[true, true, true, true, true, false, true, true, true, false, true, false, false, false, false, false, false] rfl rfl (take_ofW HT_.out HW_.out (by kernel_rfl)) (fun _ _ _ h => h) (Or.inl ⟨by rfl, ?_⟩) hHeld ?_ ?_
                          rotate_left
                          · rintro w' ⟨s0, s1, s2, s3, s4⟩
                            go_simp
                            with_reducible rfl
                          rotate_left
                          · simp only [Act.put, List.setIfInBounds_toArray, List.set_cons_zero, List.set_cons_succ, i64_w, i32_w]
                            rfl
                          refine take_ (i := 9) (N := some 70) (v := ?_) (a' := ?_) #[true, true, true, true, true, false, true, true, true, true, true, false, false, false, false, false, false] rfl rfl (take_ofW HT_.out HW_.out (by kernel_rfl)) (fun _ _ _ h => h) (Or.inl ⟨by rfl, ?_⟩) hHeld ?_ ?_
                          rotate_left
                          · rintro w' ⟨s0, s1, s2, s3, s4⟩
                            go_simp
                            with_reducible rfl
                          rotate_left
                          · simp only [Act.put, List.setIfInBounds_toArray, List.set_cons_zero, List.set_cons_succ, i64_w, i32_w]
                            rfl
                          refine take_ (i := 11) (N := some 72) (v := ?_) (a' := ?_) #[true, true, true, true, true, false, true, true, true, true, true, true, false, false, false, false, false] rfl rfl (take_ofW HT_.out HW_.out (by kernel_rfl)) (fun _ _ _ h => h) (Or.inl ⟨by rfl, ?_⟩) hHeld ?_ ?_
                          rotate_left
                          · rintro w' ⟨s0, s1, s2, s3, s4⟩
                            go_simp
                            with_reducible rfl
                          rotate_left
                          · simp only [Act.put, List.setIfInBounds_toArray, List.set_cons_zero, List.set_cons_succ, i64_w, i32_w]
                            rfl
                          refine pure_ (i := 12) (N := some 73) (v := ?_) (a' := ?_) #[true, true, true, true, true, false, true, true, true, true, true, true, true, false, false, false, false] rfl rfl (any_of HT_.out (by kernel_rfl)) (fun _ _ _ h => h) (Or.inl ⟨by rfl, ?_⟩) ?_ ?_
                          rotate_left
                          · intro w'
                            go_simp
                            with_reducible rfl
                          rotate_left
                          · simp only [Act.put, List.setIfInBounds_toArray, List.set_cons_zero, List.set_cons_succ, i64_w, i32_w]
                            rfl
                          refine one_ (i := 5) (N := some 66) #[true, true, true, true, true, true, true, true, true, true, true, true, true, false, false, false, false] rfl rfl (one_of HT_.out (by kernel_rfl)) (by decide) (fun K hK => ?_)
                          refine goes_ Try.func14 (by kernel_rfl) rfl #[.agg #[.int .i64 t147, .int .i64 t148, .int .i64 t149, .int .u32 t150], .int .u32 ((wrap64 (x11_2 + 1)) % 4294967296)] (by rfl) rfl rfl (by (try simp only [List.map_toArray, List.map_cons, List.map_nil]); first | done | rfl | (simp only [List.length_drop, List.length_take]; rfl)) ?_
                          with_reducible refine (layout_Config_Next.calls t147 t148 t149 t150 ((wrap64 (x11_2 + 1)) % 4294967296) t157 _ A29.out).mono ?_
                          rintro e w37 ⟨rfl, hb⟩
                          refine ⟨_, rfl, ?_⟩
                          have n0_ := Aside0.mk (Kd.R_below (by (with_reducible repeat (first | apply Kd.R_alloc | apply Kd.R_drewN | apply Kd.R_drew)); exact HO_9.out) hb)
                          have n1_ := Aside0.mk (blk_below (g := gb151) (o := .cells #[.int .i64 t147, .int .i64 t148, .int .i64 t149, .int .u32 t150] 25 (0, 0)) (by (with_reducible repeat (first | refine blk_drewN ?_ _ | refine blk_drew ?_ | refine blk_alloc ?_ _)); exact BK151.out) hb)
                          have n2_ := Aside0.mk (below_step (by repeat (first | (with_reducible first | exact HB.out | apply below_alloc | apply pw_below_drewN | apply below_drew1 | refine below_set ?_ GE151.out) | exact HB.out)) hb)
                          clear HO_9
                          clear BK151
                          clear HB
                          have HO_9 := n0_
                          have BK151 := n1_
                          have HB := n2_
                          clear n0_ n1_ n2_
                          (try clear hb)
                          (try clear hb2)
                          (try clear hk)
                          (try clear hi)
                          refine hK.out _ _ ⟨(blk_cell BK151.out 0).trans rfl, (blk_cell BK151.out 1).trans rfl, (blk_cell BK151.out 2).trans rfl, (blk_cell BK151.out 3).trans rfl, ((HB.out.cell (World.block_lt_of_cell? w _ hw158_0)).trans hw158_0)⟩ (fun hHeld => ?_)
                          clear hK K
                          refine norm_ (a' := ?_) ?_ ?_
                          rotate_left
                          · show Act.put _ (some 66) _ = _
                            simp only [Act.put, List.setIfInBounds_toArray, List.set_cons_zero, List.set_cons_succ, i64_w, i32_w]
                            rfl
                          refine one_ (i := 13) (N := some 74) #[true, true, true, true, true, true, true, true, true, true, true, true, true, true, false, false, false] rfl rfl (one_of HT_.out (by kernel_rfl)) (by decide) (fun K hK => ?_)
                          refine goes_ Try.func19 (by kernel_rfl) rfl #[.int .i64 (rd l1 x11_2), .int .i64 (wrap64 (t147 + 1))] (by rfl) rfl rfl (by (try simp only [List.map_toArray, List.map_cons, List.map_nil]); first | done | rfl | (simp only [List.length_drop, List.length_take]; rfl)) ?_
                          with_reducible refine (hatstandlaw6_pick.calls (rd l1 x11_2) (wrap64 (t147 + 1)) t159 _ A32.out).mono ?_
                          rintro e w' ⟨rfl, ⟨nd, rfl⟩⟩
                          refine ⟨_, rfl, ?_⟩
                          have p35 : 0 ≤ (t157 : Int) := of_decide_eq_true (by first | (with_reducible assumption) | assumption)
                          have q35 : (t157 : Int) < ((x9_2.length : Int) : Int) := of_decide_eq_true (by first | (with_reducible assumption) | assumption)
                          obtain ⟨go35, co35, eo35, gb35, gl35, cl35, HG35⟩ := Kd.R_form HO_9.out (by omega)
                          (first | cases eo35 | (injection eo35 with ea_ en_ ec_; (first | subst ea_ | (injection ea_ with ea_; subst ea_)); subst ec_; clear en_))
                          have GB35 := Aside0.mk gb35
                          have GG35 := Aside0.mk HG35
                          clear gb35 gl35 HG35
                          obtain ⟨hx35_0, hf35_0⟩ := Kd.R_celln 0 HO_9.out (t157 : Int) p35 q35
                          replace p35 := eq_true p35
                          replace q35 := eq_true q35
                          have HP38 := Kd.R_putn HO_9.out (t157 : Int) (IntKind.u64.wrap (t159))
                          rw [← Ny160.out] at HP38
                          have HQ38 := Aside0.mk HP38
                          clear HP38
                          refine hK.out _ _ ⟨(blk_cell BK151.out 0).trans rfl, (blk_cell BK151.out 1).trans rfl, (blk_cell BK151.out 2).trans rfl, (blk_cell BK151.out 3).trans rfl, ((HB.out.cell (World.block_lt_of_cell? w _ hw158_0)).trans hw158_0)⟩ (fun hHeld => ?_)
                          clear hK K
                          refine norm_ (a' := ?_) ?_ ?_
                          rotate_left
                          · show Act.put _ (some 74) _ = _
                            simp only [Act.put, List.setIfInBounds_toArray, List.set_cons_zero, List.set_cons_succ, i64_w, i32_w]
                            rfl
                          refine pure_ (i := 14) (N := some 75) (v := ?_) (a' := ?_) #[true, true, true, true, true, true, true, true, true, true, true, true, true, true, true, false, false] rfl rfl (any_of HT_.out (by kernel_rfl)) (fun _ _ _ h => h) (Or.inl ⟨by rfl, ?_⟩) ?_ ?_
                          rotate_left
                          · intro w'
                            go_simp
                            with_reducible rfl
                          rotate_left
                          · simp only [Act.put, List.setIfInBounds_toArray, List.set_cons_zero, List.set_cons_succ, i64_w, i32_w]
                            rfl
                          refine pure_ (i := 15) (N := some 76) (v := ?_) (a' := ?_) #[true, true, true, true, true, true, true, true, true, true, true, true, true, true, true, true, false] rfl rfl (any_of HT_.out (by kernel_rfl)) (fun _ _ _ h => h) (Or.inl ⟨by rfl, ?_⟩) ?_ ?_
                          rotate_left
                          · intro w'
                            go_simp
                            with_reducible rfl
                          rotate_left
                          · simp only [Act.put, List.setIfInBounds_toArray, List.set_cons_zero, List.set_cons_succ, i64_w, i32_w]
                            rfl
                          refine last_ (i := 16) (N := none) #[true, true, true, true, true, true, true, true, true, true, true, true, true, true, true, true, true] rfl rfl (one_of HT_.out (by kernel_rfl)) (by decide) (fun K hK => ?_)
                          refine skip_ (w1 := ?_) (by rfl) rfl ?_ ?_
                          rotate_left
                          · go_simp
                            rfl
                          refine hK.out _ _ ?_
                          clear hK K
                          refine done_ (done_of HT_.out (by kernel_rfl)) ?_
                          try go_wp2
                          go_roundg kj24
                          case measure => have := HJ6.out; have := HK2.out; have := HJ24.out; omega
                          case rel => exact ⟨(y160), (wrap64 (x11_2 + 1)), (by first | rfl | (simp; done) | (simp [*]; done)), H', ⟨by have := HJ6.out; have := HK2.out; have := HJ24.out; omega⟩, ⟨by (with_reducible repeat (first | apply Kd.R_alloc | apply Kd.R_drewN | apply Kd.R_drew)); exact HQ38.out⟩, ⟨by (with_reducible repeat (first | refine blk_drewN ?_ _ | refine blk_drew ?_ | refine blk_alloc ?_ _)); refine blk_far ?_ (by have h_ := Kd.R_ne HO_9.out BK151.out (by decide); intro e_; exact h_ (by rw [e_]; rfl)) _; (with_reducible repeat (first | refine blk_drewN ?_ _ | refine blk_drew ?_ | refine blk_alloc ?_ _)); exact BK151.out⟩, ⟨by repeat (first | (with_reducible first | exact HB.out | apply below_alloc | apply pw_below_drewN | apply below_drew1 | refine below_set ?_ GB35.out | refine below_set ?_ GE151.out) | exact HB.out)⟩⟩
                        · rw [if_neg c34] at H
                          exact absurd H (by simp)
                      · rw [if_neg c33] at H
                        exact absurd H (by simp)
                    · rw [if_neg c31] at H
                      exact absurd H (by simp)
                  · rw [if_neg c30] at H
                    exact absurd H (by simp)
                · replace c28 := Bool.eq_false_iff.mpr c28
                  subst c28
                  have H1 : ((hatstandlaw6_pick.f a2 t147).bind fun t161 => ((layout_Config_Next.f t147 t148 t149 t150 ((wrap64 (1 + t161)) % 4294967296)).bind fun t162 => (if 0 ≤ t162 then (if t162 < (x9_2.length : Int) then ((layout_Chain.f kj24 t147 t148 t149 t150 x9_2 ((wrap64 (1 + t161)) % 4294967296)).bind fun bt164 => ((layout_Chain.f kj24 t147 t148 t149 t150 x9_2 (rd x9_2 t162)).bind fun bt168 => (if bt164.2 = true then (if bt168.2 = true then (if (bt164.1.length : Int) = (wrap64 ((bt168.1.length : Int) + 1)) then (if 0 < (bt164.1.length : Int) then (if (rd bt164.1 0) = ((wrap64 (1 + t161)) % 4294967296) then (if 1 ≤ (bt164.1.length : Int) then ((hatstandref6_Same.f kj24 (bt164.1.drop 1) bt168.1).bind fun t177 => (some t177)) else (none)) else (some false)) else (none)) else (some false)) else (some false)) else (if bt168.2 = true then (some false) else (some ((bt164.1.length : Int) == 0)))))) else (none)) else (none)))) = some r := by rw [if_neg (show ¬ (false = true) by decide)] at H; exact H
                  clear H
                  have H := H1
                  clear H1
                  replace H := Option.bind_eq_some_iff.mp H
                  obtain ⟨t161, A390, H⟩ := H
                  replace H : ((layout_Config_Next.f t147 t148 t149 t150 ((wrap64 (1 + t161)) % 4294967296)).bind fun t162 => (if 0 ≤ t162 then (if t162 < (x9_2.length : Int) then ((layout_Chain.f kj24 t147 t148 t149 t150 x9_2 ((wrap64 (1 + t161)) % 4294967296)).bind fun bt164 => ((layout_Chain.f kj24 t147 t148 t149 t150 x9_2 (rd x9_2 t162)).bind fun bt168 => (if bt164.2 = true then (if bt168.2 = true then (if (bt164.1.length : Int) = (wrap64 ((bt168.1.length : Int) + 1)) then (if 0 < (bt164.1.length : Int) then (if (rd bt164.1 0) = ((wrap64 (1 + t161)) % 4294967296) then (if 1 ≤ (bt164.1.length : Int) then ((hatstandref6_Same.f kj24 (bt164.1.drop 1) bt168.1).bind fun t177 => (some t177)) else (none)) else (some false)) else (none)) else (some false)) else (some false)) else (if bt168.2 = true then (some false) else (some ((bt164.1.length : Int) == 0)))))) else (none)) else (none))) = some r := H
                  have A39 := Aside0.mk A390
                  clear A390
                  replace H := Option.bind_eq_some_iff.mp H
                  obtain ⟨t162, A400, H⟩ := H
                  replace H : (if 0 ≤ t162 then (if t162 < (x9_2.length : Int) then ((layout_Chain.f kj24 t147 t148 t149 t150 x9_2 ((wrap64 (1 + t161)) % 4294967296)).bind fun bt164 => ((layout_Chain.f kj24 t147 t148 t149 t150 x9_2 (rd x9_2 t162)).bind fun bt168 => (if bt164.2 = true then (if bt168.2 = true then (if (bt164.1.length : Int) = (wrap64 ((bt168.1.length : Int) + 1)) then (if 0 < (bt164.1.length : Int) then (if (rd bt164.1 0) = ((wrap64 (1 + t161)) % 4294967296) then (if 1 ≤ (bt164.1.length : Int) then ((hatstandref6_Same.f kj24 (bt164.1.drop 1) bt168.1).bind fun t177 => (some t177)) else (none)) else (some false)) else (none)) else (some false)) else (some false)) else (if bt168.2 = true then (some false) else (some ((bt164.1.length : Int) == 0)))))) else (none)) else (none)) = some r := H
                  have A40 := Aside0.mk A400
                  clear A400
                  by_cases c41 : 0 ≤ t162
                  · rw [if_pos c41] at H
                    have c41b0 : decide (0 ≤ t162) = true := decide_eq_true c41
                    clear c41
                    by_cases c42 : t162 < (x9_2.length : Int)
                    · rw [if_pos c42] at H
                      have c42b0 : decide (t162 < (x9_2.length : Int)) = true := decide_eq_true c42
                      clear c42
                      replace H := Option.bind_eq_some_iff.mp H
                      obtain ⟨⟨t164, t167⟩, A430, H⟩ := H
                      replace H : ((layout_Chain.f kj24 t147 t148 t149 t150 x9_2 (rd x9_2 t162)).bind fun bt168 => (if t167 = true then (if bt168.2 = true then (if (t164.length : Int) = (wrap64 ((bt168.1.length : Int) + 1)) then (if 0 < (t164.length : Int) then (if (rd t164 0) = ((wrap64 (1 + t161)) % 4294967296) then (if 1 ≤ (t164.length : Int) then ((hatstandref6_Same.f kj24 (t164.drop 1) bt168.1).bind fun t177 => (some t177)) else (none)) else (some false)) else (none)) else (some false)) else (some false)) else (if bt168.2 = true then (some false) else (some ((t164.length : Int) == 0))))) = some r := H
                      have A43 := Aside0.mk A430
                      clear A430
                      replace H := Option.bind_eq_some_iff.mp H
                      obtain ⟨⟨t168, t171⟩, A440, H⟩ := H
                      replace H : (if t167 = true then (if t171 = true then (if (t164.length : Int) = (wrap64 ((t168.length : Int) + 1)) then (if 0 < (t164.length : Int) then (if (rd t164 0) = ((wrap64 (1 + t161)) % 4294967296) then (if 1 ≤ (t164.length : Int) then ((hatstandref6_Same.f kj24 (t164.drop 1) t168).bind fun t177 => (some t177)) else (none)) else (some false)) else (none)) else (some false)) else (some false)) else (if t171 = true then (some false) else (some ((t164.length : Int) == 0)))) = some r := H
                      have A44 := Aside0.mk A440
                      clear A440
                      by_cases c45 : t167 = true
                      · subst c45
                        have H1 : (if t171 = true then (if (t164.length : Int) = (wrap64 ((t168.length : Int) + 1)) then (if 0 < (t164.length : Int) then (if (rd t164 0) = ((wrap64 (1 + t161)) % 4294967296) then (if 1 ≤ (t164.length : Int) then ((hatstandref6_Same.f kj24 (t164.drop 1) t168).bind fun t177 => (some t177)) else (none)) else (some false)) else (none)) else (some false)) else (some false)) = some r := by rw [if_pos rfl] at H; exact H
                        clear H
                        have H := H1
                        clear H1
                        by_cases c46 : t171 = true
                        · subst c46
                          have H1 : (if (t164.length : Int) = (wrap64 ((t168.length : Int) + 1)) then (if 0 < (t164.length : Int) then (if (rd t164 0) = ((wrap64 (1 + t161)) % 4294967296) then (if 1 ≤ (t164.length : Int) then ((hatstandref6_Same.f kj24 (t164.drop 1) t168).bind fun t177 => (some t177)) else (none)) else (some false)) else (none)) else (some false)) = some r := by rw [if_pos rfl] at H; exact H
                          clear H
                          have H := H1
                          clear H1
                          by_cases c47 : (t164.length : Int) = (wrap64 ((t168.length : Int) + 1))
                          · rw [if_pos c47] at H
                            have c47b0 : ((t164.length : Int) == (wrap64 ((t168.length : Int) + 1))) = true := beq_iff_eq.mpr c47
                            have c47b1 : ((t164.length : Int) != (wrap64 ((t168.length : Int) + 1))) = false := bne_eq_false_iff_eq.mpr c47
                            clear c47
                            by_cases c48 : 0 < (t164.length : Int)
                            · rw [if_pos c48] at H
                              have c48b0 : decide (0 < (t164.length : Int)) = true := decide_eq_true c48
                              have c48b1 : decide (0 < t164.length) = true := decide_eq_true (by omega)
                              clear c48
                              by_cases c49 : (rd t164 0) = ((wrap64 (1 + t161)) % 4294967296)
                              · rw [if_pos c49] at H
                                have c49b0 : ((rd t164 0) == ((wrap64 (1 + t161)) % 4294967296)) = true := beq_iff_eq.mpr c49
                                have c49b1 : ((rd t164 0) != ((wrap64 (1 + t161)) % 4294967296)) = false := bne_eq_false_iff_eq.mpr c49
                                clear c49
                                by_cases c50 : 1 ≤ (t164.length : Int)
                                · rw [if_pos c50] at H
                                  have c50b0 := eq_true c50
                                  have c50b1 : decide (1 ≤ (t164.length : Int)) = true := decide_eq_true c50
                                  clear c50
                                  obtain ⟨y173, hy173⟩ : ∃ y_ : List Int, y_ = (t164.drop 1) := ⟨_, rfl⟩
                                  replace H : ((hatstandref6_Same.f kj24 y173 t168).bind fun t177 => (some t177)) = some r := by first | (rw [hy173]; with_reducible exact H) | (have H2_ := (Option.bind_some _ _).symm.trans H; rw [hy173]; with_reducible exact H2_) | (have H2_ := (Option.bind_some _ _).symm.trans H; with_reducible exact H2_) | with_reducible exact H | (rw [hy173]; exact H) | exact H
                                  have Ny173 := Aside0.mk hy173
                                  clear hy173
                                  replace H := Option.bind_eq_some_iff.mp H
                                  obtain ⟨t177, A510, H⟩ := H
                                  replace H : (some t177) = some r := H
                                  have A51 := Aside0.mk A510
                                  clear A510
                                  obtain rfl := Option.some.inj H
                                  have hcz52_0 : wc.cell? ⟨gb151, 0, none⟩ = some (.int .i64 t147) := (blk_cell BK151.out 0).trans rfl
                                  have hcz52_1 : wc.cell? ⟨gb151, 1, none⟩ = some (.int .i64 t148) := (blk_cell BK151.out 1).trans rfl
                                  have hcz52_2 : wc.cell? ⟨gb151, 2, none⟩ = some (.int .i64 t149) := (blk_cell BK151.out 2).trans rfl
                                  have hcz52_3 : wc.cell? ⟨gb151, 3, none⟩ = some (.int .u32 t150) := (blk_cell BK151.out 3).trans rfl
                                  have hfz52_0 := blk_frozen BK151.out 0
                                  have hfz52_1 := blk_frozen BK151.out 1
                                  have hfz52_2 := blk_frozen BK151.out 2
                                  have hfz52_3 := blk_frozen BK151.out 3
                                  go_wp2_with (first | ((with_reducible refine gate_callee (f := 19) rfl ?_); refine goesL_ (some 80) rfl rfl Try.func19 (by kernel_rfl) rfl #[.int .i64 a2, .int .i64 t147] rfl (by (try simp only [List.map_toArray, List.map_cons, List.map_nil]); first | done | rfl | (simp only [List.length_drop, List.length_take]; rfl)) ?_; (with_reducible refine (hatstandlaw6_pick.calls a2 t147 t161 _ A39.out).mono ?_); rintro e w' ⟨rfl, ⟨nd, rfl⟩⟩; refine ⟨_, rfl, ?_⟩) | ((with_reducible refine gate_callee (f := 14) rfl ?_); refine goesL_ (some 86) rfl rfl Try.func14 (by kernel_rfl) rfl #[.agg #[.int .i64 t147, .int .i64 t148, .int .i64 t149, .int .u32 t150], .int .u32 ((wrap64 (1 + t161)) % 4294967296)] rfl (by (try simp only [List.map_toArray, List.map_cons, List.map_nil]); first | done | rfl | (simp only [List.length_drop, List.length_take]; rfl)) ?_; (with_reducible refine (layout_Config_Next.calls t147 t148 t149 t150 ((wrap64 (1 + t161)) % 4294967296) t162 _ A40.out).mono ?_); rintro e w53 ⟨rfl, hb⟩; refine ⟨_, rfl, ?_⟩; have n0_ := Aside0.mk (Kd.R_below (by (with_reducible repeat (first | apply Kd.R_alloc | apply Kd.R_drewN | apply Kd.R_drew)); exact HO_9.out) hb); have n1_ := Aside0.mk (blk_below (g := gb151) (o := .cells #[.int .i64 t147, .int .i64 t148, .int .i64 t149, .int .u32 t150] 25 (0, 0)) (by (with_reducible repeat (first | refine blk_drewN ?_ _ | refine blk_drew ?_ | refine blk_alloc ?_ _)); exact BK151.out) hb); have n2_ := Aside0.mk (below_step (by repeat (first | (with_reducible first | exact HB.out | apply below_alloc | apply pw_below_drewN | apply below_drew1 | refine below_set ?_ GE151.out) | exact HB.out)) hb); clear HO_9; clear BK151; clear HB; have HO_9 := n0_; have BK151 := n1_; have HB := n2_; clear n0_ n1_ n2_; (try clear hb); (try clear hb2); (try clear hk); (try clear hi); obtain ⟨Ao54, co54, eo54⟩ := Kd.R_slice HO_9.out; subst eo54; have p163 : 0 ≤ (t162 : Int) := of_decide_eq_true (by first | (with_reducible assumption) | assumption); have q163 : t162 < (x9_2.length : Int) := of_decide_eq_true (by first | (with_reducible assumption) | assumption); obtain ⟨ad163, e163, hx163_0⟩ := Kd.at_int (Kd.R_reads' HO_9.out).2.2 t162 p163 q163; cases e163; replace p163 := eq_true p163; replace q163 := eq_true q163; have hcz55_0 : w53.cell? ⟨gb151, 0, none⟩ = some (.int .i64 t147) := (blk_cell BK151.out 0).trans rfl; have hcz55_1 : w53.cell? ⟨gb151, 1, none⟩ = some (.int .i64 t148) := (blk_cell BK151.out 1).trans rfl; have hcz55_2 : w53.cell? ⟨gb151, 2, none⟩ = some (.int .i64 t149) := (blk_cell BK151.out 2).trans rfl; have hcz55_3 : w53.cell? ⟨gb151, 3, none⟩ = some (.int .u32 t150) := (blk_cell BK151.out 3).trans rfl; have hfz55_0 := blk_frozen BK151.out 0; have hfz55_1 := blk_frozen BK151.out 1; have hfz55_2 := blk_frozen BK151.out 2; have hfz55_3 := blk_frozen BK151.out 3) | ((with_reducible refine gate_callee (f := 41) rfl ?_); refine goesL_ (some 94) rfl rfl Try.func41 (by kernel_rfl) rfl #[.agg #[.int .i64 t147, .int .i64 t148, .int .i64 t149, .int .u32 t150], .slice (some ad163) x9_2.length co54, .int .u64 ((wrap64 (1 + t161)) % 4294967296)] rfl (by (try simp only [List.map_toArray, List.map_cons, List.map_nil]); first | done | rfl | (simp only [List.length_drop, List.length_take]; rfl)) ?_; (with_reducible refine (layout_Chain.calls kj24 t147 t148 t149 t150 _ _ x9_2 ((wrap64 (1 + t161)) % 4294967296) t164 true _ ?side1 ?side2 A43.out).mono ?_); (case side1 => repeat (first | exact (Kd.R_reads' HO_9.out).2.2 | (with_reducible refine Kd.C_alloc ?_ _) | (with_reducible refine Kd.C_drewN ?_ _) | (with_reducible refine Kd.C_drew ?_))); (case side2 => exact (Kd.R_reads' HO_9.out).2.1); rintro e w56 ⟨v165, rfl, ho0, hb⟩; refine ⟨_, rfl, ?_⟩; have n0_ := Aside0.mk (Kd.R_below (by (with_reducible repeat (first | apply Kd.R_alloc | apply Kd.R_drewN | apply Kd.R_drew)); exact HO_9.out) hb); have n1_ := Aside0.mk (Kd.R_lower ho0 (below_size (by repeat (first | (with_reducible first | exact HB.out | apply below_alloc | apply pw_below_drewN | apply below_drew1 | refine below_set ?_ GE151.out) | exact HB.out)))); have n2_ := Aside0.mk (blk_below (g := gb151) (o := .cells #[.int .i64 t147, .int .i64 t148, .int .i64 t149, .int .u32 t150] 25 (0, 0)) (by (with_reducible repeat (first | refine blk_drewN ?_ _ | refine blk_drew ?_ | refine blk_alloc ?_ _)); exact BK151.out) hb); have n3_ := Aside0.mk (below_step (by repeat (first | (with_reducible first | exact HB.out | apply below_alloc | apply pw_below_drewN | apply below_drew1 | refine below_set ?_ GE151.out) | exact HB.out)) hb); clear HO_9; clear BK151; clear HB; have HO_9 := n0_; have HO166 := n1_; have BK151 := n2_; have HB := n3_; clear n0_ n1_ n2_ n3_; (try clear hb); (try clear hb2); (try clear hk); (try clear hi); (try clear ho0); have hcz57_0 : w56.cell? ⟨gb151, 0, none⟩ = some (.int .i64 t147) := (blk_cell BK151.out 0).trans rfl; have hcz57_1 : w56.cell? ⟨gb151, 1, none⟩ = some (.int .i64 t148) := (blk_cell BK151.out 1).trans rfl; have hcz57_2 : w56.cell? ⟨gb151, 2, none⟩ = some (.int .i64 t149) := (blk_cell BK151.out 2).trans rfl; have hcz57_3 : w56.cell? ⟨gb151, 3, none⟩ = some (.int .u32 t150) := (blk_cell BK151.out 3).trans rfl; have hfz57_0 := blk_frozen BK151.out 0; have hfz57_1 := blk_frozen BK151.out 1; have hfz57_2 := blk_frozen BK151.out 2; have hfz57_3 := blk_frozen BK151.out 3) | ((with_reducible refine gate_callee (f := 41) rfl ?_); refine goesL_ (some 101) rfl rfl Try.func41 (by kernel_rfl) rfl #[.agg #[.int .i64 t147, .int .i64 t148, .int .i64 t149, .int .u32 t150], .slice (some ad163) x9_2.length co54, .int .u64 (rd x9_2 t162)] rfl (by (try simp only [List.map_toArray, List.map_cons, List.map_nil]); first | done | rfl | (simp only [List.length_drop, List.length_take]; rfl)) ?_; (with_reducible refine (layout_Chain.calls kj24 t147 t148 t149 t150 _ _ x9_2 (rd x9_2 t162) t168 true _ ?side1 ?side2 A44.out).mono ?_); (case side1 => repeat (first | exact (Kd.R_reads' HO_9.out).2.2 | (with_reducible refine Kd.C_alloc ?_ _) | (with_reducible refine Kd.C_drewN ?_ _) | (with_reducible refine Kd.C_drew ?_))); (case side2 => exact (Kd.R_reads' HO_9.out).2.1); rintro e w58 ⟨v169, rfl, ho0, hb⟩; refine ⟨_, rfl, ?_⟩; have n0_ := Aside0.mk (Kd.R_below (by (with_reducible repeat (first | apply Kd.R_alloc | apply Kd.R_drewN | apply Kd.R_drew)); exact HO_9.out) hb); have n1_ := Aside0.mk (Kd.R_elder' (by (with_reducible repeat (first | apply Kd.R_alloc | apply Kd.R_drewN | apply Kd.R_drew)); exact HO166.out) (Kd.R_base ho0) hb); have n2_ := Aside0.mk (Kd.R_lower (Kd.R_new' ho0 (Kd.R_lt (by (with_reducible repeat (first | apply Kd.R_alloc | apply Kd.R_drewN | apply Kd.R_drew)); exact HO166.out))) (below_size (by repeat (first | (with_reducible first | exact HB.out | apply below_alloc | apply pw_below_drewN | apply below_drew1 | refine below_set ?_ GE151.out) | exact HB.out)))); have n3_ := Aside0.mk (blk_below (g := gb151) (o := .cells #[.int .i64 t147, .int .i64 t148, .int .i64 t149, .int .u32 t150] 25 (0, 0)) (by (with_reducible repeat (first | refine blk_drewN ?_ _ | refine blk_drew ?_ | refine blk_alloc ?_ _)); exact BK151.out) hb); have n4_ := Aside0.mk (below_step (by repeat (first | (with_reducible first | exact HB.out | apply below_alloc | apply pw_below_drewN | apply below_drew1 | refine below_set ?_ GE151.out) | exact HB.out)) hb); clear HO_9; clear HO166; clear BK151; clear HB; have HO_9 := n0_; have HO166 := n1_; have HO170 := n2_; have BK151 := n3_; have HB := n4_; clear n0_ n1_ n2_ n3_ n4_; (try clear hb); (try clear hb2); (try clear hk); (try clear hi); (try clear ho0); obtain ⟨Ao59, co59, eo59⟩ := Kd.R_slice HO166.out; subst eo59; obtain ⟨Ao60, co60, eo60⟩ := Kd.R_slice HO170.out; subst eo60; have p172 : 0 ≤ (0 : Int) := (by omega); have q172 : 0 < (t164.length : Int) := of_decide_eq_true (by first | (with_reducible assumption) | assumption); obtain ⟨ad172, e172, hx172_0⟩ := Kd.at_int (Kd.R_reads' HO166.out).2.2 0 p172 q172; cases e172; have qi172 : (0 < t164.length) = True := eq_true (by omega); (try rw [show ((0 : Int)).toNat = 0 from rfl] at hx172_0); (try rw [Addr.add_zero'] at hx172_0); replace p172 := eq_true p172; replace q172 := eq_true q172; have q61 : (1 : Int) ≤ ((t164.length : Int) : Int) := of_decide_eq_true (by first | (with_reducible assumption) | assumption); obtain ⟨i061, hi061, _, hsz61, _⟩ := info_parts info23; have hroom61 : t164.length ≤ co59 := (Kd.R_reads' HO166.out).2.1; have hC61 : Kd.C (Kd.int .u32) _ (some ad172) t164.length t164 := (Kd.R_reads' HO166.out).2.2; have hcut61 := cut_from (P := Try.prog) 56 23 .i64 Try.underlying56 hi061 1 hsz61 (some ad172) t164.length co59 1 (by omega) q61; have hr61 := Kd.C_drop (m := (1 : Int).toNat) (c := co59) hC61 (by omega) hroom61; obtain ⟨A61, hA61⟩ : ∃ A1, A1 = (if co59 = (1 : Int).toNat then (some ad172) else ((some ad172) : Option Addr).map (·.add ((1 : Int).toNat * 1))) := ⟨_, rfl⟩; obtain ⟨c61, hc61⟩ : ∃ c1, c1 = co59 - (1 : Int).toNat := ⟨_, rfl⟩; have hy61 : y173.length = t164.length - (1 : Int).toNat := (by rw [Ny173.out, List.length_drop] <;> omega); rw [show (t164).drop (1 : Int).toNat = y173 from Ny173.out.symm] at hr61; replace hr61 : Kd.C (Kd.int .u32) _ A61 y173.length y173 := (by rw [hA61]; exact hr61); rw [← hy61, ← hA61, ← hc61] at hcut61; have HR176 := Aside0.mk hr61; have HC176 := Aside0.mk (show y173.length ≤ c61 from by rw [hy61, hc61]; exact Nat.sub_le_sub_right hroom61 _); clear hr61 hC61 hroom61 hi061 hsz61 hc61; have KY61 := Aside0.mk hy61; have KA61 := Aside0.mk hA61; clear hy61 hA61; have KL61 := Aside0.mk (show 1 ≤ t164.length from by omega); replace q61 := eq_true q61) | (go_at_call 45; (with_reducible refine (hatstandref6_Same.calls kj24 _ _ y173 _ _ t168 t177 _ ?side1 ?side2 ?side3 ?side4 A51.out).mono ?_); (case side1 => repeat (first | exact (by repeat (first | (with_reducible exact HR176.out) | (with_reducible refine Kd.C_alloc ?_ _) | (with_reducible refine Kd.C_drewN ?_ _) | (with_reducible refine Kd.C_drew ?_) | exact HR176.out)) | (with_reducible refine Kd.C_alloc ?_ _) | (with_reducible refine Kd.C_drewN ?_ _) | (with_reducible refine Kd.C_drew ?_))); (case side2 => exact HC176.out); (case side3 => repeat (first | exact (Kd.R_reads' HO170.out).2.2 | (with_reducible refine Kd.C_alloc ?_ _) | (with_reducible refine Kd.C_drewN ?_ _) | (with_reducible refine Kd.C_drew ?_))); (case side4 => exact (Kd.R_reads' HO170.out).2.1); rintro e w' ⟨rfl, ⟨nd, rfl⟩⟩))
                                  go_ret
                                  exact ⟨by first | rfl | (simp [errW_none, errW_some] <;> rfl) | (simp [*, errW_none, errW_some] <;> rfl), by repeat (first | (with_reducible first | exact HB.out | apply below_alloc | apply pw_below_drewN | apply below_drew1 | refine below_set ?_ GE151.out) | exact HB.out)⟩
                                · rw [if_neg c50] at H
                                  exact absurd H (by simp)
                              · rw [if_neg c49] at H
                                have c49b0 : ((rd t164 0) == ((wrap64 (1 + t161)) % 4294967296)) = false := beq_eq_false_iff_ne.mpr c49
                                have c49b1 : ((rd t164 0) != ((wrap64 (1 + t161)) % 4294967296)) = true := bne_iff_ne.mpr c49
                                obtain rfl := Option.some.inj H
                                have hcz62_0 : wc.cell? ⟨gb151, 0, none⟩ = some (.int .i64 t147) := (blk_cell BK151.out 0).trans rfl
                                have hcz62_1 : wc.cell? ⟨gb151, 1, none⟩ = some (.int .i64 t148) := (blk_cell BK151.out 1).trans rfl
                                have hcz62_2 : wc.cell? ⟨gb151, 2, none⟩ = some (.int .i64 t149) := (blk_cell BK151.out 2).trans rfl
                                have hcz62_3 : wc.cell? ⟨gb151, 3, none⟩ = some (.int .u32 t150) := (blk_cell BK151.out 3).trans rfl
                                have hfz62_0 := blk_frozen BK151.out 0
                                have hfz62_1 := blk_frozen BK151.out 1
                                have hfz62_2 := blk_frozen BK151.out 2
                                have hfz62_3 := blk_frozen BK151.out 3
                                go_wp2_with (first | ((with_reducible refine gate_callee (f := 19) rfl ?_); refine goesL_ (some 80) rfl rfl Try.func19 (by kernel_rfl) rfl #[.int .i64 a2, .int .i64 t147] rfl (by (try simp only [List.map_toArray, List.map_cons, List.map_nil]); first | done | rfl | (simp only [List.length_drop, List.length_take]; rfl)) ?_; (with_reducible refine (hatstandlaw6_pick.calls a2 t147 t161 _ A39.out).mono ?_); rintro e w' ⟨rfl, ⟨nd, rfl⟩⟩; refine ⟨_, rfl, ?_⟩) | ((with_reducible refine gate_callee (f := 14) rfl ?_); refine goesL_ (some 86) rfl rfl Try.func14 (by kernel_rfl) rfl #[.agg #[.int .i64 t147, .int .i64 t148, .int .i64 t149, .int .u32 t150], .int .u32 ((wrap64 (1 + t161)) % 4294967296)] rfl (by (try simp only [List.map_toArray, List.map_cons, List.map_nil]); first | done | rfl | (simp only [List.length_drop, List.length_take]; rfl)) ?_; (with_reducible refine (layout_Config_Next.calls t147 t148 t149 t150 ((wrap64 (1 + t161)) % 4294967296) t162 _ A40.out).mono ?_); rintro e w63 ⟨rfl, hb⟩; refine ⟨_, rfl, ?_⟩; have n0_ := Aside0.mk (Kd.R_below (by (with_reducible repeat (first | apply Kd.R_alloc | apply Kd.R_drewN | apply Kd.R_drew)); exact HO_9.out) hb); have n1_ := Aside0.mk (blk_below (g := gb151) (o := .cells #[.int .i64 t147, .int .i64 t148, .int .i64 t149, .int .u32 t150] 25 (0, 0)) (by (with_reducible repeat (first | refine blk_drewN ?_ _ | refine blk_drew ?_ | refine blk_alloc ?_ _)); exact BK151.out) hb); have n2_ := Aside0.mk (below_step (by repeat (first | (with_reducible first | exact HB.out | apply below_alloc | apply pw_below_drewN | apply below_drew1 | refine below_set ?_ GE151.out) | exact HB.out)) hb); clear HO_9; clear BK151; clear HB; have HO_9 := n0_; have BK151 := n1_; have HB := n2_; clear n0_ n1_ n2_; (try clear hb); (try clear hb2); (try clear hk); (try clear hi); obtain ⟨Ao64, co64, eo64⟩ := Kd.R_slice HO_9.out; subst eo64; have p163 : 0 ≤ (t162 : Int) := of_decide_eq_true (by first | (with_reducible assumption) | assumption); have q163 : t162 < (x9_2.length : Int) := of_decide_eq_true (by first | (with_reducible assumption) | assumption); obtain ⟨ad163, e163, hx163_0⟩ := Kd.at_int (Kd.R_reads' HO_9.out).2.2 t162 p163 q163; cases e163; replace p163 := eq_true p163; replace q163 := eq_true q163; have hcz65_0 : w63.cell? ⟨gb151, 0, none⟩ = some (.int .i64 t147) := (blk_cell BK151.out 0).trans rfl; have hcz65_1 : w63.cell? ⟨gb151, 1, none⟩ = some (.int .i64 t148) := (blk_cell BK151.out 1).trans rfl; have hcz65_2 : w63.cell? ⟨gb151, 2, none⟩ = some (.int .i64 t149) := (blk_cell BK151.out 2).trans rfl; have hcz65_3 : w63.cell? ⟨gb151, 3, none⟩ = some (.int .u32 t150) := (blk_cell BK151.out 3).trans rfl; have hfz65_0 := blk_frozen BK151.out 0; have hfz65_1 := blk_frozen BK151.out 1; have hfz65_2 := blk_frozen BK151.out 2; have hfz65_3 := blk_frozen BK151.out 3) | ((with_reducible refine gate_callee (f := 41) rfl ?_); refine goesL_ (some 94) rfl rfl Try.func41 (by kernel_rfl) rfl #[.agg #[.int .i64 t147, .int .i64 t148, .int .i64 t149, .int .u32 t150], .slice (some ad163) x9_2.length co64, .int .u64 ((wrap64 (1 + t161)) % 4294967296)] rfl (by (try simp only [List.map_toArray, List.map_cons, List.map_nil]); first | done | rfl | (simp only [List.length_drop, List.length_take]; rfl)) ?_; (with_reducible refine (layout_Chain.calls kj24 t147 t148 t149 t150 _ _ x9_2 ((wrap64 (1 + t161)) % 4294967296) t164 true _ ?side1 ?side2 A43.out).mono ?_); (case side1 => repeat (first | exact (Kd.R_reads' HO_9.out).2.2 | (with_reducible refine Kd.C_alloc ?_ _) | (with_reducible refine Kd.C_drewN ?_ _) | (with_reducible refine Kd.C_drew ?_))); (case side2 => exact (Kd.R_reads' HO_9.out).2.1); rintro e w66 ⟨v165, rfl, ho0, hb⟩; refine ⟨_, rfl, ?_⟩; have n0_ := Aside0.mk (Kd.R_below (by (with_reducible repeat (first | apply Kd.R_alloc | apply Kd.R_drewN | apply Kd.R_drew)); exact HO_9.out) hb); have n1_ := Aside0.mk (Kd.R_lower ho0 (below_size (by repeat (first | (with_reducible first | exact HB.out | apply below_alloc | apply pw_below_drewN | apply below_drew1 | refine below_set ?_ GE151.out) | exact HB.out)))); have n2_ := Aside0.mk (blk_below (g := gb151) (o := .cells #[.int .i64 t147, .int .i64 t148, .int .i64 t149, .int .u32 t150] 25 (0, 0)) (by (with_reducible repeat (first | refine blk_drewN ?_ _ | refine blk_drew ?_ | refine blk_alloc ?_ _)); exact BK151.out) hb); have n3_ := Aside0.mk (below_step (by repeat (first | (with_reducible first | exact HB.out | apply below_alloc | apply pw_below_drewN | apply below_drew1 | refine below_set ?_ GE151.out) | exact HB.out)) hb); clear HO_9; clear BK151; clear HB; have HO_9 := n0_; have HO166 := n1_; have BK151 := n2_; have HB := n3_; clear n0_ n1_ n2_ n3_; (try clear hb); (try clear hb2); (try clear hk); (try clear hi); (try clear ho0); have hcz67_0 : w66.cell? ⟨gb151, 0, none⟩ = some (.int .i64 t147) := (blk_cell BK151.out 0).trans rfl; have hcz67_1 : w66.cell? ⟨gb151, 1, none⟩ = some (.int .i64 t148) := (blk_cell BK151.out 1).trans rfl; have hcz67_2 : w66.cell? ⟨gb151, 2, none⟩ = some (.int .i64 t149) := (blk_cell BK151.out 2).trans rfl; have hcz67_3 : w66.cell? ⟨gb151, 3, none⟩ = some (.int .u32 t150) := (blk_cell BK151.out 3).trans rfl; have hfz67_0 := blk_frozen BK151.out 0; have hfz67_1 := blk_frozen BK151.out 1; have hfz67_2 := blk_frozen BK151.out 2; have hfz67_3 := blk_frozen BK151.out 3) | ((with_reducible refine gate_callee (f := 41) rfl ?_); refine goesL_ (some 101) rfl rfl Try.func41 (by kernel_rfl) rfl #[.agg #[.int .i64 t147, .int .i64 t148, .int .i64 t149, .int .u32 t150], .slice (some ad163) x9_2.length co64, .int .u64 (rd x9_2 t162)] rfl (by (try simp only [List.map_toArray, List.map_cons, List.map_nil]); first | done | rfl | (simp only [List.length_drop, List.length_take]; rfl)) ?_; (with_reducible refine (layout_Chain.calls kj24 t147 t148 t149 t150 _ _ x9_2 (rd x9_2 t162) t168 true _ ?side1 ?side2 A44.out).mono ?_); (case side1 => repeat (first | exact (Kd.R_reads' HO_9.out).2.2 | (with_reducible refine Kd.C_alloc ?_ _) | (with_reducible refine Kd.C_drewN ?_ _) | (with_reducible refine Kd.C_drew ?_))); (case side2 => exact (Kd.R_reads' HO_9.out).2.1); rintro e w68 ⟨v169, rfl, ho0, hb⟩; refine ⟨_, rfl, ?_⟩; have n0_ := Aside0.mk (Kd.R_below (by (with_reducible repeat (first | apply Kd.R_alloc | apply Kd.R_drewN | apply Kd.R_drew)); exact HO_9.out) hb); have n1_ := Aside0.mk (Kd.R_elder' (by (with_reducible repeat (first | apply Kd.R_alloc | apply Kd.R_drewN | apply Kd.R_drew)); exact HO166.out) (Kd.R_base ho0) hb); have n2_ := Aside0.mk (Kd.R_lower (Kd.R_new' ho0 (Kd.R_lt (by (with_reducible repeat (first | apply Kd.R_alloc | apply Kd.R_drewN | apply Kd.R_drew)); exact HO166.out))) (below_size (by repeat (first | (with_reducible first | exact HB.out | apply below_alloc | apply pw_below_drewN | apply below_drew1 | refine below_set ?_ GE151.out) | exact HB.out)))); have n3_ := Aside0.mk (blk_below (g := gb151) (o := .cells #[.int .i64 t147, .int .i64 t148, .int .i64 t149, .int .u32 t150] 25 (0, 0)) (by (with_reducible repeat (first | refine blk_drewN ?_ _ | refine blk_drew ?_ | refine blk_alloc ?_ _)); exact BK151.out) hb); have n4_ := Aside0.mk (below_step (by repeat (first | (with_reducible first | exact HB.out | apply below_alloc | apply pw_below_drewN | apply below_drew1 | refine below_set ?_ GE151.out) | exact HB.out)) hb); clear HO_9; clear HO166; clear BK151; clear HB; have HO_9 := n0_; have HO166 := n1_; have HO170 := n2_; have BK151 := n3_; have HB := n4_; clear n0_ n1_ n2_ n3_ n4_; (try clear hb); (try clear hb2); (try clear hk); (try clear hi); (try clear ho0); obtain ⟨Ao69, co69, eo69⟩ := Kd.R_slice HO166.out; subst eo69; obtain ⟨Ao70, co70, eo70⟩ := Kd.R_slice HO170.out; subst eo70; have p172 : 0 ≤ (0 : Int) := (by omega); have q172 : 0 < (t164.length : Int) := of_decide_eq_true (by first | (with_reducible assumption) | assumption); obtain ⟨ad172, e172, hx172_0⟩ := Kd.at_int (Kd.R_reads' HO166.out).2.2 0 p172 q172; cases e172; have qi172 : (0 < t164.length) = True := eq_true (by omega); (try rw [show ((0 : Int)).toNat = 0 from rfl] at hx172_0); (try rw [Addr.add_zero'] at hx172_0); replace p172 := eq_true p172; replace q172 := eq_true q172))
                                go_ret
                                exact ⟨by first | rfl | (simp [errW_none, errW_some] <;> rfl) | (simp [*, errW_none, errW_some] <;> rfl), by repeat (first | (with_reducible first | exact HB.out | apply below_alloc | apply pw_below_drewN | apply below_drew1 | refine below_set ?_ GE151.out) | exact HB.out)⟩
                            · rw [if_neg c48] at H
                              exact absurd H (by simp)
                          · rw [if_neg c47] at H
                            have c47b0 : ((t164.length : Int) == (wrap64 ((t168.length : Int) + 1))) = false := beq_eq_false_iff_ne.mpr c47
                            have c47b1 : ((t164.length : Int) != (wrap64 ((t168.length : Int) + 1))) = true := bne_iff_ne.mpr c47
                            obtain rfl := Option.some.inj H
                            have hcz71_0 : wc.cell? ⟨gb151, 0, none⟩ = some (.int .i64 t147) := (blk_cell BK151.out 0).trans rfl
                            have hcz71_1 : wc.cell? ⟨gb151, 1, none⟩ = some (.int .i64 t148) := (blk_cell BK151.out 1).trans rfl
                            have hcz71_2 : wc.cell? ⟨gb151, 2, none⟩ = some (.int .i64 t149) := (blk_cell BK151.out 2).trans rfl
                            have hcz71_3 : wc.cell? ⟨gb151, 3, none⟩ = some (.int .u32 t150) := (blk_cell BK151.out 3).trans rfl
                            have hfz71_0 := blk_frozen BK151.out 0
                            have hfz71_1 := blk_frozen BK151.out 1
                            have hfz71_2 := blk_frozen BK151.out 2
                            have hfz71_3 := blk_frozen BK151.out 3
                            go_wp2_with (first | ((with_reducible refine gate_callee (f := 19) rfl ?_); refine goesL_ (some 80) rfl rfl Try.func19 (by kernel_rfl) rfl #[.int .i64 a2, .int .i64 t147] rfl (by (try simp only [List.map_toArray, List.map_cons, List.map_nil]); first | done | rfl | (simp only [List.length_drop, List.length_take]; rfl)) ?_; (with_reducible refine (hatstandlaw6_pick.calls a2 t147 t161 _ A39.out).mono ?_); rintro e w' ⟨rfl, ⟨nd, rfl⟩⟩; refine ⟨_, rfl, ?_⟩) | ((with_reducible refine gate_callee (f := 14) rfl ?_); refine goesL_ (some 86) rfl rfl Try.func14 (by kernel_rfl) rfl #[.agg #[.int .i64 t147, .int .i64 t148, .int .i64 t149, .int .u32 t150], .int .u32 ((wrap64 (1 + t161)) % 4294967296)] rfl (by (try simp only [List.map_toArray, List.map_cons, List.map_nil]); first | done | rfl | (simp only [List.length_drop, List.length_take]; rfl)) ?_; (with_reducible refine (layout_Config_Next.calls t147 t148 t149 t150 ((wrap64 (1 + t161)) % 4294967296) t162 _ A40.out).mono ?_); rintro e w72 ⟨rfl, hb⟩; refine ⟨_, rfl, ?_⟩; have n0_ := Aside0.mk (Kd.R_below (by (with_reducible repeat (first | apply Kd.R_alloc | apply Kd.R_drewN | apply Kd.R_drew)); exact HO_9.out) hb); have n1_ := Aside0.mk (blk_below (g := gb151) (o := .cells #[.int .i64 t147, .int .i64 t148, .int .i64 t149, .int .u32 t150] 25 (0, 0)) (by (with_reducible repeat (first | refine blk_drewN ?_ _ | refine blk_drew ?_ | refine blk_alloc ?_ _)); exact BK151.out) hb); have n2_ := Aside0.mk (below_step (by repeat (first | (with_reducible first | exact HB.out | apply below_alloc | apply pw_below_drewN | apply below_drew1 | refine below_set ?_ GE151.out) | exact HB.out)) hb); clear HO_9; clear BK151; clear HB; have HO_9 := n0_; have BK151 := n1_; have HB := n2_; clear n0_ n1_ n2_; (try clear hb); (try clear hb2); (try clear hk); (try clear hi); obtain ⟨Ao73, co73, eo73⟩ := Kd.R_slice HO_9.out; subst eo73; have p163 : 0 ≤ (t162 : Int) := of_decide_eq_true (by first | (with_reducible assumption) | assumption); have q163 : t162 < (x9_2.length : Int) := of_decide_eq_true (by first | (with_reducible assumption) | assumption); obtain ⟨ad163, e163, hx163_0⟩ := Kd.at_int (Kd.R_reads' HO_9.out).2.2 t162 p163 q163; cases e163; replace p163 := eq_true p163; replace q163 := eq_true q163; have hcz74_0 : w72.cell? ⟨gb151, 0, none⟩ = some (.int .i64 t147) := (blk_cell BK151.out 0).trans rfl; have hcz74_1 : w72.cell? ⟨gb151, 1, none⟩ = some (.int .i64 t148) := (blk_cell BK151.out 1).trans rfl; have hcz74_2 : w72.cell? ⟨gb151, 2, none⟩ = some (.int .i64 t149) := (blk_cell BK151.out 2).trans rfl; have hcz74_3 : w72.cell? ⟨gb151, 3, none⟩ = some (.int .u32 t150) := (blk_cell BK151.out 3).trans rfl; have hfz74_0 := blk_frozen BK151.out 0; have hfz74_1 := blk_frozen BK151.out 1; have hfz74_2 := blk_frozen BK151.out 2; have hfz74_3 := blk_frozen BK151.out 3) | ((with_reducible refine gate_callee (f := 41) rfl ?_); refine goesL_ (some 94) rfl rfl Try.func41 (by kernel_rfl) rfl #[.agg #[.int .i64 t147, .int .i64 t148, .int .i64 t149, .int .u32 t150], .slice (some ad163) x9_2.length co73, .int .u64 ((wrap64 (1 + t161)) % 4294967296)] rfl (by (try simp only [List.map_toArray, List.map_cons, List.map_nil]); first | done | rfl | (simp only [List.length_drop, List.length_take]; rfl)) ?_; (with_reducible refine (layout_Chain.calls kj24 t147 t148 t149 t150 _ _ x9_2 ((wrap64 (1 + t161)) % 4294967296) t164 true _ ?side1 ?side2 A43.out).mono ?_); (case side1 => repeat (first | exact (Kd.R_reads' HO_9.out).2.2 | (with_reducible refine Kd.C_alloc ?_ _) | (with_reducible refine Kd.C_drewN ?_ _) | (with_reducible refine Kd.C_drew ?_))); (case side2 => exact (Kd.R_reads' HO_9.out).2.1); rintro e w75 ⟨v165, rfl, ho0, hb⟩; refine ⟨_, rfl, ?_⟩; have n0_ := Aside0.mk (Kd.R_below (by (with_reducible repeat (first | apply Kd.R_alloc | apply Kd.R_drewN | apply Kd.R_drew)); exact HO_9.out) hb); have n1_ := Aside0.mk (Kd.R_lower ho0 (below_size (by repeat (first | (with_reducible first | exact HB.out | apply below_alloc | apply pw_below_drewN | apply below_drew1 | refine below_set ?_ GE151.out) | exact HB.out)))); have n2_ := Aside0.mk (blk_below (g := gb151) (o := .cells #[.int .i64 t147, .int .i64 t148, .int .i64 t149, .int .u32 t150] 25 (0, 0)) (by (with_reducible repeat (first | refine blk_drewN ?_ _ | refine blk_drew ?_ | refine blk_alloc ?_ _)); exact BK151.out) hb); have n3_ := Aside0.mk (below_step (by repeat (first | (with_reducible first | exact HB.out | apply below_alloc | apply pw_below_drewN | apply below_drew1 | refine below_set ?_ GE151.out) | exact HB.out)) hb); clear HO_9; clear BK151; clear HB; have HO_9 := n0_; have HO166 := n1_; have BK151 := n2_; have HB := n3_; clear n0_ n1_ n2_ n3_; (try clear hb); (try clear hb2); (try clear hk); (try clear hi); (try clear ho0); have hcz76_0 : w75.cell? ⟨gb151, 0, none⟩ = some (.int .i64 t147) := (blk_cell BK151.out 0).trans rfl; have hcz76_1 : w75.cell? ⟨gb151, 1, none⟩ = some (.int .i64 t148) := (blk_cell BK151.out 1).trans rfl; have hcz76_2 : w75.cell? ⟨gb151, 2, none⟩ = some (.int .i64 t149) := (blk_cell BK151.out 2).trans rfl; have hcz76_3 : w75.cell? ⟨gb151, 3, none⟩ = some (.int .u32 t150) := (blk_cell BK151.out 3).trans rfl; have hfz76_0 := blk_frozen BK151.out 0; have hfz76_1 := blk_frozen BK151.out 1; have hfz76_2 := blk_frozen BK151.out 2; have hfz76_3 := blk_frozen BK151.out 3) | ((with_reducible refine gate_callee (f := 41) rfl ?_); refine goesL_ (some 101) rfl rfl Try.func41 (by kernel_rfl) rfl #[.agg #[.int .i64 t147, .int .i64 t148, .int .i64 t149, .int .u32 t150], .slice (some ad163) x9_2.length co73, .int .u64 (rd x9_2 t162)] rfl (by (try simp only [List.map_toArray, List.map_cons, List.map_nil]); first | done | rfl | (simp only [List.length_drop, List.length_take]; rfl)) ?_; (with_reducible refine (layout_Chain.calls kj24 t147 t148 t149 t150 _ _ x9_2 (rd x9_2 t162) t168 true _ ?side1 ?side2 A44.out).mono ?_); (case side1 => repeat (first | exact (Kd.R_reads' HO_9.out).2.2 | (with_reducible refine Kd.C_alloc ?_ _) | (with_reducible refine Kd.C_drewN ?_ _) | (with_reducible refine Kd.C_drew ?_))); (case side2 => exact (Kd.R_reads' HO_9.out).2.1); rintro e w77 ⟨v169, rfl, ho0, hb⟩; refine ⟨_, rfl, ?_⟩; have n0_ := Aside0.mk (Kd.R_below (by (with_reducible repeat (first | apply Kd.R_alloc | apply Kd.R_drewN | apply Kd.R_drew)); exact HO_9.out) hb); have n1_ := Aside0.mk (Kd.R_elder' (by (with_reducible repeat (first | apply Kd.R_alloc | apply Kd.R_drewN | apply Kd.R_drew)); exact HO166.out) (Kd.R_base ho0) hb); have n2_ := Aside0.mk (Kd.R_lower (Kd.R_new' ho0 (Kd.R_lt (by (with_reducible repeat (first | apply Kd.R_alloc | apply Kd.R_drewN | apply Kd.R_drew)); exact HO166.out))) (below_size (by repeat (first | (with_reducible first | exact HB.out | apply below_alloc | apply pw_below_drewN | apply below_drew1 | refine below_set ?_ GE151.out) | exact HB.out)))); have n3_ := Aside0.mk (blk_below (g := gb151) (o := .cells #[.int .i64 t147, .int .i64 t148, .int .i64 t149, .int .u32 t150] 25 (0, 0)) (by (with_reducible repeat (first | refine blk_drewN ?_ _ | refine blk_drew ?_ | refine blk_alloc ?_ _)); exact BK151.out) hb); have n4_ := Aside0.mk (below_step (by repeat (first | (with_reducible first | exact HB.out | apply below_alloc | apply pw_below_drewN | apply below_drew1 | refine below_set ?_ GE151.out) | exact HB.out)) hb); clear HO_9; clear HO166; clear BK151; clear HB; have HO_9 := n0_; have HO166 := n1_; have HO170 := n2_; have BK151 := n3_; have HB := n4_; clear n0_ n1_ n2_ n3_ n4_; (try clear hb); (try clear hb2); (try clear hk); (try clear hi); (try clear ho0); obtain ⟨Ao78, co78, eo78⟩ := Kd.R_slice HO166.out; subst eo78; obtain ⟨Ao79, co79, eo79⟩ := Kd.R_slice HO170.out; subst eo79))
                            go_ret
                            exact ⟨by first | rfl | (simp [errW_none, errW_some] <;> rfl) | (simp [*, errW_none, errW_some] <;> rfl), by repeat (first | (with_reducible first | exact HB.out | apply below_alloc | apply pw_below_drewN | apply below_drew1 | refine below_set ?_ GE151.out) | exact HB.out)⟩
                        · replace c46 := Bool.eq_false_iff.mpr c46
                          subst c46
                          have H1 : (some false) = some r := by rw [if_neg (show ¬ (false = true) by decide)] at H; exact H
                          clear H
                          have H := H1
                          clear H1
                          obtain rfl := Option.some.inj H
                          have hcz80_0 : wc.cell? ⟨gb151, 0, none⟩ = some (.int .i64 t147) := (blk_cell BK151.out 0).trans rfl
                          have hcz80_1 : wc.cell? ⟨gb151, 1, none⟩ = some (.int .i64 t148) := (blk_cell BK151.out 1).trans rfl
                          have hcz80_2 : wc.cell? ⟨gb151, 2, none⟩ = some (.int .i64 t149) := (blk_cell BK151.out 2).trans rfl
                          have hcz80_3 : wc.cell? ⟨gb151, 3, none⟩ = some (.int .u32 t150) := (blk_cell BK151.out 3).trans rfl
                          have hfz80_0 := blk_frozen BK151.out 0
                          have hfz80_1 := blk_frozen BK151.out 1
                          have hfz80_2 := blk_frozen BK151.out 2
                          have hfz80_3 := blk_frozen BK151.out 3
                          go_wp2_with (first | ((with_reducible refine gate_callee (f := 19) rfl ?_); refine goesL_ (some 80) rfl rfl Try.func19 (by kernel_rfl) rfl #[.int .i64 a2, .int .i64 t147] rfl (by (try simp only [List.map_toArray, List.map_cons, List.map_nil]); first | done | rfl | (simp only [List.length_drop, List.length_take]; rfl)) ?_; (with_reducible refine (hatstandlaw6_pick.calls a2 t147 t161 _ A39.out).mono ?_); rintro e w' ⟨rfl, ⟨nd, rfl⟩⟩; refine ⟨_, rfl, ?_⟩) | ((with_reducible refine gate_callee (f := 14) rfl ?_); refine goesL_ (some 86) rfl rfl Try.func14 (by kernel_rfl) rfl #[.agg #[.int .i64 t147, .int .i64 t148, .int .i64 t149, .int .u32 t150], .int .u32 ((wrap64 (1 + t161)) % 4294967296)] rfl (by (try simp only [List.map_toArray, List.map_cons, List.map_nil]); first | done | rfl | (simp only [List.length_drop, List.length_take]; rfl)) ?_; (with_reducible refine (layout_Config_Next.calls t147 t148 t149 t150 ((wrap64 (1 + t161)) % 4294967296) t162 _ A40.out).mono ?_); rintro e w81 ⟨rfl, hb⟩; refine ⟨_, rfl, ?_⟩; have n0_ := Aside0.mk (Kd.R_below (by (with_reducible repeat (first | apply Kd.R_alloc | apply Kd.R_drewN | apply Kd.R_drew)); exact HO_9.out) hb); have n1_ := Aside0.mk (blk_below (g := gb151) (o := .cells #[.int .i64 t147, .int .i64 t148, .int .i64 t149, .int .u32 t150] 25 (0, 0)) (by (with_reducible repeat (first | refine blk_drewN ?_ _ | refine blk_drew ?_ | refine blk_alloc ?_ _)); exact BK151.out) hb); have n2_ := Aside0.mk (below_step (by repeat (first | (with_reducible first | exact HB.out | apply below_alloc | apply pw_below_drewN | apply below_drew1 | refine below_set ?_ GE151.out) | exact HB.out)) hb); clear HO_9; clear BK151; clear HB; have HO_9 := n0_; have BK151 := n1_; have HB := n2_; clear n0_ n1_ n2_; (try clear hb); (try clear hb2); (try clear hk); (try clear hi); obtain ⟨Ao82, co82, eo82⟩ := Kd.R_slice HO_9.out; subst eo82; have p163 : 0 ≤ (t162 : Int) := of_decide_eq_true (by first | (with_reducible assumption) | assumption); have q163 : t162 < (x9_2.length : Int) := of_decide_eq_true (by first | (with_reducible assumption) | assumption); obtain ⟨ad163, e163, hx163_0⟩ := Kd.at_int (Kd.R_reads' HO_9.out).2.2 t162 p163 q163; cases e163; replace p163 := eq_true p163; replace q163 := eq_true q163; have hcz83_0 : w81.cell? ⟨gb151, 0, none⟩ = some (.int .i64 t147) := (blk_cell BK151.out 0).trans rfl; have hcz83_1 : w81.cell? ⟨gb151, 1, none⟩ = some (.int .i64 t148) := (blk_cell BK151.out 1).trans rfl; have hcz83_2 : w81.cell? ⟨gb151, 2, none⟩ = some (.int .i64 t149) := (blk_cell BK151.out 2).trans rfl; have hcz83_3 : w81.cell? ⟨gb151, 3, none⟩ = some (.int .u32 t150) := (blk_cell BK151.out 3).trans rfl; have hfz83_0 := blk_frozen BK151.out 0; have hfz83_1 := blk_frozen BK151.out 1; have hfz83_2 := blk_frozen BK151.out 2; have hfz83_3 := blk_frozen BK151.out 3) | ((with_reducible refine gate_callee (f := 41) rfl ?_); refine goesL_ (some 94) rfl rfl Try.func41 (by kernel_rfl) rfl #[.agg #[.int .i64 t147, .int .i64 t148, .int .i64 t149, .int .u32 t150], .slice (some ad163) x9_2.length co82, .int .u64 ((wrap64 (1 + t161)) % 4294967296)] rfl (by (try simp only [List.map_toArray, List.map_cons, List.map_nil]); first | done | rfl | (simp only [List.length_drop, List.length_take]; rfl)) ?_; (with_reducible refine (layout_Chain.calls kj24 t147 t148 t149 t150 _ _ x9_2 ((wrap64 (1 + t161)) % 4294967296) t164 true _ ?side1 ?side2 A43.out).mono ?_); (case side1 => repeat (first | exact (Kd.R_reads' HO_9.out).2.2 | (with_reducible refine Kd.C_alloc ?_ _) | (with_reducible refine Kd.C_drewN ?_ _) | (with_reducible refine Kd.C_drew ?_))); (case side2 => exact (Kd.R_reads' HO_9.out).2.1); rintro e w84 ⟨v165, rfl, ho0, hb⟩; refine ⟨_, rfl, ?_⟩; have n0_ := Aside0.mk (Kd.R_below (by (with_reducible repeat (first | apply Kd.R_alloc | apply Kd.R_drewN | apply Kd.R_drew)); exact HO_9.out) hb); have n1_ := Aside0.mk (Kd.R_lower ho0 (below_size (by repeat (first | (with_reducible first | exact HB.out | apply below_alloc | apply pw_below_drewN | apply below_drew1 | refine below_set ?_ GE151.out) | exact HB.out)))); have n2_ := Aside0.mk (blk_below (g := gb151) (o := .cells #[.int .i64 t147, .int .i64 t148, .int .i64 t149, .int .u32 t150] 25 (0, 0)) (by (with_reducible repeat (first | refine blk_drewN ?_ _ | refine blk_drew ?_ | refine blk_alloc ?_ _)); exact BK151.out) hb); have n3_ := Aside0.mk (below_step (by repeat (first | (with_reducible first | exact HB.out | apply below_alloc | apply pw_below_drewN | apply below_drew1 | refine below_set ?_ GE151.out) | exact HB.out)) hb); clear HO_9; clear BK151; clear HB; have HO_9 := n0_; have HO166 := n1_; have BK151 := n2_; have HB := n3_; clear n0_ n1_ n2_ n3_; (try clear hb); (try clear hb2); (try clear hk); (try clear hi); (try clear ho0); have hcz85_0 : w84.cell? ⟨gb151, 0, none⟩ = some (.int .i64 t147) := (blk_cell BK151.out 0).trans rfl; have hcz85_1 : w84.cell? ⟨gb151, 1, none⟩ = some (.int .i64 t148) := (blk_cell BK151.out 1).trans rfl; have hcz85_2 : w84.cell? ⟨gb151, 2, none⟩ = some (.int .i64 t149) := (blk_cell BK151.out 2).trans rfl; have hcz85_3 : w84.cell? ⟨gb151, 3, none⟩ = some (.int .u32 t150) := (blk_cell BK151.out 3).trans rfl; have hfz85_0 := blk_frozen BK151.out 0; have hfz85_1 := blk_frozen BK151.out 1; have hfz85_2 := blk_frozen BK151.out 2; have hfz85_3 := blk_frozen BK151.out 3) | ((with_reducible refine gate_callee (f := 41) rfl ?_); refine goesL_ (some 101) rfl rfl Try.func41 (by kernel_rfl) rfl #[.agg #[.int .i64 t147, .int .i64 t148, .int .i64 t149, .int .u32 t150], .slice (some ad163) x9_2.length co82, .int .u64 (rd x9_2 t162)] rfl (by (try simp only [List.map_toArray, List.map_cons, List.map_nil]); first | done | rfl | (simp only [List.length_drop, List.length_take]; rfl)) ?_; (with_reducible refine (layout_Chain.calls kj24 t147 t148 t149 t150 _ _ x9_2 (rd x9_2 t162) t168 false _ ?side1 ?side2 A44.out).mono ?_); (case side1 => repeat (first | exact (Kd.R_reads' HO_9.out).2.2 | (with_reducible refine Kd.C_alloc ?_ _) | (with_reducible refine Kd.C_drewN ?_ _) | (with_reducible refine Kd.C_drew ?_))); (case side2 => exact (Kd.R_reads' HO_9.out).2.1); rintro e w86 ⟨v169, rfl, ho0, hb⟩; refine ⟨_, rfl, ?_⟩; have n0_ := Aside0.mk (Kd.R_below (by (with_reducible repeat (first | apply Kd.R_alloc | apply Kd.R_drewN | apply Kd.R_drew)); exact HO_9.out) hb); have n1_ := Aside0.mk (Kd.R_elder' (by (with_reducible repeat (first | apply Kd.R_alloc | apply Kd.R_drewN | apply Kd.R_drew)); exact HO166.out) (Kd.R_base ho0) hb); have n2_ := Aside0.mk (Kd.R_lower (Kd.R_new' ho0 (Kd.R_lt (by (with_reducible repeat (first | apply Kd.R_alloc | apply Kd.R_drewN | apply Kd.R_drew)); exact HO166.out))) (below_size (by repeat (first | (with_reducible first | exact HB.out | apply below_alloc | apply pw_below_drewN | apply below_drew1 | refine below_set ?_ GE151.out) | exact HB.out)))); have n3_ := Aside0.mk (blk_below (g := gb151) (o := .cells #[.int .i64 t147, .int .i64 t148, .int .i64 t149, .int .u32 t150] 25 (0, 0)) (by (with_reducible repeat (first | refine blk_drewN ?_ _ | refine blk_drew ?_ | refine blk_alloc ?_ _)); exact BK151.out) hb); have n4_ := Aside0.mk (below_step (by repeat (first | (with_reducible first | exact HB.out | apply below_alloc | apply pw_below_drewN | apply below_drew1 | refine below_set ?_ GE151.out) | exact HB.out)) hb); clear HO_9; clear HO166; clear BK151; clear HB; have HO_9 := n0_; have HO166 := n1_; have HO170 := n2_; have BK151 := n3_; have HB := n4_; clear n0_ n1_ n2_ n3_ n4_; (try clear hb); (try clear hb2); (try clear hk); (try clear hi); (try clear ho0)))
                          go_ret
                          exact ⟨by first | rfl | (simp [errW_none, errW_some] <;> rfl) | (simp [*, errW_none, errW_some] <;> rfl), by repeat (first | (with_reducible first | exact HB.out | apply below_alloc | apply pw_below_drewN | apply below_drew1 | refine below_set ?_ GE151.out) | exact HB.out)⟩
                      · replace c45 := Bool.eq_false_iff.mpr c45
                        subst c45
                        have H1 : (if t171 = true then (some false) else (some ((t164.length : Int) == 0))) = some r := by rw [if_neg (show ¬ (false = true) by decide)] at H; exact H
                        clear H
                        have H := H1
                        clear H1
                        by_cases c87 : t171 = true
                        · subst c87
                          have H1 : (some false) = some r := by rw [if_pos rfl] at H; exact H
                          clear H
                          have H := H1
                          clear H1
                          obtain rfl := Option.some.inj H
                          have hcz88_0 : wc.cell? ⟨gb151, 0, none⟩ = some (.int .i64 t147) := (blk_cell BK151.out 0).trans rfl
                          have hcz88_1 : wc.cell? ⟨gb151, 1, none⟩ = some (.int .i64 t148) := (blk_cell BK151.out 1).trans rfl
                          have hcz88_2 : wc.cell? ⟨gb151, 2, none⟩ = some (.int .i64 t149) := (blk_cell BK151.out 2).trans rfl
                          have hcz88_3 : wc.cell? ⟨gb151, 3, none⟩ = some (.int .u32 t150) := (blk_cell BK151.out 3).trans rfl
                          have hfz88_0 := blk_frozen BK151.out 0
                          have hfz88_1 := blk_frozen BK151.out 1
                          have hfz88_2 := blk_frozen BK151.out 2
                          have hfz88_3 := blk_frozen BK151.out 3
                          go_wp2_with (first | ((with_reducible refine gate_callee (f := 19) rfl ?_); refine goesL_ (some 80) rfl rfl Try.func19 (by kernel_rfl) rfl #[.int .i64 a2, .int .i64 t147] rfl (by (try simp only [List.map_toArray, List.map_cons, List.map_nil]); first | done | rfl | (simp only [List.length_drop, List.length_take]; rfl)) ?_; (with_reducible refine (hatstandlaw6_pick.calls a2 t147 t161 _ A39.out).mono ?_); rintro e w' ⟨rfl, ⟨nd, rfl⟩⟩; refine ⟨_, rfl, ?_⟩) | ((with_reducible refine gate_callee (f := 14) rfl ?_); refine goesL_ (some 86) rfl rfl Try.func14 (by kernel_rfl) rfl #[.agg #[.int .i64 t147, .int .i64 t148, .int .i64 t149, .int .u32 t150], .int .u32 ((wrap64 (1 + t161)) % 4294967296)] rfl (by (try simp only [List.map_toArray, List.map_cons, List.map_nil]); first | done | rfl | (simp only [List.length_drop, List.length_take]; rfl)) ?_; (with_reducible refine (layout_Config_Next.calls t147 t148 t149 t150 ((wrap64 (1 + t161)) % 4294967296) t162 _ A40.out).mono ?_); rintro e w89 ⟨rfl, hb⟩; refine ⟨_, rfl, ?_⟩; have n0_ := Aside0.mk (Kd.R_below (by (with_reducible repeat (first | apply Kd.R_alloc | apply Kd.R_drewN | apply Kd.R_drew)); exact HO_9.out) hb); have n1_ := Aside0.mk (blk_below (g := gb151) (o := .cells #[.int .i64 t147, .int .i64 t148, .int .i64 t149, .int .u32 t150] 25 (0, 0)) (by (with_reducible repeat (first | refine blk_drewN ?_ _ | refine blk_drew ?_ | refine blk_alloc ?_ _)); exact BK151.out) hb); have n2_ := Aside0.mk (below_step (by repeat (first | (with_reducible first | exact HB.out | apply below_alloc | apply pw_below_drewN | apply below_drew1 | refine below_set ?_ GE151.out) | exact HB.out)) hb); clear HO_9; clear BK151; clear HB; have HO_9 := n0_; have BK151 := n1_; have HB := n2_; clear n0_ n1_ n2_; (try clear hb); (try clear hb2); (try clear hk); (try clear hi); obtain ⟨Ao90, co90, eo90⟩ := Kd.R_slice HO_9.out; subst eo90; have p163 : 0 ≤ (t162 : Int) := of_decide_eq_true (by first | (with_reducible assumption) | assumption); have q163 : t162 < (x9_2.length : Int) := of_decide_eq_true (by first | (with_reducible assumption) | assumption); obtain ⟨ad163, e163, hx163_0⟩ := Kd.at_int (Kd.R_reads' HO_9.out).2.2 t162 p163 q163; cases e163; replace p163 := eq_true p163; replace q163 := eq_true q163; have hcz91_0 : w89.cell? ⟨gb151, 0, none⟩ = some (.int .i64 t147) := (blk_cell BK151.out 0).trans rfl; have hcz91_1 : w89.cell? ⟨gb151, 1, none⟩ = some (.int .i64 t148) := (blk_cell BK151.out 1).trans rfl; have hcz91_2 : w89.cell? ⟨gb151, 2, none⟩ = some (.int .i64 t149) := (blk_cell BK151.out 2).trans rfl; have hcz91_3 : w89.cell? ⟨gb151, 3, none⟩ = some (.int .u32 t150) := (blk_cell BK151.out 3).trans rfl; have hfz91_0 := blk_frozen BK151.out 0; have hfz91_1 := blk_frozen BK151.out 1; have hfz91_2 := blk_frozen BK151.out 2; have hfz91_3 := blk_frozen BK151.out 3) | ((with_reducible refine gate_callee (f := 41) rfl ?_); refine goesL_ (some 94) rfl rfl Try.func41 (by kernel_rfl) rfl #[.agg #[.int .i64 t147, .int .i64 t148, .int .i64 t149, .int .u32 t150], .slice (some ad163) x9_2.length co90, .int .u64 ((wrap64 (1 + t161)) % 4294967296)] rfl (by (try simp only [List.map_toArray, List.map_cons, List.map_nil]); first | done | rfl | (simp only [List.length_drop, List.length_take]; rfl)) ?_; (with_reducible refine (layout_Chain.calls kj24 t147 t148 t149 t150 _ _ x9_2 ((wrap64 (1 + t161)) % 4294967296) t164 false _ ?side1 ?side2 A43.out).mono ?_); (case side1 => repeat (first | exact (Kd.R_reads' HO_9.out).2.2 | (with_reducible refine Kd.C_alloc ?_ _) | (with_reducible refine Kd.C_drewN ?_ _) | (with_reducible refine Kd.C_drew ?_))); (case side2 => exact (Kd.R_reads' HO_9.out).2.1); rintro e w92 ⟨v165, rfl, ho0, hb⟩; refine ⟨_, rfl, ?_⟩; have n0_ := Aside0.mk (Kd.R_below (by (with_reducible repeat (first | apply Kd.R_alloc | apply Kd.R_drewN | apply Kd.R_drew)); exact HO_9.out) hb); have n1_ := Aside0.mk (Kd.R_lower ho0 (below_size (by repeat (first | (with_reducible first | exact HB.out | apply below_alloc | apply pw_below_drewN | apply below_drew1 | refine below_set ?_ GE151.out) | exact HB.out)))); have n2_ := Aside0.mk (blk_below (g := gb151) (o := .cells #[.int .i64 t147, .int .i64 t148, .int .i64 t149, .int .u32 t150] 25 (0, 0)) (by (with_reducible repeat (first | refine blk_drewN ?_ _ | refine blk_drew ?_ | refine blk_alloc ?_ _)); exact BK151.out) hb); have n3_ := Aside0.mk (below_step (by repeat (first | (with_reducible first | exact HB.out | apply below_alloc | apply pw_below_drewN | apply below_drew1 | refine below_set ?_ GE151.out) | exact HB.out)) hb); clear HO_9; clear BK151; clear HB; have HO_9 := n0_; have HO166 := n1_; have BK151 := n2_; have HB := n3_; clear n0_ n1_ n2_ n3_; (try clear hb); (try clear hb2); (try clear hk); (try clear hi); (try clear ho0); have hcz93_0 : w92.cell? ⟨gb151, 0, none⟩ = some (.int .i64 t147) := (blk_cell BK151.out 0).trans rfl; have hcz93_1 : w92.cell? ⟨gb151, 1, none⟩ = some (.int .i64 t148) := (blk_cell BK151.out 1).trans rfl; have hcz93_2 : w92.cell? ⟨gb151, 2, none⟩ = some (.int .i64 t149) := (blk_cell BK151.out 2).trans rfl; have hcz93_3 : w92.cell? ⟨gb151, 3, none⟩ = some (.int .u32 t150) := (blk_cell BK151.out 3).trans rfl; have hfz93_0 := blk_frozen BK151.out 0; have hfz93_1 := blk_frozen BK151.out 1; have hfz93_2 := blk_frozen BK151.out 2; have hfz93_3 := blk_frozen BK151.out 3) | ((with_reducible refine gate_callee (f := 41) rfl ?_); refine goesL_ (some 101) rfl rfl Try.func41 (by kernel_rfl) rfl #[.agg #[.int .i64 t147, .int .i64 t148, .int .i64 t149, .int .u32 t150], .slice (some ad163) x9_2.length co90, .int .u64 (rd x9_2 t162)] rfl (by (try simp only [List.map_toArray, List.map_cons, List.map_nil]); first | done | rfl | (simp only [List.length_drop, List.length_take]; rfl)) ?_; (with_reducible refine (layout_Chain.calls kj24 t147 t148 t149 t150 _ _ x9_2 (rd x9_2 t162) t168 true _ ?side1 ?side2 A44.out).mono ?_); (case side1 => repeat (first | exact (Kd.R_reads' HO_9.out).2.2 | (with_reducible refine Kd.C_alloc ?_ _) | (with_reducible refine Kd.C_drewN ?_ _) | (with_reducible refine Kd.C_drew ?_))); (case side2 => exact (Kd.R_reads' HO_9.out).2.1); rintro e w94 ⟨v169, rfl, ho0, hb⟩; refine ⟨_, rfl, ?_⟩; have n0_ := Aside0.mk (Kd.R_below (by (with_reducible repeat (first | apply Kd.R_alloc | apply Kd.R_drewN | apply Kd.R_drew)); exact HO_9.out) hb); have n1_ := Aside0.mk (Kd.R_elder' (by (with_reducible repeat (first | apply Kd.R_alloc | apply Kd.R_drewN | apply Kd.R_drew)); exact HO166.out) (Kd.R_base ho0) hb); have n2_ := Aside0.mk (Kd.R_lower (Kd.R_new' ho0 (Kd.R_lt (by (with_reducible repeat (first | apply Kd.R_alloc | apply Kd.R_drewN | apply Kd.R_drew)); exact HO166.out))) (below_size (by repeat (first | (with_reducible first | exact HB.out | apply below_alloc | apply pw_below_drewN | apply below_drew1 | refine below_set ?_ GE151.out) | exact HB.out)))); have n3_ := Aside0.mk (blk_below (g := gb151) (o := .cells #[.int .i64 t147, .int .i64 t148, .int .i64 t149, .int .u32 t150] 25 (0, 0)) (by (with_reducible repeat (first | refine blk_drewN ?_ _ | refine blk_drew ?_ | refine blk_alloc ?_ _)); exact BK151.out) hb); have n4_ := Aside0.mk (below_step (by repeat (first | (with_reducible first | exact HB.out | apply below_alloc | apply pw_below_drewN | apply below_drew1 | refine below_set ?_ GE151.out) | exact HB.out)) hb); clear HO_9; clear HO166; clear BK151; clear HB; have HO_9 := n0_; have HO166 := n1_; have HO170 := n2_; have BK151 := n3_; have HB := n4_; clear n0_ n1_ n2_ n3_ n4_; (try clear hb); (try clear hb2); (try clear hk); (try clear hi); (try clear ho0)))
                          go_ret
                          exact ⟨by first | rfl | (simp [errW_none, errW_some] <;> rfl) | (simp [*, errW_none, errW_some] <;> rfl), by repeat (first | (with_reducible first | exact HB.out | apply below_alloc | apply pw_below_drewN | apply below_drew1 | refine below_set ?_ GE151.out) | exact HB.out)⟩
                        · replace c87 := Bool.eq_false_iff.mpr c87
                          subst c87
                          have H1 : (some ((t164.length : Int) == 0)) = some r := by rw [if_neg (show ¬ (false = true) by decide)] at H; exact H
                          clear H
                          have H := H1
                          clear H1
                          obtain rfl := Option.some.inj H
                          have hcz95_0 : wc.cell? ⟨gb151, 0, none⟩ = some (.int .i64 t147) := (blk_cell BK151.out 0).trans rfl
                          have hcz95_1 : wc.cell? ⟨gb151, 1, none⟩ = some (.int .i64 t148) := (blk_cell BK151.out 1).trans rfl
                          have hcz95_2 : wc.cell? ⟨gb151, 2, none⟩ = some (.int .i64 t149) := (blk_cell BK151.out 2).trans rfl
                          have hcz95_3 : wc.cell? ⟨gb151, 3, none⟩ = some (.int .u32 t150) := (blk_cell BK151.out 3).trans rfl
                          have hfz95_0 := blk_frozen BK151.out 0
                          have hfz95_1 := blk_frozen BK151.out 1
                          have hfz95_2 := blk_frozen BK151.out 2
                          have hfz95_3 := blk_frozen BK151.out 3
                          go_wp2_with (first | ((with_reducible refine gate_callee (f := 19) rfl ?_); refine goesL_ (some 80) rfl rfl Try.func19 (by kernel_rfl) rfl #[.int .i64 a2, .int .i64 t147] rfl (by (try simp only [List.map_toArray, List.map_cons, List.map_nil]); first | done | rfl | (simp only [List.length_drop, List.length_take]; rfl)) ?_; (with_reducible refine (hatstandlaw6_pick.calls a2 t147 t161 _ A39.out).mono ?_); rintro e w' ⟨rfl, ⟨nd, rfl⟩⟩; refine ⟨_, rfl, ?_⟩) | ((with_reducible refine gate_callee (f := 14) rfl ?_); refine goesL_ (some 86) rfl rfl Try.func14 (by kernel_rfl) rfl #[.agg #[.int .i64 t147, .int .i64 t148, .int .i64 t149, .int .u32 t150], .int .u32 ((wrap64 (1 + t161)) % 4294967296)] rfl (by (try simp only [List.map_toArray, List.map_cons, List.map_nil]); first | done | rfl | (simp only [List.length_drop, List.length_take]; rfl)) ?_; (with_reducible refine (layout_Config_Next.calls t147 t148 t149 t150 ((wrap64 (1 + t161)) % 4294967296) t162 _ A40.out).mono ?_); rintro e w96 ⟨rfl, hb⟩; refine ⟨_, rfl, ?_⟩; have n0_ := Aside0.mk (Kd.R_below (by (with_reducible repeat (first | apply Kd.R_alloc | apply Kd.R_drewN | apply Kd.R_drew)); exact HO_9.out) hb); have n1_ := Aside0.mk (blk_below (g := gb151) (o := .cells #[.int .i64 t147, .int .i64 t148, .int .i64 t149, .int .u32 t150] 25 (0, 0)) (by (with_reducible repeat (first | refine blk_drewN ?_ _ | refine blk_drew ?_ | refine blk_alloc ?_ _)); exact BK151.out) hb); have n2_ := Aside0.mk (below_step (by repeat (first | (with_reducible first | exact HB.out | apply below_alloc | apply pw_below_drewN | apply below_drew1 | refine below_set ?_ GE151.out) | exact HB.out)) hb); clear HO_9; clear BK151; clear HB; have HO_9 := n0_; have BK151 := n1_; have HB := n2_; clear n0_ n1_ n2_; (try clear hb); (try clear hb2); (try clear hk); (try clear hi); obtain ⟨Ao97, co97, eo97⟩ := Kd.R_slice HO_9.out; subst eo97; have p163 : 0 ≤ (t162 : Int) := of_decide_eq_true (by first | (with_reducible assumption) | assumption); have q163 : t162 < (x9_2.length : Int) := of_decide_eq_true (by first | (with_reducible assumption) | assumption); obtain ⟨ad163, e163, hx163_0⟩ := Kd.at_int (Kd.R_reads' HO_9.out).2.2 t162 p163 q163; cases e163; replace p163 := eq_true p163; replace q163 := eq_true q163; have hcz98_0 : w96.cell? ⟨gb151, 0, none⟩ = some (.int .i64 t147) := (blk_cell BK151.out 0).trans rfl; have hcz98_1 : w96.cell? ⟨gb151, 1, none⟩ = some (.int .i64 t148) := (blk_cell BK151.out 1).trans rfl; have hcz98_2 : w96.cell? ⟨gb151, 2, none⟩ = some (.int .i64 t149) := (blk_cell BK151.out 2).trans rfl; have hcz98_3 : w96.cell? ⟨gb151, 3, none⟩ = some (.int .u32 t150) := (blk_cell BK151.out 3).trans rfl; have hfz98_0 := blk_frozen BK151.out 0; have hfz98_1 := blk_frozen BK151.out 1; have hfz98_2 := blk_frozen BK151.out 2; have hfz98_3 := blk_frozen BK151.out 3) | ((with_reducible refine gate_callee (f := 41) rfl ?_); refine goesL_ (some 94) rfl rfl Try.func41 (by kernel_rfl) rfl #[.agg #[.int .i64 t147, .int .i64 t148, .int .i64 t149, .int .u32 t150], .slice (some ad163) x9_2.length co97, .int .u64 ((wrap64 (1 + t161)) % 4294967296)] rfl (by (try simp only [List.map_toArray, List.map_cons, List.map_nil]); first | done | rfl | (simp only [List.length_drop, List.length_take]; rfl)) ?_; (with_reducible refine (layout_Chain.calls kj24 t147 t148 t149 t150 _ _ x9_2 ((wrap64 (1 + t161)) % 4294967296) t164 false _ ?side1 ?side2 A43.out).mono ?_); (case side1 => repeat (first | exact (Kd.R_reads' HO_9.out).2.2 | (with_reducible refine Kd.C_alloc ?_ _) | (with_reducible refine Kd.C_drewN ?_ _) | (with_reducible refine Kd.C_drew ?_))); (case side2 => exact (Kd.R_reads' HO_9.out).2.1); rintro e w99 ⟨v165, rfl, ho0, hb⟩; refine ⟨_, rfl, ?_⟩; have n0_ := Aside0.mk (Kd.R_below (by (with_reducible repeat (first | apply Kd.R_alloc | apply Kd.R_drewN | apply Kd.R_drew)); exact HO_9.out) hb); have n1_ := Aside0.mk (Kd.R_lower ho0 (below_size (by repeat (first | (with_reducible first | exact HB.out | apply below_alloc | apply pw_below_drewN | apply below_drew1 | refine below_set ?_ GE151.out) | exact HB.out)))); have n2_ := Aside0.mk (blk_below (g := gb151) (o := .cells #[.int .i64 t147, .int .i64 t148, .int .i64 t149, .int .u32 t150] 25 (0, 0)) (by (with_reducible repeat (first | refine blk_drewN ?_ _ | refine blk_drew ?_ | refine blk_alloc ?_ _)); exact BK151.out) hb); have n3_ := Aside0.mk (below_step (by repeat (first | (with_reducible first | exact HB.out | apply below_alloc | apply pw_below_drewN | apply below_drew1 | refine below_set ?_ GE151.out) | exact HB.out)) hb); clear HO_9; clear BK151; clear HB; have HO_9 := n0_; have HO166 := n1_; have BK151 := n2_; have HB := n3_; clear n0_ n1_ n2_ n3_; (try clear hb); (try clear hb2); (try clear hk); (try clear hi); (try clear ho0); have hcz100_0 : w99.cell? ⟨gb151, 0, none⟩ = some (.int .i64 t147) := (blk_cell BK151.out 0).trans rfl; have hcz100_1 : w99.cell? ⟨gb151, 1, none⟩ = some (.int .i64 t148) := (blk_cell BK151.out 1).trans rfl; have hcz100_2 : w99.cell? ⟨gb151, 2, none⟩ = some (.int .i64 t149) := (blk_cell BK151.out 2).trans rfl; have hcz100_3 : w99.cell? ⟨gb151, 3, none⟩ = some (.int .u32 t150) := (blk_cell BK151.out 3).trans rfl; have hfz100_0 := blk_frozen BK151.out 0; have hfz100_1 := blk_frozen BK151.out 1; have hfz100_2 := blk_frozen BK151.out 2; have hfz100_3 := blk_frozen BK151.out 3) | ((with_reducible refine gate_callee (f := 41) rfl ?_); refine goesL_ (some 101) rfl rfl Try.func41 (by kernel_rfl) rfl #[.agg #[.int .i64 t147, .int .i64 t148, .int .i64 t149, .int .u32 t150], .slice (some ad163) x9_2.length co97, .int .u64 (rd x9_2 t162)] rfl (by (try simp only [List.map_toArray, List.map_cons, List.map_nil]); first | done | rfl | (simp only [List.length_drop, List.length_take]; rfl)) ?_; (with_reducible refine (layout_Chain.calls kj24 t147 t148 t149 t150 _ _ x9_2 (rd x9_2 t162) t168 false _ ?side1 ?side2 A44.out).mono ?_); (case side1 => repeat (first | exact (Kd.R_reads' HO_9.out).2.2 | (with_reducible refine Kd.C_alloc ?_ _) | (with_reducible refine Kd.C_drewN ?_ _) | (with_reducible refine Kd.C_drew ?_))); (case side2 => exact (Kd.R_reads' HO_9.out).2.1); rintro e w101 ⟨v169, rfl, ho0, hb⟩; refine ⟨_, rfl, ?_⟩; have n0_ := Aside0.mk (Kd.R_below (by (with_reducible repeat (first | apply Kd.R_alloc | apply Kd.R_drewN | apply Kd.R_drew)); exact HO_9.out) hb); have n1_ := Aside0.mk (Kd.R_elder' (by (with_reducible repeat (first | apply Kd.R_alloc | apply Kd.R_drewN | apply Kd.R_drew)); exact HO166.out) (Kd.R_base ho0) hb); have n2_ := Aside0.mk (Kd.R_lower (Kd.R_new' ho0 (Kd.R_lt (by (with_reducible repeat (first | apply Kd.R_alloc | apply Kd.R_drewN | apply Kd.R_drew)); exact HO166.out))) (below_size (by repeat (first | (with_reducible first | exact HB.out | apply below_alloc | apply pw_below_drewN | apply below_drew1 | refine below_set ?_ GE151.out) | exact HB.out)))); have n3_ := Aside0.mk (blk_below (g := gb151) (o := .cells #[.int .i64 t147, .int .i64 t148, .int .i64 t149, .int .u32 t150] 25 (0, 0)) (by (with_reducible repeat (first | refine blk_drewN ?_ _ | refine blk_drew ?_ | refine blk_alloc ?_ _)); exact BK151.out) hb); have n4_ := Aside0.mk (below_step (by repeat (first | (with_reducible first | exact HB.out | apply below_alloc | apply pw_below_drewN | apply below_drew1 | refine below_set ?_ GE151.out) | exact HB.out)) hb); clear HO_9; clear HO166; clear BK151; clear HB; have HO_9 := n0_; have HO166 := n1_; have HO170 := n2_; have BK151 := n3_; have HB := n4_; clear n0_ n1_ n2_ n3_ n4_; (try clear hb); (try clear hb2); (try clear hk); (try clear hi); (try clear ho0); obtain ⟨Ao102, co102, eo102⟩ := Kd.R_slice HO166.out; subst eo102))
                          go_ret
                          exact ⟨by first | rfl | (simp [errW_none, errW_some] <;> rfl) | (simp [*, errW_none, errW_some] <;> rfl), by repeat (first | (with_reducible first | exact HB.out | apply below_alloc | apply pw_below_drewN | apply below_drew1 | refine below_set ?_ GE151.out) | exact HB.out)⟩
                    · rw [if_neg c42] at H
                      exact absurd H (by simp)
                  · rw [if_neg c41] at H
                    exact absurd H (by simp)

/-- THE ONE PURE STATEMENT of hatstandlaw6_LayoutFollows: yours. -/
def hatstandlaw6_LayoutFollows.Pure : Prop := ∀ (a0 : Int) (l1 : List Int) (a2 : Int), (Lit.int .i64 a0).wf = true → l1.length ≤ maxLen → l1.length * 8 ≤ 140737488351232 → (∀ x ∈ l1, (Lit.int .i64 x).wf = true) → (Lit.int .i64 a2).wf = true → ∃ k, hatstandlaw6_LayoutFollows.f k a0 l1 a2 = some true
theorem hatstandlaw6_LayoutFollows.walk (P : hatstandlaw6_LayoutFollows.Pure) (a0 : Int) (a1 : Option Addr) (len1 cap1 : Nat) (z1 : List Int) (a2 : Int) (w : World) (w0 : (Lit.int .i64 a0).wf = true) (w1 : (a1 = none ∧ len1 = 0 ∧ cap1 = 0 ∧ z1 = []) ∨ ∃ x, a1 = some x ∧ len1 ≤ cap1 ∧ cap1 ≤ maxLen ∧ z1.length = cap1 ∧ (∀ i, i < z1.length → w.cell? (x.add i) = some (.int .i64 (z1.getD i 0))) ∧ ∀ n ∈ z1, (Lit.int .i64 n).wf = true) (y1 : len1 * 8 ≤ 140737488351232) (w2 : (Lit.int .i64 a2).wf = true) :
    Calls Try.prog 9 #[.int .i64 a0, .slice a1 len1 cap1, .int .i64 a2] w fun e w' => e = .returned (.bool true) ∧ Below w.heap.size w w' := by
  obtain ⟨l1, rfl, hr1, hm1, hw1, hc1⟩ := ReadsInt.ofRowC w1
  obtain ⟨k, h⟩ := P a0 l1 a2 w0 hm1 y1 hw1 w2
  refine (hatstandlaw6_LayoutFollows.calls k a0 _ _ l1 a2 true w (Kd.C_of_reads (d := (0 : Int)) (h1 := fun _ => rfl) hr1) hc1 h).mono ?_
  rintro e w' ⟨rfl, hd⟩
  exact ⟨rfl, hd⟩

end Go.Proofs.Ytckmcphphnoilaa.PLayoutFollows
