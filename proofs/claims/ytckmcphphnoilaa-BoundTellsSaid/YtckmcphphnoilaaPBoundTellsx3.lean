/- The Go functions that the law BoundTells goes through, as Lean functions, each with its contract: written by a program of this session. -/
import Derived.Test.YtckmcphphnoilaaPBoundTellsx0
import Derived.Test.YtckmcphphnoilaaPBoundTellsx1
import Derived.Test.YtckmcphphnoilaaPBoundTellsx2
namespace Go.Proofs.Ytckmcphphnoilaa.PBoundTells
open Go.RowKit Go.Proofs.YtckmcphphnoilaaW.PrintWords Go.Proofs.YtckmcphphnoilaaW.PrintLast Go.Proofs.YtckmcphphnoilaaW.PrintMore
attribute [local go_sem] max2_int min2_int max_two min_two max_three min_three max_four min_four   -- for this text's walks alone
set_option linter.unusedVariables false
set_option linter.unusedSimpArgs false

/-! ### hatstandlaw21_BoundTells: function 5 -/
mutual
def hatstandlaw21_BoundTells.j0 : Nat → Int → Bool → Bool → Int → Int → Int → Int → Int → Int → Int → Option (Bool)
  | 0, _, _, _, _, _, _, _, _, _, _ => none
  | k + 1, x1, x5, x18, x174000, x174001, x174002, x174003, x174004, x174005, x174006 => if x18 = true then (some x5) else ((ebstack_Check.f x174000 x174001 x174002 x174003 x174004 x174005 x174006).bind fun t175 => (if t175 = 0 then (if x174001 > 0 then (hatstandlaw21_BoundTells.j1 k x1 (wrap64 (x174004 + 1)) 69 x174000 x174001 x174002 x174003 x174004 x174005 x174006) else (hatstandlaw21_BoundTells.j1 k x1 (wrap64 (x174004 + 1)) 0 x174000 x174001 x174002 x174003 x174004 x174005 x174006)) else ((bound_Visit.f k x174000 x174001 x174002 x174003 x174004 x174005 x174006).bind fun t176 => (if t176 = 0 then ((bound_Push.f k x174000 x174001 x174002 x174003 x174004 x174005 x174006).bind fun t177 => (if t177 = 0 then ((bound_Pop.f k x174000 x174001 x174002 x174003 x174004 x174005 x174006).bind fun t178 => (if t178 = 0 then ((bound_Acquire.f k x174000 x174001 x174002 x174003 x174004 x174005 x174006).bind fun t179 => (if t179 = 0 then ((bound_Release.f k x174000 x174001 x174002 x174003 x174004 x174005 x174006).bind fun t180 => (if t180 = 0 then ((bound_Window.f k x174000 x174001 x174002 x174003 x174004 x174005 x174006 x1).bind fun t181 => (some (t181 == 0))) else (some false))) else (some false))) else (some false))) else (some false))) else (some false)))))
def hatstandlaw21_BoundTells.j1 : Nat → Int → Int → Int → Int → Int → Int → Int → Int → Int → Int → Option (Bool)
  | 0, _, _, _, _, _, _, _, _, _, _ => none
  | k + 1, x1, x6, x7, x174000, x174001, x174002, x174003, x174004, x174005, x174006 => if x174002 > 0 then (hatstandlaw21_BoundTells.j2 k x1 x7 (wrap64 ((wrap64 ((wrap64 (9 * x6)) + 1)) + (wrap64 (x174004 * x7)))) (wrap64 ((wrap64 ((wrap64 (6 * x6)) + 1)) + (wrap64 (x174004 * x7)))) (wrap64 ((wrap64 ((wrap64 ((wrap64 (9 * x6)) + 1)) + (wrap64 (x174004 * x7)))) + 3)) x174000 x174001 x174002 x174003 x174004 x174005 x174006) else (hatstandlaw21_BoundTells.j2 k x1 x7 (wrap64 ((wrap64 ((wrap64 (9 * x6)) + 1)) + (wrap64 (x174004 * x7)))) (wrap64 ((wrap64 ((wrap64 (6 * x6)) + 1)) + (wrap64 (x174004 * x7)))) (wrap64 ((wrap64 ((wrap64 (9 * x6)) + 1)) + (wrap64 (x174004 * x7)))) x174000 x174001 x174002 x174003 x174004 x174005 x174006)
def hatstandlaw21_BoundTells.j2 : Nat → Int → Int → Int → Int → Int → Int → Int → Int → Int → Int → Int → Int → Option (Bool)
  | 0, _, _, _, _, _, _, _, _, _, _, _, _ => none
  | k + 1, x1, x7, x8, x9, x10, x174000, x174001, x174002, x174003, x174004, x174005, x174006 => if x1 < 0 then (hatstandlaw21_BoundTells.j3 k x1 x7 x8 x9 x10 0 x174000 x174001 x174002 x174003 x174004 x174005 x174006) else (hatstandlaw21_BoundTells.j3 k x1 x7 x8 x9 x10 x1 x174000 x174001 x174002 x174003 x174004 x174005 x174006)
def hatstandlaw21_BoundTells.j3 : Nat → Int → Int → Int → Int → Int → Int → Int → Int → Int → Int → Int → Int → Int → Option (Bool)
  | 0, _, _, _, _, _, _, _, _, _, _, _, _, _ => none
  | k + 1, x1, x7, x8, x9, x10, x11, x174000, x174001, x174002, x174003, x174004, x174005, x174006 => (bound_Visit.f k x174000 x174001 x174002 x174003 x174004 x174005 x174006).bind fun t182 => (if t182 = x7 then ((bound_Push.f k x174000 x174001 x174002 x174003 x174004 x174005 x174006).bind fun t183 => (if t183 = x8 then ((bound_Pop.f k x174000 x174001 x174002 x174003 x174004 x174005 x174006).bind fun t184 => (if t184 = x9 then ((bound_Acquire.f k x174000 x174001 x174002 x174003 x174004 x174005 x174006).bind fun t185 => (if t185 = (wrap64 (x9 + 1)) then ((bound_Release.f k x174000 x174001 x174002 x174003 x174004 x174005 x174006).bind fun t186 => (if t186 = (wrap64 (x8 + 3)) then ((bound_Window.f k x174000 x174001 x174002 x174003 x174004 x174005 x174006 x1).bind fun t187 => (some (t187 == (wrap64 (x11 * x10))))) else (some false))) else (some false))) else (some false))) else (some false))) else (some false))
end
def hatstandlaw21_BoundTells.f (k : Nat) (a0_0 : Int) (a0_1 : Int) (a0_2 : Int) (a0_3 : Int) (a0_4 : Int) (a0_5 : Int) (a0_6 : Int) (a1 : Int) : Option (Bool) := (hatstandlaw21_shown.f k).bind fun t174 => (if t174 = true then (hatstandlaw21_BoundTells.j0 k a1 t174 (decide (a1 > 1073741824)) a0_0 a0_1 a0_2 a0_3 a0_4 a0_5 a0_6) else (hatstandlaw21_BoundTells.j0 k a1 t174 true a0_0 a0_1 a0_2 a0_3 a0_4 a0_5 a0_6))
theorem hatstandlaw21_BoundTells.mono_l : ∀ k, (∀ y0 y1 y2 y3 y4 y5 y6 y7 y8 y9, LeO (hatstandlaw21_BoundTells.j0 k y0 y1 y2 y3 y4 y5 y6 y7 y8 y9) (hatstandlaw21_BoundTells.j0 (k + 1) y0 y1 y2 y3 y4 y5 y6 y7 y8 y9)) ∧ (∀ y0 y1 y2 y3 y4 y5 y6 y7 y8 y9, LeO (hatstandlaw21_BoundTells.j1 k y0 y1 y2 y3 y4 y5 y6 y7 y8 y9) (hatstandlaw21_BoundTells.j1 (k + 1) y0 y1 y2 y3 y4 y5 y6 y7 y8 y9)) ∧ (∀ y0 y1 y2 y3 y4 y5 y6 y7 y8 y9 y10 y11, LeO (hatstandlaw21_BoundTells.j2 k y0 y1 y2 y3 y4 y5 y6 y7 y8 y9 y10 y11) (hatstandlaw21_BoundTells.j2 (k + 1) y0 y1 y2 y3 y4 y5 y6 y7 y8 y9 y10 y11)) ∧ (∀ y0 y1 y2 y3 y4 y5 y6 y7 y8 y9 y10 y11 y12, LeO (hatstandlaw21_BoundTells.j3 k y0 y1 y2 y3 y4 y5 y6 y7 y8 y9 y10 y11 y12) (hatstandlaw21_BoundTells.j3 (k + 1) y0 y1 y2 y3 y4 y5 y6 y7 y8 y9 y10 y11 y12))
  | 0 => ⟨fun _ _ _ _ _ _ _ _ _ _ r h => by simp [hatstandlaw21_BoundTells.j0] at h, fun _ _ _ _ _ _ _ _ _ _ r h => by simp [hatstandlaw21_BoundTells.j1] at h, fun _ _ _ _ _ _ _ _ _ _ _ _ r h => by simp [hatstandlaw21_BoundTells.j2] at h, fun _ _ _ _ _ _ _ _ _ _ _ _ _ r h => by simp [hatstandlaw21_BoundTells.j3] at h⟩
  | k + 1 => by
    obtain ⟨ih0, ih1, ih2, ih3⟩ := hatstandlaw21_BoundTells.mono_l k
    refine ⟨?_, ?_, ?_, ?_⟩
    · intro y0 y1 y2 y3 y4 y5 y6 y7 y8 y9
      unfold hatstandlaw21_BoundTells.j0
      repeat' first
      | (with_reducible exact ih0 _ _ _ _ _ _ _ _ _ _)
      | (with_reducible exact ih1 _ _ _ _ _ _ _ _ _ _)
      | (with_reducible exact ih2 _ _ _ _ _ _ _ _ _ _ _ _)
      | (with_reducible exact ih3 _ _ _ _ _ _ _ _ _ _ _ _ _)
      | (with_reducible exact bound_Acquire.mono _ _ _ _ _ _ _ _)
      | (with_reducible exact bound_Pop.mono _ _ _ _ _ _ _ _)
      | (with_reducible exact bound_Push.mono _ _ _ _ _ _ _ _)
      | (with_reducible exact bound_Release.mono _ _ _ _ _ _ _ _)
      | (with_reducible exact bound_Visit.mono _ _ _ _ _ _ _ _)
      | (with_reducible exact bound_Window.mono _ _ _ _ _ _ _ _ _)
      | (with_reducible exact hatstandlaw21_shown.mono _)
      | (with_reducible exact LeO.refl _)
      | (with_reducible exact LeO.none _)
      | (with_reducible refine LeO.ite ?_ ?_)
      | (with_reducible refine LeO.bind ?_ (fun _ => ?_))
      | exact ih0 _ _ _ _ _ _ _ _ _ _
      | exact ih1 _ _ _ _ _ _ _ _ _ _
      | exact ih2 _ _ _ _ _ _ _ _ _ _ _ _
      | exact ih3 _ _ _ _ _ _ _ _ _ _ _ _ _
      | exact bound_Acquire.mono _ _ _ _ _ _ _ _
      | exact bound_Pop.mono _ _ _ _ _ _ _ _
      | exact bound_Push.mono _ _ _ _ _ _ _ _
      | exact bound_Release.mono _ _ _ _ _ _ _ _
      | exact bound_Visit.mono _ _ _ _ _ _ _ _
      | exact bound_Window.mono _ _ _ _ _ _ _ _ _
      | exact hatstandlaw21_shown.mono _
      | exact LeO.none _
      | refine LeO.ite ?_ ?_
      | refine LeO.bind ?_ (fun _ => ?_)
    · intro y0 y1 y2 y3 y4 y5 y6 y7 y8 y9
      unfold hatstandlaw21_BoundTells.j1
      repeat' first
      | (with_reducible exact ih0 _ _ _ _ _ _ _ _ _ _)
      | (with_reducible exact ih1 _ _ _ _ _ _ _ _ _ _)
      | (with_reducible exact ih2 _ _ _ _ _ _ _ _ _ _ _ _)
      | (with_reducible exact ih3 _ _ _ _ _ _ _ _ _ _ _ _ _)
      | (with_reducible exact bound_Acquire.mono _ _ _ _ _ _ _ _)
      | (with_reducible exact bound_Pop.mono _ _ _ _ _ _ _ _)
      | (with_reducible exact bound_Push.mono _ _ _ _ _ _ _ _)
      | (with_reducible exact bound_Release.mono _ _ _ _ _ _ _ _)
      | (with_reducible exact bound_Visit.mono _ _ _ _ _ _ _ _)
      | (with_reducible exact bound_Window.mono _ _ _ _ _ _ _ _ _)
      | (with_reducible exact hatstandlaw21_shown.mono _)
      | (with_reducible exact LeO.refl _)
      | (with_reducible exact LeO.none _)
      | (with_reducible refine LeO.ite ?_ ?_)
      | (with_reducible refine LeO.bind ?_ (fun _ => ?_))
      | exact ih0 _ _ _ _ _ _ _ _ _ _
      | exact ih1 _ _ _ _ _ _ _ _ _ _
      | exact ih2 _ _ _ _ _ _ _ _ _ _ _ _
      | exact ih3 _ _ _ _ _ _ _ _ _ _ _ _ _
      | exact bound_Acquire.mono _ _ _ _ _ _ _ _
      | exact bound_Pop.mono _ _ _ _ _ _ _ _
      | exact bound_Push.mono _ _ _ _ _ _ _ _
      | exact bound_Release.mono _ _ _ _ _ _ _ _
      | exact bound_Visit.mono _ _ _ _ _ _ _ _
      | exact bound_Window.mono _ _ _ _ _ _ _ _ _
      | exact hatstandlaw21_shown.mono _
      | exact LeO.none _
      | refine LeO.ite ?_ ?_
      | refine LeO.bind ?_ (fun _ => ?_)
    · intro y0 y1 y2 y3 y4 y5 y6 y7 y8 y9 y10 y11
      unfold hatstandlaw21_BoundTells.j2
      repeat' first
      | (with_reducible exact ih0 _ _ _ _ _ _ _ _ _ _)
      | (with_reducible exact ih1 _ _ _ _ _ _ _ _ _ _)
      | (with_reducible exact ih2 _ _ _ _ _ _ _ _ _ _ _ _)
      | (with_reducible exact ih3 _ _ _ _ _ _ _ _ _ _ _ _ _)
      | (with_reducible exact bound_Acquire.mono _ _ _ _ _ _ _ _)
      | (with_reducible exact bound_Pop.mono _ _ _ _ _ _ _ _)
      | (with_reducible exact bound_Push.mono _ _ _ _ _ _ _ _)
      | (with_reducible exact bound_Release.mono _ _ _ _ _ _ _ _)
      | (with_reducible exact bound_Visit.mono _ _ _ _ _ _ _ _)
      | (with_reducible exact bound_Window.mono _ _ _ _ _ _ _ _ _)
      | (with_reducible exact hatstandlaw21_shown.mono _)
      | (with_reducible exact LeO.refl _)
      | (with_reducible exact LeO.none _)
      | (with_reducible refine LeO.ite ?_ ?_)
      | (with_reducible refine LeO.bind ?_ (fun _ => ?_))
      | exact ih0 _ _ _ _ _ _ _ _ _ _
      | exact ih1 _ _ _ _ _ _ _ _ _ _
      | exact ih2 _ _ _ _ _ _ _ _ _ _ _ _
      | exact ih3 _ _ _ _ _ _ _ _ _ _ _ _ _
      | exact bound_Acquire.mono _ _ _ _ _ _ _ _
      | exact bound_Pop.mono _ _ _ _ _ _ _ _
      | exact bound_Push.mono _ _ _ _ _ _ _ _
      | exact bound_Release.mono _ _ _ _ _ _ _ _
      | exact bound_Visit.mono _ _ _ _ _ _ _ _
      | exact bound_Window.mono _ _ _ _ _ _ _ _ _
      | exact hatstandlaw21_shown.mono _
      | exact LeO.none _
      | refine LeO.ite ?_ ?_
      | refine LeO.bind ?_ (fun _ => ?_)
    · intro y0 y1 y2 y3 y4 y5 y6 y7 y8 y9 y10 y11 y12
      unfold hatstandlaw21_BoundTells.j3
      repeat' first
      | (with_reducible exact ih0 _ _ _ _ _ _ _ _ _ _)
      | (with_reducible exact ih1 _ _ _ _ _ _ _ _ _ _)
      | (with_reducible exact ih2 _ _ _ _ _ _ _ _ _ _ _ _)
      | (with_reducible exact ih3 _ _ _ _ _ _ _ _ _ _ _ _ _)
      | (with_reducible exact bound_Acquire.mono _ _ _ _ _ _ _ _)
      | (with_reducible exact bound_Pop.mono _ _ _ _ _ _ _ _)
      | (with_reducible exact bound_Push.mono _ _ _ _ _ _ _ _)
      | (with_reducible exact bound_Release.mono _ _ _ _ _ _ _ _)
      | (with_reducible exact bound_Visit.mono _ _ _ _ _ _ _ _)
      | (with_reducible exact bound_Window.mono _ _ _ _ _ _ _ _ _)
      | (with_reducible exact hatstandlaw21_shown.mono _)
      | (with_reducible exact LeO.refl _)
      | (with_reducible exact LeO.none _)
      | (with_reducible refine LeO.ite ?_ ?_)
      | (with_reducible refine LeO.bind ?_ (fun _ => ?_))
      | exact ih0 _ _ _ _ _ _ _ _ _ _
      | exact ih1 _ _ _ _ _ _ _ _ _ _
      | exact ih2 _ _ _ _ _ _ _ _ _ _ _ _
      | exact ih3 _ _ _ _ _ _ _ _ _ _ _ _ _
      | exact bound_Acquire.mono _ _ _ _ _ _ _ _
      | exact bound_Pop.mono _ _ _ _ _ _ _ _
      | exact bound_Push.mono _ _ _ _ _ _ _ _
      | exact bound_Release.mono _ _ _ _ _ _ _ _
      | exact bound_Visit.mono _ _ _ _ _ _ _ _
      | exact bound_Window.mono _ _ _ _ _ _ _ _ _
      | exact hatstandlaw21_shown.mono _
      | exact LeO.none _
      | refine LeO.ite ?_ ?_
      | refine LeO.bind ?_ (fun _ => ?_)
theorem hatstandlaw21_BoundTells.mono : ∀ a0 a1 a2 a3 a4 a5 a6 a7 k, LeO (hatstandlaw21_BoundTells.f k a0 a1 a2 a3 a4 a5 a6 a7) (hatstandlaw21_BoundTells.f (k + 1) a0 a1 a2 a3 a4 a5 a6 a7) := by
  intro a0 a1 a2 a3 a4 a5 a6 a7 k
  obtain ⟨ih0, ih1, ih2, ih3⟩ := hatstandlaw21_BoundTells.mono_l k
  unfold hatstandlaw21_BoundTells.f
  repeat' first
      | (with_reducible exact ih0 _ _ _ _ _ _ _ _ _ _)
      | (with_reducible exact ih1 _ _ _ _ _ _ _ _ _ _)
      | (with_reducible exact ih2 _ _ _ _ _ _ _ _ _ _ _ _)
      | (with_reducible exact ih3 _ _ _ _ _ _ _ _ _ _ _ _ _)
      | (with_reducible exact bound_Acquire.mono _ _ _ _ _ _ _ _)
      | (with_reducible exact bound_Pop.mono _ _ _ _ _ _ _ _)
      | (with_reducible exact bound_Push.mono _ _ _ _ _ _ _ _)
      | (with_reducible exact bound_Release.mono _ _ _ _ _ _ _ _)
      | (with_reducible exact bound_Visit.mono _ _ _ _ _ _ _ _)
      | (with_reducible exact bound_Window.mono _ _ _ _ _ _ _ _ _)
      | (with_reducible exact hatstandlaw21_shown.mono _)
      | (with_reducible exact LeO.refl _)
      | (with_reducible exact LeO.none _)
      | (with_reducible refine LeO.ite ?_ ?_)
      | (with_reducible refine LeO.bind ?_ (fun _ => ?_))
      | exact ih0 _ _ _ _ _ _ _ _ _ _
      | exact ih1 _ _ _ _ _ _ _ _ _ _
      | exact ih2 _ _ _ _ _ _ _ _ _ _ _ _
      | exact ih3 _ _ _ _ _ _ _ _ _ _ _ _ _
      | exact bound_Acquire.mono _ _ _ _ _ _ _ _
      | exact bound_Pop.mono _ _ _ _ _ _ _ _
      | exact bound_Push.mono _ _ _ _ _ _ _ _
      | exact bound_Release.mono _ _ _ _ _ _ _ _
      | exact bound_Visit.mono _ _ _ _ _ _ _ _
      | exact bound_Window.mono _ _ _ _ _ _ _ _ _
      | exact hatstandlaw21_shown.mono _
      | exact LeO.none _
      | refine LeO.ite ?_ ?_
      | refine LeO.bind ?_ (fun _ => ?_)
set_option maxHeartbeats 8000000 in
set_option maxRecDepth 100000 in
theorem hatstandlaw21_BoundTells.calls (k : Nat) (a0_0 : Int) (a0_1 : Int) (a0_2 : Int) (a0_3 : Int) (a0_4 : Int) (a0_5 : Int) (a0_6 : Int) (a1 : Int) (r : Bool) (w : World) (h : hatstandlaw21_BoundTells.f k a0_0 a0_1 a0_2 a0_3 a0_4 a0_5 a0_6 a1 = some r) :
    Calls Try.prog 5 #[.agg #[.int .i64 a0_0, .int .i64 a0_1, .int .i64 a0_2, .int .u32 a0_3, .int .i64 a0_4, .int .i64 a0_5, .int .u64 a0_6], .int .i64 a1] w fun e w' => e = .returned (.bool r) ∧ Below w.heap.size w w' := by
  have hu35 := Try.underlying35
  have HB := Aside0.mk (Below.refl w.heap.size w)
  have H : ((hatstandlaw21_shown.f k).bind fun t174 => (if t174 = true then (hatstandlaw21_BoundTells.j0 k a1 t174 (decide (a1 > 1073741824)) a0_0 a0_1 a0_2 a0_3 a0_4 a0_5 a0_6) else (hatstandlaw21_BoundTells.j0 k a1 t174 true a0_0 a0_1 a0_2 a0_3 a0_4 a0_5 a0_6))) = some r := h
  clear h
  replace H := Option.bind_eq_some_iff.mp H
  obtain ⟨t174, A30, H⟩ := H
  replace H : (if t174 = true then (hatstandlaw21_BoundTells.j0 k a1 t174 (decide (a1 > 1073741824)) a0_0 a0_1 a0_2 a0_3 a0_4 a0_5 a0_6) else (hatstandlaw21_BoundTells.j0 k a1 t174 true a0_0 a0_1 a0_2 a0_3 a0_4 a0_5 a0_6)) = some r := H
  have A3 := Aside0.mk A30
  clear A30
  have HC4 := Aside0.mk H
  clear H
  go_enter Try.func5, Try.ntmps5
  go_upto_region 2 with (first | ((with_reducible refine gate_dst (N := 2) rfl ?_); refine box_event ?hg (N := 2) ?hd (cs := #[.int .i64 a0_0, .int .i64 a0_1, .int .i64 a0_2, .int .u32 a0_3, .int .i64 a0_4, .int .i64 a0_5, .int .u64 a0_6]) (t := 35) ?hr ?_; (case hd => rfl); (case hg => rfl); (case hr => first | (go_simp; done) | (go_simp; rfl)); intro gb173 hg w5 hbox hb; have n0_ := Aside0.mk (below_step (by repeat (first | (with_reducible first | exact HB.out | apply below_alloc | apply pw_below_drewN | apply below_drew1) | exact HB.out)) hb); have n1_ := Aside0.mk (hbox); have n2_ := Aside0.mk ((by rw [hg]; exact (below_size (by repeat (first | (with_reducible first | exact HB.out | apply below_alloc | apply pw_below_drewN | apply below_drew1) | exact HB.out))) : w.heap.size ≤ gb173)); have n3_ := Aside0.mk ((by rw [hg]; exact (below_size (by repeat (first | (with_reducible first | exact HB.out | apply below_alloc | apply pw_below_drewN | apply below_drew1) | exact HB.out))) : w.heap.size ≤ gb173)); clear HB; have HB := n0_; have BK173 := n1_; have GW173 := n2_; have GE173 := n3_; clear n0_ n1_ n2_ n3_; clear hb hbox hg) | ((with_reducible refine gate_callee (f := 20) rfl ?_); refine goesL_ (some 12) rfl rfl Try.func20 (by kernel_rfl) rfl #[] rfl (by (try simp only [List.map_toArray, List.map_cons, List.map_nil]); first | done | rfl | (simp only [List.length_drop, List.length_take]; rfl)) ?_; (with_reducible refine (hatstandlaw21_shown.calls k  t174 _ A3.out).mono ?_); rintro e w6 ⟨rfl, hb⟩; refine ⟨_, rfl, ?_⟩; have n0_ := Aside0.mk (blk_below (g := gb173) (o := .cells #[.int .i64 a0_0, .int .i64 a0_1, .int .i64 a0_2, .int .u32 a0_3, .int .i64 a0_4, .int .i64 a0_5, .int .u64 a0_6] 35 (0, 0)) (by (with_reducible repeat (first | refine blk_drewN ?_ _ | refine blk_drew ?_ | refine blk_alloc ?_ _)); exact BK173.out) hb); have n1_ := Aside0.mk (below_step (by repeat (first | (with_reducible first | exact HB.out | apply below_alloc | apply pw_below_drewN | apply below_drew1 | refine below_set ?_ GE173.out) | exact HB.out)) hb); clear BK173; clear HB; have BK173 := n0_; have HB := n1_; clear n0_ n1_; (try clear hb); (try clear hb2); (try clear hk); (try clear hi)))
  (try simp only [Act.put, List.setIfInBounds_toArray, List.set_cons_zero, List.set_cons_succ])
  go_cut [18] (fun v18 wc => ∃ (kq : Nat) (x18_3 : Bool), v18 = .bool x18_3 ∧ Aside0 (hatstandlaw21_BoundTells.j0 kq a1 t174 x18_3 a0_0 a0_1 a0_2 a0_3 a0_4 a0_5 a0_6 = some r) ∧ Aside0 (kq ≤ k) ∧ Aside0 (wc.heap[gb173]? = some (.cells #[.int .i64 a0_0, .int .i64 a0_1, .int .i64 a0_2, .int .u32 a0_3, .int .i64 a0_4, .int .i64 a0_5, .int .u64 a0_6] 35 (0, 0))) ∧ Aside0 (Below w.heap.size w wc))
  case first =>
    have H := HC4.out
    clear HC4
    by_cases c7 : t174 = true
    · subst c7
      have H1 : (hatstandlaw21_BoundTells.j0 k a1 true (decide (a1 > 1073741824)) a0_0 a0_1 a0_2 a0_3 a0_4 a0_5 a0_6) = some r := by rw [if_pos rfl] at H; exact H
      clear H
      have H := H1
      clear H1
      have H' := Aside0.mk H
      clear H
      go_wp2
      go_meet
      case rel => exact ⟨_, (decide (a1 > 1073741824)), (by first | rfl | (simp; done) | (simp [*]; done)), H', ⟨by first | omega | exact Nat.le_refl _⟩, ⟨by (with_reducible repeat (first | refine blk_drewN ?_ _ | refine blk_drew ?_ | refine blk_alloc ?_ _)); exact BK173.out⟩, ⟨by repeat (first | (with_reducible first | exact HB.out | apply below_alloc | apply pw_below_drewN | apply below_drew1 | refine below_set ?_ GE173.out) | exact HB.out)⟩⟩
    · replace c7 := Bool.eq_false_iff.mpr c7
      subst c7
      have H1 : (hatstandlaw21_BoundTells.j0 k a1 false true a0_0 a0_1 a0_2 a0_3 a0_4 a0_5 a0_6) = some r := by rw [if_neg (show ¬ (false = true) by decide)] at H; exact H
      clear H
      have H := H1
      clear H1
      have H' := Aside0.mk H
      clear H
      go_wp2
      go_meet
      case rel => exact ⟨_, (true), (by first | rfl | (simp; done) | (simp [*]; done)), H', ⟨by first | omega | exact Nat.le_refl _⟩, ⟨by (with_reducible repeat (first | refine blk_drewN ?_ _ | refine blk_drew ?_ | refine blk_alloc ?_ _)); exact BK173.out⟩, ⟨by repeat (first | (with_reducible first | exact HB.out | apply below_alloc | apply pw_below_drewN | apply below_drew1 | refine below_set ?_ GE173.out) | exact HB.out)⟩⟩
  case rest =>
    clear HC4
    try clear c2
    try clear p2
    try clear c5
    try clear c7
    obtain ⟨kq, x18_3, rfl, HA, HJ3, BK173, HB⟩ := hcut
    cases kq with
    | zero => exact absurd HA.out (by simp [hatstandlaw21_BoundTells.j0])
    | succ kj3 =>
      have H := HA.out
      clear HA
      simp only [hatstandlaw21_BoundTells.j0] at H
      by_cases c8 : x18_3 = true
      · subst c8
        have H1 : (some t174) = some r := by rw [if_pos rfl] at H; exact H
        clear H
        have H := H1
        clear H1
        obtain rfl := Option.some.inj H
        go_wp2
        go_ret
        exact ⟨by first | rfl | (simp [errW_none, errW_some] <;> rfl) | (simp [*, errW_none, errW_some] <;> rfl), by repeat (first | (with_reducible first | exact HB.out | apply below_alloc | apply pw_below_drewN | apply below_drew1 | refine below_set ?_ GE173.out) | exact HB.out)⟩
      · replace c8 := Bool.eq_false_iff.mpr c8
        subst c8
        have H1 : ((ebstack_Check.f a0_0 a0_1 a0_2 a0_3 a0_4 a0_5 a0_6).bind fun t175 => (if t175 = 0 then (if a0_1 > 0 then (hatstandlaw21_BoundTells.j1 kj3 a1 (wrap64 (a0_4 + 1)) 69 a0_0 a0_1 a0_2 a0_3 a0_4 a0_5 a0_6) else (hatstandlaw21_BoundTells.j1 kj3 a1 (wrap64 (a0_4 + 1)) 0 a0_0 a0_1 a0_2 a0_3 a0_4 a0_5 a0_6)) else ((bound_Visit.f kj3 a0_0 a0_1 a0_2 a0_3 a0_4 a0_5 a0_6).bind fun t176 => (if t176 = 0 then ((bound_Push.f kj3 a0_0 a0_1 a0_2 a0_3 a0_4 a0_5 a0_6).bind fun t177 => (if t177 = 0 then ((bound_Pop.f kj3 a0_0 a0_1 a0_2 a0_3 a0_4 a0_5 a0_6).bind fun t178 => (if t178 = 0 then ((bound_Acquire.f kj3 a0_0 a0_1 a0_2 a0_3 a0_4 a0_5 a0_6).bind fun t179 => (if t179 = 0 then ((bound_Release.f kj3 a0_0 a0_1 a0_2 a0_3 a0_4 a0_5 a0_6).bind fun t180 => (if t180 = 0 then ((bound_Window.f kj3 a0_0 a0_1 a0_2 a0_3 a0_4 a0_5 a0_6 a1).bind fun t181 => (some (t181 == 0))) else (some false))) else (some false))) else (some false))) else (some false))) else (some false))))) = some r := by rw [if_neg (show ¬ (false = true) by decide)] at H; exact H
        clear H
        have H := H1
        clear H1
        replace H := Option.bind_eq_some_iff.mp H
        obtain ⟨t175, A90, H⟩ := H
        replace H : (if t175 = 0 then (if a0_1 > 0 then (hatstandlaw21_BoundTells.j1 kj3 a1 (wrap64 (a0_4 + 1)) 69 a0_0 a0_1 a0_2 a0_3 a0_4 a0_5 a0_6) else (hatstandlaw21_BoundTells.j1 kj3 a1 (wrap64 (a0_4 + 1)) 0 a0_0 a0_1 a0_2 a0_3 a0_4 a0_5 a0_6)) else ((bound_Visit.f kj3 a0_0 a0_1 a0_2 a0_3 a0_4 a0_5 a0_6).bind fun t176 => (if t176 = 0 then ((bound_Push.f kj3 a0_0 a0_1 a0_2 a0_3 a0_4 a0_5 a0_6).bind fun t177 => (if t177 = 0 then ((bound_Pop.f kj3 a0_0 a0_1 a0_2 a0_3 a0_4 a0_5 a0_6).bind fun t178 => (if t178 = 0 then ((bound_Acquire.f kj3 a0_0 a0_1 a0_2 a0_3 a0_4 a0_5 a0_6).bind fun t179 => (if t179 = 0 then ((bound_Release.f kj3 a0_0 a0_1 a0_2 a0_3 a0_4 a0_5 a0_6).bind fun t180 => (if t180 = 0 then ((bound_Window.f kj3 a0_0 a0_1 a0_2 a0_3 a0_4 a0_5 a0_6 a1).bind fun t181 => (some (t181 == 0))) else (some false))) else (some false))) else (some false))) else (some false))) else (some false)))) = some r := H
        have A9 := Aside0.mk A90
        clear A90
        by_cases c10 : t175 = 0
        · rw [if_pos c10] at H
          have c10b0 : (t175 == 0) = true := beq_iff_eq.mpr c10
          have c10b1 : (t175 != 0) = false := bne_eq_false_iff_eq.mpr c10
          clear c10
          have HC11 := Aside0.mk H
          clear H
          have hcz12_0 : wc.cell? ⟨gb173, 0, none⟩ = some (.int .i64 a0_0) := (blk_cell BK173.out 0).trans rfl
          have hcz12_1 : wc.cell? ⟨gb173, 1, none⟩ = some (.int .i64 a0_1) := (blk_cell BK173.out 1).trans rfl
          have hcz12_2 : wc.cell? ⟨gb173, 2, none⟩ = some (.int .i64 a0_2) := (blk_cell BK173.out 2).trans rfl
          have hcz12_3 : wc.cell? ⟨gb173, 3, none⟩ = some (.int .u32 a0_3) := (blk_cell BK173.out 3).trans rfl
          have hcz12_4 : wc.cell? ⟨gb173, 4, none⟩ = some (.int .i64 a0_4) := (blk_cell BK173.out 4).trans rfl
          have hcz12_5 : wc.cell? ⟨gb173, 5, none⟩ = some (.int .i64 a0_5) := (blk_cell BK173.out 5).trans rfl
          have hcz12_6 : wc.cell? ⟨gb173, 6, none⟩ = some (.int .u64 a0_6) := (blk_cell BK173.out 6).trans rfl
          have hfz12_0 := blk_frozen BK173.out 0
          have hfz12_1 := blk_frozen BK173.out 1
          have hfz12_2 := blk_frozen BK173.out 2
          have hfz12_3 := blk_frozen BK173.out 3
          have hfz12_4 := blk_frozen BK173.out 4
          have hfz12_5 := blk_frozen BK173.out 5
          have hfz12_6 := blk_frozen BK173.out 6
          go_upto_if 58 with (first | ((with_reducible refine gate_callee (f := 21) rfl ?_); refine goesL_ (some 21) rfl rfl Try.func21 (by kernel_rfl) rfl #[.agg #[.int .i64 a0_0, .int .i64 a0_1, .int .i64 a0_2, .int .u32 a0_3, .int .i64 a0_4, .int .i64 a0_5, .int .u64 a0_6]] rfl (by (try simp only [List.map_toArray, List.map_cons, List.map_nil]); first | done | rfl | (simp only [List.length_drop, List.length_take]; rfl)) ?_; (with_reducible refine (ebstack_Check.calls a0_0 a0_1 a0_2 a0_3 a0_4 a0_5 a0_6 t175 _ A9.out).mono ?_); rintro e w13 ⟨rfl, hb⟩; refine ⟨_, rfl, ?_⟩; have n0_ := Aside0.mk (blk_below (g := gb173) (o := .cells #[.int .i64 a0_0, .int .i64 a0_1, .int .i64 a0_2, .int .u32 a0_3, .int .i64 a0_4, .int .i64 a0_5, .int .u64 a0_6] 35 (0, 0)) (by (with_reducible repeat (first | refine blk_drewN ?_ _ | refine blk_drew ?_ | refine blk_alloc ?_ _)); exact BK173.out) hb); have n1_ := Aside0.mk (below_step (by repeat (first | (with_reducible first | exact HB.out | apply below_alloc | apply pw_below_drewN | apply below_drew1 | refine below_set ?_ GE173.out) | exact HB.out)) hb); clear BK173; clear HB; have BK173 := n0_; have HB := n1_; clear n0_ n1_; (try clear hb); (try clear hb2); (try clear hk); (try clear hi); have hcz14_0 : w13.cell? ⟨gb173, 0, none⟩ = some (.int .i64 a0_0) := (blk_cell BK173.out 0).trans rfl; have hcz14_1 : w13.cell? ⟨gb173, 1, none⟩ = some (.int .i64 a0_1) := (blk_cell BK173.out 1).trans rfl; have hcz14_2 : w13.cell? ⟨gb173, 2, none⟩ = some (.int .i64 a0_2) := (blk_cell BK173.out 2).trans rfl; have hcz14_3 : w13.cell? ⟨gb173, 3, none⟩ = some (.int .u32 a0_3) := (blk_cell BK173.out 3).trans rfl; have hcz14_4 : w13.cell? ⟨gb173, 4, none⟩ = some (.int .i64 a0_4) := (blk_cell BK173.out 4).trans rfl; have hcz14_5 : w13.cell? ⟨gb173, 5, none⟩ = some (.int .i64 a0_5) := (blk_cell BK173.out 5).trans rfl; have hcz14_6 : w13.cell? ⟨gb173, 6, none⟩ = some (.int .u64 a0_6) := (blk_cell BK173.out 6).trans rfl; have hfz14_0 := blk_frozen BK173.out 0; have hfz14_1 := blk_frozen BK173.out 1; have hfz14_2 := blk_frozen BK173.out 2; have hfz14_3 := blk_frozen BK173.out 3; have hfz14_4 := blk_frozen BK173.out 4; have hfz14_5 := blk_frozen BK173.out 5; have hfz14_6 := blk_frozen BK173.out 6))
          (try simp only [Act.put, List.setIfInBounds_toArray, List.set_cons_zero, List.set_cons_succ])
          go_cut [7] (fun v7 wc => ∃ (kq : Nat) (x7_10 : Int), v7 = .int .i64 x7_10 ∧ Aside0 (hatstandlaw21_BoundTells.j1 kq a1 (wrap64 (a0_4 + 1)) x7_10 a0_0 a0_1 a0_2 a0_3 a0_4 a0_5 a0_6 = some r) ∧ Aside0 (kq ≤ kj3) ∧ Aside0 (wc.heap[gb173]? = some (.cells #[.int .i64 a0_0, .int .i64 a0_1, .int .i64 a0_2, .int .u32 a0_3, .int .i64 a0_4, .int .i64 a0_5, .int .u64 a0_6] 35 (0, 0))) ∧ Aside0 (Below w.heap.size w wc))
          case first =>
            have H := HC11.out
            clear HC11
            by_cases c15 : a0_1 > 0
            · rw [if_pos c15] at H
              have c15b0 : decide (0 < a0_1) = true := decide_eq_true c15
              clear c15
              (first | rw [c15b0] | (simp only [i64_w, i32_w]; rw [c15b0]) | skip)
              have H' := Aside0.mk H
              clear H
              go_wp2
              go_meet
              case rel => exact ⟨_, (69), (by first | rfl | (simp; done) | (simp [*]; done)), H', ⟨by have := HJ3.out; first | omega | exact Nat.le_refl _⟩, ⟨by (with_reducible repeat (first | refine blk_drewN ?_ _ | refine blk_drew ?_ | refine blk_alloc ?_ _)); exact BK173.out⟩, ⟨by repeat (first | (with_reducible first | exact HB.out | apply below_alloc | apply pw_below_drewN | apply below_drew1 | refine below_set ?_ GE173.out) | exact HB.out)⟩⟩
            · rw [if_neg c15] at H
              have c15b0 : decide (0 < a0_1) = false := decide_eq_false c15
              clear c15
              (first | rw [c15b0] | (simp only [i64_w, i32_w]; rw [c15b0]) | skip)
              have H' := Aside0.mk H
              clear H
              go_wp2
              go_meet
              case rel => exact ⟨_, (0), (by first | rfl | (simp; done) | (simp [*]; done)), H', ⟨by have := HJ3.out; first | omega | exact Nat.le_refl _⟩, ⟨by (with_reducible repeat (first | refine blk_drewN ?_ _ | refine blk_drew ?_ | refine blk_alloc ?_ _)); exact BK173.out⟩, ⟨by repeat (first | (with_reducible first | exact HB.out | apply below_alloc | apply pw_below_drewN | apply below_drew1 | refine below_set ?_ GE173.out) | exact HB.out)⟩⟩
          case rest =>
            clear HC11
            try clear c1
            try clear c2
            try clear p2
            try clear c5
            try clear p6
            try clear c7
            try clear c8
            try clear c10
            try clear c10b0
            try clear c10b1
            try clear c15
            try clear c15b0
            try clear hcz12_0
            try clear hcz12_1
            try clear hcz12_2
            try clear hcz12_3
            try clear hcz12_4
            try clear hcz12_5
            try clear hcz12_6
            try clear hcz14_0
            try clear hcz14_1
            try clear hcz14_2
            try clear hcz14_3
            try clear hcz14_4
            try clear hcz14_5
            try clear hcz14_6
            try clear hfz12_0
            try clear hfz12_1
            try clear hfz12_2
            try clear hfz12_3
            try clear hfz12_4
            try clear hfz12_5
            try clear hfz12_6
            try clear hfz14_0
            try clear hfz14_1
            try clear hfz14_2
            try clear hfz14_3
            try clear hfz14_4
            try clear hfz14_5
            try clear hfz14_6
            try clear p2
            obtain ⟨kq, x7_10, rfl, HA, HJ10, BK173, HB⟩ := hcut
            cases kq with
            | zero => exact absurd HA.out (by simp [hatstandlaw21_BoundTells.j1])
            | succ kj10 =>
              have H := HA.out
              clear HA
              simp only [hatstandlaw21_BoundTells.j1] at H
              have HC16 := Aside0.mk H
              clear H
              have hcz17_0 : wc.cell? ⟨gb173, 0, none⟩ = some (.int .i64 a0_0) := (blk_cell BK173.out 0).trans rfl
              have hcz17_1 : wc.cell? ⟨gb173, 1, none⟩ = some (.int .i64 a0_1) := (blk_cell BK173.out 1).trans rfl
              have hcz17_2 : wc.cell? ⟨gb173, 2, none⟩ = some (.int .i64 a0_2) := (blk_cell BK173.out 2).trans rfl
              have hcz17_3 : wc.cell? ⟨gb173, 3, none⟩ = some (.int .u32 a0_3) := (blk_cell BK173.out 3).trans rfl
              have hcz17_4 : wc.cell? ⟨gb173, 4, none⟩ = some (.int .i64 a0_4) := (blk_cell BK173.out 4).trans rfl
              have hcz17_5 : wc.cell? ⟨gb173, 5, none⟩ = some (.int .i64 a0_5) := (blk_cell BK173.out 5).trans rfl
              have hcz17_6 : wc.cell? ⟨gb173, 6, none⟩ = some (.int .u64 a0_6) := (blk_cell BK173.out 6).trans rfl
              have hfz17_0 := blk_frozen BK173.out 0
              have hfz17_1 := blk_frozen BK173.out 1
              have hfz17_2 := blk_frozen BK173.out 2
              have hfz17_3 := blk_frozen BK173.out 3
              have hfz17_4 := blk_frozen BK173.out 4
              have hfz17_5 := blk_frozen BK173.out 5
              have hfz17_6 := blk_frozen BK173.out 6
              go_upto_if 79 with (fail)
              go_cut [10] (fun v10 wc => ∃ (kq : Nat) (x10_15 : Int), v10 = .int .i64 x10_15 ∧ Aside0 (hatstandlaw21_BoundTells.j2 kq a1 x7_10 (wrap64 ((wrap64 ((wrap64 (9 * (wrap64 (a0_4 + 1)))) + 1)) + (wrap64 (a0_4 * x7_10)))) (wrap64 ((wrap64 ((wrap64 (6 * (wrap64 (a0_4 + 1)))) + 1)) + (wrap64 (a0_4 * x7_10)))) x10_15 a0_0 a0_1 a0_2 a0_3 a0_4 a0_5 a0_6 = some r) ∧ Aside0 (kq ≤ kj10) ∧ Aside0 (wc.heap[gb173]? = some (.cells #[.int .i64 a0_0, .int .i64 a0_1, .int .i64 a0_2, .int .u32 a0_3, .int .i64 a0_4, .int .i64 a0_5, .int .u64 a0_6] 35 (0, 0))) ∧ Aside0 (Below w.heap.size w wc))
              case first =>
                have H := HC16.out
                clear HC16
                by_cases c18 : a0_2 > 0
                · rw [if_pos c18] at H
                  have c18b0 : decide (0 < a0_2) = true := decide_eq_true c18
                  clear c18
                  (first | rw [c18b0] | (simp only [i64_w, i32_w]; rw [c18b0]) | skip)
                  have H' := Aside0.mk H
                  clear H
                  go_wp2
                  go_meet
                  case rel => exact ⟨_, (wrap64 ((wrap64 ((wrap64 ((wrap64 (9 * (wrap64 (a0_4 + 1)))) + 1)) + (wrap64 (a0_4 * x7_10)))) + 3)), (by first | rfl | (simp; done) | (simp [*]; done)), H', ⟨by have := HJ3.out; have := HJ10.out; first | omega | exact Nat.le_refl _⟩, ⟨by (with_reducible repeat (first | refine blk_drewN ?_ _ | refine blk_drew ?_ | refine blk_alloc ?_ _)); exact BK173.out⟩, ⟨by repeat (first | (with_reducible first | exact HB.out | apply below_alloc | apply pw_below_drewN | apply below_drew1 | refine below_set ?_ GE173.out) | exact HB.out)⟩⟩
                · rw [if_neg c18] at H
                  have c18b0 : decide (0 < a0_2) = false := decide_eq_false c18
                  clear c18
                  (first | rw [c18b0] | (simp only [i64_w, i32_w]; rw [c18b0]) | skip)
                  have H' := Aside0.mk H
                  clear H
                  go_wp2
                  go_meet
                  case rel => exact ⟨_, (wrap64 ((wrap64 ((wrap64 (9 * (wrap64 (a0_4 + 1)))) + 1)) + (wrap64 (a0_4 * x7_10)))), (by first | rfl | (simp; done) | (simp [*]; done)), H', ⟨by have := HJ3.out; have := HJ10.out; first | omega | exact Nat.le_refl _⟩, ⟨by (with_reducible repeat (first | refine blk_drewN ?_ _ | refine blk_drew ?_ | refine blk_alloc ?_ _)); exact BK173.out⟩, ⟨by repeat (first | (with_reducible first | exact HB.out | apply below_alloc | apply pw_below_drewN | apply below_drew1 | refine below_set ?_ GE173.out) | exact HB.out)⟩⟩
              case rest =>
                clear HC16
                try clear c1
                try clear c2
                try clear p2
                try clear c5
                try clear p6
                try clear c7
                try clear c8
                try clear c10
                try clear c10b0
                try clear c10b1
                try clear c15
                try clear c15b0
                try clear c18
                try clear c18b0
                try clear hcz12_0
                try clear hcz12_1
                try clear hcz12_2
                try clear hcz12_3
                try clear hcz12_4
                try clear hcz12_5
                try clear hcz12_6
                try clear hcz14_0
                try clear hcz14_1
                try clear hcz14_2
                try clear hcz14_3
                try clear hcz14_4
                try clear hcz14_5
                try clear hcz14_6
                try clear hcz17_0
                try clear hcz17_1
                try clear hcz17_2
                try clear hcz17_3
                try clear hcz17_4
                try clear hcz17_5
                try clear hcz17_6
                try clear hfz12_0
                try clear hfz12_1
                try clear hfz12_2
                try clear hfz12_3
                try clear hfz12_4
                try clear hfz12_5
                try clear hfz12_6
                try clear hfz14_0
                try clear hfz14_1
                try clear hfz14_2
                try clear hfz14_3
                try clear hfz14_4
                try clear hfz14_5
                try clear hfz14_6
                try clear hfz17_0
                try clear hfz17_1
                try clear hfz17_2
                try clear hfz17_3
                try clear hfz17_4
                try clear hfz17_5
                try clear hfz17_6
                try clear p2
                try clear p6
                obtain ⟨kq, x10_15, rfl, HA, HJ15, BK173, HB⟩ := hcut
                cases kq with
                | zero => exact absurd HA.out (by simp [hatstandlaw21_BoundTells.j2])
                | succ kj15 =>
                  have H := HA.out
                  clear HA
                  simp only [hatstandlaw21_BoundTells.j2] at H
                  have HC19 := Aside0.mk H
                  clear H
                  go_upto_if 84 with (fail)
                  go_cut [11] (fun v11 wc => ∃ (kq : Nat) (x11_18 : Int), v11 = .int .i64 x11_18 ∧ Aside0 (hatstandlaw21_BoundTells.j3 kq a1 x7_10 (wrap64 ((wrap64 ((wrap64 (9 * (wrap64 (a0_4 + 1)))) + 1)) + (wrap64 (a0_4 * x7_10)))) (wrap64 ((wrap64 ((wrap64 (6 * (wrap64 (a0_4 + 1)))) + 1)) + (wrap64 (a0_4 * x7_10)))) x10_15 x11_18 a0_0 a0_1 a0_2 a0_3 a0_4 a0_5 a0_6 = some r) ∧ Aside0 (kq ≤ kj15) ∧ Aside0 (wc.heap[gb173]? = some (.cells #[.int .i64 a0_0, .int .i64 a0_1, .int .i64 a0_2, .int .u32 a0_3, .int .i64 a0_4, .int .i64 a0_5, .int .u64 a0_6] 35 (0, 0))) ∧ Aside0 (Below w.heap.size w wc))
                  case first =>
                    have H := HC19.out
                    clear HC19
                    by_cases c20 : a1 < 0
                    · rw [if_pos c20] at H
                      have c20b0 : decide (a1 < 0) = true := decide_eq_true c20
                      clear c20
                      (first | rw [c20b0] | (simp only [i64_w, i32_w]; rw [c20b0]) | skip)
                      have H' := Aside0.mk H
                      clear H
                      go_wp2
                      go_meet
                      case rel => exact ⟨_, (0), (by first | rfl | (simp; done) | (simp [*]; done)), H', ⟨by have := HJ3.out; have := HJ10.out; have := HJ15.out; first | omega | exact Nat.le_refl _⟩, ⟨by (with_reducible repeat (first | refine blk_drewN ?_ _ | refine blk_drew ?_ | refine blk_alloc ?_ _)); exact BK173.out⟩, ⟨by repeat (first | (with_reducible first | exact HB.out | apply below_alloc | apply pw_below_drewN | apply below_drew1 | refine below_set ?_ GE173.out) | exact HB.out)⟩⟩
                    · rw [if_neg c20] at H
                      have c20b0 : decide (a1 < 0) = false := decide_eq_false c20
                      clear c20
                      (first | rw [c20b0] | (simp only [i64_w, i32_w]; rw [c20b0]) | skip)
                      have H' := Aside0.mk H
                      clear H
                      go_wp2
                      go_meet
                      case rel => exact ⟨_, (a1), (by first | rfl | (simp; done) | (simp [*]; done)), H', ⟨by have := HJ3.out; have := HJ10.out; have := HJ15.out; first | omega | exact Nat.le_refl _⟩, ⟨by (with_reducible repeat (first | refine blk_drewN ?_ _ | refine blk_drew ?_ | refine blk_alloc ?_ _)); exact BK173.out⟩, ⟨by repeat (first | (with_reducible first | exact HB.out | apply below_alloc | apply pw_below_drewN | apply below_drew1 | refine below_set ?_ GE173.out) | exact HB.out)⟩⟩
                  case rest =>
                    clear HC19
                    try clear c1
                    try clear c2
                    try clear p2
                    try clear c5
                    try clear p6
                    try clear c7
                    try clear c8
                    try clear c10
                    try clear c10b0
                    try clear c10b1
                    try clear c15
                    try clear c15b0
                    try clear c18
                    try clear c18b0
                    try clear c20
                    try clear c20b0
                    try clear hcz12_0
                    try clear hcz12_1
                    try clear hcz12_2
                    try clear hcz12_3
                    try clear hcz12_4
                    try clear hcz12_5
                    try clear hcz12_6
                    try clear hcz14_0
                    try clear hcz14_1
                    try clear hcz14_2
                    try clear hcz14_3
                    try clear hcz14_4
                    try clear hcz14_5
                    try clear hcz14_6
                    try clear hcz17_0
                    try clear hcz17_1
                    try clear hcz17_2
                    try clear hcz17_3
                    try clear hcz17_4
                    try clear hcz17_5
                    try clear hcz17_6
                    try clear hfz12_0
                    try clear hfz12_1
                    try clear hfz12_2
                    try clear hfz12_3
                    try clear hfz12_4
                    try clear hfz12_5
                    try clear hfz12_6
                    try clear hfz14_0
                    try clear hfz14_1
                    try clear hfz14_2
                    try clear hfz14_3
                    try clear hfz14_4
                    try clear hfz14_5
                    try clear hfz14_6
                    try clear hfz17_0
                    try clear hfz17_1
                    try clear hfz17_2
                    try clear hfz17_3
                    try clear hfz17_4
                    try clear hfz17_5
                    try clear hfz17_6
                    try clear p2
                    try clear p6
                    obtain ⟨kq, x11_18, rfl, HA, HJ18, BK173, HB⟩ := hcut
                    cases kq with
                    | zero => exact absurd HA.out (by simp [hatstandlaw21_BoundTells.j3])
                    | succ kj18 =>
                      have H := HA.out
                      clear HA
                      simp only [hatstandlaw21_BoundTells.j3] at H
                      replace H := Option.bind_eq_some_iff.mp H
                      obtain ⟨t182, A210, H⟩ := H
                      replace H : (if t182 = x7_10 then ((bound_Push.f kj18 a0_0 a0_1 a0_2 a0_3 a0_4 a0_5 a0_6).bind fun t183 => (if t183 = (wrap64 ((wrap64 ((wrap64 (9 * (wrap64 (a0_4 + 1)))) + 1)) + (wrap64 (a0_4 * x7_10)))) then ((bound_Pop.f kj18 a0_0 a0_1 a0_2 a0_3 a0_4 a0_5 a0_6).bind fun t184 => (if t184 = (wrap64 ((wrap64 ((wrap64 (6 * (wrap64 (a0_4 + 1)))) + 1)) + (wrap64 (a0_4 * x7_10)))) then ((bound_Acquire.f kj18 a0_0 a0_1 a0_2 a0_3 a0_4 a0_5 a0_6).bind fun t185 => (if t185 = (wrap64 ((wrap64 ((wrap64 ((wrap64 (6 * (wrap64 (a0_4 + 1)))) + 1)) + (wrap64 (a0_4 * x7_10)))) + 1)) then ((bound_Release.f kj18 a0_0 a0_1 a0_2 a0_3 a0_4 a0_5 a0_6).bind fun t186 => (if t186 = (wrap64 ((wrap64 ((wrap64 ((wrap64 (9 * (wrap64 (a0_4 + 1)))) + 1)) + (wrap64 (a0_4 * x7_10)))) + 3)) then ((bound_Window.f kj18 a0_0 a0_1 a0_2 a0_3 a0_4 a0_5 a0_6 a1).bind fun t187 => (some (t187 == (wrap64 (x11_18 * x10_15))))) else (some false))) else (some false))) else (some false))) else (some false))) else (some false)) = some r := H
                      have A21 := Aside0.mk A210
                      clear A210
                      by_cases c22 : t182 = x7_10
                      · rw [if_pos c22] at H
                        have c22b0 : (t182 == x7_10) = true := beq_iff_eq.mpr c22
                        have c22b1 : (t182 != x7_10) = false := bne_eq_false_iff_eq.mpr c22
                        clear c22
                        replace H := Option.bind_eq_some_iff.mp H
                        obtain ⟨t183, A230, H⟩ := H
                        replace H : (if t183 = (wrap64 ((wrap64 ((wrap64 (9 * (wrap64 (a0_4 + 1)))) + 1)) + (wrap64 (a0_4 * x7_10)))) then ((bound_Pop.f kj18 a0_0 a0_1 a0_2 a0_3 a0_4 a0_5 a0_6).bind fun t184 => (if t184 = (wrap64 ((wrap64 ((wrap64 (6 * (wrap64 (a0_4 + 1)))) + 1)) + (wrap64 (a0_4 * x7_10)))) then ((bound_Acquire.f kj18 a0_0 a0_1 a0_2 a0_3 a0_4 a0_5 a0_6).bind fun t185 => (if t185 = (wrap64 ((wrap64 ((wrap64 ((wrap64 (6 * (wrap64 (a0_4 + 1)))) + 1)) + (wrap64 (a0_4 * x7_10)))) + 1)) then ((bound_Release.f kj18 a0_0 a0_1 a0_2 a0_3 a0_4 a0_5 a0_6).bind fun t186 => (if t186 = (wrap64 ((wrap64 ((wrap64 ((wrap64 (9 * (wrap64 (a0_4 + 1)))) + 1)) + (wrap64 (a0_4 * x7_10)))) + 3)) then ((bound_Window.f kj18 a0_0 a0_1 a0_2 a0_3 a0_4 a0_5 a0_6 a1).bind fun t187 => (some (t187 == (wrap64 (x11_18 * x10_15))))) else (some false))) else (some false))) else (some false))) else (some false)) = some r := H
                        have A23 := Aside0.mk A230
                        clear A230
                        by_cases c24 : t183 = (wrap64 ((wrap64 ((wrap64 (9 * (wrap64 (a0_4 + 1)))) + 1)) + (wrap64 (a0_4 * x7_10))))
                        · rw [if_pos c24] at H
                          have c24b0 : (t183 == (wrap64 ((wrap64 ((wrap64 (9 * (wrap64 (a0_4 + 1)))) + 1)) + (wrap64 (a0_4 * x7_10))))) = true := beq_iff_eq.mpr c24
                          have c24b1 : (t183 != (wrap64 ((wrap64 ((wrap64 (9 * (wrap64 (a0_4 + 1)))) + 1)) + (wrap64 (a0_4 * x7_10))))) = false := bne_eq_false_iff_eq.mpr c24
                          clear c24
                          replace H := Option.bind_eq_some_iff.mp H
                          obtain ⟨t184, A250, H⟩ := H
                          replace H : (if t184 = (wrap64 ((wrap64 ((wrap64 (6 * (wrap64 (a0_4 + 1)))) + 1)) + (wrap64 (a0_4 * x7_10)))) then ((bound_Acquire.f kj18 a0_0 a0_1 a0_2 a0_3 a0_4 a0_5 a0_6).bind fun t185 => (if t185 = (wrap64 ((wrap64 ((wrap64 ((wrap64 (6 * (wrap64 (a0_4 + 1)))) + 1)) + (wrap64 (a0_4 * x7_10)))) + 1)) then ((bound_Release.f kj18 a0_0 a0_1 a0_2 a0_3 a0_4 a0_5 a0_6).bind fun t186 => (if t186 = (wrap64 ((wrap64 ((wrap64 ((wrap64 (9 * (wrap64 (a0_4 + 1)))) + 1)) + (wrap64 (a0_4 * x7_10)))) + 3)) then ((bound_Window.f kj18 a0_0 a0_1 a0_2 a0_3 a0_4 a0_5 a0_6 a1).bind fun t187 => (some (t187 == (wrap64 (x11_18 * x10_15))))) else (some false))) else (some false))) else (some false)) = some r := H
                          have A25 := Aside0.mk A250
                          clear A250
                          by_cases c26 : t184 = (wrap64 ((wrap64 ((wrap64 (6 * (wrap64 (a0_4 + 1)))) + 1)) + (wrap64 (a0_4 * x7_10))))
                          · rw [if_pos c26] at H
                            have c26b0 : (t184 == (wrap64 ((wrap64 ((wrap64 (6 * (wrap64 (a0_4 + 1)))) + 1)) + (wrap64 (a0_4 * x7_10))))) = true := beq_iff_eq.mpr c26
                            have c26b1 : (t184 != (wrap64 ((wrap64 ((wrap64 (6 * (wrap64 (a0_4 + 1)))) + 1)) + (wrap64 (a0_4 * x7_10))))) = false := bne_eq_false_iff_eq.mpr c26
                            clear c26
                            replace H := Option.bind_eq_some_iff.mp H
                            obtain ⟨t185, A270, H⟩ := H
                            replace H : (if t185 = (wrap64 ((wrap64 ((wrap64 ((wrap64 (6 * (wrap64 (a0_4 + 1)))) + 1)) + (wrap64 (a0_4 * x7_10)))) + 1)) then ((bound_Release.f kj18 a0_0 a0_1 a0_2 a0_3 a0_4 a0_5 a0_6).bind fun t186 => (if t186 = (wrap64 ((wrap64 ((wrap64 ((wrap64 (9 * (wrap64 (a0_4 + 1)))) + 1)) + (wrap64 (a0_4 * x7_10)))) + 3)) then ((bound_Window.f kj18 a0_0 a0_1 a0_2 a0_3 a0_4 a0_5 a0_6 a1).bind fun t187 => (some (t187 == (wrap64 (x11_18 * x10_15))))) else (some false))) else (some false)) = some r := H
                            have A27 := Aside0.mk A270
                            clear A270
                            by_cases c28 : t185 = (wrap64 ((wrap64 ((wrap64 ((wrap64 (6 * (wrap64 (a0_4 + 1)))) + 1)) + (wrap64 (a0_4 * x7_10)))) + 1))
                            · rw [if_pos c28] at H
                              have c28b0 : (t185 == (wrap64 ((wrap64 ((wrap64 ((wrap64 (6 * (wrap64 (a0_4 + 1)))) + 1)) + (wrap64 (a0_4 * x7_10)))) + 1))) = true := beq_iff_eq.mpr c28
                              have c28b1 : (t185 != (wrap64 ((wrap64 ((wrap64 ((wrap64 (6 * (wrap64 (a0_4 + 1)))) + 1)) + (wrap64 (a0_4 * x7_10)))) + 1))) = false := bne_eq_false_iff_eq.mpr c28
                              clear c28
                              replace H := Option.bind_eq_some_iff.mp H
                              obtain ⟨t186, A290, H⟩ := H
                              replace H : (if t186 = (wrap64 ((wrap64 ((wrap64 ((wrap64 (9 * (wrap64 (a0_4 + 1)))) + 1)) + (wrap64 (a0_4 * x7_10)))) + 3)) then ((bound_Window.f kj18 a0_0 a0_1 a0_2 a0_3 a0_4 a0_5 a0_6 a1).bind fun t187 => (some (t187 == (wrap64 (x11_18 * x10_15))))) else (some false)) = some r := H
                              have A29 := Aside0.mk A290
                              clear A290
                              by_cases c30 : t186 = (wrap64 ((wrap64 ((wrap64 ((wrap64 (9 * (wrap64 (a0_4 + 1)))) + 1)) + (wrap64 (a0_4 * x7_10)))) + 3))
                              · rw [if_pos c30] at H
                                have c30b0 : (t186 == (wrap64 ((wrap64 ((wrap64 ((wrap64 (9 * (wrap64 (a0_4 + 1)))) + 1)) + (wrap64 (a0_4 * x7_10)))) + 3))) = true := beq_iff_eq.mpr c30
                                have c30b1 : (t186 != (wrap64 ((wrap64 ((wrap64 ((wrap64 (9 * (wrap64 (a0_4 + 1)))) + 1)) + (wrap64 (a0_4 * x7_10)))) + 3))) = false := bne_eq_false_iff_eq.mpr c30
                                clear c30
                                replace H := Option.bind_eq_some_iff.mp H
                                obtain ⟨t187, A310, H⟩ := H
                                replace H : (some (t187 == (wrap64 (x11_18 * x10_15)))) = some r := H
                                have A31 := Aside0.mk A310
                                clear A310
                                obtain rfl := Option.some.inj H
                                have hcz32_0 : wc.cell? ⟨gb173, 0, none⟩ = some (.int .i64 a0_0) := (blk_cell BK173.out 0).trans rfl
                                have hcz32_1 : wc.cell? ⟨gb173, 1, none⟩ = some (.int .i64 a0_1) := (blk_cell BK173.out 1).trans rfl
                                have hcz32_2 : wc.cell? ⟨gb173, 2, none⟩ = some (.int .i64 a0_2) := (blk_cell BK173.out 2).trans rfl
                                have hcz32_3 : wc.cell? ⟨gb173, 3, none⟩ = some (.int .u32 a0_3) := (blk_cell BK173.out 3).trans rfl
                                have hcz32_4 : wc.cell? ⟨gb173, 4, none⟩ = some (.int .i64 a0_4) := (blk_cell BK173.out 4).trans rfl
                                have hcz32_5 : wc.cell? ⟨gb173, 5, none⟩ = some (.int .i64 a0_5) := (blk_cell BK173.out 5).trans rfl
                                have hcz32_6 : wc.cell? ⟨gb173, 6, none⟩ = some (.int .u64 a0_6) := (blk_cell BK173.out 6).trans rfl
                                have hfz32_0 := blk_frozen BK173.out 0
                                have hfz32_1 := blk_frozen BK173.out 1
                                have hfz32_2 := blk_frozen BK173.out 2
                                have hfz32_3 := blk_frozen BK173.out 3
                                have hfz32_4 := blk_frozen BK173.out 4
                                have hfz32_5 := blk_frozen BK173.out 5
                                have hfz32_6 := blk_frozen BK173.out 6
                                go_wp2_with (first | ((with_reducible refine gate_callee (f := 22) rfl ?_); refine goesL_ (some 86) rfl rfl Try.func22 (by kernel_rfl) rfl #[.agg #[.int .i64 a0_0, .int .i64 a0_1, .int .i64 a0_2, .int .u32 a0_3, .int .i64 a0_4, .int .i64 a0_5, .int .u64 a0_6]] rfl (by (try simp only [List.map_toArray, List.map_cons, List.map_nil]); first | done | rfl | (simp only [List.length_drop, List.length_take]; rfl)) ?_; (with_reducible refine (bound_Visit.calls kj18 a0_0 a0_1 a0_2 a0_3 a0_4 a0_5 a0_6 t182 _ A21.out).mono ?_); rintro e w33 ⟨rfl, hb⟩; refine ⟨_, rfl, ?_⟩; have n0_ := Aside0.mk (blk_below (g := gb173) (o := .cells #[.int .i64 a0_0, .int .i64 a0_1, .int .i64 a0_2, .int .u32 a0_3, .int .i64 a0_4, .int .i64 a0_5, .int .u64 a0_6] 35 (0, 0)) (by (with_reducible repeat (first | refine blk_drewN ?_ _ | refine blk_drew ?_ | refine blk_alloc ?_ _)); exact BK173.out) hb); have n1_ := Aside0.mk (below_step (by repeat (first | (with_reducible first | exact HB.out | apply below_alloc | apply pw_below_drewN | apply below_drew1 | refine below_set ?_ GE173.out) | exact HB.out)) hb); clear BK173; clear HB; have BK173 := n0_; have HB := n1_; clear n0_ n1_; (try clear hb); (try clear hb2); (try clear hk); (try clear hi); have hcz34_0 : w33.cell? ⟨gb173, 0, none⟩ = some (.int .i64 a0_0) := (blk_cell BK173.out 0).trans rfl; have hcz34_1 : w33.cell? ⟨gb173, 1, none⟩ = some (.int .i64 a0_1) := (blk_cell BK173.out 1).trans rfl; have hcz34_2 : w33.cell? ⟨gb173, 2, none⟩ = some (.int .i64 a0_2) := (blk_cell BK173.out 2).trans rfl; have hcz34_3 : w33.cell? ⟨gb173, 3, none⟩ = some (.int .u32 a0_3) := (blk_cell BK173.out 3).trans rfl; have hcz34_4 : w33.cell? ⟨gb173, 4, none⟩ = some (.int .i64 a0_4) := (blk_cell BK173.out 4).trans rfl; have hcz34_5 : w33.cell? ⟨gb173, 5, none⟩ = some (.int .i64 a0_5) := (blk_cell BK173.out 5).trans rfl; have hcz34_6 : w33.cell? ⟨gb173, 6, none⟩ = some (.int .u64 a0_6) := (blk_cell BK173.out 6).trans rfl; have hfz34_0 := blk_frozen BK173.out 0; have hfz34_1 := blk_frozen BK173.out 1; have hfz34_2 := blk_frozen BK173.out 2; have hfz34_3 := blk_frozen BK173.out 3; have hfz34_4 := blk_frozen BK173.out 4; have hfz34_5 := blk_frozen BK173.out 5; have hfz34_6 := blk_frozen BK173.out 6) | (go_at_call 23; (with_reducible refine (bound_Push.calls kj18 a0_0 a0_1 a0_2 a0_3 a0_4 a0_5 a0_6 t183 _ A23.out).mono ?_); rintro e w35 ⟨rfl, hb⟩; have n0_ := Aside0.mk (blk_below (g := gb173) (o := .cells #[.int .i64 a0_0, .int .i64 a0_1, .int .i64 a0_2, .int .u32 a0_3, .int .i64 a0_4, .int .i64 a0_5, .int .u64 a0_6] 35 (0, 0)) (by (with_reducible repeat (first | refine blk_drewN ?_ _ | refine blk_drew ?_ | refine blk_alloc ?_ _)); exact BK173.out) hb); have n1_ := Aside0.mk (below_step (by repeat (first | (with_reducible first | exact HB.out | apply below_alloc | apply pw_below_drewN | apply below_drew1 | refine below_set ?_ GE173.out) | exact HB.out)) hb); clear BK173; clear HB; have BK173 := n0_; have HB := n1_; clear n0_ n1_; (try clear hb); (try clear hb2); (try clear hk); (try clear hi); have hcz36_0 : w35.cell? ⟨gb173, 0, none⟩ = some (.int .i64 a0_0) := (blk_cell BK173.out 0).trans rfl; have hcz36_1 : w35.cell? ⟨gb173, 1, none⟩ = some (.int .i64 a0_1) := (blk_cell BK173.out 1).trans rfl; have hcz36_2 : w35.cell? ⟨gb173, 2, none⟩ = some (.int .i64 a0_2) := (blk_cell BK173.out 2).trans rfl; have hcz36_3 : w35.cell? ⟨gb173, 3, none⟩ = some (.int .u32 a0_3) := (blk_cell BK173.out 3).trans rfl; have hcz36_4 : w35.cell? ⟨gb173, 4, none⟩ = some (.int .i64 a0_4) := (blk_cell BK173.out 4).trans rfl; have hcz36_5 : w35.cell? ⟨gb173, 5, none⟩ = some (.int .i64 a0_5) := (blk_cell BK173.out 5).trans rfl; have hcz36_6 : w35.cell? ⟨gb173, 6, none⟩ = some (.int .u64 a0_6) := (blk_cell BK173.out 6).trans rfl; have hfz36_0 := blk_frozen BK173.out 0; have hfz36_1 := blk_frozen BK173.out 1; have hfz36_2 := blk_frozen BK173.out 2; have hfz36_3 := blk_frozen BK173.out 3; have hfz36_4 := blk_frozen BK173.out 4; have hfz36_5 := blk_frozen BK173.out 5; have hfz36_6 := blk_frozen BK173.out 6) | (go_at_call 24; (with_reducible refine (bound_Pop.calls kj18 a0_0 a0_1 a0_2 a0_3 a0_4 a0_5 a0_6 t184 _ A25.out).mono ?_); rintro e w37 ⟨rfl, hb⟩; have n0_ := Aside0.mk (blk_below (g := gb173) (o := .cells #[.int .i64 a0_0, .int .i64 a0_1, .int .i64 a0_2, .int .u32 a0_3, .int .i64 a0_4, .int .i64 a0_5, .int .u64 a0_6] 35 (0, 0)) (by (with_reducible repeat (first | refine blk_drewN ?_ _ | refine blk_drew ?_ | refine blk_alloc ?_ _)); exact BK173.out) hb); have n1_ := Aside0.mk (below_step (by repeat (first | (with_reducible first | exact HB.out | apply below_alloc | apply pw_below_drewN | apply below_drew1 | refine below_set ?_ GE173.out) | exact HB.out)) hb); clear BK173; clear HB; have BK173 := n0_; have HB := n1_; clear n0_ n1_; (try clear hb); (try clear hb2); (try clear hk); (try clear hi); have hcz38_0 : w37.cell? ⟨gb173, 0, none⟩ = some (.int .i64 a0_0) := (blk_cell BK173.out 0).trans rfl; have hcz38_1 : w37.cell? ⟨gb173, 1, none⟩ = some (.int .i64 a0_1) := (blk_cell BK173.out 1).trans rfl; have hcz38_2 : w37.cell? ⟨gb173, 2, none⟩ = some (.int .i64 a0_2) := (blk_cell BK173.out 2).trans rfl; have hcz38_3 : w37.cell? ⟨gb173, 3, none⟩ = some (.int .u32 a0_3) := (blk_cell BK173.out 3).trans rfl; have hcz38_4 : w37.cell? ⟨gb173, 4, none⟩ = some (.int .i64 a0_4) := (blk_cell BK173.out 4).trans rfl; have hcz38_5 : w37.cell? ⟨gb173, 5, none⟩ = some (.int .i64 a0_5) := (blk_cell BK173.out 5).trans rfl; have hcz38_6 : w37.cell? ⟨gb173, 6, none⟩ = some (.int .u64 a0_6) := (blk_cell BK173.out 6).trans rfl; have hfz38_0 := blk_frozen BK173.out 0; have hfz38_1 := blk_frozen BK173.out 1; have hfz38_2 := blk_frozen BK173.out 2; have hfz38_3 := blk_frozen BK173.out 3; have hfz38_4 := blk_frozen BK173.out 4; have hfz38_5 := blk_frozen BK173.out 5; have hfz38_6 := blk_frozen BK173.out 6) | (go_at_call 25; (with_reducible refine (bound_Acquire.calls kj18 a0_0 a0_1 a0_2 a0_3 a0_4 a0_5 a0_6 t185 _ A27.out).mono ?_); rintro e w39 ⟨rfl, hb⟩; have n0_ := Aside0.mk (blk_below (g := gb173) (o := .cells #[.int .i64 a0_0, .int .i64 a0_1, .int .i64 a0_2, .int .u32 a0_3, .int .i64 a0_4, .int .i64 a0_5, .int .u64 a0_6] 35 (0, 0)) (by (with_reducible repeat (first | refine blk_drewN ?_ _ | refine blk_drew ?_ | refine blk_alloc ?_ _)); exact BK173.out) hb); have n1_ := Aside0.mk (below_step (by repeat (first | (with_reducible first | exact HB.out | apply below_alloc | apply pw_below_drewN | apply below_drew1 | refine below_set ?_ GE173.out) | exact HB.out)) hb); clear BK173; clear HB; have BK173 := n0_; have HB := n1_; clear n0_ n1_; (try clear hb); (try clear hb2); (try clear hk); (try clear hi); have hcz40_0 : w39.cell? ⟨gb173, 0, none⟩ = some (.int .i64 a0_0) := (blk_cell BK173.out 0).trans rfl; have hcz40_1 : w39.cell? ⟨gb173, 1, none⟩ = some (.int .i64 a0_1) := (blk_cell BK173.out 1).trans rfl; have hcz40_2 : w39.cell? ⟨gb173, 2, none⟩ = some (.int .i64 a0_2) := (blk_cell BK173.out 2).trans rfl; have hcz40_3 : w39.cell? ⟨gb173, 3, none⟩ = some (.int .u32 a0_3) := (blk_cell BK173.out 3).trans rfl; have hcz40_4 : w39.cell? ⟨gb173, 4, none⟩ = some (.int .i64 a0_4) := (blk_cell BK173.out 4).trans rfl; have hcz40_5 : w39.cell? ⟨gb173, 5, none⟩ = some (.int .i64 a0_5) := (blk_cell BK173.out 5).trans rfl; have hcz40_6 : w39.cell? ⟨gb173, 6, none⟩ = some (.int .u64 a0_6) := (blk_cell BK173.out 6).trans rfl; have hfz40_0 := blk_frozen BK173.out 0; have hfz40_1 := blk_frozen BK173.out 1; have hfz40_2 := blk_frozen BK173.out 2; have hfz40_3 := blk_frozen BK173.out 3; have hfz40_4 := blk_frozen BK173.out 4; have hfz40_5 := blk_frozen BK173.out 5; have hfz40_6 := blk_frozen BK173.out 6) | (go_at_call 26; (with_reducible refine (bound_Release.calls kj18 a0_0 a0_1 a0_2 a0_3 a0_4 a0_5 a0_6 t186 _ A29.out).mono ?_); rintro e w41 ⟨rfl, hb⟩; have n0_ := Aside0.mk (blk_below (g := gb173) (o := .cells #[.int .i64 a0_0, .int .i64 a0_1, .int .i64 a0_2, .int .u32 a0_3, .int .i64 a0_4, .int .i64 a0_5, .int .u64 a0_6] 35 (0, 0)) (by (with_reducible repeat (first | refine blk_drewN ?_ _ | refine blk_drew ?_ | refine blk_alloc ?_ _)); exact BK173.out) hb); have n1_ := Aside0.mk (below_step (by repeat (first | (with_reducible first | exact HB.out | apply below_alloc | apply pw_below_drewN | apply below_drew1 | refine below_set ?_ GE173.out) | exact HB.out)) hb); clear BK173; clear HB; have BK173 := n0_; have HB := n1_; clear n0_ n1_; (try clear hb); (try clear hb2); (try clear hk); (try clear hi); have hcz42_0 : w41.cell? ⟨gb173, 0, none⟩ = some (.int .i64 a0_0) := (blk_cell BK173.out 0).trans rfl; have hcz42_1 : w41.cell? ⟨gb173, 1, none⟩ = some (.int .i64 a0_1) := (blk_cell BK173.out 1).trans rfl; have hcz42_2 : w41.cell? ⟨gb173, 2, none⟩ = some (.int .i64 a0_2) := (blk_cell BK173.out 2).trans rfl; have hcz42_3 : w41.cell? ⟨gb173, 3, none⟩ = some (.int .u32 a0_3) := (blk_cell BK173.out 3).trans rfl; have hcz42_4 : w41.cell? ⟨gb173, 4, none⟩ = some (.int .i64 a0_4) := (blk_cell BK173.out 4).trans rfl; have hcz42_5 : w41.cell? ⟨gb173, 5, none⟩ = some (.int .i64 a0_5) := (blk_cell BK173.out 5).trans rfl; have hcz42_6 : w41.cell? ⟨gb173, 6, none⟩ = some (.int .u64 a0_6) := (blk_cell BK173.out 6).trans rfl; have hfz42_0 := blk_frozen BK173.out 0; have hfz42_1 := blk_frozen BK173.out 1; have hfz42_2 := blk_frozen BK173.out 2; have hfz42_3 := blk_frozen BK173.out 3; have hfz42_4 := blk_frozen BK173.out 4; have hfz42_5 := blk_frozen BK173.out 5; have hfz42_6 := blk_frozen BK173.out 6) | (go_at_call 27; (with_reducible refine (bound_Window.calls kj18 a0_0 a0_1 a0_2 a0_3 a0_4 a0_5 a0_6 a1 t187 _ A31.out).mono ?_); rintro e w43 ⟨rfl, hb⟩; have n0_ := Aside0.mk (blk_below (g := gb173) (o := .cells #[.int .i64 a0_0, .int .i64 a0_1, .int .i64 a0_2, .int .u32 a0_3, .int .i64 a0_4, .int .i64 a0_5, .int .u64 a0_6] 35 (0, 0)) (by (with_reducible repeat (first | refine blk_drewN ?_ _ | refine blk_drew ?_ | refine blk_alloc ?_ _)); exact BK173.out) hb); have n1_ := Aside0.mk (below_step (by repeat (first | (with_reducible first | exact HB.out | apply below_alloc | apply pw_below_drewN | apply below_drew1 | refine below_set ?_ GE173.out) | exact HB.out)) hb); clear BK173; clear HB; have BK173 := n0_; have HB := n1_; clear n0_ n1_; (try clear hb); (try clear hb2); (try clear hk); (try clear hi)))
                                go_ret
                                exact ⟨by first | rfl | (simp [errW_none, errW_some] <;> rfl) | (simp [*, errW_none, errW_some] <;> rfl), by repeat (first | (with_reducible first | exact HB.out | apply below_alloc | apply pw_below_drewN | apply below_drew1 | refine below_set ?_ GE173.out) | exact HB.out)⟩
                              · rw [if_neg c30] at H
                                have c30b0 : (t186 == (wrap64 ((wrap64 ((wrap64 ((wrap64 (9 * (wrap64 (a0_4 + 1)))) + 1)) + (wrap64 (a0_4 * x7_10)))) + 3))) = false := beq_eq_false_iff_ne.mpr c30
                                have c30b1 : (t186 != (wrap64 ((wrap64 ((wrap64 ((wrap64 (9 * (wrap64 (a0_4 + 1)))) + 1)) + (wrap64 (a0_4 * x7_10)))) + 3))) = true := bne_iff_ne.mpr c30
                                obtain rfl := Option.some.inj H
                                have hcz44_0 : wc.cell? ⟨gb173, 0, none⟩ = some (.int .i64 a0_0) := (blk_cell BK173.out 0).trans rfl
                                have hcz44_1 : wc.cell? ⟨gb173, 1, none⟩ = some (.int .i64 a0_1) := (blk_cell BK173.out 1).trans rfl
                                have hcz44_2 : wc.cell? ⟨gb173, 2, none⟩ = some (.int .i64 a0_2) := (blk_cell BK173.out 2).trans rfl
                                have hcz44_3 : wc.cell? ⟨gb173, 3, none⟩ = some (.int .u32 a0_3) := (blk_cell BK173.out 3).trans rfl
                                have hcz44_4 : wc.cell? ⟨gb173, 4, none⟩ = some (.int .i64 a0_4) := (blk_cell BK173.out 4).trans rfl
                                have hcz44_5 : wc.cell? ⟨gb173, 5, none⟩ = some (.int .i64 a0_5) := (blk_cell BK173.out 5).trans rfl
                                have hcz44_6 : wc.cell? ⟨gb173, 6, none⟩ = some (.int .u64 a0_6) := (blk_cell BK173.out 6).trans rfl
                                have hfz44_0 := blk_frozen BK173.out 0
                                have hfz44_1 := blk_frozen BK173.out 1
                                have hfz44_2 := blk_frozen BK173.out 2
                                have hfz44_3 := blk_frozen BK173.out 3
                                have hfz44_4 := blk_frozen BK173.out 4
                                have hfz44_5 := blk_frozen BK173.out 5
                                have hfz44_6 := blk_frozen BK173.out 6
                                go_wp2_with (first | ((with_reducible refine gate_callee (f := 22) rfl ?_); refine goesL_ (some 86) rfl rfl Try.func22 (by kernel_rfl) rfl #[.agg #[.int .i64 a0_0, .int .i64 a0_1, .int .i64 a0_2, .int .u32 a0_3, .int .i64 a0_4, .int .i64 a0_5, .int .u64 a0_6]] rfl (by (try simp only [List.map_toArray, List.map_cons, List.map_nil]); first | done | rfl | (simp only [List.length_drop, List.length_take]; rfl)) ?_; (with_reducible refine (bound_Visit.calls kj18 a0_0 a0_1 a0_2 a0_3 a0_4 a0_5 a0_6 t182 _ A21.out).mono ?_); rintro e w45 ⟨rfl, hb⟩; refine ⟨_, rfl, ?_⟩; have n0_ := Aside0.mk (blk_below (g := gb173) (o := .cells #[.int .i64 a0_0, .int .i64 a0_1, .int .i64 a0_2, .int .u32 a0_3, .int .i64 a0_4, .int .i64 a0_5, .int .u64 a0_6] 35 (0, 0)) (by (with_reducible repeat (first | refine blk_drewN ?_ _ | refine blk_drew ?_ | refine blk_alloc ?_ _)); exact BK173.out) hb); have n1_ := Aside0.mk (below_step (by repeat (first | (with_reducible first | exact HB.out | apply below_alloc | apply pw_below_drewN | apply below_drew1 | refine below_set ?_ GE173.out) | exact HB.out)) hb); clear BK173; clear HB; have BK173 := n0_; have HB := n1_; clear n0_ n1_; (try clear hb); (try clear hb2); (try clear hk); (try clear hi); have hcz46_0 : w45.cell? ⟨gb173, 0, none⟩ = some (.int .i64 a0_0) := (blk_cell BK173.out 0).trans rfl; have hcz46_1 : w45.cell? ⟨gb173, 1, none⟩ = some (.int .i64 a0_1) := (blk_cell BK173.out 1).trans rfl; have hcz46_2 : w45.cell? ⟨gb173, 2, none⟩ = some (.int .i64 a0_2) := (blk_cell BK173.out 2).trans rfl; have hcz46_3 : w45.cell? ⟨gb173, 3, none⟩ = some (.int .u32 a0_3) := (blk_cell BK173.out 3).trans rfl; have hcz46_4 : w45.cell? ⟨gb173, 4, none⟩ = some (.int .i64 a0_4) := (blk_cell BK173.out 4).trans rfl; have hcz46_5 : w45.cell? ⟨gb173, 5, none⟩ = some (.int .i64 a0_5) := (blk_cell BK173.out 5).trans rfl; have hcz46_6 : w45.cell? ⟨gb173, 6, none⟩ = some (.int .u64 a0_6) := (blk_cell BK173.out 6).trans rfl; have hfz46_0 := blk_frozen BK173.out 0; have hfz46_1 := blk_frozen BK173.out 1; have hfz46_2 := blk_frozen BK173.out 2; have hfz46_3 := blk_frozen BK173.out 3; have hfz46_4 := blk_frozen BK173.out 4; have hfz46_5 := blk_frozen BK173.out 5; have hfz46_6 := blk_frozen BK173.out 6) | (go_at_call 23; (with_reducible refine (bound_Push.calls kj18 a0_0 a0_1 a0_2 a0_3 a0_4 a0_5 a0_6 t183 _ A23.out).mono ?_); rintro e w47 ⟨rfl, hb⟩; have n0_ := Aside0.mk (blk_below (g := gb173) (o := .cells #[.int .i64 a0_0, .int .i64 a0_1, .int .i64 a0_2, .int .u32 a0_3, .int .i64 a0_4, .int .i64 a0_5, .int .u64 a0_6] 35 (0, 0)) (by (with_reducible repeat (first | refine blk_drewN ?_ _ | refine blk_drew ?_ | refine blk_alloc ?_ _)); exact BK173.out) hb); have n1_ := Aside0.mk (below_step (by repeat (first | (with_reducible first | exact HB.out | apply below_alloc | apply pw_below_drewN | apply below_drew1 | refine below_set ?_ GE173.out) | exact HB.out)) hb); clear BK173; clear HB; have BK173 := n0_; have HB := n1_; clear n0_ n1_; (try clear hb); (try clear hb2); (try clear hk); (try clear hi); have hcz48_0 : w47.cell? ⟨gb173, 0, none⟩ = some (.int .i64 a0_0) := (blk_cell BK173.out 0).trans rfl; have hcz48_1 : w47.cell? ⟨gb173, 1, none⟩ = some (.int .i64 a0_1) := (blk_cell BK173.out 1).trans rfl; have hcz48_2 : w47.cell? ⟨gb173, 2, none⟩ = some (.int .i64 a0_2) := (blk_cell BK173.out 2).trans rfl; have hcz48_3 : w47.cell? ⟨gb173, 3, none⟩ = some (.int .u32 a0_3) := (blk_cell BK173.out 3).trans rfl; have hcz48_4 : w47.cell? ⟨gb173, 4, none⟩ = some (.int .i64 a0_4) := (blk_cell BK173.out 4).trans rfl; have hcz48_5 : w47.cell? ⟨gb173, 5, none⟩ = some (.int .i64 a0_5) := (blk_cell BK173.out 5).trans rfl; have hcz48_6 : w47.cell? ⟨gb173, 6, none⟩ = some (.int .u64 a0_6) := (blk_cell BK173.out 6).trans rfl; have hfz48_0 := blk_frozen BK173.out 0; have hfz48_1 := blk_frozen BK173.out 1; have hfz48_2 := blk_frozen BK173.out 2; have hfz48_3 := blk_frozen BK173.out 3; have hfz48_4 := blk_frozen BK173.out 4; have hfz48_5 := blk_frozen BK173.out 5; have hfz48_6 := blk_frozen BK173.out 6) | (go_at_call 24; (with_reducible refine (bound_Pop.calls kj18 a0_0 a0_1 a0_2 a0_3 a0_4 a0_5 a0_6 t184 _ A25.out).mono ?_); rintro e w49 ⟨rfl, hb⟩; have n0_ := Aside0.mk (blk_below (g := gb173) (o := .cells #[.int .i64 a0_0, .int .i64 a0_1, .int .i64 a0_2, .int .u32 a0_3, .int .i64 a0_4, .int .i64 a0_5, .int .u64 a0_6] 35 (0, 0)) (by (with_reducible repeat (first | refine blk_drewN ?_ _ | refine blk_drew ?_ | refine blk_alloc ?_ _)); exact BK173.out) hb); have n1_ := Aside0.mk (below_step (by repeat (first | (with_reducible first | exact HB.out | apply below_alloc | apply pw_below_drewN | apply below_drew1 | refine below_set ?_ GE173.out) | exact HB.out)) hb); clear BK173; clear HB; have BK173 := n0_; have HB := n1_; clear n0_ n1_; (try clear hb); (try clear hb2); (try clear hk); (try clear hi); have hcz50_0 : w49.cell? ⟨gb173, 0, none⟩ = some (.int .i64 a0_0) := (blk_cell BK173.out 0).trans rfl; have hcz50_1 : w49.cell? ⟨gb173, 1, none⟩ = some (.int .i64 a0_1) := (blk_cell BK173.out 1).trans rfl; have hcz50_2 : w49.cell? ⟨gb173, 2, none⟩ = some (.int .i64 a0_2) := (blk_cell BK173.out 2).trans rfl; have hcz50_3 : w49.cell? ⟨gb173, 3, none⟩ = some (.int .u32 a0_3) := (blk_cell BK173.out 3).trans rfl; have hcz50_4 : w49.cell? ⟨gb173, 4, none⟩ = some (.int .i64 a0_4) := (blk_cell BK173.out 4).trans rfl; have hcz50_5 : w49.cell? ⟨gb173, 5, none⟩ = some (.int .i64 a0_5) := (blk_cell BK173.out 5).trans rfl; have hcz50_6 : w49.cell? ⟨gb173, 6, none⟩ = some (.int .u64 a0_6) := (blk_cell BK173.out 6).trans rfl; have hfz50_0 := blk_frozen BK173.out 0; have hfz50_1 := blk_frozen BK173.out 1; have hfz50_2 := blk_frozen BK173.out 2; have hfz50_3 := blk_frozen BK173.out 3; have hfz50_4 := blk_frozen BK173.out 4; have hfz50_5 := blk_frozen BK173.out 5; have hfz50_6 := blk_frozen BK173.out 6) | (go_at_call 25; (with_reducible refine (bound_Acquire.calls kj18 a0_0 a0_1 a0_2 a0_3 a0_4 a0_5 a0_6 t185 _ A27.out).mono ?_); rintro e w51 ⟨rfl, hb⟩; have n0_ := Aside0.mk (blk_below (g := gb173) (o := .cells #[.int .i64 a0_0, .int .i64 a0_1, .int .i64 a0_2, .int .u32 a0_3, .int .i64 a0_4, .int .i64 a0_5, .int .u64 a0_6] 35 (0, 0)) (by (with_reducible repeat (first | refine blk_drewN ?_ _ | refine blk_drew ?_ | refine blk_alloc ?_ _)); exact BK173.out) hb); have n1_ := Aside0.mk (below_step (by repeat (first | (with_reducible first | exact HB.out | apply below_alloc | apply pw_below_drewN | apply below_drew1 | refine below_set ?_ GE173.out) | exact HB.out)) hb); clear BK173; clear HB; have BK173 := n0_; have HB := n1_; clear n0_ n1_; (try clear hb); (try clear hb2); (try clear hk); (try clear hi); have hcz52_0 : w51.cell? ⟨gb173, 0, none⟩ = some (.int .i64 a0_0) := (blk_cell BK173.out 0).trans rfl; have hcz52_1 : w51.cell? ⟨gb173, 1, none⟩ = some (.int .i64 a0_1) := (blk_cell BK173.out 1).trans rfl; have hcz52_2 : w51.cell? ⟨gb173, 2, none⟩ = some (.int .i64 a0_2) := (blk_cell BK173.out 2).trans rfl; have hcz52_3 : w51.cell? ⟨gb173, 3, none⟩ = some (.int .u32 a0_3) := (blk_cell BK173.out 3).trans rfl; have hcz52_4 : w51.cell? ⟨gb173, 4, none⟩ = some (.int .i64 a0_4) := (blk_cell BK173.out 4).trans rfl; have hcz52_5 : w51.cell? ⟨gb173, 5, none⟩ = some (.int .i64 a0_5) := (blk_cell BK173.out 5).trans rfl; have hcz52_6 : w51.cell? ⟨gb173, 6, none⟩ = some (.int .u64 a0_6) := (blk_cell BK173.out 6).trans rfl; have hfz52_0 := blk_frozen BK173.out 0; have hfz52_1 := blk_frozen BK173.out 1; have hfz52_2 := blk_frozen BK173.out 2; have hfz52_3 := blk_frozen BK173.out 3; have hfz52_4 := blk_frozen BK173.out 4; have hfz52_5 := blk_frozen BK173.out 5; have hfz52_6 := blk_frozen BK173.out 6) | (go_at_call 26; (with_reducible refine (bound_Release.calls kj18 a0_0 a0_1 a0_2 a0_3 a0_4 a0_5 a0_6 t186 _ A29.out).mono ?_); rintro e w53 ⟨rfl, hb⟩; have n0_ := Aside0.mk (blk_below (g := gb173) (o := .cells #[.int .i64 a0_0, .int .i64 a0_1, .int .i64 a0_2, .int .u32 a0_3, .int .i64 a0_4, .int .i64 a0_5, .int .u64 a0_6] 35 (0, 0)) (by (with_reducible repeat (first | refine blk_drewN ?_ _ | refine blk_drew ?_ | refine blk_alloc ?_ _)); exact BK173.out) hb); have n1_ := Aside0.mk (below_step (by repeat (first | (with_reducible first | exact HB.out | apply below_alloc | apply pw_below_drewN | apply below_drew1 | refine below_set ?_ GE173.out) | exact HB.out)) hb); clear BK173; clear HB; have BK173 := n0_; have HB := n1_; clear n0_ n1_; (try clear hb); (try clear hb2); (try clear hk); (try clear hi)))
                                go_ret
                                exact ⟨by first | rfl | (simp [errW_none, errW_some] <;> rfl) | (simp [*, errW_none, errW_some] <;> rfl), by repeat (first | (with_reducible first | exact HB.out | apply below_alloc | apply pw_below_drewN | apply below_drew1 | refine below_set ?_ GE173.out) | exact HB.out)⟩
                            · rw [if_neg c28] at H
                              have c28b0 : (t185 == (wrap64 ((wrap64 ((wrap64 ((wrap64 (6 * (wrap64 (a0_4 + 1)))) + 1)) + (wrap64 (a0_4 * x7_10)))) + 1))) = false := beq_eq_false_iff_ne.mpr c28
                              have c28b1 : (t185 != (wrap64 ((wrap64 ((wrap64 ((wrap64 (6 * (wrap64 (a0_4 + 1)))) + 1)) + (wrap64 (a0_4 * x7_10)))) + 1))) = true := bne_iff_ne.mpr c28
                              obtain rfl := Option.some.inj H
                              have hcz54_0 : wc.cell? ⟨gb173, 0, none⟩ = some (.int .i64 a0_0) := (blk_cell BK173.out 0).trans rfl
                              have hcz54_1 : wc.cell? ⟨gb173, 1, none⟩ = some (.int .i64 a0_1) := (blk_cell BK173.out 1).trans rfl
                              have hcz54_2 : wc.cell? ⟨gb173, 2, none⟩ = some (.int .i64 a0_2) := (blk_cell BK173.out 2).trans rfl
                              have hcz54_3 : wc.cell? ⟨gb173, 3, none⟩ = some (.int .u32 a0_3) := (blk_cell BK173.out 3).trans rfl
                              have hcz54_4 : wc.cell? ⟨gb173, 4, none⟩ = some (.int .i64 a0_4) := (blk_cell BK173.out 4).trans rfl
                              have hcz54_5 : wc.cell? ⟨gb173, 5, none⟩ = some (.int .i64 a0_5) := (blk_cell BK173.out 5).trans rfl
                              have hcz54_6 : wc.cell? ⟨gb173, 6, none⟩ = some (.int .u64 a0_6) := (blk_cell BK173.out 6).trans rfl
                              have hfz54_0 := blk_frozen BK173.out 0
                              have hfz54_1 := blk_frozen BK173.out 1
                              have hfz54_2 := blk_frozen BK173.out 2
                              have hfz54_3 := blk_frozen BK173.out 3
                              have hfz54_4 := blk_frozen BK173.out 4
                              have hfz54_5 := blk_frozen BK173.out 5
                              have hfz54_6 := blk_frozen BK173.out 6
                              go_wp2_with (first | ((with_reducible refine gate_callee (f := 22) rfl ?_); refine goesL_ (some 86) rfl rfl Try.func22 (by kernel_rfl) rfl #[.agg #[.int .i64 a0_0, .int .i64 a0_1, .int .i64 a0_2, .int .u32 a0_3, .int .i64 a0_4, .int .i64 a0_5, .int .u64 a0_6]] rfl (by (try simp only [List.map_toArray, List.map_cons, List.map_nil]); first | done | rfl | (simp only [List.length_drop, List.length_take]; rfl)) ?_; (with_reducible refine (bound_Visit.calls kj18 a0_0 a0_1 a0_2 a0_3 a0_4 a0_5 a0_6 t182 _ A21.out).mono ?_); rintro e w55 ⟨rfl, hb⟩; refine ⟨_, rfl, ?_⟩; have n0_ := Aside0.mk (blk_below (g := gb173) (o := .cells #[.int .i64 a0_0, .int .i64 a0_1, .int .i64 a0_2, .int .u32 a0_3, .int .i64 a0_4, .int .i64 a0_5, .int .u64 a0_6] 35 (0, 0)) (by (with_reducible repeat (first | refine blk_drewN ?_ _ | refine blk_drew ?_ | refine blk_alloc ?_ _)); exact BK173.out) hb); have n1_ := Aside0.mk (below_step (by repeat (first | (with_reducible first | exact HB.out | apply below_alloc | apply pw_below_drewN | apply below_drew1 | refine below_set ?_ GE173.out) | exact HB.out)) hb); clear BK173; clear HB; have BK173 := n0_; have HB := n1_; clear n0_ n1_; (try clear hb); (try clear hb2); (try clear hk); (try clear hi); have hcz56_0 : w55.cell? ⟨gb173, 0, none⟩ = some (.int .i64 a0_0) := (blk_cell BK173.out 0).trans rfl; have hcz56_1 : w55.cell? ⟨gb173, 1, none⟩ = some (.int .i64 a0_1) := (blk_cell BK173.out 1).trans rfl; have hcz56_2 : w55.cell? ⟨gb173, 2, none⟩ = some (.int .i64 a0_2) := (blk_cell BK173.out 2).trans rfl; have hcz56_3 : w55.cell? ⟨gb173, 3, none⟩ = some (.int .u32 a0_3) := (blk_cell BK173.out 3).trans rfl; have hcz56_4 : w55.cell? ⟨gb173, 4, none⟩ = some (.int .i64 a0_4) := (blk_cell BK173.out 4).trans rfl; have hcz56_5 : w55.cell? ⟨gb173, 5, none⟩ = some (.int .i64 a0_5) := (blk_cell BK173.out 5).trans rfl; have hcz56_6 : w55.cell? ⟨gb173, 6, none⟩ = some (.int .u64 a0_6) := (blk_cell BK173.out 6).trans rfl; have hfz56_0 := blk_frozen BK173.out 0; have hfz56_1 := blk_frozen BK173.out 1; have hfz56_2 := blk_frozen BK173.out 2; have hfz56_3 := blk_frozen BK173.out 3; have hfz56_4 := blk_frozen BK173.out 4; have hfz56_5 := blk_frozen BK173.out 5; have hfz56_6 := blk_frozen BK173.out 6) | (go_at_call 23; (with_reducible refine (bound_Push.calls kj18 a0_0 a0_1 a0_2 a0_3 a0_4 a0_5 a0_6 t183 _ A23.out).mono ?_); rintro e w57 ⟨rfl, hb⟩; have n0_ := Aside0.mk (blk_below (g := gb173) (o := .cells #[.int .i64 a0_0, .int .i64 a0_1, .int .i64 a0_2, .int .u32 a0_3, .int .i64 a0_4, .int .i64 a0_5, .int .u64 a0_6] 35 (0, 0)) (by (with_reducible repeat (first | refine blk_drewN ?_ _ | refine blk_drew ?_ | refine blk_alloc ?_ _)); exact BK173.out) hb); have n1_ := Aside0.mk (below_step (by repeat (first | (with_reducible first | exact HB.out | apply below_alloc | apply pw_below_drewN | apply below_drew1 | refine below_set ?_ GE173.out) | exact HB.out)) hb); clear BK173; clear HB; have BK173 := n0_; have HB := n1_; clear n0_ n1_; (try clear hb); (try clear hb2); (try clear hk); (try clear hi); have hcz58_0 : w57.cell? ⟨gb173, 0, none⟩ = some (.int .i64 a0_0) := (blk_cell BK173.out 0).trans rfl; have hcz58_1 : w57.cell? ⟨gb173, 1, none⟩ = some (.int .i64 a0_1) := (blk_cell BK173.out 1).trans rfl; have hcz58_2 : w57.cell? ⟨gb173, 2, none⟩ = some (.int .i64 a0_2) := (blk_cell BK173.out 2).trans rfl; have hcz58_3 : w57.cell? ⟨gb173, 3, none⟩ = some (.int .u32 a0_3) := (blk_cell BK173.out 3).trans rfl; have hcz58_4 : w57.cell? ⟨gb173, 4, none⟩ = some (.int .i64 a0_4) := (blk_cell BK173.out 4).trans rfl; have hcz58_5 : w57.cell? ⟨gb173, 5, none⟩ = some (.int .i64 a0_5) := (blk_cell BK173.out 5).trans rfl; have hcz58_6 : w57.cell? ⟨gb173, 6, none⟩ = some (.int .u64 a0_6) := (blk_cell BK173.out 6).trans rfl; have hfz58_0 := blk_frozen BK173.out 0; have hfz58_1 := blk_frozen BK173.out 1; have hfz58_2 := blk_frozen BK173.out 2; have hfz58_3 := blk_frozen BK173.out 3; have hfz58_4 := blk_frozen BK173.out 4; have hfz58_5 := blk_frozen BK173.out 5; have hfz58_6 := blk_frozen BK173.out 6) | (go_at_call 24; (with_reducible refine (bound_Pop.calls kj18 a0_0 a0_1 a0_2 a0_3 a0_4 a0_5 a0_6 t184 _ A25.out).mono ?_); rintro e w59 ⟨rfl, hb⟩; have n0_ := Aside0.mk (blk_below (g := gb173) (o := .cells #[.int .i64 a0_0, .int .i64 a0_1, .int .i64 a0_2, .int .u32 a0_3, .int .i64 a0_4, .int .i64 a0_5, .int .u64 a0_6] 35 (0, 0)) (by (with_reducible repeat (first | refine blk_drewN ?_ _ | refine blk_drew ?_ | refine blk_alloc ?_ _)); exact BK173.out) hb); have n1_ := Aside0.mk (below_step (by repeat (first | (with_reducible first | exact HB.out | apply below_alloc | apply pw_below_drewN | apply below_drew1 | refine below_set ?_ GE173.out) | exact HB.out)) hb); clear BK173; clear HB; have BK173 := n0_; have HB := n1_; clear n0_ n1_; (try clear hb); (try clear hb2); (try clear hk); (try clear hi); have hcz60_0 : w59.cell? ⟨gb173, 0, none⟩ = some (.int .i64 a0_0) := (blk_cell BK173.out 0).trans rfl; have hcz60_1 : w59.cell? ⟨gb173, 1, none⟩ = some (.int .i64 a0_1) := (blk_cell BK173.out 1).trans rfl; have hcz60_2 : w59.cell? ⟨gb173, 2, none⟩ = some (.int .i64 a0_2) := (blk_cell BK173.out 2).trans rfl; have hcz60_3 : w59.cell? ⟨gb173, 3, none⟩ = some (.int .u32 a0_3) := (blk_cell BK173.out 3).trans rfl; have hcz60_4 : w59.cell? ⟨gb173, 4, none⟩ = some (.int .i64 a0_4) := (blk_cell BK173.out 4).trans rfl; have hcz60_5 : w59.cell? ⟨gb173, 5, none⟩ = some (.int .i64 a0_5) := (blk_cell BK173.out 5).trans rfl; have hcz60_6 : w59.cell? ⟨gb173, 6, none⟩ = some (.int .u64 a0_6) := (blk_cell BK173.out 6).trans rfl; have hfz60_0 := blk_frozen BK173.out 0; have hfz60_1 := blk_frozen BK173.out 1; have hfz60_2 := blk_frozen BK173.out 2; have hfz60_3 := blk_frozen BK173.out 3; have hfz60_4 := blk_frozen BK173.out 4; have hfz60_5 := blk_frozen BK173.out 5; have hfz60_6 := blk_frozen BK173.out 6) | (go_at_call 25; (with_reducible refine (bound_Acquire.calls kj18 a0_0 a0_1 a0_2 a0_3 a0_4 a0_5 a0_6 t185 _ A27.out).mono ?_); rintro e w61 ⟨rfl, hb⟩; have n0_ := Aside0.mk (blk_below (g := gb173) (o := .cells #[.int .i64 a0_0, .int .i64 a0_1, .int .i64 a0_2, .int .u32 a0_3, .int .i64 a0_4, .int .i64 a0_5, .int .u64 a0_6] 35 (0, 0)) (by (with_reducible repeat (first | refine blk_drewN ?_ _ | refine blk_drew ?_ | refine blk_alloc ?_ _)); exact BK173.out) hb); have n1_ := Aside0.mk (below_step (by repeat (first | (with_reducible first | exact HB.out | apply below_alloc | apply pw_below_drewN | apply below_drew1 | refine below_set ?_ GE173.out) | exact HB.out)) hb); clear BK173; clear HB; have BK173 := n0_; have HB := n1_; clear n0_ n1_; (try clear hb); (try clear hb2); (try clear hk); (try clear hi)))
                              go_ret
                              exact ⟨by first | rfl | (simp [errW_none, errW_some] <;> rfl) | (simp [*, errW_none, errW_some] <;> rfl), by repeat (first | (with_reducible first | exact HB.out | apply below_alloc | apply pw_below_drewN | apply below_drew1 | refine below_set ?_ GE173.out) | exact HB.out)⟩
                          · rw [if_neg c26] at H
                            have c26b0 : (t184 == (wrap64 ((wrap64 ((wrap64 (6 * (wrap64 (a0_4 + 1)))) + 1)) + (wrap64 (a0_4 * x7_10))))) = false := beq_eq_false_iff_ne.mpr c26
                            have c26b1 : (t184 != (wrap64 ((wrap64 ((wrap64 (6 * (wrap64 (a0_4 + 1)))) + 1)) + (wrap64 (a0_4 * x7_10))))) = true := bne_iff_ne.mpr c26
                            obtain rfl := Option.some.inj H
                            have hcz62_0 : wc.cell? ⟨gb173, 0, none⟩ = some (.int .i64 a0_0) := (blk_cell BK173.out 0).trans rfl
                            have hcz62_1 : wc.cell? ⟨gb173, 1, none⟩ = some (.int .i64 a0_1) := (blk_cell BK173.out 1).trans rfl
                            have hcz62_2 : wc.cell? ⟨gb173, 2, none⟩ = some (.int .i64 a0_2) := (blk_cell BK173.out 2).trans rfl
                            have hcz62_3 : wc.cell? ⟨gb173, 3, none⟩ = some (.int .u32 a0_3) := (blk_cell BK173.out 3).trans rfl
                            have hcz62_4 : wc.cell? ⟨gb173, 4, none⟩ = some (.int .i64 a0_4) := (blk_cell BK173.out 4).trans rfl
                            have hcz62_5 : wc.cell? ⟨gb173, 5, none⟩ = some (.int .i64 a0_5) := (blk_cell BK173.out 5).trans rfl
                            have hcz62_6 : wc.cell? ⟨gb173, 6, none⟩ = some (.int .u64 a0_6) := (blk_cell BK173.out 6).trans rfl
                            have hfz62_0 := blk_frozen BK173.out 0
                            have hfz62_1 := blk_frozen BK173.out 1
                            have hfz62_2 := blk_frozen BK173.out 2
                            have hfz62_3 := blk_frozen BK173.out 3
                            have hfz62_4 := blk_frozen BK173.out 4
                            have hfz62_5 := blk_frozen BK173.out 5
                            have hfz62_6 := blk_frozen BK173.out 6
                            go_wp2_with (first | ((with_reducible refine gate_callee (f := 22) rfl ?_); refine goesL_ (some 86) rfl rfl Try.func22 (by kernel_rfl) rfl #[.agg #[.int .i64 a0_0, .int .i64 a0_1, .int .i64 a0_2, .int .u32 a0_3, .int .i64 a0_4, .int .i64 a0_5, .int .u64 a0_6]] rfl (by (try simp only [List.map_toArray, List.map_cons, List.map_nil]); first | done | rfl | (simp only [List.length_drop, List.length_take]; rfl)) ?_; (with_reducible refine (bound_Visit.calls kj18 a0_0 a0_1 a0_2 a0_3 a0_4 a0_5 a0_6 t182 _ A21.out).mono ?_); rintro e w63 ⟨rfl, hb⟩; refine ⟨_, rfl, ?_⟩; have n0_ := Aside0.mk (blk_below (g := gb173) (o := .cells #[.int .i64 a0_0, .int .i64 a0_1, .int .i64 a0_2, .int .u32 a0_3, .int .i64 a0_4, .int .i64 a0_5, .int .u64 a0_6] 35 (0, 0)) (by (with_reducible repeat (first | refine blk_drewN ?_ _ | refine blk_drew ?_ | refine blk_alloc ?_ _)); exact BK173.out) hb); have n1_ := Aside0.mk (below_step (by repeat (first | (with_reducible first | exact HB.out | apply below_alloc | apply pw_below_drewN | apply below_drew1 | refine below_set ?_ GE173.out) | exact HB.out)) hb); clear BK173; clear HB; have BK173 := n0_; have HB := n1_; clear n0_ n1_; (try clear hb); (try clear hb2); (try clear hk); (try clear hi); have hcz64_0 : w63.cell? ⟨gb173, 0, none⟩ = some (.int .i64 a0_0) := (blk_cell BK173.out 0).trans rfl; have hcz64_1 : w63.cell? ⟨gb173, 1, none⟩ = some (.int .i64 a0_1) := (blk_cell BK173.out 1).trans rfl; have hcz64_2 : w63.cell? ⟨gb173, 2, none⟩ = some (.int .i64 a0_2) := (blk_cell BK173.out 2).trans rfl; have hcz64_3 : w63.cell? ⟨gb173, 3, none⟩ = some (.int .u32 a0_3) := (blk_cell BK173.out 3).trans rfl; have hcz64_4 : w63.cell? ⟨gb173, 4, none⟩ = some (.int .i64 a0_4) := (blk_cell BK173.out 4).trans rfl; have hcz64_5 : w63.cell? ⟨gb173, 5, none⟩ = some (.int .i64 a0_5) := (blk_cell BK173.out 5).trans rfl; have hcz64_6 : w63.cell? ⟨gb173, 6, none⟩ = some (.int .u64 a0_6) := (blk_cell BK173.out 6).trans rfl; have hfz64_0 := blk_frozen BK173.out 0; have hfz64_1 := blk_frozen BK173.out 1; have hfz64_2 := blk_frozen BK173.out 2; have hfz64_3 := blk_frozen BK173.out 3; have hfz64_4 := blk_frozen BK173.out 4; have hfz64_5 := blk_frozen BK173.out 5; have hfz64_6 := blk_frozen BK173.out 6) | (go_at_call 23; (with_reducible refine (bound_Push.calls kj18 a0_0 a0_1 a0_2 a0_3 a0_4 a0_5 a0_6 t183 _ A23.out).mono ?_); rintro e w65 ⟨rfl, hb⟩; have n0_ := Aside0.mk (blk_below (g := gb173) (o := .cells #[.int .i64 a0_0, .int .i64 a0_1, .int .i64 a0_2, .int .u32 a0_3, .int .i64 a0_4, .int .i64 a0_5, .int .u64 a0_6] 35 (0, 0)) (by (with_reducible repeat (first | refine blk_drewN ?_ _ | refine blk_drew ?_ | refine blk_alloc ?_ _)); exact BK173.out) hb); have n1_ := Aside0.mk (below_step (by repeat (first | (with_reducible first | exact HB.out | apply below_alloc | apply pw_below_drewN | apply below_drew1 | refine below_set ?_ GE173.out) | exact HB.out)) hb); clear BK173; clear HB; have BK173 := n0_; have HB := n1_; clear n0_ n1_; (try clear hb); (try clear hb2); (try clear hk); (try clear hi); have hcz66_0 : w65.cell? ⟨gb173, 0, none⟩ = some (.int .i64 a0_0) := (blk_cell BK173.out 0).trans rfl; have hcz66_1 : w65.cell? ⟨gb173, 1, none⟩ = some (.int .i64 a0_1) := (blk_cell BK173.out 1).trans rfl; have hcz66_2 : w65.cell? ⟨gb173, 2, none⟩ = some (.int .i64 a0_2) := (blk_cell BK173.out 2).trans rfl; have hcz66_3 : w65.cell? ⟨gb173, 3, none⟩ = some (.int .u32 a0_3) := (blk_cell BK173.out 3).trans rfl; have hcz66_4 : w65.cell? ⟨gb173, 4, none⟩ = some (.int .i64 a0_4) := (blk_cell BK173.out 4).trans rfl; have hcz66_5 : w65.cell? ⟨gb173, 5, none⟩ = some (.int .i64 a0_5) := (blk_cell BK173.out 5).trans rfl; have hcz66_6 : w65.cell? ⟨gb173, 6, none⟩ = some (.int .u64 a0_6) := (blk_cell BK173.out 6).trans rfl; have hfz66_0 := blk_frozen BK173.out 0; have hfz66_1 := blk_frozen BK173.out 1; have hfz66_2 := blk_frozen BK173.out 2; have hfz66_3 := blk_frozen BK173.out 3; have hfz66_4 := blk_frozen BK173.out 4; have hfz66_5 := blk_frozen BK173.out 5; have hfz66_6 := blk_frozen BK173.out 6) | (go_at_call 24; (with_reducible refine (bound_Pop.calls kj18 a0_0 a0_1 a0_2 a0_3 a0_4 a0_5 a0_6 t184 _ A25.out).mono ?_); rintro e w67 ⟨rfl, hb⟩; have n0_ := Aside0.mk (blk_below (g := gb173) (o := .cells #[.int .i64 a0_0, .int .i64 a0_1, .int .i64 a0_2, .int .u32 a0_3, .int .i64 a0_4, .int .i64 a0_5, .int .u64 a0_6] 35 (0, 0)) (by (with_reducible repeat (first | refine blk_drewN ?_ _ | refine blk_drew ?_ | refine blk_alloc ?_ _)); exact BK173.out) hb); have n1_ := Aside0.mk (below_step (by repeat (first | (with_reducible first | exact HB.out | apply below_alloc | apply pw_below_drewN | apply below_drew1 | refine below_set ?_ GE173.out) | exact HB.out)) hb); clear BK173; clear HB; have BK173 := n0_; have HB := n1_; clear n0_ n1_; (try clear hb); (try clear hb2); (try clear hk); (try clear hi)))
                            go_ret
                            exact ⟨by first | rfl | (simp [errW_none, errW_some] <;> rfl) | (simp [*, errW_none, errW_some] <;> rfl), by repeat (first | (with_reducible first | exact HB.out | apply below_alloc | apply pw_below_drewN | apply below_drew1 | refine below_set ?_ GE173.out) | exact HB.out)⟩
                        · rw [if_neg c24] at H
                          have c24b0 : (t183 == (wrap64 ((wrap64 ((wrap64 (9 * (wrap64 (a0_4 + 1)))) + 1)) + (wrap64 (a0_4 * x7_10))))) = false := beq_eq_false_iff_ne.mpr c24
                          have c24b1 : (t183 != (wrap64 ((wrap64 ((wrap64 (9 * (wrap64 (a0_4 + 1)))) + 1)) + (wrap64 (a0_4 * x7_10))))) = true := bne_iff_ne.mpr c24
                          obtain rfl := Option.some.inj H
                          have hcz68_0 : wc.cell? ⟨gb173, 0, none⟩ = some (.int .i64 a0_0) := (blk_cell BK173.out 0).trans rfl
                          have hcz68_1 : wc.cell? ⟨gb173, 1, none⟩ = some (.int .i64 a0_1) := (blk_cell BK173.out 1).trans rfl
                          have hcz68_2 : wc.cell? ⟨gb173, 2, none⟩ = some (.int .i64 a0_2) := (blk_cell BK173.out 2).trans rfl
                          have hcz68_3 : wc.cell? ⟨gb173, 3, none⟩ = some (.int .u32 a0_3) := (blk_cell BK173.out 3).trans rfl
                          have hcz68_4 : wc.cell? ⟨gb173, 4, none⟩ = some (.int .i64 a0_4) := (blk_cell BK173.out 4).trans rfl
                          have hcz68_5 : wc.cell? ⟨gb173, 5, none⟩ = some (.int .i64 a0_5) := (blk_cell BK173.out 5).trans rfl
                          have hcz68_6 : wc.cell? ⟨gb173, 6, none⟩ = some (.int .u64 a0_6) := (blk_cell BK173.out 6).trans rfl
                          have hfz68_0 := blk_frozen BK173.out 0
                          have hfz68_1 := blk_frozen BK173.out 1
                          have hfz68_2 := blk_frozen BK173.out 2
                          have hfz68_3 := blk_frozen BK173.out 3
                          have hfz68_4 := blk_frozen BK173.out 4
                          have hfz68_5 := blk_frozen BK173.out 5
                          have hfz68_6 := blk_frozen BK173.out 6
                          go_wp2_with (first | ((with_reducible refine gate_callee (f := 22) rfl ?_); refine goesL_ (some 86) rfl rfl Try.func22 (by kernel_rfl) rfl #[.agg #[.int .i64 a0_0, .int .i64 a0_1, .int .i64 a0_2, .int .u32 a0_3, .int .i64 a0_4, .int .i64 a0_5, .int .u64 a0_6]] rfl (by (try simp only [List.map_toArray, List.map_cons, List.map_nil]); first | done | rfl | (simp only [List.length_drop, List.length_take]; rfl)) ?_; (with_reducible refine (bound_Visit.calls kj18 a0_0 a0_1 a0_2 a0_3 a0_4 a0_5 a0_6 t182 _ A21.out).mono ?_); rintro e w69 ⟨rfl, hb⟩; refine ⟨_, rfl, ?_⟩; have n0_ := Aside0.mk (blk_below (g := gb173) (o := .cells #[.int .i64 a0_0, .int .i64 a0_1, .int .i64 a0_2, .int .u32 a0_3, .int .i64 a0_4, .int .i64 a0_5, .int .u64 a0_6] 35 (0, 0)) (by (with_reducible repeat (first | refine blk_drewN ?_ _ | refine blk_drew ?_ | refine blk_alloc ?_ _)); exact BK173.out) hb); have n1_ := Aside0.mk (below_step (by repeat (first | (with_reducible first | exact HB.out | apply below_alloc | apply pw_below_drewN | apply below_drew1 | refine below_set ?_ GE173.out) | exact HB.out)) hb); clear BK173; clear HB; have BK173 := n0_; have HB := n1_; clear n0_ n1_; (try clear hb); (try clear hb2); (try clear hk); (try clear hi); have hcz70_0 : w69.cell? ⟨gb173, 0, none⟩ = some (.int .i64 a0_0) := (blk_cell BK173.out 0).trans rfl; have hcz70_1 : w69.cell? ⟨gb173, 1, none⟩ = some (.int .i64 a0_1) := (blk_cell BK173.out 1).trans rfl; have hcz70_2 : w69.cell? ⟨gb173, 2, none⟩ = some (.int .i64 a0_2) := (blk_cell BK173.out 2).trans rfl; have hcz70_3 : w69.cell? ⟨gb173, 3, none⟩ = some (.int .u32 a0_3) := (blk_cell BK173.out 3).trans rfl; have hcz70_4 : w69.cell? ⟨gb173, 4, none⟩ = some (.int .i64 a0_4) := (blk_cell BK173.out 4).trans rfl; have hcz70_5 : w69.cell? ⟨gb173, 5, none⟩ = some (.int .i64 a0_5) := (blk_cell BK173.out 5).trans rfl; have hcz70_6 : w69.cell? ⟨gb173, 6, none⟩ = some (.int .u64 a0_6) := (blk_cell BK173.out 6).trans rfl; have hfz70_0 := blk_frozen BK173.out 0; have hfz70_1 := blk_frozen BK173.out 1; have hfz70_2 := blk_frozen BK173.out 2; have hfz70_3 := blk_frozen BK173.out 3; have hfz70_4 := blk_frozen BK173.out 4; have hfz70_5 := blk_frozen BK173.out 5; have hfz70_6 := blk_frozen BK173.out 6) | (go_at_call 23; (with_reducible refine (bound_Push.calls kj18 a0_0 a0_1 a0_2 a0_3 a0_4 a0_5 a0_6 t183 _ A23.out).mono ?_); rintro e w71 ⟨rfl, hb⟩; have n0_ := Aside0.mk (blk_below (g := gb173) (o := .cells #[.int .i64 a0_0, .int .i64 a0_1, .int .i64 a0_2, .int .u32 a0_3, .int .i64 a0_4, .int .i64 a0_5, .int .u64 a0_6] 35 (0, 0)) (by (with_reducible repeat (first | refine blk_drewN ?_ _ | refine blk_drew ?_ | refine blk_alloc ?_ _)); exact BK173.out) hb); have n1_ := Aside0.mk (below_step (by repeat (first | (with_reducible first | exact HB.out | apply below_alloc | apply pw_below_drewN | apply below_drew1 | refine below_set ?_ GE173.out) | exact HB.out)) hb); clear BK173; clear HB; have BK173 := n0_; have HB := n1_; clear n0_ n1_; (try clear hb); (try clear hb2); (try clear hk); (try clear hi)))
                          go_ret
                          exact ⟨by first | rfl | (simp [errW_none, errW_some] <;> rfl) | (simp [*, errW_none, errW_some] <;> rfl), by repeat (first | (with_reducible first | exact HB.out | apply below_alloc | apply pw_below_drewN | apply below_drew1 | refine below_set ?_ GE173.out) | exact HB.out)⟩
                      · rw [if_neg c22] at H
                        have c22b0 : (t182 == x7_10) = false := beq_eq_false_iff_ne.mpr c22
                        have c22b1 : (t182 != x7_10) = true := bne_iff_ne.mpr c22
                        obtain rfl := Option.some.inj H
                        have hcz72_0 : wc.cell? ⟨gb173, 0, none⟩ = some (.int .i64 a0_0) := (blk_cell BK173.out 0).trans rfl
                        have hcz72_1 : wc.cell? ⟨gb173, 1, none⟩ = some (.int .i64 a0_1) := (blk_cell BK173.out 1).trans rfl
                        have hcz72_2 : wc.cell? ⟨gb173, 2, none⟩ = some (.int .i64 a0_2) := (blk_cell BK173.out 2).trans rfl
                        have hcz72_3 : wc.cell? ⟨gb173, 3, none⟩ = some (.int .u32 a0_3) := (blk_cell BK173.out 3).trans rfl
                        have hcz72_4 : wc.cell? ⟨gb173, 4, none⟩ = some (.int .i64 a0_4) := (blk_cell BK173.out 4).trans rfl
                        have hcz72_5 : wc.cell? ⟨gb173, 5, none⟩ = some (.int .i64 a0_5) := (blk_cell BK173.out 5).trans rfl
                        have hcz72_6 : wc.cell? ⟨gb173, 6, none⟩ = some (.int .u64 a0_6) := (blk_cell BK173.out 6).trans rfl
                        have hfz72_0 := blk_frozen BK173.out 0
                        have hfz72_1 := blk_frozen BK173.out 1
                        have hfz72_2 := blk_frozen BK173.out 2
                        have hfz72_3 := blk_frozen BK173.out 3
                        have hfz72_4 := blk_frozen BK173.out 4
                        have hfz72_5 := blk_frozen BK173.out 5
                        have hfz72_6 := blk_frozen BK173.out 6
                        go_wp2_with (first | ((with_reducible refine gate_callee (f := 22) rfl ?_); refine goesL_ (some 86) rfl rfl Try.func22 (by kernel_rfl) rfl #[.agg #[.int .i64 a0_0, .int .i64 a0_1, .int .i64 a0_2, .int .u32 a0_3, .int .i64 a0_4, .int .i64 a0_5, .int .u64 a0_6]] rfl (by (try simp only [List.map_toArray, List.map_cons, List.map_nil]); first | done | rfl | (simp only [List.length_drop, List.length_take]; rfl)) ?_; (with_reducible refine (bound_Visit.calls kj18 a0_0 a0_1 a0_2 a0_3 a0_4 a0_5 a0_6 t182 _ A21.out).mono ?_); rintro e w73 ⟨rfl, hb⟩; refine ⟨_, rfl, ?_⟩; have n0_ := Aside0.mk (blk_below (g := gb173) (o := .cells #[.int .i64 a0_0, .int .i64 a0_1, .int .i64 a0_2, .int .u32 a0_3, .int .i64 a0_4, .int .i64 a0_5, .int .u64 a0_6] 35 (0, 0)) (by (with_reducible repeat (first | refine blk_drewN ?_ _ | refine blk_drew ?_ | refine blk_alloc ?_ _)); exact BK173.out) hb); have n1_ := Aside0.mk (below_step (by repeat (first | (with_reducible first | exact HB.out | apply below_alloc | apply pw_below_drewN | apply below_drew1 | refine below_set ?_ GE173.out) | exact HB.out)) hb); clear BK173; clear HB; have BK173 := n0_; have HB := n1_; clear n0_ n1_; (try clear hb); (try clear hb2); (try clear hk); (try clear hi)))
                        go_ret
                        exact ⟨by first | rfl | (simp [errW_none, errW_some] <;> rfl) | (simp [*, errW_none, errW_some] <;> rfl), by repeat (first | (with_reducible first | exact HB.out | apply below_alloc | apply pw_below_drewN | apply below_drew1 | refine below_set ?_ GE173.out) | exact HB.out)⟩
        · rw [if_neg c10] at H
          have c10b0 : (t175 == 0) = false := beq_eq_false_iff_ne.mpr c10
          have c10b1 : (t175 != 0) = true := bne_iff_ne.mpr c10
          replace H := Option.bind_eq_some_iff.mp H
          obtain ⟨t176, A740, H⟩ := H
          replace H : (if t176 = 0 then ((bound_Push.f kj3 a0_0 a0_1 a0_2 a0_3 a0_4 a0_5 a0_6).bind fun t177 => (if t177 = 0 then ((bound_Pop.f kj3 a0_0 a0_1 a0_2 a0_3 a0_4 a0_5 a0_6).bind fun t178 => (if t178 = 0 then ((bound_Acquire.f kj3 a0_0 a0_1 a0_2 a0_3 a0_4 a0_5 a0_6).bind fun t179 => (if t179 = 0 then ((bound_Release.f kj3 a0_0 a0_1 a0_2 a0_3 a0_4 a0_5 a0_6).bind fun t180 => (if t180 = 0 then ((bound_Window.f kj3 a0_0 a0_1 a0_2 a0_3 a0_4 a0_5 a0_6 a1).bind fun t181 => (some (t181 == 0))) else (some false))) else (some false))) else (some false))) else (some false))) else (some false)) = some r := H
          have A74 := Aside0.mk A740
          clear A740
          by_cases c75 : t176 = 0
          · rw [if_pos c75] at H
            have c75b0 : (t176 == 0) = true := beq_iff_eq.mpr c75
            have c75b1 : (t176 != 0) = false := bne_eq_false_iff_eq.mpr c75
            clear c75
            replace H := Option.bind_eq_some_iff.mp H
            obtain ⟨t177, A760, H⟩ := H
            replace H : (if t177 = 0 then ((bound_Pop.f kj3 a0_0 a0_1 a0_2 a0_3 a0_4 a0_5 a0_6).bind fun t178 => (if t178 = 0 then ((bound_Acquire.f kj3 a0_0 a0_1 a0_2 a0_3 a0_4 a0_5 a0_6).bind fun t179 => (if t179 = 0 then ((bound_Release.f kj3 a0_0 a0_1 a0_2 a0_3 a0_4 a0_5 a0_6).bind fun t180 => (if t180 = 0 then ((bound_Window.f kj3 a0_0 a0_1 a0_2 a0_3 a0_4 a0_5 a0_6 a1).bind fun t181 => (some (t181 == 0))) else (some false))) else (some false))) else (some false))) else (some false)) = some r := H
            have A76 := Aside0.mk A760
            clear A760
            by_cases c77 : t177 = 0
            · rw [if_pos c77] at H
              have c77b0 : (t177 == 0) = true := beq_iff_eq.mpr c77
              have c77b1 : (t177 != 0) = false := bne_eq_false_iff_eq.mpr c77
              clear c77
              replace H := Option.bind_eq_some_iff.mp H
              obtain ⟨t178, A780, H⟩ := H
              replace H : (if t178 = 0 then ((bound_Acquire.f kj3 a0_0 a0_1 a0_2 a0_3 a0_4 a0_5 a0_6).bind fun t179 => (if t179 = 0 then ((bound_Release.f kj3 a0_0 a0_1 a0_2 a0_3 a0_4 a0_5 a0_6).bind fun t180 => (if t180 = 0 then ((bound_Window.f kj3 a0_0 a0_1 a0_2 a0_3 a0_4 a0_5 a0_6 a1).bind fun t181 => (some (t181 == 0))) else (some false))) else (some false))) else (some false)) = some r := H
              have A78 := Aside0.mk A780
              clear A780
              by_cases c79 : t178 = 0
              · rw [if_pos c79] at H
                have c79b0 : (t178 == 0) = true := beq_iff_eq.mpr c79
                have c79b1 : (t178 != 0) = false := bne_eq_false_iff_eq.mpr c79
                clear c79
                replace H := Option.bind_eq_some_iff.mp H
                obtain ⟨t179, A800, H⟩ := H
                replace H : (if t179 = 0 then ((bound_Release.f kj3 a0_0 a0_1 a0_2 a0_3 a0_4 a0_5 a0_6).bind fun t180 => (if t180 = 0 then ((bound_Window.f kj3 a0_0 a0_1 a0_2 a0_3 a0_4 a0_5 a0_6 a1).bind fun t181 => (some (t181 == 0))) else (some false))) else (some false)) = some r := H
                have A80 := Aside0.mk A800
                clear A800
                by_cases c81 : t179 = 0
                · rw [if_pos c81] at H
                  have c81b0 : (t179 == 0) = true := beq_iff_eq.mpr c81
                  have c81b1 : (t179 != 0) = false := bne_eq_false_iff_eq.mpr c81
                  clear c81
                  replace H := Option.bind_eq_some_iff.mp H
                  obtain ⟨t180, A820, H⟩ := H
                  replace H : (if t180 = 0 then ((bound_Window.f kj3 a0_0 a0_1 a0_2 a0_3 a0_4 a0_5 a0_6 a1).bind fun t181 => (some (t181 == 0))) else (some false)) = some r := H
                  have A82 := Aside0.mk A820
                  clear A820
                  by_cases c83 : t180 = 0
                  · rw [if_pos c83] at H
                    have c83b0 : (t180 == 0) = true := beq_iff_eq.mpr c83
                    have c83b1 : (t180 != 0) = false := bne_eq_false_iff_eq.mpr c83
                    clear c83
                    replace H := Option.bind_eq_some_iff.mp H
                    obtain ⟨t181, A840, H⟩ := H
                    replace H : (some (t181 == 0)) = some r := H
                    have A84 := Aside0.mk A840
                    clear A840
                    obtain rfl := Option.some.inj H
                    have hcz85_0 : wc.cell? ⟨gb173, 0, none⟩ = some (.int .i64 a0_0) := (blk_cell BK173.out 0).trans rfl
                    have hcz85_1 : wc.cell? ⟨gb173, 1, none⟩ = some (.int .i64 a0_1) := (blk_cell BK173.out 1).trans rfl
                    have hcz85_2 : wc.cell? ⟨gb173, 2, none⟩ = some (.int .i64 a0_2) := (blk_cell BK173.out 2).trans rfl
                    have hcz85_3 : wc.cell? ⟨gb173, 3, none⟩ = some (.int .u32 a0_3) := (blk_cell BK173.out 3).trans rfl
                    have hcz85_4 : wc.cell? ⟨gb173, 4, none⟩ = some (.int .i64 a0_4) := (blk_cell BK173.out 4).trans rfl
                    have hcz85_5 : wc.cell? ⟨gb173, 5, none⟩ = some (.int .i64 a0_5) := (blk_cell BK173.out 5).trans rfl
                    have hcz85_6 : wc.cell? ⟨gb173, 6, none⟩ = some (.int .u64 a0_6) := (blk_cell BK173.out 6).trans rfl
                    have hfz85_0 := blk_frozen BK173.out 0
                    have hfz85_1 := blk_frozen BK173.out 1
                    have hfz85_2 := blk_frozen BK173.out 2
                    have hfz85_3 := blk_frozen BK173.out 3
                    have hfz85_4 := blk_frozen BK173.out 4
                    have hfz85_5 := blk_frozen BK173.out 5
                    have hfz85_6 := blk_frozen BK173.out 6
                    go_wp2_with (first | ((with_reducible refine gate_callee (f := 21) rfl ?_); refine goesL_ (some 21) rfl rfl Try.func21 (by kernel_rfl) rfl #[.agg #[.int .i64 a0_0, .int .i64 a0_1, .int .i64 a0_2, .int .u32 a0_3, .int .i64 a0_4, .int .i64 a0_5, .int .u64 a0_6]] rfl (by (try simp only [List.map_toArray, List.map_cons, List.map_nil]); first | done | rfl | (simp only [List.length_drop, List.length_take]; rfl)) ?_; (with_reducible refine (ebstack_Check.calls a0_0 a0_1 a0_2 a0_3 a0_4 a0_5 a0_6 t175 _ A9.out).mono ?_); rintro e w86 ⟨rfl, hb⟩; refine ⟨_, rfl, ?_⟩; have n0_ := Aside0.mk (blk_below (g := gb173) (o := .cells #[.int .i64 a0_0, .int .i64 a0_1, .int .i64 a0_2, .int .u32 a0_3, .int .i64 a0_4, .int .i64 a0_5, .int .u64 a0_6] 35 (0, 0)) (by (with_reducible repeat (first | refine blk_drewN ?_ _ | refine blk_drew ?_ | refine blk_alloc ?_ _)); exact BK173.out) hb); have n1_ := Aside0.mk (below_step (by repeat (first | (with_reducible first | exact HB.out | apply below_alloc | apply pw_below_drewN | apply below_drew1 | refine below_set ?_ GE173.out) | exact HB.out)) hb); clear BK173; clear HB; have BK173 := n0_; have HB := n1_; clear n0_ n1_; (try clear hb); (try clear hb2); (try clear hk); (try clear hi); have hcz87_0 : w86.cell? ⟨gb173, 0, none⟩ = some (.int .i64 a0_0) := (blk_cell BK173.out 0).trans rfl; have hcz87_1 : w86.cell? ⟨gb173, 1, none⟩ = some (.int .i64 a0_1) := (blk_cell BK173.out 1).trans rfl; have hcz87_2 : w86.cell? ⟨gb173, 2, none⟩ = some (.int .i64 a0_2) := (blk_cell BK173.out 2).trans rfl; have hcz87_3 : w86.cell? ⟨gb173, 3, none⟩ = some (.int .u32 a0_3) := (blk_cell BK173.out 3).trans rfl; have hcz87_4 : w86.cell? ⟨gb173, 4, none⟩ = some (.int .i64 a0_4) := (blk_cell BK173.out 4).trans rfl; have hcz87_5 : w86.cell? ⟨gb173, 5, none⟩ = some (.int .i64 a0_5) := (blk_cell BK173.out 5).trans rfl; have hcz87_6 : w86.cell? ⟨gb173, 6, none⟩ = some (.int .u64 a0_6) := (blk_cell BK173.out 6).trans rfl; have hfz87_0 := blk_frozen BK173.out 0; have hfz87_1 := blk_frozen BK173.out 1; have hfz87_2 := blk_frozen BK173.out 2; have hfz87_3 := blk_frozen BK173.out 3; have hfz87_4 := blk_frozen BK173.out 4; have hfz87_5 := blk_frozen BK173.out 5; have hfz87_6 := blk_frozen BK173.out 6) | ((with_reducible refine gate_callee (f := 22) rfl ?_); refine goesL_ (some 24) rfl rfl Try.func22 (by kernel_rfl) rfl #[.agg #[.int .i64 a0_0, .int .i64 a0_1, .int .i64 a0_2, .int .u32 a0_3, .int .i64 a0_4, .int .i64 a0_5, .int .u64 a0_6]] rfl (by (try simp only [List.map_toArray, List.map_cons, List.map_nil]); first | done | rfl | (simp only [List.length_drop, List.length_take]; rfl)) ?_; (with_reducible refine (bound_Visit.calls kj3 a0_0 a0_1 a0_2 a0_3 a0_4 a0_5 a0_6 t176 _ A74.out).mono ?_); rintro e w88 ⟨rfl, hb⟩; refine ⟨_, rfl, ?_⟩; have n0_ := Aside0.mk (blk_below (g := gb173) (o := .cells #[.int .i64 a0_0, .int .i64 a0_1, .int .i64 a0_2, .int .u32 a0_3, .int .i64 a0_4, .int .i64 a0_5, .int .u64 a0_6] 35 (0, 0)) (by (with_reducible repeat (first | refine blk_drewN ?_ _ | refine blk_drew ?_ | refine blk_alloc ?_ _)); exact BK173.out) hb); have n1_ := Aside0.mk (below_step (by repeat (first | (with_reducible first | exact HB.out | apply below_alloc | apply pw_below_drewN | apply below_drew1 | refine below_set ?_ GE173.out) | exact HB.out)) hb); clear BK173; clear HB; have BK173 := n0_; have HB := n1_; clear n0_ n1_; (try clear hb); (try clear hb2); (try clear hk); (try clear hi); have hcz89_0 : w88.cell? ⟨gb173, 0, none⟩ = some (.int .i64 a0_0) := (blk_cell BK173.out 0).trans rfl; have hcz89_1 : w88.cell? ⟨gb173, 1, none⟩ = some (.int .i64 a0_1) := (blk_cell BK173.out 1).trans rfl; have hcz89_2 : w88.cell? ⟨gb173, 2, none⟩ = some (.int .i64 a0_2) := (blk_cell BK173.out 2).trans rfl; have hcz89_3 : w88.cell? ⟨gb173, 3, none⟩ = some (.int .u32 a0_3) := (blk_cell BK173.out 3).trans rfl; have hcz89_4 : w88.cell? ⟨gb173, 4, none⟩ = some (.int .i64 a0_4) := (blk_cell BK173.out 4).trans rfl; have hcz89_5 : w88.cell? ⟨gb173, 5, none⟩ = some (.int .i64 a0_5) := (blk_cell BK173.out 5).trans rfl; have hcz89_6 : w88.cell? ⟨gb173, 6, none⟩ = some (.int .u64 a0_6) := (blk_cell BK173.out 6).trans rfl; have hfz89_0 := blk_frozen BK173.out 0; have hfz89_1 := blk_frozen BK173.out 1; have hfz89_2 := blk_frozen BK173.out 2; have hfz89_3 := blk_frozen BK173.out 3; have hfz89_4 := blk_frozen BK173.out 4; have hfz89_5 := blk_frozen BK173.out 5; have hfz89_6 := blk_frozen BK173.out 6) | (go_at_call 23; (with_reducible refine (bound_Push.calls kj3 a0_0 a0_1 a0_2 a0_3 a0_4 a0_5 a0_6 t177 _ A76.out).mono ?_); rintro e w90 ⟨rfl, hb⟩; have n0_ := Aside0.mk (blk_below (g := gb173) (o := .cells #[.int .i64 a0_0, .int .i64 a0_1, .int .i64 a0_2, .int .u32 a0_3, .int .i64 a0_4, .int .i64 a0_5, .int .u64 a0_6] 35 (0, 0)) (by (with_reducible repeat (first | refine blk_drewN ?_ _ | refine blk_drew ?_ | refine blk_alloc ?_ _)); exact BK173.out) hb); have n1_ := Aside0.mk (below_step (by repeat (first | (with_reducible first | exact HB.out | apply below_alloc | apply pw_below_drewN | apply below_drew1 | refine below_set ?_ GE173.out) | exact HB.out)) hb); clear BK173; clear HB; have BK173 := n0_; have HB := n1_; clear n0_ n1_; (try clear hb); (try clear hb2); (try clear hk); (try clear hi); have hcz91_0 : w90.cell? ⟨gb173, 0, none⟩ = some (.int .i64 a0_0) := (blk_cell BK173.out 0).trans rfl; have hcz91_1 : w90.cell? ⟨gb173, 1, none⟩ = some (.int .i64 a0_1) := (blk_cell BK173.out 1).trans rfl; have hcz91_2 : w90.cell? ⟨gb173, 2, none⟩ = some (.int .i64 a0_2) := (blk_cell BK173.out 2).trans rfl; have hcz91_3 : w90.cell? ⟨gb173, 3, none⟩ = some (.int .u32 a0_3) := (blk_cell BK173.out 3).trans rfl; have hcz91_4 : w90.cell? ⟨gb173, 4, none⟩ = some (.int .i64 a0_4) := (blk_cell BK173.out 4).trans rfl; have hcz91_5 : w90.cell? ⟨gb173, 5, none⟩ = some (.int .i64 a0_5) := (blk_cell BK173.out 5).trans rfl; have hcz91_6 : w90.cell? ⟨gb173, 6, none⟩ = some (.int .u64 a0_6) := (blk_cell BK173.out 6).trans rfl; have hfz91_0 := blk_frozen BK173.out 0; have hfz91_1 := blk_frozen BK173.out 1; have hfz91_2 := blk_frozen BK173.out 2; have hfz91_3 := blk_frozen BK173.out 3; have hfz91_4 := blk_frozen BK173.out 4; have hfz91_5 := blk_frozen BK173.out 5; have hfz91_6 := blk_frozen BK173.out 6) | (go_at_call 24; (with_reducible refine (bound_Pop.calls kj3 a0_0 a0_1 a0_2 a0_3 a0_4 a0_5 a0_6 t178 _ A78.out).mono ?_); rintro e w92 ⟨rfl, hb⟩; have n0_ := Aside0.mk (blk_below (g := gb173) (o := .cells #[.int .i64 a0_0, .int .i64 a0_1, .int .i64 a0_2, .int .u32 a0_3, .int .i64 a0_4, .int .i64 a0_5, .int .u64 a0_6] 35 (0, 0)) (by (with_reducible repeat (first | refine blk_drewN ?_ _ | refine blk_drew ?_ | refine blk_alloc ?_ _)); exact BK173.out) hb); have n1_ := Aside0.mk (below_step (by repeat (first | (with_reducible first | exact HB.out | apply below_alloc | apply pw_below_drewN | apply below_drew1 | refine below_set ?_ GE173.out) | exact HB.out)) hb); clear BK173; clear HB; have BK173 := n0_; have HB := n1_; clear n0_ n1_; (try clear hb); (try clear hb2); (try clear hk); (try clear hi); have hcz93_0 : w92.cell? ⟨gb173, 0, none⟩ = some (.int .i64 a0_0) := (blk_cell BK173.out 0).trans rfl; have hcz93_1 : w92.cell? ⟨gb173, 1, none⟩ = some (.int .i64 a0_1) := (blk_cell BK173.out 1).trans rfl; have hcz93_2 : w92.cell? ⟨gb173, 2, none⟩ = some (.int .i64 a0_2) := (blk_cell BK173.out 2).trans rfl; have hcz93_3 : w92.cell? ⟨gb173, 3, none⟩ = some (.int .u32 a0_3) := (blk_cell BK173.out 3).trans rfl; have hcz93_4 : w92.cell? ⟨gb173, 4, none⟩ = some (.int .i64 a0_4) := (blk_cell BK173.out 4).trans rfl; have hcz93_5 : w92.cell? ⟨gb173, 5, none⟩ = some (.int .i64 a0_5) := (blk_cell BK173.out 5).trans rfl; have hcz93_6 : w92.cell? ⟨gb173, 6, none⟩ = some (.int .u64 a0_6) := (blk_cell BK173.out 6).trans rfl; have hfz93_0 := blk_frozen BK173.out 0; have hfz93_1 := blk_frozen BK173.out 1; have hfz93_2 := blk_frozen BK173.out 2; have hfz93_3 := blk_frozen BK173.out 3; have hfz93_4 := blk_frozen BK173.out 4; have hfz93_5 := blk_frozen BK173.out 5; have hfz93_6 := blk_frozen BK173.out 6) | (go_at_call 25; (with_reducible refine (bound_Acquire.calls kj3 a0_0 a0_1 a0_2 a0_3 a0_4 a0_5 a0_6 t179 _ A80.out).mono ?_); rintro e w94 ⟨rfl, hb⟩; have n0_ := Aside0.mk (blk_below (g := gb173) (o := .cells #[.int .i64 a0_0, .int .i64 a0_1, .int .i64 a0_2, .int .u32 a0_3, .int .i64 a0_4, .int .i64 a0_5, .int .u64 a0_6] 35 (0, 0)) (by (with_reducible repeat (first | refine blk_drewN ?_ _ | refine blk_drew ?_ | refine blk_alloc ?_ _)); exact BK173.out) hb); have n1_ := Aside0.mk (below_step (by repeat (first | (with_reducible first | exact HB.out | apply below_alloc | apply pw_below_drewN | apply below_drew1 | refine below_set ?_ GE173.out) | exact HB.out)) hb); clear BK173; clear HB; have BK173 := n0_; have HB := n1_; clear n0_ n1_; (try clear hb); (try clear hb2); (try clear hk); (try clear hi); have hcz95_0 : w94.cell? ⟨gb173, 0, none⟩ = some (.int .i64 a0_0) := (blk_cell BK173.out 0).trans rfl; have hcz95_1 : w94.cell? ⟨gb173, 1, none⟩ = some (.int .i64 a0_1) := (blk_cell BK173.out 1).trans rfl; have hcz95_2 : w94.cell? ⟨gb173, 2, none⟩ = some (.int .i64 a0_2) := (blk_cell BK173.out 2).trans rfl; have hcz95_3 : w94.cell? ⟨gb173, 3, none⟩ = some (.int .u32 a0_3) := (blk_cell BK173.out 3).trans rfl; have hcz95_4 : w94.cell? ⟨gb173, 4, none⟩ = some (.int .i64 a0_4) := (blk_cell BK173.out 4).trans rfl; have hcz95_5 : w94.cell? ⟨gb173, 5, none⟩ = some (.int .i64 a0_5) := (blk_cell BK173.out 5).trans rfl; have hcz95_6 : w94.cell? ⟨gb173, 6, none⟩ = some (.int .u64 a0_6) := (blk_cell BK173.out 6).trans rfl; have hfz95_0 := blk_frozen BK173.out 0; have hfz95_1 := blk_frozen BK173.out 1; have hfz95_2 := blk_frozen BK173.out 2; have hfz95_3 := blk_frozen BK173.out 3; have hfz95_4 := blk_frozen BK173.out 4; have hfz95_5 := blk_frozen BK173.out 5; have hfz95_6 := blk_frozen BK173.out 6) | (go_at_call 26; (with_reducible refine (bound_Release.calls kj3 a0_0 a0_1 a0_2 a0_3 a0_4 a0_5 a0_6 t180 _ A82.out).mono ?_); rintro e w96 ⟨rfl, hb⟩; have n0_ := Aside0.mk (blk_below (g := gb173) (o := .cells #[.int .i64 a0_0, .int .i64 a0_1, .int .i64 a0_2, .int .u32 a0_3, .int .i64 a0_4, .int .i64 a0_5, .int .u64 a0_6] 35 (0, 0)) (by (with_reducible repeat (first | refine blk_drewN ?_ _ | refine blk_drew ?_ | refine blk_alloc ?_ _)); exact BK173.out) hb); have n1_ := Aside0.mk (below_step (by repeat (first | (with_reducible first | exact HB.out | apply below_alloc | apply pw_below_drewN | apply below_drew1 | refine below_set ?_ GE173.out) | exact HB.out)) hb); clear BK173; clear HB; have BK173 := n0_; have HB := n1_; clear n0_ n1_; (try clear hb); (try clear hb2); (try clear hk); (try clear hi); have hcz97_0 : w96.cell? ⟨gb173, 0, none⟩ = some (.int .i64 a0_0) := (blk_cell BK173.out 0).trans rfl; have hcz97_1 : w96.cell? ⟨gb173, 1, none⟩ = some (.int .i64 a0_1) := (blk_cell BK173.out 1).trans rfl; have hcz97_2 : w96.cell? ⟨gb173, 2, none⟩ = some (.int .i64 a0_2) := (blk_cell BK173.out 2).trans rfl; have hcz97_3 : w96.cell? ⟨gb173, 3, none⟩ = some (.int .u32 a0_3) := (blk_cell BK173.out 3).trans rfl; have hcz97_4 : w96.cell? ⟨gb173, 4, none⟩ = some (.int .i64 a0_4) := (blk_cell BK173.out 4).trans rfl; have hcz97_5 : w96.cell? ⟨gb173, 5, none⟩ = some (.int .i64 a0_5) := (blk_cell BK173.out 5).trans rfl; have hcz97_6 : w96.cell? ⟨gb173, 6, none⟩ = some (.int .u64 a0_6) := (blk_cell BK173.out 6).trans rfl; have hfz97_0 := blk_frozen BK173.out 0; have hfz97_1 := blk_frozen BK173.out 1; have hfz97_2 := blk_frozen BK173.out 2; have hfz97_3 := blk_frozen BK173.out 3; have hfz97_4 := blk_frozen BK173.out 4; have hfz97_5 := blk_frozen BK173.out 5; have hfz97_6 := blk_frozen BK173.out 6) | (go_at_call 27; (with_reducible refine (bound_Window.calls kj3 a0_0 a0_1 a0_2 a0_3 a0_4 a0_5 a0_6 a1 t181 _ A84.out).mono ?_); rintro e w98 ⟨rfl, hb⟩; have n0_ := Aside0.mk (blk_below (g := gb173) (o := .cells #[.int .i64 a0_0, .int .i64 a0_1, .int .i64 a0_2, .int .u32 a0_3, .int .i64 a0_4, .int .i64 a0_5, .int .u64 a0_6] 35 (0, 0)) (by (with_reducible repeat (first | refine blk_drewN ?_ _ | refine blk_drew ?_ | refine blk_alloc ?_ _)); exact BK173.out) hb); have n1_ := Aside0.mk (below_step (by repeat (first | (with_reducible first | exact HB.out | apply below_alloc | apply pw_below_drewN | apply below_drew1 | refine below_set ?_ GE173.out) | exact HB.out)) hb); clear BK173; clear HB; have BK173 := n0_; have HB := n1_; clear n0_ n1_; (try clear hb); (try clear hb2); (try clear hk); (try clear hi)))
                    go_ret
                    exact ⟨by first | rfl | (simp [errW_none, errW_some] <;> rfl) | (simp [*, errW_none, errW_some] <;> rfl), by repeat (first | (with_reducible first | exact HB.out | apply below_alloc | apply pw_below_drewN | apply below_drew1 | refine below_set ?_ GE173.out) | exact HB.out)⟩
                  · rw [if_neg c83] at H
                    have c83b0 : (t180 == 0) = false := beq_eq_false_iff_ne.mpr c83
                    have c83b1 : (t180 != 0) = true := bne_iff_ne.mpr c83
                    obtain rfl := Option.some.inj H
                    have hcz99_0 : wc.cell? ⟨gb173, 0, none⟩ = some (.int .i64 a0_0) := (blk_cell BK173.out 0).trans rfl
                    have hcz99_1 : wc.cell? ⟨gb173, 1, none⟩ = some (.int .i64 a0_1) := (blk_cell BK173.out 1).trans rfl
                    have hcz99_2 : wc.cell? ⟨gb173, 2, none⟩ = some (.int .i64 a0_2) := (blk_cell BK173.out 2).trans rfl
                    have hcz99_3 : wc.cell? ⟨gb173, 3, none⟩ = some (.int .u32 a0_3) := (blk_cell BK173.out 3).trans rfl
                    have hcz99_4 : wc.cell? ⟨gb173, 4, none⟩ = some (.int .i64 a0_4) := (blk_cell BK173.out 4).trans rfl
                    have hcz99_5 : wc.cell? ⟨gb173, 5, none⟩ = some (.int .i64 a0_5) := (blk_cell BK173.out 5).trans rfl
                    have hcz99_6 : wc.cell? ⟨gb173, 6, none⟩ = some (.int .u64 a0_6) := (blk_cell BK173.out 6).trans rfl
                    have hfz99_0 := blk_frozen BK173.out 0
                    have hfz99_1 := blk_frozen BK173.out 1
                    have hfz99_2 := blk_frozen BK173.out 2
                    have hfz99_3 := blk_frozen BK173.out 3
                    have hfz99_4 := blk_frozen BK173.out 4
                    have hfz99_5 := blk_frozen BK173.out 5
                    have hfz99_6 := blk_frozen BK173.out 6
                    go_wp2_with (first | ((with_reducible refine gate_callee (f := 21) rfl ?_); refine goesL_ (some 21) rfl rfl Try.func21 (by kernel_rfl) rfl #[.agg #[.int .i64 a0_0, .int .i64 a0_1, .int .i64 a0_2, .int .u32 a0_3, .int .i64 a0_4, .int .i64 a0_5, .int .u64 a0_6]] rfl (by (try simp only [List.map_toArray, List.map_cons, List.map_nil]); first | done | rfl | (simp only [List.length_drop, List.length_take]; rfl)) ?_; (with_reducible refine (ebstack_Check.calls a0_0 a0_1 a0_2 a0_3 a0_4 a0_5 a0_6 t175 _ A9.out).mono ?_); rintro e w100 ⟨rfl, hb⟩; refine ⟨_, rfl, ?_⟩; have n0_ := Aside0.mk (blk_below (g := gb173) (o := .cells #[.int .i64 a0_0, .int .i64 a0_1, .int .i64 a0_2, .int .u32 a0_3, .int .i64 a0_4, .int .i64 a0_5, .int .u64 a0_6] 35 (0, 0)) (by (with_reducible repeat (first | refine blk_drewN ?_ _ | refine blk_drew ?_ | refine blk_alloc ?_ _)); exact BK173.out) hb); have n1_ := Aside0.mk (below_step (by repeat (first | (with_reducible first | exact HB.out | apply below_alloc | apply pw_below_drewN | apply below_drew1 | refine below_set ?_ GE173.out) | exact HB.out)) hb); clear BK173; clear HB; have BK173 := n0_; have HB := n1_; clear n0_ n1_; (try clear hb); (try clear hb2); (try clear hk); (try clear hi); have hcz101_0 : w100.cell? ⟨gb173, 0, none⟩ = some (.int .i64 a0_0) := (blk_cell BK173.out 0).trans rfl; have hcz101_1 : w100.cell? ⟨gb173, 1, none⟩ = some (.int .i64 a0_1) := (blk_cell BK173.out 1).trans rfl; have hcz101_2 : w100.cell? ⟨gb173, 2, none⟩ = some (.int .i64 a0_2) := (blk_cell BK173.out 2).trans rfl; have hcz101_3 : w100.cell? ⟨gb173, 3, none⟩ = some (.int .u32 a0_3) := (blk_cell BK173.out 3).trans rfl; have hcz101_4 : w100.cell? ⟨gb173, 4, none⟩ = some (.int .i64 a0_4) := (blk_cell BK173.out 4).trans rfl; have hcz101_5 : w100.cell? ⟨gb173, 5, none⟩ = some (.int .i64 a0_5) := (blk_cell BK173.out 5).trans rfl; have hcz101_6 : w100.cell? ⟨gb173, 6, none⟩ = some (.int .u64 a0_6) := (blk_cell BK173.out 6).trans rfl; have hfz101_0 := blk_frozen BK173.out 0; have hfz101_1 := blk_frozen BK173.out 1; have hfz101_2 := blk_frozen BK173.out 2; have hfz101_3 := blk_frozen BK173.out 3; have hfz101_4 := blk_frozen BK173.out 4; have hfz101_5 := blk_frozen BK173.out 5; have hfz101_6 := blk_frozen BK173.out 6) | ((with_reducible refine gate_callee (f := 22) rfl ?_); refine goesL_ (some 24) rfl rfl Try.func22 (by kernel_rfl) rfl #[.agg #[.int .i64 a0_0, .int .i64 a0_1, .int .i64 a0_2, .int .u32 a0_3, .int .i64 a0_4, .int .i64 a0_5, .int .u64 a0_6]] rfl (by (try simp only [List.map_toArray, List.map_cons, List.map_nil]); first | done | rfl | (simp only [List.length_drop, List.length_take]; rfl)) ?_; (with_reducible refine (bound_Visit.calls kj3 a0_0 a0_1 a0_2 a0_3 a0_4 a0_5 a0_6 t176 _ A74.out).mono ?_); rintro e w102 ⟨rfl, hb⟩; refine ⟨_, rfl, ?_⟩; have n0_ := Aside0.mk (blk_below (g := gb173) (o := .cells #[.int .i64 a0_0, .int .i64 a0_1, .int .i64 a0_2, .int .u32 a0_3, .int .i64 a0_4, .int .i64 a0_5, .int .u64 a0_6] 35 (0, 0)) (by (with_reducible repeat (first | refine blk_drewN ?_ _ | refine blk_drew ?_ | refine blk_alloc ?_ _)); exact BK173.out) hb); have n1_ := Aside0.mk (below_step (by repeat (first | (with_reducible first | exact HB.out | apply below_alloc | apply pw_below_drewN | apply below_drew1 | refine below_set ?_ GE173.out) | exact HB.out)) hb); clear BK173; clear HB; have BK173 := n0_; have HB := n1_; clear n0_ n1_; (try clear hb); (try clear hb2); (try clear hk); (try clear hi); have hcz103_0 : w102.cell? ⟨gb173, 0, none⟩ = some (.int .i64 a0_0) := (blk_cell BK173.out 0).trans rfl; have hcz103_1 : w102.cell? ⟨gb173, 1, none⟩ = some (.int .i64 a0_1) := (blk_cell BK173.out 1).trans rfl; have hcz103_2 : w102.cell? ⟨gb173, 2, none⟩ = some (.int .i64 a0_2) := (blk_cell BK173.out 2).trans rfl; have hcz103_3 : w102.cell? ⟨gb173, 3, none⟩ = some (.int .u32 a0_3) := (blk_cell BK173.out 3).trans rfl; have hcz103_4 : w102.cell? ⟨gb173, 4, none⟩ = some (.int .i64 a0_4) := (blk_cell BK173.out 4).trans rfl; have hcz103_5 : w102.cell? ⟨gb173, 5, none⟩ = some (.int .i64 a0_5) := (blk_cell BK173.out 5).trans rfl; have hcz103_6 : w102.cell? ⟨gb173, 6, none⟩ = some (.int .u64 a0_6) := (blk_cell BK173.out 6).trans rfl; have hfz103_0 := blk_frozen BK173.out 0; have hfz103_1 := blk_frozen BK173.out 1; have hfz103_2 := blk_frozen BK173.out 2; have hfz103_3 := blk_frozen BK173.out 3; have hfz103_4 := blk_frozen BK173.out 4; have hfz103_5 := blk_frozen BK173.out 5; have hfz103_6 := blk_frozen BK173.out 6) | (go_at_call 23; (with_reducible refine (bound_Push.calls kj3 a0_0 a0_1 a0_2 a0_3 a0_4 a0_5 a0_6 t177 _ A76.out).mono ?_); rintro e w104 ⟨rfl, hb⟩; have n0_ := Aside0.mk (blk_below (g := gb173) (o := .cells #[.int .i64 a0_0, .int .i64 a0_1, .int .i64 a0_2, .int .u32 a0_3, .int .i64 a0_4, .int .i64 a0_5, .int .u64 a0_6] 35 (0, 0)) (by (with_reducible repeat (first | refine blk_drewN ?_ _ | refine blk_drew ?_ | refine blk_alloc ?_ _)); exact BK173.out) hb); have n1_ := Aside0.mk (below_step (by repeat (first | (with_reducible first | exact HB.out | apply below_alloc | apply pw_below_drewN | apply below_drew1 | refine below_set ?_ GE173.out) | exact HB.out)) hb); clear BK173; clear HB; have BK173 := n0_; have HB := n1_; clear n0_ n1_; (try clear hb); (try clear hb2); (try clear hk); (try clear hi); have hcz105_0 : w104.cell? ⟨gb173, 0, none⟩ = some (.int .i64 a0_0) := (blk_cell BK173.out 0).trans rfl; have hcz105_1 : w104.cell? ⟨gb173, 1, none⟩ = some (.int .i64 a0_1) := (blk_cell BK173.out 1).trans rfl; have hcz105_2 : w104.cell? ⟨gb173, 2, none⟩ = some (.int .i64 a0_2) := (blk_cell BK173.out 2).trans rfl; have hcz105_3 : w104.cell? ⟨gb173, 3, none⟩ = some (.int .u32 a0_3) := (blk_cell BK173.out 3).trans rfl; have hcz105_4 : w104.cell? ⟨gb173, 4, none⟩ = some (.int .i64 a0_4) := (blk_cell BK173.out 4).trans rfl; have hcz105_5 : w104.cell? ⟨gb173, 5, none⟩ = some (.int .i64 a0_5) := (blk_cell BK173.out 5).trans rfl; have hcz105_6 : w104.cell? ⟨gb173, 6, none⟩ = some (.int .u64 a0_6) := (blk_cell BK173.out 6).trans rfl; have hfz105_0 := blk_frozen BK173.out 0; have hfz105_1 := blk_frozen BK173.out 1; have hfz105_2 := blk_frozen BK173.out 2; have hfz105_3 := blk_frozen BK173.out 3; have hfz105_4 := blk_frozen BK173.out 4; have hfz105_5 := blk_frozen BK173.out 5; have hfz105_6 := blk_frozen BK173.out 6) | (go_at_call 24; (with_reducible refine (bound_Pop.calls kj3 a0_0 a0_1 a0_2 a0_3 a0_4 a0_5 a0_6 t178 _ A78.out).mono ?_); rintro e w106 ⟨rfl, hb⟩; have n0_ := Aside0.mk (blk_below (g := gb173) (o := .cells #[.int .i64 a0_0, .int .i64 a0_1, .int .i64 a0_2, .int .u32 a0_3, .int .i64 a0_4, .int .i64 a0_5, .int .u64 a0_6] 35 (0, 0)) (by (with_reducible repeat (first | refine blk_drewN ?_ _ | refine blk_drew ?_ | refine blk_alloc ?_ _)); exact BK173.out) hb); have n1_ := Aside0.mk (below_step (by repeat (first | (with_reducible first | exact HB.out | apply below_alloc | apply pw_below_drewN | apply below_drew1 | refine below_set ?_ GE173.out) | exact HB.out)) hb); clear BK173; clear HB; have BK173 := n0_; have HB := n1_; clear n0_ n1_; (try clear hb); (try clear hb2); (try clear hk); (try clear hi); have hcz107_0 : w106.cell? ⟨gb173, 0, none⟩ = some (.int .i64 a0_0) := (blk_cell BK173.out 0).trans rfl; have hcz107_1 : w106.cell? ⟨gb173, 1, none⟩ = some (.int .i64 a0_1) := (blk_cell BK173.out 1).trans rfl; have hcz107_2 : w106.cell? ⟨gb173, 2, none⟩ = some (.int .i64 a0_2) := (blk_cell BK173.out 2).trans rfl; have hcz107_3 : w106.cell? ⟨gb173, 3, none⟩ = some (.int .u32 a0_3) := (blk_cell BK173.out 3).trans rfl; have hcz107_4 : w106.cell? ⟨gb173, 4, none⟩ = some (.int .i64 a0_4) := (blk_cell BK173.out 4).trans rfl; have hcz107_5 : w106.cell? ⟨gb173, 5, none⟩ = some (.int .i64 a0_5) := (blk_cell BK173.out 5).trans rfl; have hcz107_6 : w106.cell? ⟨gb173, 6, none⟩ = some (.int .u64 a0_6) := (blk_cell BK173.out 6).trans rfl; have hfz107_0 := blk_frozen BK173.out 0; have hfz107_1 := blk_frozen BK173.out 1; have hfz107_2 := blk_frozen BK173.out 2; have hfz107_3 := blk_frozen BK173.out 3; have hfz107_4 := blk_frozen BK173.out 4; have hfz107_5 := blk_frozen BK173.out 5; have hfz107_6 := blk_frozen BK173.out 6) | (go_at_call 25; (with_reducible refine (bound_Acquire.calls kj3 a0_0 a0_1 a0_2 a0_3 a0_4 a0_5 a0_6 t179 _ A80.out).mono ?_); rintro e w108 ⟨rfl, hb⟩; have n0_ := Aside0.mk (blk_below (g := gb173) (o := .cells #[.int .i64 a0_0, .int .i64 a0_1, .int .i64 a0_2, .int .u32 a0_3, .int .i64 a0_4, .int .i64 a0_5, .int .u64 a0_6] 35 (0, 0)) (by (with_reducible repeat (first | refine blk_drewN ?_ _ | refine blk_drew ?_ | refine blk_alloc ?_ _)); exact BK173.out) hb); have n1_ := Aside0.mk (below_step (by repeat (first | (with_reducible first | exact HB.out | apply below_alloc | apply pw_below_drewN | apply below_drew1 | refine below_set ?_ GE173.out) | exact HB.out)) hb); clear BK173; clear HB; have BK173 := n0_; have HB := n1_; clear n0_ n1_; (try clear hb); (try clear hb2); (try clear hk); (try clear hi); have hcz109_0 : w108.cell? ⟨gb173, 0, none⟩ = some (.int .i64 a0_0) := (blk_cell BK173.out 0).trans rfl; have hcz109_1 : w108.cell? ⟨gb173, 1, none⟩ = some (.int .i64 a0_1) := (blk_cell BK173.out 1).trans rfl; have hcz109_2 : w108.cell? ⟨gb173, 2, none⟩ = some (.int .i64 a0_2) := (blk_cell BK173.out 2).trans rfl; have hcz109_3 : w108.cell? ⟨gb173, 3, none⟩ = some (.int .u32 a0_3) := (blk_cell BK173.out 3).trans rfl; have hcz109_4 : w108.cell? ⟨gb173, 4, none⟩ = some (.int .i64 a0_4) := (blk_cell BK173.out 4).trans rfl; have hcz109_5 : w108.cell? ⟨gb173, 5, none⟩ = some (.int .i64 a0_5) := (blk_cell BK173.out 5).trans rfl; have hcz109_6 : w108.cell? ⟨gb173, 6, none⟩ = some (.int .u64 a0_6) := (blk_cell BK173.out 6).trans rfl; have hfz109_0 := blk_frozen BK173.out 0; have hfz109_1 := blk_frozen BK173.out 1; have hfz109_2 := blk_frozen BK173.out 2; have hfz109_3 := blk_frozen BK173.out 3; have hfz109_4 := blk_frozen BK173.out 4; have hfz109_5 := blk_frozen BK173.out 5; have hfz109_6 := blk_frozen BK173.out 6) | (go_at_call 26; (with_reducible refine (bound_Release.calls kj3 a0_0 a0_1 a0_2 a0_3 a0_4 a0_5 a0_6 t180 _ A82.out).mono ?_); rintro e w110 ⟨rfl, hb⟩; have n0_ := Aside0.mk (blk_below (g := gb173) (o := .cells #[.int .i64 a0_0, .int .i64 a0_1, .int .i64 a0_2, .int .u32 a0_3, .int .i64 a0_4, .int .i64 a0_5, .int .u64 a0_6] 35 (0, 0)) (by (with_reducible repeat (first | refine blk_drewN ?_ _ | refine blk_drew ?_ | refine blk_alloc ?_ _)); exact BK173.out) hb); have n1_ := Aside0.mk (below_step (by repeat (first | (with_reducible first | exact HB.out | apply below_alloc | apply pw_below_drewN | apply below_drew1 | refine below_set ?_ GE173.out) | exact HB.out)) hb); clear BK173; clear HB; have BK173 := n0_; have HB := n1_; clear n0_ n1_; (try clear hb); (try clear hb2); (try clear hk); (try clear hi)))
                    go_ret
                    exact ⟨by first | rfl | (simp [errW_none, errW_some] <;> rfl) | (simp [*, errW_none, errW_some] <;> rfl), by repeat (first | (with_reducible first | exact HB.out | apply below_alloc | apply pw_below_drewN | apply below_drew1 | refine below_set ?_ GE173.out) | exact HB.out)⟩
                · rw [if_neg c81] at H
                  have c81b0 : (t179 == 0) = false := beq_eq_false_iff_ne.mpr c81
                  have c81b1 : (t179 != 0) = true := bne_iff_ne.mpr c81
                  obtain rfl := Option.some.inj H
                  have hcz111_0 : wc.cell? ⟨gb173, 0, none⟩ = some (.int .i64 a0_0) := (blk_cell BK173.out 0).trans rfl
                  have hcz111_1 : wc.cell? ⟨gb173, 1, none⟩ = some (.int .i64 a0_1) := (blk_cell BK173.out 1).trans rfl
                  have hcz111_2 : wc.cell? ⟨gb173, 2, none⟩ = some (.int .i64 a0_2) := (blk_cell BK173.out 2).trans rfl
                  have hcz111_3 : wc.cell? ⟨gb173, 3, none⟩ = some (.int .u32 a0_3) := (blk_cell BK173.out 3).trans rfl
                  have hcz111_4 : wc.cell? ⟨gb173, 4, none⟩ = some (.int .i64 a0_4) := (blk_cell BK173.out 4).trans rfl
                  have hcz111_5 : wc.cell? ⟨gb173, 5, none⟩ = some (.int .i64 a0_5) := (blk_cell BK173.out 5).trans rfl
                  have hcz111_6 : wc.cell? ⟨gb173, 6, none⟩ = some (.int .u64 a0_6) := (blk_cell BK173.out 6).trans rfl
                  have hfz111_0 := blk_frozen BK173.out 0
                  have hfz111_1 := blk_frozen BK173.out 1
                  have hfz111_2 := blk_frozen BK173.out 2
                  have hfz111_3 := blk_frozen BK173.out 3
                  have hfz111_4 := blk_frozen BK173.out 4
                  have hfz111_5 := blk_frozen BK173.out 5
                  have hfz111_6 := blk_frozen BK173.out 6
                  go_wp2_with (first | ((with_reducible refine gate_callee (f := 21) rfl ?_); refine goesL_ (some 21) rfl rfl Try.func21 (by kernel_rfl) rfl #[.agg #[.int .i64 a0_0, .int .i64 a0_1, .int .i64 a0_2, .int .u32 a0_3, .int .i64 a0_4, .int .i64 a0_5, .int .u64 a0_6]] rfl (by (try simp only [List.map_toArray, List.map_cons, List.map_nil]); first | done | rfl | (simp only [List.length_drop, List.length_take]; rfl)) ?_; (with_reducible refine (ebstack_Check.calls a0_0 a0_1 a0_2 a0_3 a0_4 a0_5 a0_6 t175 _ A9.out).mono ?_); rintro e w112 ⟨rfl, hb⟩; refine ⟨_, rfl, ?_⟩; have n0_ := Aside0.mk (blk_below (g := gb173) (o := .cells #[.int .i64 a0_0, .int .i64 a0_1, .int .i64 a0_2, .int .u32 a0_3, .int .i64 a0_4, .int .i64 a0_5, .int .u64 a0_6] 35 (0, 0)) (by (with_reducible repeat (first | refine blk_drewN ?_ _ | refine blk_drew ?_ | refine blk_alloc ?_ _)); exact BK173.out) hb); have n1_ := Aside0.mk (below_step (by repeat (first | (with_reducible first | exact HB.out | apply below_alloc | apply pw_below_drewN | apply below_drew1 | refine below_set ?_ GE173.out) | exact HB.out)) hb); clear BK173; clear HB; have BK173 := n0_; have HB := n1_; clear n0_ n1_; (try clear hb); (try clear hb2); (try clear hk); (try clear hi); have hcz113_0 : w112.cell? ⟨gb173, 0, none⟩ = some (.int .i64 a0_0) := (blk_cell BK173.out 0).trans rfl; have hcz113_1 : w112.cell? ⟨gb173, 1, none⟩ = some (.int .i64 a0_1) := (blk_cell BK173.out 1).trans rfl; have hcz113_2 : w112.cell? ⟨gb173, 2, none⟩ = some (.int .i64 a0_2) := (blk_cell BK173.out 2).trans rfl; have hcz113_3 : w112.cell? ⟨gb173, 3, none⟩ = some (.int .u32 a0_3) := (blk_cell BK173.out 3).trans rfl; have hcz113_4 : w112.cell? ⟨gb173, 4, none⟩ = some (.int .i64 a0_4) := (blk_cell BK173.out 4).trans rfl; have hcz113_5 : w112.cell? ⟨gb173, 5, none⟩ = some (.int .i64 a0_5) := (blk_cell BK173.out 5).trans rfl; have hcz113_6 : w112.cell? ⟨gb173, 6, none⟩ = some (.int .u64 a0_6) := (blk_cell BK173.out 6).trans rfl; have hfz113_0 := blk_frozen BK173.out 0; have hfz113_1 := blk_frozen BK173.out 1; have hfz113_2 := blk_frozen BK173.out 2; have hfz113_3 := blk_frozen BK173.out 3; have hfz113_4 := blk_frozen BK173.out 4; have hfz113_5 := blk_frozen BK173.out 5; have hfz113_6 := blk_frozen BK173.out 6) | ((with_reducible refine gate_callee (f := 22) rfl ?_); refine goesL_ (some 24) rfl rfl Try.func22 (by kernel_rfl) rfl #[.agg #[.int .i64 a0_0, .int .i64 a0_1, .int .i64 a0_2, .int .u32 a0_3, .int .i64 a0_4, .int .i64 a0_5, .int .u64 a0_6]] rfl (by (try simp only [List.map_toArray, List.map_cons, List.map_nil]); first | done | rfl | (simp only [List.length_drop, List.length_take]; rfl)) ?_; (with_reducible refine (bound_Visit.calls kj3 a0_0 a0_1 a0_2 a0_3 a0_4 a0_5 a0_6 t176 _ A74.out).mono ?_); rintro e w114 ⟨rfl, hb⟩; refine ⟨_, rfl, ?_⟩; have n0_ := Aside0.mk (blk_below (g := gb173) (o := .cells #[.int .i64 a0_0, .int .i64 a0_1, .int .i64 a0_2, .int .u32 a0_3, .int .i64 a0_4, .int .i64 a0_5, .int .u64 a0_6] 35 (0, 0)) (by (with_reducible repeat (first | refine blk_drewN ?_ _ | refine blk_drew ?_ | refine blk_alloc ?_ _)); exact BK173.out) hb); have n1_ := Aside0.mk (below_step (by repeat (first | (with_reducible first | exact HB.out | apply below_alloc | apply pw_below_drewN | apply below_drew1 | refine below_set ?_ GE173.out) | exact HB.out)) hb); clear BK173; clear HB; have BK173 := n0_; have HB := n1_; clear n0_ n1_; (try clear hb); (try clear hb2); (try clear hk); (try clear hi); have hcz115_0 : w114.cell? ⟨gb173, 0, none⟩ = some (.int .i64 a0_0) := (blk_cell BK173.out 0).trans rfl; have hcz115_1 : w114.cell? ⟨gb173, 1, none⟩ = some (.int .i64 a0_1) := (blk_cell BK173.out 1).trans rfl; have hcz115_2 : w114.cell? ⟨gb173, 2, none⟩ = some (.int .i64 a0_2) := (blk_cell BK173.out 2).trans rfl; have hcz115_3 : w114.cell? ⟨gb173, 3, none⟩ = some (.int .u32 a0_3) := (blk_cell BK173.out 3).trans rfl; have hcz115_4 : w114.cell? ⟨gb173, 4, none⟩ = some (.int .i64 a0_4) := (blk_cell BK173.out 4).trans rfl; have hcz115_5 : w114.cell? ⟨gb173, 5, none⟩ = some (.int .i64 a0_5) := (blk_cell BK173.out 5).trans rfl; have hcz115_6 : w114.cell? ⟨gb173, 6, none⟩ = some (.int .u64 a0_6) := (blk_cell BK173.out 6).trans rfl; have hfz115_0 := blk_frozen BK173.out 0; have hfz115_1 := blk_frozen BK173.out 1; have hfz115_2 := blk_frozen BK173.out 2; have hfz115_3 := blk_frozen BK173.out 3; have hfz115_4 := blk_frozen BK173.out 4; have hfz115_5 := blk_frozen BK173.out 5; have hfz115_6 := blk_frozen BK173.out 6) | (go_at_call 23; (with_reducible refine (bound_Push.calls kj3 a0_0 a0_1 a0_2 a0_3 a0_4 a0_5 a0_6 t177 _ A76.out).mono ?_); rintro e w116 ⟨rfl, hb⟩; have n0_ := Aside0.mk (blk_below (g := gb173) (o := .cells #[.int .i64 a0_0, .int .i64 a0_1, .int .i64 a0_2, .int .u32 a0_3, .int .i64 a0_4, .int .i64 a0_5, .int .u64 a0_6] 35 (0, 0)) (by (with_reducible repeat (first | refine blk_drewN ?_ _ | refine blk_drew ?_ | refine blk_alloc ?_ _)); exact BK173.out) hb); have n1_ := Aside0.mk (below_step (by repeat (first | (with_reducible first | exact HB.out | apply below_alloc | apply pw_below_drewN | apply below_drew1 | refine below_set ?_ GE173.out) | exact HB.out)) hb); clear BK173; clear HB; have BK173 := n0_; have HB := n1_; clear n0_ n1_; (try clear hb); (try clear hb2); (try clear hk); (try clear hi); have hcz117_0 : w116.cell? ⟨gb173, 0, none⟩ = some (.int .i64 a0_0) := (blk_cell BK173.out 0).trans rfl; have hcz117_1 : w116.cell? ⟨gb173, 1, none⟩ = some (.int .i64 a0_1) := (blk_cell BK173.out 1).trans rfl; have hcz117_2 : w116.cell? ⟨gb173, 2, none⟩ = some (.int .i64 a0_2) := (blk_cell BK173.out 2).trans rfl; have hcz117_3 : w116.cell? ⟨gb173, 3, none⟩ = some (.int .u32 a0_3) := (blk_cell BK173.out 3).trans rfl; have hcz117_4 : w116.cell? ⟨gb173, 4, none⟩ = some (.int .i64 a0_4) := (blk_cell BK173.out 4).trans rfl; have hcz117_5 : w116.cell? ⟨gb173, 5, none⟩ = some (.int .i64 a0_5) := (blk_cell BK173.out 5).trans rfl; have hcz117_6 : w116.cell? ⟨gb173, 6, none⟩ = some (.int .u64 a0_6) := (blk_cell BK173.out 6).trans rfl; have hfz117_0 := blk_frozen BK173.out 0; have hfz117_1 := blk_frozen BK173.out 1; have hfz117_2 := blk_frozen BK173.out 2; have hfz117_3 := blk_frozen BK173.out 3; have hfz117_4 := blk_frozen BK173.out 4; have hfz117_5 := blk_frozen BK173.out 5; have hfz117_6 := blk_frozen BK173.out 6) | (go_at_call 24; (with_reducible refine (bound_Pop.calls kj3 a0_0 a0_1 a0_2 a0_3 a0_4 a0_5 a0_6 t178 _ A78.out).mono ?_); rintro e w118 ⟨rfl, hb⟩; have n0_ := Aside0.mk (blk_below (g := gb173) (o := .cells #[.int .i64 a0_0, .int .i64 a0_1, .int .i64 a0_2, .int .u32 a0_3, .int .i64 a0_4, .int .i64 a0_5, .int .u64 a0_6] 35 (0, 0)) (by (with_reducible repeat (first | refine blk_drewN ?_ _ | refine blk_drew ?_ | refine blk_alloc ?_ _)); exact BK173.out) hb); have n1_ := Aside0.mk (below_step (by repeat (first | (with_reducible first | exact HB.out | apply below_alloc | apply pw_below_drewN | apply below_drew1 | refine below_set ?_ GE173.out) | exact HB.out)) hb); clear BK173; clear HB; have BK173 := n0_; have HB := n1_; clear n0_ n1_; (try clear hb); (try clear hb2); (try clear hk); (try clear hi); have hcz119_0 : w118.cell? ⟨gb173, 0, none⟩ = some (.int .i64 a0_0) := (blk_cell BK173.out 0).trans rfl; have hcz119_1 : w118.cell? ⟨gb173, 1, none⟩ = some (.int .i64 a0_1) := (blk_cell BK173.out 1).trans rfl; have hcz119_2 : w118.cell? ⟨gb173, 2, none⟩ = some (.int .i64 a0_2) := (blk_cell BK173.out 2).trans rfl; have hcz119_3 : w118.cell? ⟨gb173, 3, none⟩ = some (.int .u32 a0_3) := (blk_cell BK173.out 3).trans rfl; have hcz119_4 : w118.cell? ⟨gb173, 4, none⟩ = some (.int .i64 a0_4) := (blk_cell BK173.out 4).trans rfl; have hcz119_5 : w118.cell? ⟨gb173, 5, none⟩ = some (.int .i64 a0_5) := (blk_cell BK173.out 5).trans rfl; have hcz119_6 : w118.cell? ⟨gb173, 6, none⟩ = some (.int .u64 a0_6) := (blk_cell BK173.out 6).trans rfl; have hfz119_0 := blk_frozen BK173.out 0; have hfz119_1 := blk_frozen BK173.out 1; have hfz119_2 := blk_frozen BK173.out 2; have hfz119_3 := blk_frozen BK173.out 3; have hfz119_4 := blk_frozen BK173.out 4; have hfz119_5 := blk_frozen BK173.out 5; have hfz119_6 := blk_frozen BK173.out 6) | (go_at_call 25; (with_reducible refine (bound_Acquire.calls kj3 a0_0 a0_1 a0_2 a0_3 a0_4 a0_5 a0_6 t179 _ A80.out).mono ?_); rintro e w120 ⟨rfl, hb⟩; have n0_ := Aside0.mk (blk_below (g := gb173) (o := .cells #[.int .i64 a0_0, .int .i64 a0_1, .int .i64 a0_2, .int .u32 a0_3, .int .i64 a0_4, .int .i64 a0_5, .int .u64 a0_6] 35 (0, 0)) (by (with_reducible repeat (first | refine blk_drewN ?_ _ | refine blk_drew ?_ | refine blk_alloc ?_ _)); exact BK173.out) hb); have n1_ := Aside0.mk (below_step (by repeat (first | (with_reducible first | exact HB.out | apply below_alloc | apply pw_below_drewN | apply below_drew1 | refine below_set ?_ GE173.out) | exact HB.out)) hb); clear BK173; clear HB; have BK173 := n0_; have HB := n1_; clear n0_ n1_; (try clear hb); (try clear hb2); (try clear hk); (try clear hi)))
                  go_ret
                  exact ⟨by first | rfl | (simp [errW_none, errW_some] <;> rfl) | (simp [*, errW_none, errW_some] <;> rfl), by repeat (first | (with_reducible first | exact HB.out | apply below_alloc | apply pw_below_drewN | apply below_drew1 | refine below_set ?_ GE173.out) | exact HB.out)⟩
              · rw [if_neg c79] at H
                have c79b0 : (t178 == 0) = false := beq_eq_false_iff_ne.mpr c79
                have c79b1 : (t178 != 0) = true := bne_iff_ne.mpr c79
                obtain rfl := Option.some.inj H
                have hcz121_0 : wc.cell? ⟨gb173, 0, none⟩ = some (.int .i64 a0_0) := (blk_cell BK173.out 0).trans rfl
                have hcz121_1 : wc.cell? ⟨gb173, 1, none⟩ = some (.int .i64 a0_1) := (blk_cell BK173.out 1).trans rfl
                have hcz121_2 : wc.cell? ⟨gb173, 2, none⟩ = some (.int .i64 a0_2) := (blk_cell BK173.out 2).trans rfl
                have hcz121_3 : wc.cell? ⟨gb173, 3, none⟩ = some (.int .u32 a0_3) := (blk_cell BK173.out 3).trans rfl
                have hcz121_4 : wc.cell? ⟨gb173, 4, none⟩ = some (.int .i64 a0_4) := (blk_cell BK173.out 4).trans rfl
                have hcz121_5 : wc.cell? ⟨gb173, 5, none⟩ = some (.int .i64 a0_5) := (blk_cell BK173.out 5).trans rfl
                have hcz121_6 : wc.cell? ⟨gb173, 6, none⟩ = some (.int .u64 a0_6) := (blk_cell BK173.out 6).trans rfl
                have hfz121_0 := blk_frozen BK173.out 0
                have hfz121_1 := blk_frozen BK173.out 1
                have hfz121_2 := blk_frozen BK173.out 2
                have hfz121_3 := blk_frozen BK173.out 3
                have hfz121_4 := blk_frozen BK173.out 4
                have hfz121_5 := blk_frozen BK173.out 5
                have hfz121_6 := blk_frozen BK173.out 6
                go_wp2_with (first | ((with_reducible refine gate_callee (f := 21) rfl ?_); refine goesL_ (some 21) rfl rfl Try.func21 (by kernel_rfl) rfl #[.agg #[.int .i64 a0_0, .int .i64 a0_1, .int .i64 a0_2, .int .u32 a0_3, .int .i64 a0_4, .int .i64 a0_5, .int .u64 a0_6]] rfl (by (try simp only [List.map_toArray, List.map_cons, List.map_nil]); first | done | rfl | (simp only [List.length_drop, List.length_take]; rfl)) ?_; (with_reducible refine (ebstack_Check.calls a0_0 a0_1 a0_2 a0_3 a0_4 a0_5 a0_6 t175 _ A9.out).mono ?_); rintro e w122 ⟨rfl, hb⟩; refine ⟨_, rfl, ?_⟩; have n0_ := Aside0.mk (blk_below (g := gb173) (o := .cells #[.int .i64 a0_0, .int .i64 a0_1, .int .i64 a0_2, .int .u32 a0_3, .int .i64 a0_4, .int .i64 a0_5, .int .u64 a0_6] 35 (0, 0)) (by (with_reducible repeat (first | refine blk_drewN ?_ _ | refine blk_drew ?_ | refine blk_alloc ?_ _)); exact BK173.out) hb); have n1_ := Aside0.mk (below_step (by repeat (first | (with_reducible first | exact HB.out | apply below_alloc | apply pw_below_drewN | apply below_drew1 | refine below_set ?_ GE173.out) | exact HB.out)) hb); clear BK173; clear HB; have BK173 := n0_; have HB := n1_; clear n0_ n1_; (try clear hb); (try clear hb2); (try clear hk); (try clear hi); have hcz123_0 : w122.cell? ⟨gb173, 0, none⟩ = some (.int .i64 a0_0) := (blk_cell BK173.out 0).trans rfl; have hcz123_1 : w122.cell? ⟨gb173, 1, none⟩ = some (.int .i64 a0_1) := (blk_cell BK173.out 1).trans rfl; have hcz123_2 : w122.cell? ⟨gb173, 2, none⟩ = some (.int .i64 a0_2) := (blk_cell BK173.out 2).trans rfl; have hcz123_3 : w122.cell? ⟨gb173, 3, none⟩ = some (.int .u32 a0_3) := (blk_cell BK173.out 3).trans rfl; have hcz123_4 : w122.cell? ⟨gb173, 4, none⟩ = some (.int .i64 a0_4) := (blk_cell BK173.out 4).trans rfl; have hcz123_5 : w122.cell? ⟨gb173, 5, none⟩ = some (.int .i64 a0_5) := (blk_cell BK173.out 5).trans rfl; have hcz123_6 : w122.cell? ⟨gb173, 6, none⟩ = some (.int .u64 a0_6) := (blk_cell BK173.out 6).trans rfl; have hfz123_0 := blk_frozen BK173.out 0; have hfz123_1 := blk_frozen BK173.out 1; have hfz123_2 := blk_frozen BK173.out 2; have hfz123_3 := blk_frozen BK173.out 3; have hfz123_4 := blk_frozen BK173.out 4; have hfz123_5 := blk_frozen BK173.out 5; have hfz123_6 := blk_frozen BK173.out 6) | ((with_reducible refine gate_callee (f := 22) rfl ?_); refine goesL_ (some 24) rfl rfl Try.func22 (by kernel_rfl) rfl #[.agg #[.int .i64 a0_0, .int .i64 a0_1, .int .i64 a0_2, .int .u32 a0_3, .int .i64 a0_4, .int .i64 a0_5, .int .u64 a0_6]] rfl (by (try simp only [List.map_toArray, List.map_cons, List.map_nil]); first | done | rfl | (simp only [List.length_drop, List.length_take]; rfl)) ?_; (with_reducible refine (bound_Visit.calls kj3 a0_0 a0_1 a0_2 a0_3 a0_4 a0_5 a0_6 t176 _ A74.out).mono ?_); rintro e w124 ⟨rfl, hb⟩; refine ⟨_, rfl, ?_⟩; have n0_ := Aside0.mk (blk_below (g := gb173) (o := .cells #[.int .i64 a0_0, .int .i64 a0_1, .int .i64 a0_2, .int .u32 a0_3, .int .i64 a0_4, .int .i64 a0_5, .int .u64 a0_6] 35 (0, 0)) (by (with_reducible repeat (first | refine blk_drewN ?_ _ | refine blk_drew ?_ | refine blk_alloc ?_ _)); exact BK173.out) hb); have n1_ := Aside0.mk (below_step (by repeat (first | (with_reducible first | exact HB.out | apply below_alloc | apply pw_below_drewN | apply below_drew1 | refine below_set ?_ GE173.out) | exact HB.out)) hb); clear BK173; clear HB; have BK173 := n0_; have HB := n1_; clear n0_ n1_; (try clear hb); (try clear hb2); (try clear hk); (try clear hi); have hcz125_0 : w124.cell? ⟨gb173, 0, none⟩ = some (.int .i64 a0_0) := (blk_cell BK173.out 0).trans rfl; have hcz125_1 : w124.cell? ⟨gb173, 1, none⟩ = some (.int .i64 a0_1) := (blk_cell BK173.out 1).trans rfl; have hcz125_2 : w124.cell? ⟨gb173, 2, none⟩ = some (.int .i64 a0_2) := (blk_cell BK173.out 2).trans rfl; have hcz125_3 : w124.cell? ⟨gb173, 3, none⟩ = some (.int .u32 a0_3) := (blk_cell BK173.out 3).trans rfl; have hcz125_4 : w124.cell? ⟨gb173, 4, none⟩ = some (.int .i64 a0_4) := (blk_cell BK173.out 4).trans rfl; have hcz125_5 : w124.cell? ⟨gb173, 5, none⟩ = some (.int .i64 a0_5) := (blk_cell BK173.out 5).trans rfl; have hcz125_6 : w124.cell? ⟨gb173, 6, none⟩ = some (.int .u64 a0_6) := (blk_cell BK173.out 6).trans rfl; have hfz125_0 := blk_frozen BK173.out 0; have hfz125_1 := blk_frozen BK173.out 1; have hfz125_2 := blk_frozen BK173.out 2; have hfz125_3 := blk_frozen BK173.out 3; have hfz125_4 := blk_frozen BK173.out 4; have hfz125_5 := blk_frozen BK173.out 5; have hfz125_6 := blk_frozen BK173.out 6) | (go_at_call 23; (with_reducible refine (bound_Push.calls kj3 a0_0 a0_1 a0_2 a0_3 a0_4 a0_5 a0_6 t177 _ A76.out).mono ?_); rintro e w126 ⟨rfl, hb⟩; have n0_ := Aside0.mk (blk_below (g := gb173) (o := .cells #[.int .i64 a0_0, .int .i64 a0_1, .int .i64 a0_2, .int .u32 a0_3, .int .i64 a0_4, .int .i64 a0_5, .int .u64 a0_6] 35 (0, 0)) (by (with_reducible repeat (first | refine blk_drewN ?_ _ | refine blk_drew ?_ | refine blk_alloc ?_ _)); exact BK173.out) hb); have n1_ := Aside0.mk (below_step (by repeat (first | (with_reducible first | exact HB.out | apply below_alloc | apply pw_below_drewN | apply below_drew1 | refine below_set ?_ GE173.out) | exact HB.out)) hb); clear BK173; clear HB; have BK173 := n0_; have HB := n1_; clear n0_ n1_; (try clear hb); (try clear hb2); (try clear hk); (try clear hi); have hcz127_0 : w126.cell? ⟨gb173, 0, none⟩ = some (.int .i64 a0_0) := (blk_cell BK173.out 0).trans rfl; have hcz127_1 : w126.cell? ⟨gb173, 1, none⟩ = some (.int .i64 a0_1) := (blk_cell BK173.out 1).trans rfl; have hcz127_2 : w126.cell? ⟨gb173, 2, none⟩ = some (.int .i64 a0_2) := (blk_cell BK173.out 2).trans rfl; have hcz127_3 : w126.cell? ⟨gb173, 3, none⟩ = some (.int .u32 a0_3) := (blk_cell BK173.out 3).trans rfl; have hcz127_4 : w126.cell? ⟨gb173, 4, none⟩ = some (.int .i64 a0_4) := (blk_cell BK173.out 4).trans rfl; have hcz127_5 : w126.cell? ⟨gb173, 5, none⟩ = some (.int .i64 a0_5) := (blk_cell BK173.out 5).trans rfl; have hcz127_6 : w126.cell? ⟨gb173, 6, none⟩ = some (.int .u64 a0_6) := (blk_cell BK173.out 6).trans rfl; have hfz127_0 := blk_frozen BK173.out 0; have hfz127_1 := blk_frozen BK173.out 1; have hfz127_2 := blk_frozen BK173.out 2; have hfz127_3 := blk_frozen BK173.out 3; have hfz127_4 := blk_frozen BK173.out 4; have hfz127_5 := blk_frozen BK173.out 5; have hfz127_6 := blk_frozen BK173.out 6) | (go_at_call 24; (with_reducible refine (bound_Pop.calls kj3 a0_0 a0_1 a0_2 a0_3 a0_4 a0_5 a0_6 t178 _ A78.out).mono ?_); rintro e w128 ⟨rfl, hb⟩; have n0_ := Aside0.mk (blk_below (g := gb173) (o := .cells #[.int .i64 a0_0, .int .i64 a0_1, .int .i64 a0_2, .int .u32 a0_3, .int .i64 a0_4, .int .i64 a0_5, .int .u64 a0_6] 35 (0, 0)) (by (with_reducible repeat (first | refine blk_drewN ?_ _ | refine blk_drew ?_ | refine blk_alloc ?_ _)); exact BK173.out) hb); have n1_ := Aside0.mk (below_step (by repeat (first | (with_reducible first | exact HB.out | apply below_alloc | apply pw_below_drewN | apply below_drew1 | refine below_set ?_ GE173.out) | exact HB.out)) hb); clear BK173; clear HB; have BK173 := n0_; have HB := n1_; clear n0_ n1_; (try clear hb); (try clear hb2); (try clear hk); (try clear hi)))
                go_ret
                exact ⟨by first | rfl | (simp [errW_none, errW_some] <;> rfl) | (simp [*, errW_none, errW_some] <;> rfl), by repeat (first | (with_reducible first | exact HB.out | apply below_alloc | apply pw_below_drewN | apply below_drew1 | refine below_set ?_ GE173.out) | exact HB.out)⟩
            · rw [if_neg c77] at H
              have c77b0 : (t177 == 0) = false := beq_eq_false_iff_ne.mpr c77
              have c77b1 : (t177 != 0) = true := bne_iff_ne.mpr c77
              obtain rfl := Option.some.inj H
              have hcz129_0 : wc.cell? ⟨gb173, 0, none⟩ = some (.int .i64 a0_0) := (blk_cell BK173.out 0).trans rfl
              have hcz129_1 : wc.cell? ⟨gb173, 1, none⟩ = some (.int .i64 a0_1) := (blk_cell BK173.out 1).trans rfl
              have hcz129_2 : wc.cell? ⟨gb173, 2, none⟩ = some (.int .i64 a0_2) := (blk_cell BK173.out 2).trans rfl
              have hcz129_3 : wc.cell? ⟨gb173, 3, none⟩ = some (.int .u32 a0_3) := (blk_cell BK173.out 3).trans rfl
              have hcz129_4 : wc.cell? ⟨gb173, 4, none⟩ = some (.int .i64 a0_4) := (blk_cell BK173.out 4).trans rfl
              have hcz129_5 : wc.cell? ⟨gb173, 5, none⟩ = some (.int .i64 a0_5) := (blk_cell BK173.out 5).trans rfl
              have hcz129_6 : wc.cell? ⟨gb173, 6, none⟩ = some (.int .u64 a0_6) := (blk_cell BK173.out 6).trans rfl
              have hfz129_0 := blk_frozen BK173.out 0
              have hfz129_1 := blk_frozen BK173.out 1
              have hfz129_2 := blk_frozen BK173.out 2
              have hfz129_3 := blk_frozen BK173.out 3
              have hfz129_4 := blk_frozen BK173.out 4
              have hfz129_5 := blk_frozen BK173.out 5
              have hfz129_6 := blk_frozen BK173.out 6
              go_wp2_with (first | ((with_reducible refine gate_callee (f := 21) rfl ?_); refine goesL_ (some 21) rfl rfl Try.func21 (by kernel_rfl) rfl #[.agg #[.int .i64 a0_0, .int .i64 a0_1, .int .i64 a0_2, .int .u32 a0_3, .int .i64 a0_4, .int .i64 a0_5, .int .u64 a0_6]] rfl (by (try simp only [List.map_toArray, List.map_cons, List.map_nil]); first | done | rfl | (simp only [List.length_drop, List.length_take]; rfl)) ?_; (with_reducible refine (ebstack_Check.calls a0_0 a0_1 a0_2 a0_3 a0_4 a0_5 a0_6 t175 _ A9.out).mono ?_); rintro e w130 ⟨rfl, hb⟩; refine ⟨_, rfl, ?_⟩; have n0_ := Aside0.mk (blk_below (g := gb173) (o := .cells #[.int .i64 a0_0, .int .i64 a0_1, .int .i64 a0_2, .int .u32 a0_3, .int .i64 a0_4, .int .i64 a0_5, .int .u64 a0_6] 35 (0, 0)) (by (with_reducible repeat (first | refine blk_drewN ?_ _ | refine blk_drew ?_ | refine blk_alloc ?_ _)); exact BK173.out) hb); have n1_ := Aside0.mk (below_step (by repeat (first | (with_reducible first | exact HB.out | apply below_alloc | apply pw_below_drewN | apply below_drew1 | refine below_set ?_ GE173.out) | exact HB.out)) hb); clear BK173; clear HB; have BK173 := n0_; have HB := n1_; clear n0_ n1_; (try clear hb); (try clear hb2); (try clear hk); (try clear hi); have hcz131_0 : w130.cell? ⟨gb173, 0, none⟩ = some (.int .i64 a0_0) := (blk_cell BK173.out 0).trans rfl; have hcz131_1 : w130.cell? ⟨gb173, 1, none⟩ = some (.int .i64 a0_1) := (blk_cell BK173.out 1).trans rfl; have hcz131_2 : w130.cell? ⟨gb173, 2, none⟩ = some (.int .i64 a0_2) := (blk_cell BK173.out 2).trans rfl; have hcz131_3 : w130.cell? ⟨gb173, 3, none⟩ = some (.int .u32 a0_3) := (blk_cell BK173.out 3).trans rfl; have hcz131_4 : w130.cell? ⟨gb173, 4, none⟩ = some (.int .i64 a0_4) := (blk_cell BK173.out 4).trans rfl; have hcz131_5 : w130.cell? ⟨gb173, 5, none⟩ = some (.int .i64 a0_5) := (blk_cell BK173.out 5).trans rfl; have hcz131_6 : w130.cell? ⟨gb173, 6, none⟩ = some (.int .u64 a0_6) := (blk_cell BK173.out 6).trans rfl; have hfz131_0 := blk_frozen BK173.out 0; have hfz131_1 := blk_frozen BK173.out 1; have hfz131_2 := blk_frozen BK173.out 2; have hfz131_3 := blk_frozen BK173.out 3; have hfz131_4 := blk_frozen BK173.out 4; have hfz131_5 := blk_frozen BK173.out 5; have hfz131_6 := blk_frozen BK173.out 6) | ((with_reducible refine gate_callee (f := 22) rfl ?_); refine goesL_ (some 24) rfl rfl Try.func22 (by kernel_rfl) rfl #[.agg #[.int .i64 a0_0, .int .i64 a0_1, .int .i64 a0_2, .int .u32 a0_3, .int .i64 a0_4, .int .i64 a0_5, .int .u64 a0_6]] rfl (by (try simp only [List.map_toArray, List.map_cons, List.map_nil]); first | done | rfl | (simp only [List.length_drop, List.length_take]; rfl)) ?_; (with_reducible refine (bound_Visit.calls kj3 a0_0 a0_1 a0_2 a0_3 a0_4 a0_5 a0_6 t176 _ A74.out).mono ?_); rintro e w132 ⟨rfl, hb⟩; refine ⟨_, rfl, ?_⟩; have n0_ := Aside0.mk (blk_below (g := gb173) (o := .cells #[.int .i64 a0_0, .int .i64 a0_1, .int .i64 a0_2, .int .u32 a0_3, .int .i64 a0_4, .int .i64 a0_5, .int .u64 a0_6] 35 (0, 0)) (by (with_reducible repeat (first | refine blk_drewN ?_ _ | refine blk_drew ?_ | refine blk_alloc ?_ _)); exact BK173.out) hb); have n1_ := Aside0.mk (below_step (by repeat (first | (with_reducible first | exact HB.out | apply below_alloc | apply pw_below_drewN | apply below_drew1 | refine below_set ?_ GE173.out) | exact HB.out)) hb); clear BK173; clear HB; have BK173 := n0_; have HB := n1_; clear n0_ n1_; (try clear hb); (try clear hb2); (try clear hk); (try clear hi); have hcz133_0 : w132.cell? ⟨gb173, 0, none⟩ = some (.int .i64 a0_0) := (blk_cell BK173.out 0).trans rfl; have hcz133_1 : w132.cell? ⟨gb173, 1, none⟩ = some (.int .i64 a0_1) := (blk_cell BK173.out 1).trans rfl; have hcz133_2 : w132.cell? ⟨gb173, 2, none⟩ = some (.int .i64 a0_2) := (blk_cell BK173.out 2).trans rfl; have hcz133_3 : w132.cell? ⟨gb173, 3, none⟩ = some (.int .u32 a0_3) := (blk_cell BK173.out 3).trans rfl; have hcz133_4 : w132.cell? ⟨gb173, 4, none⟩ = some (.int .i64 a0_4) := (blk_cell BK173.out 4).trans rfl; have hcz133_5 : w132.cell? ⟨gb173, 5, none⟩ = some (.int .i64 a0_5) := (blk_cell BK173.out 5).trans rfl; have hcz133_6 : w132.cell? ⟨gb173, 6, none⟩ = some (.int .u64 a0_6) := (blk_cell BK173.out 6).trans rfl; have hfz133_0 := blk_frozen BK173.out 0; have hfz133_1 := blk_frozen BK173.out 1; have hfz133_2 := blk_frozen BK173.out 2; have hfz133_3 := blk_frozen BK173.out 3; have hfz133_4 := blk_frozen BK173.out 4; have hfz133_5 := blk_frozen BK173.out 5; have hfz133_6 := blk_frozen BK173.out 6) | (go_at_call 23; (with_reducible refine (bound_Push.calls kj3 a0_0 a0_1 a0_2 a0_3 a0_4 a0_5 a0_6 t177 _ A76.out).mono ?_); rintro e w134 ⟨rfl, hb⟩; have n0_ := Aside0.mk (blk_below (g := gb173) (o := .cells #[.int .i64 a0_0, .int .i64 a0_1, .int .i64 a0_2, .int .u32 a0_3, .int .i64 a0_4, .int .i64 a0_5, .int .u64 a0_6] 35 (0, 0)) (by (with_reducible repeat (first | refine blk_drewN ?_ _ | refine blk_drew ?_ | refine blk_alloc ?_ _)); exact BK173.out) hb); have n1_ := Aside0.mk (below_step (by repeat (first | (with_reducible first | exact HB.out | apply below_alloc | apply pw_below_drewN | apply below_drew1 | refine below_set ?_ GE173.out) | exact HB.out)) hb); clear BK173; clear HB; have BK173 := n0_; have HB := n1_; clear n0_ n1_; (try clear hb); (try clear hb2); (try clear hk); (try clear hi)))
              go_ret
              exact ⟨by first | rfl | (simp [errW_none, errW_some] <;> rfl) | (simp [*, errW_none, errW_some] <;> rfl), by repeat (first | (with_reducible first | exact HB.out | apply below_alloc | apply pw_below_drewN | apply below_drew1 | refine below_set ?_ GE173.out) | exact HB.out)⟩
          · rw [if_neg c75] at H
            have c75b0 : (t176 == 0) = false := beq_eq_false_iff_ne.mpr c75
            have c75b1 : (t176 != 0) = true := bne_iff_ne.mpr c75
            obtain rfl := Option.some.inj H
            have hcz135_0 : wc.cell? ⟨gb173, 0, none⟩ = some (.int .i64 a0_0) := (blk_cell BK173.out 0).trans rfl
            have hcz135_1 : wc.cell? ⟨gb173, 1, none⟩ = some (.int .i64 a0_1) := (blk_cell BK173.out 1).trans rfl
            have hcz135_2 : wc.cell? ⟨gb173, 2, none⟩ = some (.int .i64 a0_2) := (blk_cell BK173.out 2).trans rfl
            have hcz135_3 : wc.cell? ⟨gb173, 3, none⟩ = some (.int .u32 a0_3) := (blk_cell BK173.out 3).trans rfl
            have hcz135_4 : wc.cell? ⟨gb173, 4, none⟩ = some (.int .i64 a0_4) := (blk_cell BK173.out 4).trans rfl
            have hcz135_5 : wc.cell? ⟨gb173, 5, none⟩ = some (.int .i64 a0_5) := (blk_cell BK173.out 5).trans rfl
            have hcz135_6 : wc.cell? ⟨gb173, 6, none⟩ = some (.int .u64 a0_6) := (blk_cell BK173.out 6).trans rfl
            have hfz135_0 := blk_frozen BK173.out 0
            have hfz135_1 := blk_frozen BK173.out 1
            have hfz135_2 := blk_frozen BK173.out 2
            have hfz135_3 := blk_frozen BK173.out 3
            have hfz135_4 := blk_frozen BK173.out 4
            have hfz135_5 := blk_frozen BK173.out 5
            have hfz135_6 := blk_frozen BK173.out 6
            go_wp2_with (first | ((with_reducible refine gate_callee (f := 21) rfl ?_); refine goesL_ (some 21) rfl rfl Try.func21 (by kernel_rfl) rfl #[.agg #[.int .i64 a0_0, .int .i64 a0_1, .int .i64 a0_2, .int .u32 a0_3, .int .i64 a0_4, .int .i64 a0_5, .int .u64 a0_6]] rfl (by (try simp only [List.map_toArray, List.map_cons, List.map_nil]); first | done | rfl | (simp only [List.length_drop, List.length_take]; rfl)) ?_; (with_reducible refine (ebstack_Check.calls a0_0 a0_1 a0_2 a0_3 a0_4 a0_5 a0_6 t175 _ A9.out).mono ?_); rintro e w136 ⟨rfl, hb⟩; refine ⟨_, rfl, ?_⟩; have n0_ := Aside0.mk (blk_below (g := gb173) (o := .cells #[.int .i64 a0_0, .int .i64 a0_1, .int .i64 a0_2, .int .u32 a0_3, .int .i64 a0_4, .int .i64 a0_5, .int .u64 a0_6] 35 (0, 0)) (by (with_reducible repeat (first | refine blk_drewN ?_ _ | refine blk_drew ?_ | refine blk_alloc ?_ _)); exact BK173.out) hb); have n1_ := Aside0.mk (below_step (by repeat (first | (with_reducible first | exact HB.out | apply below_alloc | apply pw_below_drewN | apply below_drew1 | refine below_set ?_ GE173.out) | exact HB.out)) hb); clear BK173; clear HB; have BK173 := n0_; have HB := n1_; clear n0_ n1_; (try clear hb); (try clear hb2); (try clear hk); (try clear hi); have hcz137_0 : w136.cell? ⟨gb173, 0, none⟩ = some (.int .i64 a0_0) := (blk_cell BK173.out 0).trans rfl; have hcz137_1 : w136.cell? ⟨gb173, 1, none⟩ = some (.int .i64 a0_1) := (blk_cell BK173.out 1).trans rfl; have hcz137_2 : w136.cell? ⟨gb173, 2, none⟩ = some (.int .i64 a0_2) := (blk_cell BK173.out 2).trans rfl; have hcz137_3 : w136.cell? ⟨gb173, 3, none⟩ = some (.int .u32 a0_3) := (blk_cell BK173.out 3).trans rfl; have hcz137_4 : w136.cell? ⟨gb173, 4, none⟩ = some (.int .i64 a0_4) := (blk_cell BK173.out 4).trans rfl; have hcz137_5 : w136.cell? ⟨gb173, 5, none⟩ = some (.int .i64 a0_5) := (blk_cell BK173.out 5).trans rfl; have hcz137_6 : w136.cell? ⟨gb173, 6, none⟩ = some (.int .u64 a0_6) := (blk_cell BK173.out 6).trans rfl; have hfz137_0 := blk_frozen BK173.out 0; have hfz137_1 := blk_frozen BK173.out 1; have hfz137_2 := blk_frozen BK173.out 2; have hfz137_3 := blk_frozen BK173.out 3; have hfz137_4 := blk_frozen BK173.out 4; have hfz137_5 := blk_frozen BK173.out 5; have hfz137_6 := blk_frozen BK173.out 6) | ((with_reducible refine gate_callee (f := 22) rfl ?_); refine goesL_ (some 24) rfl rfl Try.func22 (by kernel_rfl) rfl #[.agg #[.int .i64 a0_0, .int .i64 a0_1, .int .i64 a0_2, .int .u32 a0_3, .int .i64 a0_4, .int .i64 a0_5, .int .u64 a0_6]] rfl (by (try simp only [List.map_toArray, List.map_cons, List.map_nil]); first | done | rfl | (simp only [List.length_drop, List.length_take]; rfl)) ?_; (with_reducible refine (bound_Visit.calls kj3 a0_0 a0_1 a0_2 a0_3 a0_4 a0_5 a0_6 t176 _ A74.out).mono ?_); rintro e w138 ⟨rfl, hb⟩; refine ⟨_, rfl, ?_⟩; have n0_ := Aside0.mk (blk_below (g := gb173) (o := .cells #[.int .i64 a0_0, .int .i64 a0_1, .int .i64 a0_2, .int .u32 a0_3, .int .i64 a0_4, .int .i64 a0_5, .int .u64 a0_6] 35 (0, 0)) (by (with_reducible repeat (first | refine blk_drewN ?_ _ | refine blk_drew ?_ | refine blk_alloc ?_ _)); exact BK173.out) hb); have n1_ := Aside0.mk (below_step (by repeat (first | (with_reducible first | exact HB.out | apply below_alloc | apply pw_below_drewN | apply below_drew1 | refine below_set ?_ GE173.out) | exact HB.out)) hb); clear BK173; clear HB; have BK173 := n0_; have HB := n1_; clear n0_ n1_; (try clear hb); (try clear hb2); (try clear hk); (try clear hi)))
            go_ret
            exact ⟨by first | rfl | (simp [errW_none, errW_some] <;> rfl) | (simp [*, errW_none, errW_some] <;> rfl), by repeat (first | (with_reducible first | exact HB.out | apply below_alloc | apply pw_below_drewN | apply below_drew1 | refine below_set ?_ GE173.out) | exact HB.out)⟩

end Go.Proofs.Ytckmcphphnoilaa.PBoundTells
