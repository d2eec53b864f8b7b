/- The Go functions that the law LayoutFresh goes through, as Lean functions, each with its contract: written by a program of this session. -/
import Derived.Test.YtckmcphphnoilaaPLayoutFreshx0
import Derived.Test.YtckmcphphnoilaaPLayoutFreshx1
import Derived.Test.YtckmcphphnoilaaPLayoutFreshx2
import Derived.Test.YtckmcphphnoilaaPLayoutFreshx3
namespace Go.Proofs.Ytckmcphphnoilaa.PLayoutFresh
open Go.RowKit Go.Proofs.YtckmcphphnoilaaW.PrintWords Go.Proofs.YtckmcphphnoilaaW.PrintLast Go.Proofs.YtckmcphphnoilaaW.PrintMore
attribute [local go_sem] max2_int min2_int max_two min_two max_three min_three max_four min_four   -- for this text's walks alone
set_option linter.unusedVariables false
set_option linter.unusedSimpArgs false

/-! ### hatstandlaw6_LayoutFresh: function 11 -/
mutual
def hatstandlaw6_LayoutFresh.j0 : Nat → Int → List Int → Bool → Int → Int → Int → Int → Option (Bool)
  | 0, _, _, _, _, _, _, _ => none
  | k + 1, x3, x11, x50, x165000, x165001, x165002, x165003 => if x50 = true then (some false) else (if 1 < (x11.length : Int) then ((layout_Chain.f k x165000 x165001 x165002 x165003 x11 (rd x11 1)).bind fun bt171 => (if 0 < (x11.length : Int) then ((layout_Chain.f k x165000 x165001 x165002 x165003 x11 (rd x11 0)).bind fun bt176 => ((layout_Stack.f k x165000 x165001 x165002 x165003 x11).bind fun bt180 => (if bt171.2 = true then (if bt176.2 = true then (if bt180.2 = true then (if (bt171.1.length : Int) = x165000 then (if (bt176.1.length : Int) = 0 then (if (bt180.1.length : Int) = 0 then ((pack_Tag.f (rd x11 0)).bind fun t185 => (if t185 = x3 then ((pack_Tag.f (rd x11 1)).bind fun t187 => (hatstandlaw6_LayoutFresh.j1 k x3 x11 bt171.1 (t187 != x3) x165000 x165001 x165002 x165003)) else (hatstandlaw6_LayoutFresh.j1 k x3 x11 bt171.1 true x165000 x165001 x165002 x165003))) else (hatstandlaw6_LayoutFresh.j1 k x3 x11 bt171.1 true x165000 x165001 x165002 x165003)) else (hatstandlaw6_LayoutFresh.j1 k x3 x11 bt171.1 true x165000 x165001 x165002 x165003)) else (hatstandlaw6_LayoutFresh.j1 k x3 x11 bt171.1 true x165000 x165001 x165002 x165003)) else (hatstandlaw6_LayoutFresh.j1 k x3 x11 bt171.1 true x165000 x165001 x165002 x165003)) else (hatstandlaw6_LayoutFresh.j1 k x3 x11 bt171.1 true x165000 x165001 x165002 x165003)) else (hatstandlaw6_LayoutFresh.j1 k x3 x11 bt171.1 true x165000 x165001 x165002 x165003)))) else (none))) else (none))
def hatstandlaw6_LayoutFresh.j1 : Nat → Int → List Int → List Int → Bool → Int → Int → Int → Int → Option (Bool)
  | 0, _, _, _, _, _, _, _, _ => none
  | k + 1, x3, x11, x13, x117, x165000, x165001, x165002, x165003 => if x117 = true then (some false) else (hatstandlaw6_LayoutFresh.l0 k x3 x11 x13 0 x165000 x165001 x165002 x165003)
def hatstandlaw6_LayoutFresh.l0 : Nat → Int → List Int → List Int → Int → Int → Int → Int → Int → Option (Bool)
  | 0, _, _, _, _, _, _, _, _ => none
  | k + 1, x3, x11, x13, x19, x165000, x165001, x165002, x165003 => if x19 < (x13.length : Int) then (if 0 ≤ x19 then (if (rd x13 x19) = ((wrap64 (x19 + 1)) % 4294967296) then (hatstandlaw6_LayoutFresh.l0 k x3 x11 x13 (wrap64 (x19 + 1)) x165000 x165001 x165002 x165003) else (some false)) else (none)) else (hatstandlaw6_LayoutFresh.l1 k x3 x11 0 x165000 x165001 x165002 x165003)
def hatstandlaw6_LayoutFresh.l1 : Nat → Int → List Int → Int → Int → Int → Int → Int → Option (Bool)
  | 0, _, _, _, _, _, _, _ => none
  | k + 1, x3, x11, x20, x165000, x165001, x165002, x165003 => if x20 < x165001 then ((layout_Config_Slot.f x165000 x165001 x165002 x165003 x20).bind fun t189 => (if 0 ≤ t189 then (if t189 < (x11.length : Int) then ((pack_Word.f 0 x3).bind fun t191 => (if (rd x11 t189) = t191 then (hatstandlaw6_LayoutFresh.l1 k x3 x11 (wrap64 (x20 + 1)) x165000 x165001 x165002 x165003) else (some false))) else (none)) else (none))) else (hatstandlaw6_LayoutFresh.l2 k x11 0 x165000 x165001 x165002 x165003)
def hatstandlaw6_LayoutFresh.l2 : Nat → List Int → Int → Int → Int → Int → Int → Option (Bool)
  | 0, _, _, _, _, _, _ => none
  | k + 1, x11, x21, x165000, x165001, x165002, x165003 => if x21 < x165002 then ((layout_Config_Holder.f x165000 x165001 x165002 x165003 x21).bind fun t192 => (if 0 ≤ t192 then (if t192 < (x11.length : Int) then (if (rd x11 t192) = 0 then (hatstandlaw6_LayoutFresh.l2 k x11 (wrap64 (x21 + 1)) x165000 x165001 x165002 x165003) else (some false)) else (none)) else (none))) else (some true)
end
def hatstandlaw6_LayoutFresh.f (k : Nat) (a0 : Int) (a1 : Int) (a2 : Int) (a3 : Int) : Option (Bool) := (hatstandlaw6_shown.f).bind fun t159 => ((hatstandlaw6_config.f a0 a1 a2 a3).bind fun bt160 => ((layout_Fresh.f k bt160.1 bt160.2.1 bt160.2.2.1 bt160.2.2.2).bind fun bt165 => (if t159 = true then (if bt165.2 = 0 then ((layout_Config_Cells.f bt160.1 bt160.2.1 bt160.2.2.1 bt160.2.2.2).bind fun t169 => (if (bt165.1.length : Int) = t169 then (hatstandlaw6_LayoutFresh.j0 k a3 bt165.1 (decide ((bt165.1.length : Int) < 2)) bt160.1 bt160.2.1 bt160.2.2.1 bt160.2.2.2) else (hatstandlaw6_LayoutFresh.j0 k a3 bt165.1 true bt160.1 bt160.2.1 bt160.2.2.1 bt160.2.2.2))) else (hatstandlaw6_LayoutFresh.j0 k a3 bt165.1 true bt160.1 bt160.2.1 bt160.2.2.1 bt160.2.2.2)) else (hatstandlaw6_LayoutFresh.j0 k a3 bt165.1 true bt160.1 bt160.2.1 bt160.2.2.1 bt160.2.2.2))))
theorem hatstandlaw6_LayoutFresh.mono_l : ∀ k, (∀ y0 y1 y2 y3 y4 y5 y6, LeO (hatstandlaw6_LayoutFresh.j0 k y0 y1 y2 y3 y4 y5 y6) (hatstandlaw6_LayoutFresh.j0 (k + 1) y0 y1 y2 y3 y4 y5 y6)) ∧ (∀ y0 y1 y2 y3 y4 y5 y6 y7, LeO (hatstandlaw6_LayoutFresh.j1 k y0 y1 y2 y3 y4 y5 y6 y7) (hatstandlaw6_LayoutFresh.j1 (k + 1) y0 y1 y2 y3 y4 y5 y6 y7)) ∧ (∀ y0 y1 y2 y3 y4 y5 y6 y7, LeO (hatstandlaw6_LayoutFresh.l0 k y0 y1 y2 y3 y4 y5 y6 y7) (hatstandlaw6_LayoutFresh.l0 (k + 1) y0 y1 y2 y3 y4 y5 y6 y7)) ∧ (∀ y0 y1 y2 y3 y4 y5 y6, LeO (hatstandlaw6_LayoutFresh.l1 k y0 y1 y2 y3 y4 y5 y6) (hatstandlaw6_LayoutFresh.l1 (k + 1) y0 y1 y2 y3 y4 y5 y6)) ∧ (∀ y0 y1 y2 y3 y4 y5, LeO (hatstandlaw6_LayoutFresh.l2 k y0 y1 y2 y3 y4 y5) (hatstandlaw6_LayoutFresh.l2 (k + 1) y0 y1 y2 y3 y4 y5))
  | 0 => ⟨fun _ _ _ _ _ _ _ r h => by simp [hatstandlaw6_LayoutFresh.j0] at h, fun _ _ _ _ _ _ _ _ r h => by simp [hatstandlaw6_LayoutFresh.j1] at h, fun _ _ _ _ _ _ _ _ r h => by simp [hatstandlaw6_LayoutFresh.l0] at h, fun _ _ _ _ _ _ _ r h => by simp [hatstandlaw6_LayoutFresh.l1] at h, fun _ _ _ _ _ _ r h => by simp [hatstandlaw6_LayoutFresh.l2] at h⟩
  | k + 1 => by
    obtain ⟨ih0, ih1, ih2, ih3, ih4⟩ := hatstandlaw6_LayoutFresh.mono_l k
    refine ⟨?_, ?_, ?_, ?_, ?_⟩
    · intro y0 y1 y2 y3 y4 y5 y6
      unfold hatstandlaw6_LayoutFresh.j0
      repeat' first
      | (with_reducible exact ih0 _ _ _ _ _ _ _)
      | (with_reducible exact ih1 _ _ _ _ _ _ _ _)
      | (with_reducible exact ih2 _ _ _ _ _ _ _ _)
      | (with_reducible exact ih3 _ _ _ _ _ _ _)
      | (with_reducible exact ih4 _ _ _ _ _ _)
      | (with_reducible exact layout_Chain.mono _ _ _ _ _ _ _)
      | (with_reducible exact layout_Fresh.mono _ _ _ _ _)
      | (with_reducible exact layout_Stack.mono _ _ _ _ _ _)
      | (with_reducible exact LeO.refl _)
      | (with_reducible exact LeO.none _)
      | (with_reducible refine LeO.ite ?_ ?_)
      | (with_reducible refine LeO.bind ?_ (fun _ => ?_))
      | exact ih0 _ _ _ _ _ _ _
      | exact ih1 _ _ _ _ _ _ _ _
      | exact ih2 _ _ _ _ _ _ _ _
      | exact ih3 _ _ _ _ _ _ _
      | exact ih4 _ _ _ _ _ _
      | exact layout_Chain.mono _ _ _ _ _ _ _
      | exact layout_Fresh.mono _ _ _ _ _
      | exact layout_Stack.mono _ _ _ _ _ _
      | exact LeO.none _
      | refine LeO.ite ?_ ?_
      | refine LeO.bind ?_ (fun _ => ?_)
    · intro y0 y1 y2 y3 y4 y5 y6 y7
      unfold hatstandlaw6_LayoutFresh.j1
      repeat' first
      | (with_reducible exact ih0 _ _ _ _ _ _ _)
      | (with_reducible exact ih1 _ _ _ _ _ _ _ _)
      | (with_reducible exact ih2 _ _ _ _ _ _ _ _)
      | (with_reducible exact ih3 _ _ _ _ _ _ _)
      | (with_reducible exact ih4 _ _ _ _ _ _)
      | (with_reducible exact layout_Chain.mono _ _ _ _ _ _ _)
      | (with_reducible exact layout_Fresh.mono _ _ _ _ _)
      | (with_reducible exact layout_Stack.mono _ _ _ _ _ _)
      | (with_reducible exact LeO.refl _)
      | (with_reducible exact LeO.none _)
      | (with_reducible refine LeO.ite ?_ ?_)
      | (with_reducible refine LeO.bind ?_ (fun _ => ?_))
      | exact ih0 _ _ _ _ _ _ _
      | exact ih1 _ _ _ _ _ _ _ _
      | exact ih2 _ _ _ _ _ _ _ _
      | exact ih3 _ _ _ _ _ _ _
      | exact ih4 _ _ _ _ _ _
      | exact layout_Chain.mono _ _ _ _ _ _ _
      | exact layout_Fresh.mono _ _ _ _ _
      | exact layout_Stack.mono _ _ _ _ _ _
      | exact LeO.none _
      | refine LeO.ite ?_ ?_
      | refine LeO.bind ?_ (fun _ => ?_)
    · intro y0 y1 y2 y3 y4 y5 y6 y7
      unfold hatstandlaw6_LayoutFresh.l0
      repeat' first
      | (with_reducible exact ih0 _ _ _ _ _ _ _)
      | (with_reducible exact ih1 _ _ _ _ _ _ _ _)
      | (with_reducible exact ih2 _ _ _ _ _ _ _ _)
      | (with_reducible exact ih3 _ _ _ _ _ _ _)
      | (with_reducible exact ih4 _ _ _ _ _ _)
      | (with_reducible exact layout_Chain.mono _ _ _ _ _ _ _)
      | (with_reducible exact layout_Fresh.mono _ _ _ _ _)
      | (with_reducible exact layout_Stack.mono _ _ _ _ _ _)
      | (with_reducible exact LeO.refl _)
      | (with_reducible exact LeO.none _)
      | (with_reducible refine LeO.ite ?_ ?_)
      | (with_reducible refine LeO.bind ?_ (fun _ => ?_))
      | exact ih0 _ _ _ _ _ _ _
      | exact ih1 _ _ _ _ _ _ _ _
      | exact ih2 _ _ _ _ _ _ _ _
      | exact ih3 _ _ _ _ _ _ _
      | exact ih4 _ _ _ _ _ _
      | exact layout_Chain.mono _ _ _ _ _ _ _
      | exact layout_Fresh.mono _ _ _ _ _
      | exact layout_Stack.mono _ _ _ _ _ _
      | exact LeO.none _
      | refine LeO.ite ?_ ?_
      | refine LeO.bind ?_ (fun _ => ?_)
    · intro y0 y1 y2 y3 y4 y5 y6
      unfold hatstandlaw6_LayoutFresh.l1
      repeat' first
      | (with_reducible exact ih0 _ _ _ _ _ _ _)
      | (with_reducible exact ih1 _ _ _ _ _ _ _ _)
      | (with_reducible exact ih2 _ _ _ _ _ _ _ _)
      | (with_reducible exact ih3 _ _ _ _ _ _ _)
      | (with_reducible exact ih4 _ _ _ _ _ _)
      | (with_reducible exact layout_Chain.mono _ _ _ _ _ _ _)
      | (with_reducible exact layout_Fresh.mono _ _ _ _ _)
      | (with_reducible exact layout_Stack.mono _ _ _ _ _ _)
      | (with_reducible exact LeO.refl _)
      | (with_reducible exact LeO.none _)
      | (with_reducible refine LeO.ite ?_ ?_)
      | (with_reducible refine LeO.bind ?_ (fun _ => ?_))
      | exact ih0 _ _ _ _ _ _ _
      | exact ih1 _ _ _ _ _ _ _ _
      | exact ih2 _ _ _ _ _ _ _ _
      | exact ih3 _ _ _ _ _ _ _
      | exact ih4 _ _ _ _ _ _
      | exact layout_Chain.mono _ _ _ _ _ _ _
      | exact layout_Fresh.mono _ _ _ _ _
      | exact layout_Stack.mono _ _ _ _ _ _
      | exact LeO.none _
      | refine LeO.ite ?_ ?_
      | refine LeO.bind ?_ (fun _ => ?_)
    · intro y0 y1 y2 y3 y4 y5
      unfold hatstandlaw6_LayoutFresh.l2
      repeat' first
      | (with_reducible exact ih0 _ _ _ _ _ _ _)
      | (with_reducible exact ih1 _ _ _ _ _ _ _ _)
      | (with_reducible exact ih2 _ _ _ _ _ _ _ _)
      | (with_reducible exact ih3 _ _ _ _ _ _ _)
      | (with_reducible exact ih4 _ _ _ _ _ _)
      | (with_reducible exact layout_Chain.mono _ _ _ _ _ _ _)
      | (with_reducible exact layout_Fresh.mono _ _ _ _ _)
      | (with_reducible exact layout_Stack.mono _ _ _ _ _ _)
      | (with_reducible exact LeO.refl _)
      | (with_reducible exact LeO.none _)
      | (with_reducible refine LeO.ite ?_ ?_)
      | (with_reducible refine LeO.bind ?_ (fun _ => ?_))
      | exact ih0 _ _ _ _ _ _ _
      | exact ih1 _ _ _ _ _ _ _ _
      | exact ih2 _ _ _ _ _ _ _ _
      | exact ih3 _ _ _ _ _ _ _
      | exact ih4 _ _ _ _ _ _
      | exact layout_Chain.mono _ _ _ _ _ _ _
      | exact layout_Fresh.mono _ _ _ _ _
      | exact layout_Stack.mono _ _ _ _ _ _
      | exact LeO.none _
      | refine LeO.ite ?_ ?_
      | refine LeO.bind ?_ (fun _ => ?_)
theorem hatstandlaw6_LayoutFresh.mono : ∀ a0 a1 a2 a3 k, LeO (hatstandlaw6_LayoutFresh.f k a0 a1 a2 a3) (hatstandlaw6_LayoutFresh.f (k + 1) a0 a1 a2 a3) := by
  intro a0 a1 a2 a3 k
  obtain ⟨ih0, ih1, ih2, ih3, ih4⟩ := hatstandlaw6_LayoutFresh.mono_l k
  unfold hatstandlaw6_LayoutFresh.f
  repeat' first
      | (with_reducible exact ih0 _ _ _ _ _ _ _)
      | (with_reducible exact ih1 _ _ _ _ _ _ _ _)
      | (with_reducible exact ih2 _ _ _ _ _ _ _ _)
      | (with_reducible exact ih3 _ _ _ _ _ _ _)
      | (with_reducible exact ih4 _ _ _ _ _ _)
      | (with_reducible exact layout_Chain.mono _ _ _ _ _ _ _)
      | (with_reducible exact layout_Fresh.mono _ _ _ _ _)
      | (with_reducible exact layout_Stack.mono _ _ _ _ _ _)
      | (with_reducible exact LeO.refl _)
      | (with_reducible exact LeO.none _)
      | (with_reducible refine LeO.ite ?_ ?_)
      | (with_reducible refine LeO.bind ?_ (fun _ => ?_))
      | exact ih0 _ _ _ _ _ _ _
      | exact ih1 _ _ _ _ _ _ _ _
      | exact ih2 _ _ _ _ _ _ _ _
      | exact ih3 _ _ _ _ _ _ _
      | exact ih4 _ _ _ _ _ _
      | exact layout_Chain.mono _ _ _ _ _ _ _
      | exact layout_Fresh.mono _ _ _ _ _
      | exact layout_Stack.mono _ _ _ _ _ _
      | exact LeO.none _
      | refine LeO.ite ?_ ?_
      | refine LeO.bind ?_ (fun _ => ?_)
def hatstandlaw6_LayoutFresh.T6 : Bool × List (List Nat × List Nat) := (true, [([], []), ([], []), ([], []), ([2], [2]), ([3], [3]), ([0, 1, 4], [0, 1, 4]), ([5], [5]), ([6], [6]), ([6], [6]), ([7, 5, 0, 1, 2, 3, 4, 5, 6, 7], [7]), ([8, 9, 0, 1, 2, 3, 4, 5, 6, 7, 8, 9], [8])])
def hatstandlaw6_LayoutFresh.B6 : List Nat := [0, 0, 0, 4, 12, 31, 63, 127, 127, 255, 1023]
theorem hatstandlaw6_LayoutFresh.tab6 : rtab .any (opsOf Try.f11 6) = hatstandlaw6_LayoutFresh.T6 := by kernel_rfl
theorem hatstandlaw6_LayoutFresh.bits6 : waitsOk hatstandlaw6_LayoutFresh.T6.2 hatstandlaw6_LayoutFresh.B6 = true := by kernel_rfl
def hatstandlaw6_LayoutFresh.T7 : Bool × List (List Nat × List Nat) := (true, [([], []), ([], []), ([], []), ([2], [2]), ([3], [3]), ([0, 1, 4], [0, 1, 4]), ([5], [5]), ([6], [6]), ([6], [6]), ([7, 5, 0, 1, 2, 3, 4, 5, 6, 7], [7]), ([8, 9, 0, 1, 2, 3, 4, 5, 6, 7, 8, 9], [8])])
def hatstandlaw6_LayoutFresh.B7 : List Nat := [0, 0, 0, 4, 12, 31, 63, 127, 127, 255, 1023]
theorem hatstandlaw6_LayoutFresh.tab7 : rtab .any (opsOf Try.f11 7) = hatstandlaw6_LayoutFresh.T7 := by kernel_rfl
theorem hatstandlaw6_LayoutFresh.bits7 : waitsOk hatstandlaw6_LayoutFresh.T7.2 hatstandlaw6_LayoutFresh.B7 = true := by kernel_rfl
def hatstandlaw6_LayoutFresh.T19 : Bool × List (List Nat × List Nat) := (true, [([], []), ([], []), ([], []), ([1, 2], [1, 2]), ([0, 3], [0, 3]), ([4], [4]), ([], []), ([6, 3], [6]), ([5, 7], [5, 7])])
def hatstandlaw6_LayoutFresh.B19 : List Nat := [0, 0, 0, 6, 15, 31, 0, 78, 255]
theorem hatstandlaw6_LayoutFresh.tab19 : rtab .any (opsOf Try.f11 19) = hatstandlaw6_LayoutFresh.T19 := by kernel_rfl
theorem hatstandlaw6_LayoutFresh.bits19 : waitsOk hatstandlaw6_LayoutFresh.T19.2 hatstandlaw6_LayoutFresh.B19 = true := by kernel_rfl
set_option maxHeartbeats 8000000 in
set_option maxRecDepth 100000 in
theorem hatstandlaw6_LayoutFresh.calls (k : Nat) (a0 : Int) (a1 : Int) (a2 : Int) (a3 : Int) (r : Bool) (w : World) (h : hatstandlaw6_LayoutFresh.f k a0 a1 a2 a3 = some r) :
    Calls Try.prog 11 #[.int .i64 a0, .int .i64 a1, .int .i64 a2, .int .u32 a3] w fun e w' => e = .returned (.bool r) ∧ Below w.heap.size w w' := by
  have hu25 := Try.underlying25
  have HB := Aside0.mk (Below.refl w.heap.size w)
  have H : ((hatstandlaw6_shown.f).bind fun t159 => ((hatstandlaw6_config.f a0 a1 a2 a3).bind fun bt160 => ((layout_Fresh.f k bt160.1 bt160.2.1 bt160.2.2.1 bt160.2.2.2).bind fun bt165 => (if t159 = true then (if bt165.2 = 0 then ((layout_Config_Cells.f bt160.1 bt160.2.1 bt160.2.2.1 bt160.2.2.2).bind fun t169 => (if (bt165.1.length : Int) = t169 then (hatstandlaw6_LayoutFresh.j0 k a3 bt165.1 (decide ((bt165.1.length : Int) < 2)) bt160.1 bt160.2.1 bt160.2.2.1 bt160.2.2.2) else (hatstandlaw6_LayoutFresh.j0 k a3 bt165.1 true bt160.1 bt160.2.1 bt160.2.2.1 bt160.2.2.2))) else (hatstandlaw6_LayoutFresh.j0 k a3 bt165.1 true bt160.1 bt160.2.1 bt160.2.2.1 bt160.2.2.2)) else (hatstandlaw6_LayoutFresh.j0 k a3 bt165.1 true bt160.1 bt160.2.1 bt160.2.2.1 bt160.2.2.2))))) = some r := h
  clear h
  replace H := Option.bind_eq_some_iff.mp H
  obtain ⟨t159, A50, H⟩ := H
  replace H : ((hatstandlaw6_config.f a0 a1 a2 a3).bind fun bt160 => ((layout_Fresh.f k bt160.1 bt160.2.1 bt160.2.2.1 bt160.2.2.2).bind fun bt165 => (if t159 = true then (if bt165.2 = 0 then ((layout_Config_Cells.f bt160.1 bt160.2.1 bt160.2.2.1 bt160.2.2.2).bind fun t169 => (if (bt165.1.length : Int) = t169 then (hatstandlaw6_LayoutFresh.j0 k a3 bt165.1 (decide ((bt165.1.length : Int) < 2)) bt160.1 bt160.2.1 bt160.2.2.1 bt160.2.2.2) else (hatstandlaw6_LayoutFresh.j0 k a3 bt165.1 true bt160.1 bt160.2.1 bt160.2.2.1 bt160.2.2.2))) else (hatstandlaw6_LayoutFresh.j0 k a3 bt165.1 true bt160.1 bt160.2.1 bt160.2.2.1 bt160.2.2.2)) else (hatstandlaw6_LayoutFresh.j0 k a3 bt165.1 true bt160.1 bt160.2.1 bt160.2.2.1 bt160.2.2.2)))) = some r := H
  have A5 := Aside0.mk A50
  clear A50
  replace H := Option.bind_eq_some_iff.mp H
  obtain ⟨⟨t160, t161, t162, t163⟩, A60, H⟩ := H
  replace H : ((layout_Fresh.f k t160 t161 t162 t163).bind fun bt165 => (if t159 = true then (if bt165.2 = 0 then ((layout_Config_Cells.f t160 t161 t162 t163).bind fun t169 => (if (bt165.1.length : Int) = t169 then (hatstandlaw6_LayoutFresh.j0 k a3 bt165.1 (decide ((bt165.1.length : Int) < 2)) t160 t161 t162 t163) else (hatstandlaw6_LayoutFresh.j0 k a3 bt165.1 true t160 t161 t162 t163))) else (hatstandlaw6_LayoutFresh.j0 k a3 bt165.1 true t160 t161 t162 t163)) else (hatstandlaw6_LayoutFresh.j0 k a3 bt165.1 true t160 t161 t162 t163))) = some r := H
  have A6 := Aside0.mk A60
  clear A60
  replace H := Option.bind_eq_some_iff.mp H
  obtain ⟨⟨t165, t168⟩, A70, H⟩ := H
  replace H : (if t159 = true then (if t168 = 0 then ((layout_Config_Cells.f t160 t161 t162 t163).bind fun t169 => (if (t165.length : Int) = t169 then (hatstandlaw6_LayoutFresh.j0 k a3 t165 (decide ((t165.length : Int) < 2)) t160 t161 t162 t163) else (hatstandlaw6_LayoutFresh.j0 k a3 t165 true t160 t161 t162 t163))) else (hatstandlaw6_LayoutFresh.j0 k a3 t165 true t160 t161 t162 t163)) else (hatstandlaw6_LayoutFresh.j0 k a3 t165 true t160 t161 t162 t163)) = some r := H
  have A7 := Aside0.mk A70
  clear A70
  have HC8 := Aside0.mk H
  clear H
  go_enter Try.func11, Try.ntmps11
  go_upto_region 4 with (first | ((with_reducible refine gate_callee (f := 12) rfl ?_); refine goesL_ (some 22) rfl rfl Try.func12 (by kernel_rfl) rfl #[] rfl (by (try simp only [List.map_toArray, List.map_cons, List.map_nil]); first | done | rfl | (simp only [List.length_drop, List.length_take]; rfl)) ?_; (with_reducible refine (hatstandlaw6_shown.calls  t159 _ A5.out).mono ?_); rintro e w9 ⟨rfl, hb⟩; refine ⟨_, rfl, ?_⟩; have n0_ := Aside0.mk (below_step (by repeat (first | (with_reducible first | exact HB.out | apply below_alloc | apply pw_below_drewN | apply below_drew1) | exact HB.out)) hb); clear HB; have HB := n0_; clear n0_; (try clear hb); (try clear hb2); (try clear hk); (try clear hi)) | ((with_reducible refine gate_callee (f := 13) rfl ?_); refine goesL_ (some 27) rfl rfl Try.func13 (by kernel_rfl) rfl #[.int .i64 a0, .int .i64 a1, .int .i64 a2, .int .u32 a3] rfl (by (try simp only [List.map_toArray, List.map_cons, List.map_nil]); first | done | rfl | (simp only [List.length_drop, List.length_take]; rfl)) ?_; (with_reducible refine (hatstandlaw6_config.calls a0 a1 a2 a3 t160 t161 t162 t163 _ A6.out).mono ?_); rintro e w10 ⟨rfl, hb⟩; refine ⟨_, rfl, ?_⟩; have n0_ := Aside0.mk (below_step (by repeat (first | (with_reducible first | exact HB.out | apply below_alloc | apply pw_below_drewN | apply below_drew1) | exact HB.out)) hb); clear HB; have HB := n0_; clear n0_; (try clear hb); (try clear hb2); (try clear hk); (try clear hi)) | ((with_reducible refine gate_dst (N := 10) rfl ?_); (try (refine gate_guard (by rfl) ?_; dsimp only)); refine box_event ?hg (N := 10) ?hd (cs := #[.int .i64 0, .int .i64 0, .int .i64 0, .int .u32 0]) (t := 25) ?hr ?_; (case hd => rfl); (case hg => rfl); (case hr => first | (go_simp; done) | (go_simp; rfl)); intro gb164 hg w11 hbox hb; have n0_ := Aside0.mk (below_step (by repeat (first | (with_reducible first | exact HB.out | apply below_alloc | apply pw_below_drewN | apply below_drew1) | exact HB.out)) hb); have n1_ := Aside0.mk (hbox); have n2_ := Aside0.mk ((by rw [hg]; exact (below_size (by repeat (first | (with_reducible first | exact HB.out | apply below_alloc | apply pw_below_drewN | apply below_drew1) | exact HB.out))) : w.heap.size ≤ gb164)); have n3_ := Aside0.mk ((by rw [hg]; exact (below_size (by repeat (first | (with_reducible first | exact HB.out | apply below_alloc | apply pw_below_drewN | apply below_drew1) | exact HB.out))) : w.heap.size ≤ gb164)); clear HB; have HB := n0_; have BK164 := n1_; have GW164 := n2_; have GE164 := n3_; clear n0_ n1_ n2_ n3_; clear hb hbox hg; have hcz12_0 : w11.cell? ⟨gb164, 0, none⟩ = some (.int .i64 0) := (blk_cell BK164.out 0).trans rfl; have hcz12_1 : w11.cell? ⟨gb164, 1, none⟩ = some (.int .i64 0) := (blk_cell BK164.out 1).trans rfl; have hcz12_2 : w11.cell? ⟨gb164, 2, none⟩ = some (.int .i64 0) := (blk_cell BK164.out 2).trans rfl; have hcz12_3 : w11.cell? ⟨gb164, 3, none⟩ = some (.int .u32 0) := (blk_cell BK164.out 3).trans rfl; have hfz12_0 := blk_frozen BK164.out 0; have hfz12_1 := blk_frozen BK164.out 1; have hfz12_2 := blk_frozen BK164.out 2; have hfz12_3 := blk_frozen BK164.out 3) | ((with_reducible refine gate_callee (f := 31) rfl ?_); refine goesL_ (some 30) rfl rfl Try.func31 (by kernel_rfl) rfl #[.agg #[.int .i64 t160, .int .i64 t161, .int .i64 t162, .int .u32 t163]] rfl (by (try simp only [List.map_toArray, List.map_cons, List.map_nil]); first | done | rfl | (simp only [List.length_drop, List.length_take]; rfl)) ?_; (with_reducible refine (layout_Fresh.calls k t160 t161 t162 t163 t165 t168 _ A7.out).mono ?_); rintro e w13 ⟨v166, rfl, ho0, hb⟩; refine ⟨_, rfl, ?_⟩; have n0_ := Aside0.mk (Kd.R_lower ho0 (below_size (by repeat (first | (with_reducible first | exact HB.out | apply below_alloc | apply pw_below_drewN | apply below_drew1 | refine below_set ?_ GE164.out) | exact HB.out)))); have n1_ := Aside0.mk (blk_below (g := gb164) (o := .cells #[.int .i64 t160, .int .i64 t161, .int .i64 t162, .int .u32 t163] 25 (0, 0)) (by (with_reducible repeat (first | refine blk_drewN ?_ _ | refine blk_drew ?_ | refine blk_alloc ?_ _)); refine blk_put (cs := #[.int .i64 t160, .int .i64 t161, .int .i64 t162, .int .u32 0]) ?_ 3 _ rfl; (with_reducible repeat (first | refine blk_drewN ?_ _ | refine blk_drew ?_ | refine blk_alloc ?_ _)); refine blk_put (cs := #[.int .i64 t160, .int .i64 t161, .int .i64 0, .int .u32 0]) ?_ 2 _ rfl; (with_reducible repeat (first | refine blk_drewN ?_ _ | refine blk_drew ?_ | refine blk_alloc ?_ _)); refine blk_put (cs := #[.int .i64 t160, .int .i64 0, .int .i64 0, .int .u32 0]) ?_ 1 _ rfl; (with_reducible repeat (first | refine blk_drewN ?_ _ | refine blk_drew ?_ | refine blk_alloc ?_ _)); refine blk_put (cs := #[.int .i64 0, .int .i64 0, .int .i64 0, .int .u32 0]) ?_ 0 _ rfl; (with_reducible repeat (first | refine blk_drewN ?_ _ | refine blk_drew ?_ | refine blk_alloc ?_ _)); exact BK164.out) hb); have n2_ := Aside0.mk (below_step (by repeat (first | (with_reducible first | exact HB.out | apply below_alloc | apply pw_below_drewN | apply below_drew1 | refine below_set ?_ GE164.out) | exact HB.out)) hb); clear BK164; clear HB; have HO167 := n0_; have BK164 := n1_; have HB := n2_; clear n0_ n1_ n2_; (try clear hb); (try clear hb2); (try clear hk); (try clear hi); (try clear ho0)))
  (try simp only [Act.put, List.setIfInBounds_toArray, List.set_cons_zero, List.set_cons_succ])
  go_cut [50] (fun v50 wc => ∃ (kq : Nat) (x50_7 : Bool), v50 = .bool x50_7 ∧ Aside0 (hatstandlaw6_LayoutFresh.j0 kq a3 t165 x50_7 t160 t161 t162 t163 = some r) ∧ Aside0 (kq ≤ k) ∧ Aside0 (Kd.R (Kd.int .u64) 33 wc w.heap.size (fun _ => True) v166 t165) ∧ Aside0 (wc.heap[gb164]? = some (.cells #[.int .i64 t160, .int .i64 t161, .int .i64 t162, .int .u32 t163] 25 (0, 0))) ∧ Aside0 (Below w.heap.size w wc))
  case first =>
    have H := HC8.out
    clear HC8
    by_cases c14 : t159 = true
    · subst c14
      have H1 : (if t168 = 0 then ((layout_Config_Cells.f t160 t161 t162 t163).bind fun t169 => (if (t165.length : Int) = t169 then (hatstandlaw6_LayoutFresh.j0 k a3 t165 (decide ((t165.length : Int) < 2)) t160 t161 t162 t163) else (hatstandlaw6_LayoutFresh.j0 k a3 t165 true t160 t161 t162 t163))) else (hatstandlaw6_LayoutFresh.j0 k a3 t165 true t160 t161 t162 t163)) = some r := by rw [if_pos rfl] at H; exact H
      clear H
      have H := H1
      clear H1
      by_cases c15 : t168 = 0
      · rw [if_pos c15] at H
        have c15b0 : (t168 == 0) = true := beq_iff_eq.mpr c15
        have c15b1 : (t168 != 0) = false := bne_eq_false_iff_eq.mpr c15
        clear c15
        (first | rw [c15b0] | (simp only [i64_w, i32_w]; rw [c15b0]) | skip)
        replace H := Option.bind_eq_some_iff.mp H
        obtain ⟨t169, A160, H⟩ := H
        replace H : (if (t165.length : Int) = t169 then (hatstandlaw6_LayoutFresh.j0 k a3 t165 (decide ((t165.length : Int) < 2)) t160 t161 t162 t163) else (hatstandlaw6_LayoutFresh.j0 k a3 t165 true t160 t161 t162 t163)) = some r := H
        have A16 := Aside0.mk A160
        clear A160
        by_cases c17 : (t165.length : Int) = t169
        · rw [if_pos c17] at H
          have c17b0 : ((t165.length : Int) == t169) = true := beq_iff_eq.mpr c17
          have c17b1 : ((t165.length : Int) != t169) = false := bne_eq_false_iff_eq.mpr c17
          clear c17
          have H' := Aside0.mk H
          clear H
          obtain ⟨Ao18, co18, eo18⟩ := Kd.R_slice HO167.out
          subst eo18
          have hcz19_0 : w13.cell? ⟨gb164, 0, none⟩ = some (.int .i64 t160) := (blk_cell BK164.out 0).trans rfl
          have hcz19_1 : w13.cell? ⟨gb164, 1, none⟩ = some (.int .i64 t161) := (blk_cell BK164.out 1).trans rfl
          have hcz19_2 : w13.cell? ⟨gb164, 2, none⟩ = some (.int .i64 t162) := (blk_cell BK164.out 2).trans rfl
          have hcz19_3 : w13.cell? ⟨gb164, 3, none⟩ = some (.int .u32 t163) := (blk_cell BK164.out 3).trans rfl
          have hfz19_0 := blk_frozen BK164.out 0
          have hfz19_1 := blk_frozen BK164.out 1
          have hfz19_2 := blk_frozen BK164.out 2
          have hfz19_3 := blk_frozen BK164.out 3
          go_wp2_with (first | (go_at_call 18; (with_reducible refine (layout_Config_Cells.calls t160 t161 t162 t163 t169 _ A16.out).mono ?_); rintro e w20 ⟨rfl, hb⟩; have n0_ := Aside0.mk (Kd.R_below (by (with_reducible repeat (first | apply Kd.R_alloc | apply Kd.R_drewN | apply Kd.R_drew)); exact HO167.out) hb); have n1_ := Aside0.mk (blk_below (g := gb164) (o := .cells #[.int .i64 t160, .int .i64 t161, .int .i64 t162, .int .u32 t163] 25 (0, 0)) (by (with_reducible repeat (first | refine blk_drewN ?_ _ | refine blk_drew ?_ | refine blk_alloc ?_ _)); exact BK164.out) hb); have n2_ := Aside0.mk (below_step (by repeat (first | (with_reducible first | exact HB.out | apply below_alloc | apply pw_below_drewN | apply below_drew1 | refine below_set ?_ GE164.out) | exact HB.out)) hb); clear HO167; clear BK164; clear HB; have HO167 := n0_; have BK164 := n1_; have HB := n2_; clear n0_ n1_ n2_; (try clear hb); (try clear hb2); (try clear hk); (try clear hi)))
          go_meet
          case rel => exact ⟨_, (decide ((t165.length : Int) < 2)), (by first | rfl | (simp; done) | (simp [*]; done)), H', ⟨by first | omega | exact Nat.le_refl _⟩, ⟨by (with_reducible repeat (first | apply Kd.R_alloc | apply Kd.R_drewN | apply Kd.R_drew)); exact HO167.out⟩, ⟨by (with_reducible repeat (first | refine blk_drewN ?_ _ | refine blk_drew ?_ | refine blk_alloc ?_ _)); exact BK164.out⟩, ⟨by repeat (first | (with_reducible first | exact HB.out | apply below_alloc | apply pw_below_drewN | apply below_drew1 | refine below_set ?_ GE164.out) | exact HB.out)⟩⟩
        · rw [if_neg c17] at H
          have c17b0 : ((t165.length : Int) == t169) = false := beq_eq_false_iff_ne.mpr c17
          have c17b1 : ((t165.length : Int) != t169) = true := bne_iff_ne.mpr c17
          have H' := Aside0.mk H
          clear H
          obtain ⟨Ao21, co21, eo21⟩ := Kd.R_slice HO167.out
          subst eo21
          have hcz22_0 : w13.cell? ⟨gb164, 0, none⟩ = some (.int .i64 t160) := (blk_cell BK164.out 0).trans rfl
          have hcz22_1 : w13.cell? ⟨gb164, 1, none⟩ = some (.int .i64 t161) := (blk_cell BK164.out 1).trans rfl
          have hcz22_2 : w13.cell? ⟨gb164, 2, none⟩ = some (.int .i64 t162) := (blk_cell BK164.out 2).trans rfl
          have hcz22_3 : w13.cell? ⟨gb164, 3, none⟩ = some (.int .u32 t163) := (blk_cell BK164.out 3).trans rfl
          have hfz22_0 := blk_frozen BK164.out 0
          have hfz22_1 := blk_frozen BK164.out 1
          have hfz22_2 := blk_frozen BK164.out 2
          have hfz22_3 := blk_frozen BK164.out 3
          go_wp2_with (first | (go_at_call 18; (with_reducible refine (layout_Config_Cells.calls t160 t161 t162 t163 t169 _ A16.out).mono ?_); rintro e w23 ⟨rfl, hb⟩; have n0_ := Aside0.mk (Kd.R_below (by (with_reducible repeat (first | apply Kd.R_alloc | apply Kd.R_drewN | apply Kd.R_drew)); exact HO167.out) hb); have n1_ := Aside0.mk (blk_below (g := gb164) (o := .cells #[.int .i64 t160, .int .i64 t161, .int .i64 t162, .int .u32 t163] 25 (0, 0)) (by (with_reducible repeat (first | refine blk_drewN ?_ _ | refine blk_drew ?_ | refine blk_alloc ?_ _)); exact BK164.out) hb); have n2_ := Aside0.mk (below_step (by repeat (first | (with_reducible first | exact HB.out | apply below_alloc | apply pw_below_drewN | apply below_drew1 | refine below_set ?_ GE164.out) | exact HB.out)) hb); clear HO167; clear BK164; clear HB; have HO167 := n0_; have BK164 := n1_; have HB := n2_; clear n0_ n1_ n2_; (try clear hb); (try clear hb2); (try clear hk); (try clear hi)))
          go_meet
          case rel => exact ⟨_, (true), (by first | rfl | (simp; done) | (simp [*]; done)), H', ⟨by first | omega | exact Nat.le_refl _⟩, ⟨by (with_reducible repeat (first | apply Kd.R_alloc | apply Kd.R_drewN | apply Kd.R_drew)); exact HO167.out⟩, ⟨by (with_reducible repeat (first | refine blk_drewN ?_ _ | refine blk_drew ?_ | refine blk_alloc ?_ _)); exact BK164.out⟩, ⟨by repeat (first | (with_reducible first | exact HB.out | apply below_alloc | apply pw_below_drewN | apply below_drew1 | refine below_set ?_ GE164.out) | exact HB.out)⟩⟩
      · rw [if_neg c15] at H
        have c15b0 : (t168 == 0) = false := beq_eq_false_iff_ne.mpr c15
        have c15b1 : (t168 != 0) = true := bne_iff_ne.mpr c15
        (first | rw [c15b0] | (simp only [i64_w, i32_w]; rw [c15b0]) | skip)
        have H' := Aside0.mk H
        clear H
        go_wp2
        go_meet
        case rel => exact ⟨_, (true), (by first | rfl | (simp; done) | (simp [*]; done)), H', ⟨by first | omega | exact Nat.le_refl _⟩, ⟨by (with_reducible repeat (first | apply Kd.R_alloc | apply Kd.R_drewN | apply Kd.R_drew)); exact HO167.out⟩, ⟨by (with_reducible repeat (first | refine blk_drewN ?_ _ | refine blk_drew ?_ | refine blk_alloc ?_ _)); exact BK164.out⟩, ⟨by repeat (first | (with_reducible first | exact HB.out | apply below_alloc | apply pw_below_drewN | apply below_drew1 | refine below_set ?_ GE164.out) | exact HB.out)⟩⟩
    · replace c14 := Bool.eq_false_iff.mpr c14
      subst c14
      have H1 : (hatstandlaw6_LayoutFresh.j0 k a3 t165 true t160 t161 t162 t163) = some r := by rw [if_neg (show ¬ (false = true) by decide)] at H; exact H
      clear H
      have H := H1
      clear H1
      have H' := Aside0.mk H
      clear H
      go_wp2
      go_meet
      case rel => exact ⟨_, (true), (by first | rfl | (simp; done) | (simp [*]; done)), H', ⟨by first | omega | exact Nat.le_refl _⟩, ⟨by (with_reducible repeat (first | apply Kd.R_alloc | apply Kd.R_drewN | apply Kd.R_drew)); exact HO167.out⟩, ⟨by (with_reducible repeat (first | refine blk_drewN ?_ _ | refine blk_drew ?_ | refine blk_alloc ?_ _)); exact BK164.out⟩, ⟨by repeat (first | (with_reducible first | exact HB.out | apply below_alloc | apply pw_below_drewN | apply below_drew1 | refine below_set ?_ GE164.out) | exact HB.out)⟩⟩
  case rest =>
    clear HC8
    try clear c1
    try clear p2
    try clear c3
    try clear c11
    try clear c12
    try clear c13
    try clear c14
    try clear c15
    try clear c15b0
    try clear c15b1
    try clear c17
    try clear c17b0
    try clear c17b1
    try clear hcz12_0
    try clear hcz12_1
    try clear hcz12_2
    try clear hcz12_3
    try clear hcz19_0
    try clear hcz19_1
    try clear hcz19_2
    try clear hcz19_3
    try clear hcz22_0
    try clear hcz22_1
    try clear hcz22_2
    try clear hcz22_3
    try clear hfz12_0
    try clear hfz12_1
    try clear hfz12_2
    try clear hfz12_3
    try clear hfz19_0
    try clear hfz19_1
    try clear hfz19_2
    try clear hfz19_3
    try clear hfz22_0
    try clear hfz22_1
    try clear hfz22_2
    try clear hfz22_3
    obtain ⟨kq, x50_7, rfl, HA, HJ7, HO_11, BK164, HB⟩ := hcut
    cases kq with
    | zero => exact absurd HA.out (by simp [hatstandlaw6_LayoutFresh.j0])
    | succ kj7 =>
      have H := HA.out
      clear HA
      simp only [hatstandlaw6_LayoutFresh.j0] at H
      by_cases c24 : x50_7 = true
      · subst c24
        have H1 : (some false) = some r := by rw [if_pos rfl] at H; exact H
        clear H
        have H := H1
        clear H1
        obtain rfl := Option.some.inj H
        go_wp2
        go_ret
        exact ⟨by first | rfl | (simp [errW_none, errW_some] <;> rfl) | (simp [*, errW_none, errW_some] <;> rfl), by repeat (first | (with_reducible first | exact HB.out | apply below_alloc | apply pw_below_drewN | apply below_drew1 | refine below_set ?_ GE164.out) | exact HB.out)⟩
      · replace c24 := Bool.eq_false_iff.mpr c24
        subst c24
        have H1 : (if 1 < (t165.length : Int) then ((layout_Chain.f kj7 t160 t161 t162 t163 t165 (rd t165 1)).bind fun bt171 => (if 0 < (t165.length : Int) then ((layout_Chain.f kj7 t160 t161 t162 t163 t165 (rd t165 0)).bind fun bt176 => ((layout_Stack.f kj7 t160 t161 t162 t163 t165).bind fun bt180 => (if bt171.2 = true then (if bt176.2 = true then (if bt180.2 = true then (if (bt171.1.length : Int) = t160 then (if (bt176.1.length : Int) = 0 then (if (bt180.1.length : Int) = 0 then ((pack_Tag.f (rd t165 0)).bind fun t185 => (if t185 = a3 then ((pack_Tag.f (rd t165 1)).bind fun t187 => (hatstandlaw6_LayoutFresh.j1 kj7 a3 t165 bt171.1 (t187 != a3) t160 t161 t162 t163)) else (hatstandlaw6_LayoutFresh.j1 kj7 a3 t165 bt171.1 true t160 t161 t162 t163))) else (hatstandlaw6_LayoutFresh.j1 kj7 a3 t165 bt171.1 true t160 t161 t162 t163)) else (hatstandlaw6_LayoutFresh.j1 kj7 a3 t165 bt171.1 true t160 t161 t162 t163)) else (hatstandlaw6_LayoutFresh.j1 kj7 a3 t165 bt171.1 true t160 t161 t162 t163)) else (hatstandlaw6_LayoutFresh.j1 kj7 a3 t165 bt171.1 true t160 t161 t162 t163)) else (hatstandlaw6_LayoutFresh.j1 kj7 a3 t165 bt171.1 true t160 t161 t162 t163)) else (hatstandlaw6_LayoutFresh.j1 kj7 a3 t165 bt171.1 true t160 t161 t162 t163)))) else (none))) else (none)) = some r := by rw [if_neg (show ¬ (false = true) by decide)] at H; exact H
        clear H
        have H := H1
        clear H1
        by_cases c25 : 1 < (t165.length : Int)
        · rw [if_pos c25] at H
          have c25b0 : decide (1 < (t165.length : Int)) = true := decide_eq_true c25
          have c25b1 : decide (1 < t165.length) = true := decide_eq_true (by omega)
          clear c25
          replace H := Option.bind_eq_some_iff.mp H
          obtain ⟨⟨t171, t174⟩, A260, H⟩ := H
          replace H : (if 0 < (t165.length : Int) then ((layout_Chain.f kj7 t160 t161 t162 t163 t165 (rd t165 0)).bind fun bt176 => ((layout_Stack.f kj7 t160 t161 t162 t163 t165).bind fun bt180 => (if t174 = true then (if bt176.2 = true then (if bt180.2 = true then (if (t171.length : Int) = t160 then (if (bt176.1.length : Int) = 0 then (if (bt180.1.length : Int) = 0 then ((pack_Tag.f (rd t165 0)).bind fun t185 => (if t185 = a3 then ((pack_Tag.f (rd t165 1)).bind fun t187 => (hatstandlaw6_LayoutFresh.j1 kj7 a3 t165 t171 (t187 != a3) t160 t161 t162 t163)) else (hatstandlaw6_LayoutFresh.j1 kj7 a3 t165 t171 true t160 t161 t162 t163))) else (hatstandlaw6_LayoutFresh.j1 kj7 a3 t165 t171 true t160 t161 t162 t163)) else (hatstandlaw6_LayoutFresh.j1 kj7 a3 t165 t171 true t160 t161 t162 t163)) else (hatstandlaw6_LayoutFresh.j1 kj7 a3 t165 t171 true t160 t161 t162 t163)) else (hatstandlaw6_LayoutFresh.j1 kj7 a3 t165 t171 true t160 t161 t162 t163)) else (hatstandlaw6_LayoutFresh.j1 kj7 a3 t165 t171 true t160 t161 t162 t163)) else (hatstandlaw6_LayoutFresh.j1 kj7 a3 t165 t171 true t160 t161 t162 t163)))) else (none)) = some r := H
          have A26 := Aside0.mk A260
          clear A260
          by_cases c27 : 0 < (t165.length : Int)
          · rw [if_pos c27] at H
            have c27b0 : decide (0 < (t165.length : Int)) = true := decide_eq_true c27
            have c27b1 : decide (0 < t165.length) = true := decide_eq_true (by omega)
            clear c27
            replace H := Option.bind_eq_some_iff.mp H
            obtain ⟨⟨t176, t179⟩, A280, H⟩ := H
            replace H : ((layout_Stack.f kj7 t160 t161 t162 t163 t165).bind fun bt180 => (if t174 = true then (if t179 = true then (if bt180.2 = true then (if (t171.length : Int) = t160 then (if (t176.length : Int) = 0 then (if (bt180.1.length : Int) = 0 then ((pack_Tag.f (rd t165 0)).bind fun t185 => (if t185 = a3 then ((pack_Tag.f (rd t165 1)).bind fun t187 => (hatstandlaw6_LayoutFresh.j1 kj7 a3 t165 t171 (t187 != a3) t160 t161 t162 t163)) else (hatstandlaw6_LayoutFresh.j1 kj7 a3 t165 t171 true t160 t161 t162 t163))) else (hatstandlaw6_LayoutFresh.j1 kj7 a3 t165 t171 true t160 t161 t162 t163)) else (hatstandlaw6_LayoutFresh.j1 kj7 a3 t165 t171 true t160 t161 t162 t163)) else (hatstandlaw6_LayoutFresh.j1 kj7 a3 t165 t171 true t160 t161 t162 t163)) else (hatstandlaw6_LayoutFresh.j1 kj7 a3 t165 t171 true t160 t161 t162 t163)) else (hatstandlaw6_LayoutFresh.j1 kj7 a3 t165 t171 true t160 t161 t162 t163)) else (hatstandlaw6_LayoutFresh.j1 kj7 a3 t165 t171 true t160 t161 t162 t163))) = some r := H
            have A28 := Aside0.mk A280
            clear A280
            replace H := Option.bind_eq_some_iff.mp H
            obtain ⟨⟨t180, t183⟩, A290, H⟩ := H
            replace H : (if t174 = true then (if t179 = true then (if t183 = true then (if (t171.length : Int) = t160 then (if (t176.length : Int) = 0 then (if (t180.length : Int) = 0 then ((pack_Tag.f (rd t165 0)).bind fun t185 => (if t185 = a3 then ((pack_Tag.f (rd t165 1)).bind fun t187 => (hatstandlaw6_LayoutFresh.j1 kj7 a3 t165 t171 (t187 != a3) t160 t161 t162 t163)) else (hatstandlaw6_LayoutFresh.j1 kj7 a3 t165 t171 true t160 t161 t162 t163))) else (hatstandlaw6_LayoutFresh.j1 kj7 a3 t165 t171 true t160 t161 t162 t163)) else (hatstandlaw6_LayoutFresh.j1 kj7 a3 t165 t171 true t160 t161 t162 t163)) else (hatstandlaw6_LayoutFresh.j1 kj7 a3 t165 t171 true t160 t161 t162 t163)) else (hatstandlaw6_LayoutFresh.j1 kj7 a3 t165 t171 true t160 t161 t162 t163)) else (hatstandlaw6_LayoutFresh.j1 kj7 a3 t165 t171 true t160 t161 t162 t163)) else (hatstandlaw6_LayoutFresh.j1 kj7 a3 t165 t171 true t160 t161 t162 t163)) = some r := H
            have A29 := Aside0.mk A290
            clear A290
            have HC30 := Aside0.mk H
            clear H
            try go_wp2
            have n0_ := Aside0.mk (Kd.R_drew HO_11.out)
            have n1_ := Aside0.mk (blk_drew BK164.out)
            have n2_ := Aside0.mk (below_drew1 HB.out)
            clear HO_11
            clear BK164
            clear HB
            have HO_11 := n0_
            have BK164 := n1_
            have HB := n2_
            clear n0_ n1_ n2_
            obtain ⟨Ao32, co32, eo32⟩ := Kd.R_slice HO_11.out
            (first | subst eo32 | (injection eo32 with f1_ f2_ f3_; have f4_ := f1_.symm; have f5_ := f3_.symm; clear f1_ f2_ f3_; subst f4_; subst f5_))
            have p170 : 0 ≤ (1 : Int) := (by omega)
            have q170 : 1 < (t165.length : Int) := of_decide_eq_true (by first | (with_reducible assumption) | assumption)
            obtain ⟨ad170, e170, hx170_0⟩ := Kd.at_int (Kd.R_reads' HO_11.out).2.2 1 p170 q170
            cases e170
            (try simp only [show (1 : Int).toNat = 1 from rfl, Nat.reduceMul, Nat.reduceEqDiff, Go.Addr.add, ↓reduceIte] at hx170_0)
            have qi170 : (1 < t165.length) = True := eq_true (by omega)
            (try rw [show ((1 : Int)).toNat = 1 from rfl] at hx170_0)
            replace p170 := eq_true p170
            replace q170 := eq_true q170
            refine start_ (n := 11) (S := fun w' => w'.cell? ⟨gb164, 0, none⟩ = some (.int .i64 t160) ∧ w'.cell? ⟨gb164, 1, none⟩ = some (.int .i64 t161) ∧ w'.cell? ⟨gb164, 2, none⟩ = some (.int .i64 t162) ∧ w'.cell? ⟨gb164, 3, none⟩ = some (.int .u32 t163) ∧ w'.cell? ⟨ad170.block, ad170.off + 1, none⟩ = some (.int .u64 (rd t165 1))) (ds := []) #[false, false, false, false, false, false, false, false, false, false, false] (by kernel_rfl) rfl rfl ⟨(blk_cell BK164.out 0).trans rfl, (blk_cell BK164.out 1).trans rfl, (blk_cell BK164.out 2).trans rfl, (blk_cell BK164.out 3).trans rfl, hx170_0⟩ (fun hHeld => ?_); refine with_tabW hatstandlaw6_LayoutFresh.tab6 hatstandlaw6_LayoutFresh.bits6 (fun HT_ HW_ => ?_)
            generalize wc.drew = w31 at HO_11 BK164 HB hx170_0 hHeld ⊢
            refine pure_ (i := 1) (N := some 53) (v := ?_) (a' := ?_) #[false, true, false, false, false, false, false, false, false, false, false] rfl rfl (any_of HT_.out (by kernel_rfl)) (fun _ _ _ h => h) (Or.inl ⟨by rfl, ?_⟩) ?_ ?_
            rotate_left
            · intro w'
              go_simp
              with_reducible rfl
            rotate_left
            · simp only [Act.put, List.setIfInBounds_toArray, List.set_cons_zero, List.set_cons_succ, i64_w, i32_w]
              rfl
            refine pure_ (i := 2) (N := some 54) (v := ?_) (a' := ?_) #[false, true, true, false, false, false, false, false, false, false, false] rfl rfl (any_of HT_.out (by kernel_rfl)) (fun _ _ _ h => h) (Or.inl ⟨by rfl, ?_⟩) ?_ ?_
            rotate_left
            · intro w'
              go_simp
              with_reducible rfl
            rotate_left
            · simp only [Act.put, List.setIfInBounds_toArray, List.set_cons_zero, List.set_cons_succ, i64_w, i32_w]
              rfl
            refine pure_ (i := 3) (N := some 55) (v := ?_) (a' := ?_) #[false, true, true, true, false, false, false, false, false, false, false] rfl rfl (any_of HT_.out (by kernel_rfl)) (fun _ _ _ h => h) (Or.inl ⟨by rfl, ?_⟩) ?_ ?_
            rotate_left
            · intro w'
              go_simp
              with_reducible rfl
            rotate_left
            · simp only [Act.put, List.setIfInBounds_toArray, List.set_cons_zero, List.set_cons_succ, i64_w, i32_w]
              rfl
            refine take_ (i := 0) (N := some 52) (v := ?_) (a' := ?_) #[true, true, true, true, false, false, false, false, false, false, false] rfl rfl (take_ofW HT_.out HW_.out (by kernel_rfl)) (fun _ _ _ h => h) (Or.inl ⟨by rfl, ?_⟩) hHeld ?_ ?_
            rotate_left
            · rintro w' ⟨s0, s1, s2, s3, s4⟩
              go_simp
              with_reducible rfl
            rotate_left
            · simp only [Act.put, List.setIfInBounds_toArray, List.set_cons_zero, List.set_cons_succ, i64_w, i32_w]
              rfl
            refine take_ (i := 4) (N := some 56) (v := ?_) (a' := ?_) #[true, true, true, true, true, false, false, false, false, false, false] rfl rfl (take_ofW HT_.out HW_.out (by kernel_rfl)) (fun _ _ _ h => h) (Or.inl ⟨by rfl, ?_⟩) hHeld ?_ ?_
            rotate_left
            · rintro w' ⟨s0, s1, s2, s3, s4⟩
              go_simp
              with_reducible rfl
            rotate_left
            · simp only [Act.put, List.setIfInBounds_toArray, List.set_cons_zero, List.set_cons_succ, i64_w, i32_w]
              rfl
            refine one_ (i := 5) (N := some 57) #[true, true, true, true, true, true, false, false, false, false, false] rfl rfl (one_of HT_.out (by kernel_rfl)) (by decide) (fun K hK => ?_)
            refine goes_ Try.func41 (by kernel_rfl) rfl #[.agg #[.int .i64 t160, .int .i64 t161, .int .i64 t162, .int .u32 t163], .slice (some ad170) t165.length co32, .int .u64 (rd t165 1)] (by rfl) rfl rfl (by (try simp only [List.map_toArray, List.map_cons, List.map_nil]); first | done | rfl | (simp only [List.length_drop, List.length_take]; rfl)) ?_
            with_reducible refine (layout_Chain.calls kj7 t160 t161 t162 t163 _ _ t165 (rd t165 1) t171 t174 _ ?side1 ?side2 A26.out).mono ?_
            (case side1 => repeat (first | exact (Kd.R_reads' HO_11.out).2.2 | (with_reducible refine Kd.C_alloc ?_ _) | (with_reducible refine Kd.C_drewN ?_ _) | (with_reducible refine Kd.C_drew ?_)))
            (case side2 => exact (Kd.R_reads' HO_11.out).2.1)
            rintro e w33 ⟨v172, rfl, ho0, hb⟩
            have HS4_ := (hb.cell (World.block_lt_of_cell? _ _ (hHeld.2.2.2.2))).trans (hHeld.2.2.2.2)
            refine ⟨_, rfl, ?_⟩
            have n0_ := Aside0.mk (Kd.R_below (by (with_reducible repeat (first | apply Kd.R_alloc | apply Kd.R_drewN | apply Kd.R_drew)); exact HO_11.out) hb)
            have n1_ := Aside0.mk (Kd.R_lower ho0 (below_size (by repeat (first | (with_reducible first | exact HB.out | apply below_alloc | apply pw_below_drewN | apply below_drew1 | refine below_set ?_ GE164.out) | exact HB.out))))
            have n2_ := Aside0.mk (blk_below (g := gb164) (o := .cells #[.int .i64 t160, .int .i64 t161, .int .i64 t162, .int .u32 t163] 25 (0, 0)) (by (with_reducible repeat (first | refine blk_drewN ?_ _ | refine blk_drew ?_ | refine blk_alloc ?_ _)); exact BK164.out) hb)
            have n3_ := Aside0.mk (below_step (by repeat (first | (with_reducible first | exact HB.out | apply below_alloc | apply pw_below_drewN | apply below_drew1 | refine below_set ?_ GE164.out) | exact HB.out)) hb)
            clear HO_11
            clear BK164
            clear HB
            have HO_11 := n0_
            have HO173 := n1_
            have BK164 := n2_
            have HB := n3_
            clear n0_ n1_ n2_ n3_
            (try clear hb)
            (try clear hb2)
            (try clear hk)
            (try clear hi)
            (try clear ho0)
            refine hK.out _ _ ⟨(blk_cell BK164.out 0).trans rfl, (blk_cell BK164.out 1).trans rfl, (blk_cell BK164.out 2).trans rfl, (blk_cell BK164.out 3).trans rfl, HS4_⟩ (fun hHeld => ?_)
            clear hK K
            refine norm_ (a' := ?_) ?_ ?_
            rotate_left
            · show Act.put _ (some 57) _ = _
              simp only [Act.put, List.setIfInBounds_toArray, List.set_cons_zero, List.set_cons_succ, i64_w, i32_w]
              rfl
            refine pure_ (i := 6) (N := some 51) (v := ?_) (a' := ?_) #[true, true, true, true, true, true, true, false, false, false, false] rfl rfl (any_of HT_.out (by kernel_rfl)) (fun _ _ _ h => h) (Or.inl ⟨by rfl, ?_⟩) ?_ ?_
            rotate_left
            · intro w'
              go_simp
              with_reducible rfl
            rotate_left
            · simp only [Act.put, List.setIfInBounds_toArray, List.set_cons_zero, List.set_cons_succ, i64_w, i32_w]
              rfl
            refine pure_ (i := 7) (N := some 58) (v := ?_) (a' := ?_) #[true, true, true, true, true, true, true, true, false, false, false] rfl rfl (any_of HT_.out (by kernel_rfl)) (fun _ _ _ h => h) (Or.inl ⟨by rfl, ?_⟩) ?_ ?_
            rotate_left
            · intro w'
              go_simp
              with_reducible rfl
            rotate_left
            · simp only [Act.put, List.setIfInBounds_toArray, List.set_cons_zero, List.set_cons_succ, i64_w, i32_w]
              rfl
            refine pure_ (i := 8) (N := some 59) (v := ?_) (a' := ?_) #[true, true, true, true, true, true, true, true, true, false, false] rfl rfl (any_of HT_.out (by kernel_rfl)) (fun _ _ _ h => h) (Or.inl ⟨by rfl, ?_⟩) ?_ ?_
            rotate_left
            · intro w'
              go_simp
              with_reducible rfl
            rotate_left
            · simp only [Act.put, List.setIfInBounds_toArray, List.set_cons_zero, List.set_cons_succ, i64_w, i32_w]
              rfl
            refine pure_ (i := 9) (N := some 13) (v := ?_) (a' := ?_) #[true, true, true, true, true, true, true, true, true, true, false] rfl rfl (any_of HT_.out (by kernel_rfl)) (fun _ _ _ h => h) (Or.inl ⟨by rfl, ?_⟩) ?_ ?_
            rotate_left
            · intro w'
              go_simp
              with_reducible rfl
            rotate_left
            · simp only [Act.put, List.setIfInBounds_toArray, List.set_cons_zero, List.set_cons_succ, i64_w, i32_w]
              rfl
            refine pure_ (i := 10) (N := some 14) (v := ?_) (a' := ?_) #[true, true, true, true, true, true, true, true, true, true, true] rfl rfl (any_of HT_.out (by kernel_rfl)) (fun _ _ _ h => h) (Or.inl ⟨by rfl, ?_⟩) ?_ ?_
            rotate_left
            · intro w'
              go_simp
              with_reducible rfl
            rotate_left
            · simp only [Act.put, List.setIfInBounds_toArray, List.set_cons_zero, List.set_cons_succ, i64_w, i32_w]
              rfl
            refine done_ (done_of HT_.out (by kernel_rfl)) ?_
            try go_wp2
            have n0_ := Aside0.mk (Kd.R_drew HO_11.out)
            have n1_ := Aside0.mk (Kd.R_drew HO173.out)
            have n2_ := Aside0.mk (blk_drew BK164.out)
            have n3_ := Aside0.mk (below_drew1 HB.out)
            clear HO_11
            clear HO173
            clear BK164
            clear HB
            have HO_11 := n0_
            have HO173 := n1_
            have BK164 := n2_
            have HB := n3_
            clear n0_ n1_ n2_ n3_
            have p175 : 0 ≤ (0 : Int) := (by omega)
            have q175 : 0 < (t165.length : Int) := of_decide_eq_true (by first | (with_reducible assumption) | assumption)
            obtain ⟨ad175, e175, hx175_0⟩ := Kd.at_int (Kd.R_reads' HO_11.out).2.2 0 p175 q175
            obtain rfl : ad170 = ad175 := (by injection e175)
            have qi175 : (0 < t165.length) = True := eq_true (by omega)
            (try rw [show ((0 : Int)).toNat = 0 from rfl] at hx175_0)
            (try rw [Addr.add_zero'] at hx175_0)
            replace p175 := eq_true p175
            replace q175 := eq_true q175
            refine start_ (n := 11) (S := fun w' => w'.cell? ⟨gb164, 0, none⟩ = some (.int .i64 t160) ∧ w'.cell? ⟨gb164, 1, none⟩ = some (.int .i64 t161) ∧ w'.cell? ⟨gb164, 2, none⟩ = some (.int .i64 t162) ∧ w'.cell? ⟨gb164, 3, none⟩ = some (.int .u32 t163) ∧ w'.cell? ad170 = some (.int .u64 (rd t165 0))) (ds := []) #[false, false, false, false, false, false, false, false, false, false, false] (by kernel_rfl) rfl rfl ⟨(blk_cell BK164.out 0).trans rfl, (blk_cell BK164.out 1).trans rfl, (blk_cell BK164.out 2).trans rfl, (blk_cell BK164.out 3).trans rfl, hx175_0⟩ (fun hHeld => ?_); refine with_tabW hatstandlaw6_LayoutFresh.tab7 hatstandlaw6_LayoutFresh.bits7 (fun HT_ HW_ => ?_)
            generalize w33.drew = w34 at HO_11 HO173 BK164 HB hx175_0 hHeld ⊢
            refine pure_ (i := 1) (N := some 62) (v := ?_) (a' := ?_) #[false, true, false, false, false, false, false, false, false, false, false] rfl rfl (any_of HT_.out (by kernel_rfl)) (fun _ _ _ h => h) (Or.inl ⟨by rfl, ?_⟩) ?_ ?_
            rotate_left
            · intro w'
              go_simp
              with_reducible rfl
            rotate_left
            · simp only [Act.put, List.setIfInBounds_toArray, List.set_cons_zero, List.set_cons_succ, i64_w, i32_w]
              rfl
            refine pure_ (i := 2) (N := some 63) (v := ?_) (a' := ?_) #[false, true, true, false, false, false, false, false, false, false, false] rfl rfl (any_of HT_.out (by kernel_rfl)) (fun _ _ _ h => h) (Or.inl ⟨by rfl, ?_⟩) ?_ ?_
            rotate_left
            · intro w'
              go_simp
              with_reducible rfl
            rotate_left
            · simp only [Act.put, List.setIfInBounds_toArray, List.set_cons_zero, List.set_cons_succ, i64_w, i32_w]
              rfl
            refine pure_ (i := 3) (N := some 64) (v := ?_) (a' := ?_) #[false, true, true, true, false, false, false, false, false, false, false] rfl rfl (any_of HT_.out (by kernel_rfl)) (fun _ _ _ h => h) (Or.inl ⟨by rfl, ?_⟩) ?_ ?_
            rotate_left
            · intro w'
              go_simp
              with_reducible rfl
            rotate_left
            · simp only [Act.put, List.setIfInBounds_toArray, List.set_cons_zero, List.set_cons_succ, i64_w, i32_w]
              rfl
            refine take_ (i := 0) (N := some 61) (v := ?_) (a' := ?_) #[true, true, true, true, false, false, false, false, false, false, false] rfl rfl (take_ofW HT_.out HW_.out (by kernel_rfl)) (fun _ _ _ h => h) (Or.inl ⟨by rfl, ?_⟩) hHeld ?_ ?_
            rotate_left
            · rintro w' ⟨s0, s1, s2, s3, s4⟩
              go_simp
              with_reducible rfl
            rotate_left
            · simp only [Act.put, List.setIfInBounds_toArray, List.set_cons_zero, List.set_cons_succ, i64_w, i32_w]
              rfl
            refine take_ (i := 4) (N := some 65) (v := ?_) (a' := ?_) #[true, true, true, true, true, false, false, false, false, false, false] rfl rfl (take_ofW HT_.out HW_.out (by kernel_rfl)) (fun _ _ _ h => h) (Or.inl ⟨by rfl, ?_⟩) hHeld ?_ ?_
            rotate_left
            · rintro w' ⟨s0, s1, s2, s3, s4⟩
              go_simp
              with_reducible rfl
            rotate_left
            · simp only [Act.put, List.setIfInBounds_toArray, List.set_cons_zero, List.set_cons_succ, i64_w, i32_w]
              rfl
            refine one_ (i := 5) (N := some 66) #[true, true, true, true, true, true, false, false, false, false, false] rfl rfl (one_of HT_.out (by kernel_rfl)) (by decide) (fun K hK => ?_)
            refine goes_ Try.func41 (by kernel_rfl) rfl #[.agg #[.int .i64 t160, .int .i64 t161, .int .i64 t162, .int .u32 t163], .slice (some ad170) t165.length co32, .int .u64 (rd t165 0)] (by rfl) rfl rfl (by (try simp only [List.map_toArray, List.map_cons, List.map_nil]); first | done | rfl | (simp only [List.length_drop, List.length_take]; rfl)) ?_
            with_reducible refine (layout_Chain.calls kj7 t160 t161 t162 t163 _ _ t165 (rd t165 0) t176 t179 _ ?side1 ?side2 A28.out).mono ?_
            (case side1 => repeat (first | exact (Kd.R_reads' HO_11.out).2.2 | (with_reducible refine Kd.C_alloc ?_ _) | (with_reducible refine Kd.C_drewN ?_ _) | (with_reducible refine Kd.C_drew ?_)))
            (case side2 => exact (Kd.R_reads' HO_11.out).2.1)
            rintro e w35 ⟨v177, rfl, ho0, hb⟩
            have HS4_ := (hb.cell (World.block_lt_of_cell? _ _ (hHeld.2.2.2.2))).trans (hHeld.2.2.2.2)
            refine ⟨_, rfl, ?_⟩
            have n0_ := Aside0.mk (Kd.R_below (by (with_reducible repeat (first | apply Kd.R_alloc | apply Kd.R_drewN | apply Kd.R_drew)); exact HO_11.out) hb)
            have n1_ := Aside0.mk (Kd.R_elder' (by (with_reducible repeat (first | apply Kd.R_alloc | apply Kd.R_drewN | apply Kd.R_drew)); exact HO173.out) (Kd.R_base ho0) hb)
            have n2_ := Aside0.mk (Kd.R_lower (Kd.R_new' ho0 (Kd.R_lt (by (with_reducible repeat (first | apply Kd.R_alloc | apply Kd.R_drewN | apply Kd.R_drew)); exact HO173.out))) (below_size (by repeat (first | (with_reducible first | exact HB.out | apply below_alloc | apply pw_below_drewN | apply below_drew1 | refine below_set ?_ GE164.out) | exact HB.out))))
            have n3_ := Aside0.mk (blk_below (g := gb164) (o := .cells #[.int .i64 t160, .int .i64 t161, .int .i64 t162, .int .u32 t163] 25 (0, 0)) (by (with_reducible repeat (first | refine blk_drewN ?_ _ | refine blk_drew ?_ | refine blk_alloc ?_ _)); exact BK164.out) hb)
            have n4_ := Aside0.mk (below_step (by repeat (first | (with_reducible first | exact HB.out | apply below_alloc | apply pw_below_drewN | apply below_drew1 | refine below_set ?_ GE164.out) | exact HB.out)) hb)
            clear HO_11
            clear HO173
            clear BK164
            clear HB
            have HO_11 := n0_
            have HO173 := n1_
            have HO178 := n2_
            have BK164 := n3_
            have HB := n4_
            clear n0_ n1_ n2_ n3_ n4_
            (try clear hb)
            (try clear hb2)
            (try clear hk)
            (try clear hi)
            (try clear ho0)
            refine hK.out _ _ ⟨(blk_cell BK164.out 0).trans rfl, (blk_cell BK164.out 1).trans rfl, (blk_cell BK164.out 2).trans rfl, (blk_cell BK164.out 3).trans rfl, HS4_⟩ (fun hHeld => ?_)
            clear hK K
            refine norm_ (a' := ?_) ?_ ?_
            rotate_left
            · show Act.put _ (some 66) _ = _
              simp only [Act.put, List.setIfInBounds_toArray, List.set_cons_zero, List.set_cons_succ, i64_w, i32_w]
              rfl
            refine pure_ (i := 6) (N := some 60) (v := ?_) (a' := ?_) #[true, true, true, true, true, true, true, false, false, false, false] rfl rfl (any_of HT_.out (by kernel_rfl)) (fun _ _ _ h => h) (Or.inl ⟨by rfl, ?_⟩) ?_ ?_
            rotate_left
            · intro w'
              go_simp
              with_reducible rfl
            rotate_left
            · simp only [Act.put, List.setIfInBounds_toArray, List.set_cons_zero, List.set_cons_succ, i64_w, i32_w]
              rfl
            refine pure_ (i := 7) (N := some 67) (v := ?_) (a' := ?_) #[true, true, true, true, true, true, true, true, false, false, false] rfl rfl (any_of HT_.out (by kernel_rfl)) (fun _ _ _ h => h) (Or.inl ⟨by rfl, ?_⟩) ?_ ?_
            rotate_left
            · intro w'
              go_simp
              with_reducible rfl
            rotate_left
            · simp only [Act.put, List.setIfInBounds_toArray, List.set_cons_zero, List.set_cons_succ, i64_w, i32_w]
              rfl
            refine pure_ (i := 8) (N := some 68) (v := ?_) (a' := ?_) #[true, true, true, true, true, true, true, true, true, false, false] rfl rfl (any_of HT_.out (by kernel_rfl)) (fun _ _ _ h => h) (Or.inl ⟨by rfl, ?_⟩) ?_ ?_
            rotate_left
            · intro w'
              go_simp
              with_reducible rfl
            rotate_left
            · simp only [Act.put, List.setIfInBounds_toArray, List.set_cons_zero, List.set_cons_succ, i64_w, i32_w]
              rfl
            refine pure_ (i := 9) (N := some 15) (v := ?_) (a' := ?_) #[true, true, true, true, true, true, true, true, true, true, false] rfl rfl (any_of HT_.out (by kernel_rfl)) (fun _ _ _ h => h) (Or.inl ⟨by rfl, ?_⟩) ?_ ?_
            rotate_left
            · intro w'
              go_simp
              with_reducible rfl
            rotate_left
            · simp only [Act.put, List.setIfInBounds_toArray, List.set_cons_zero, List.set_cons_succ, i64_w, i32_w]
              rfl
            refine pure_ (i := 10) (N := some 16) (v := ?_) (a' := ?_) #[true, true, true, true, true, true, true, true, true, true, true] rfl rfl (any_of HT_.out (by kernel_rfl)) (fun _ _ _ h => h) (Or.inl ⟨by rfl, ?_⟩) ?_ ?_
            rotate_left
            · intro w'
              go_simp
              with_reducible rfl
            rotate_left
            · simp only [Act.put, List.setIfInBounds_toArray, List.set_cons_zero, List.set_cons_succ, i64_w, i32_w]
              rfl
            refine done_ (done_of HT_.out (by kernel_rfl)) ?_
            have hcz36_0 : w35.cell? ⟨gb164, 0, none⟩ = some (.int .i64 t160) := (blk_cell BK164.out 0).trans rfl
            have hcz36_1 : w35.cell? ⟨gb164, 1, none⟩ = some (.int .i64 t161) := (blk_cell BK164.out 1).trans rfl
            have hcz36_2 : w35.cell? ⟨gb164, 2, none⟩ = some (.int .i64 t162) := (blk_cell BK164.out 2).trans rfl
            have hcz36_3 : w35.cell? ⟨gb164, 3, none⟩ = some (.int .u32 t163) := (blk_cell BK164.out 3).trans rfl
            have hfz36_0 := blk_frozen BK164.out 0
            have hfz36_1 := blk_frozen BK164.out 1
            have hfz36_2 := blk_frozen BK164.out 2
            have hfz36_3 := blk_frozen BK164.out 3
            go_upto_region 9 with (first | ((with_reducible refine gate_callee (f := 43) rfl ?_); refine goesL_ (some 72) rfl rfl Try.func43 (by kernel_rfl) rfl #[.agg #[.int .i64 t160, .int .i64 t161, .int .i64 t162, .int .u32 t163], .slice (some ad170) t165.length co32] rfl (by (try simp only [List.map_toArray, List.map_cons, List.map_nil]); first | done | rfl | (simp only [List.length_drop, List.length_take]; rfl)) ?_; (with_reducible refine (layout_Stack.calls kj7 t160 t161 t162 t163 _ _ t165 t180 t183 _ ?side1 ?side2 A29.out).mono ?_); (case side1 => repeat (first | exact (Kd.R_reads' HO_11.out).2.2 | (with_reducible refine Kd.C_alloc ?_ _) | (with_reducible refine Kd.C_drewN ?_ _) | (with_reducible refine Kd.C_drew ?_))); (case side2 => exact (Kd.R_reads' HO_11.out).2.1); rintro e w37 ⟨v181, rfl, ho0, hb⟩; refine ⟨_, rfl, ?_⟩; have n0_ := Aside0.mk (Kd.R_elder' (by (with_reducible repeat (first | apply Kd.R_alloc | apply Kd.R_drewN | apply Kd.R_drew)); exact HO_11.out) (Kd.R_base ho0) hb); have n1_ := Aside0.mk (Kd.R_below (by (with_reducible repeat (first | apply Kd.R_alloc | apply Kd.R_drewN | apply Kd.R_drew)); exact HO173.out) hb); have n2_ := Aside0.mk (Kd.R_below (by (with_reducible repeat (first | apply Kd.R_alloc | apply Kd.R_drewN | apply Kd.R_drew)); exact HO178.out) hb); have n3_ := Aside0.mk (Kd.R_lower (Kd.R_new' ho0 (Kd.R_lt (by (with_reducible repeat (first | apply Kd.R_alloc | apply Kd.R_drewN | apply Kd.R_drew)); exact HO_11.out))) (below_size (by repeat (first | (with_reducible first | exact HB.out | apply below_alloc | apply pw_below_drewN | apply below_drew1 | refine below_set ?_ GE164.out) | exact HB.out)))); have n4_ := Aside0.mk (blk_below (g := gb164) (o := .cells #[.int .i64 t160, .int .i64 t161, .int .i64 t162, .int .u32 t163] 25 (0, 0)) (by (with_reducible repeat (first | refine blk_drewN ?_ _ | refine blk_drew ?_ | refine blk_alloc ?_ _)); exact BK164.out) hb); have n5_ := Aside0.mk (below_step (by repeat (first | (with_reducible first | exact HB.out | apply below_alloc | apply pw_below_drewN | apply below_drew1 | refine below_set ?_ GE164.out) | exact HB.out)) hb); clear HO_11; clear HO173; clear HO178; clear BK164; clear HB; have HO_11 := n0_; have HO173 := n1_; have HO178 := n2_; have HO182 := n3_; have BK164 := n4_; have HB := n5_; clear n0_ n1_ n2_ n3_ n4_ n5_; (try clear hb); (try clear hb2); (try clear hk); (try clear hi); (try clear ho0)))
            (try simp only [Act.put, List.setIfInBounds_toArray, List.set_cons_zero, List.set_cons_succ])
            go_cut [117] (fun v117 wc => ∃ (kq : Nat) (x117_29 : Bool), v117 = .bool x117_29 ∧ Aside0 (hatstandlaw6_LayoutFresh.j1 kq a3 t165 t171 x117_29 t160 t161 t162 t163 = some r) ∧ Aside0 (kq ≤ kj7) ∧ Aside0 (Kd.R (Kd.int .u64) 33 wc w.heap.size (fun _ => True) (.slice (some ad170) t165.length co32) t165) ∧ Aside0 (Kd.R (Kd.int .u32) 23 wc w.heap.size (fun _ => True) v172 t171) ∧ Aside0 (wc.heap[gb164]? = some (.cells #[.int .i64 t160, .int .i64 t161, .int .i64 t162, .int .u32 t163] 25 (0, 0))) ∧ Aside0 (Below w.heap.size w wc))
            case first =>
              have H := HC30.out
              clear HC30
              by_cases c38 : t174 = true
              · subst c38
                have H1 : (if t179 = true then (if t183 = true then (if (t171.length : Int) = t160 then (if (t176.length : Int) = 0 then (if (t180.length : Int) = 0 then ((pack_Tag.f (rd t165 0)).bind fun t185 => (if t185 = a3 then ((pack_Tag.f (rd t165 1)).bind fun t187 => (hatstandlaw6_LayoutFresh.j1 kj7 a3 t165 t171 (t187 != a3) t160 t161 t162 t163)) else (hatstandlaw6_LayoutFresh.j1 kj7 a3 t165 t171 true t160 t161 t162 t163))) else (hatstandlaw6_LayoutFresh.j1 kj7 a3 t165 t171 true t160 t161 t162 t163)) else (hatstandlaw6_LayoutFresh.j1 kj7 a3 t165 t171 true t160 t161 t162 t163)) else (hatstandlaw6_LayoutFresh.j1 kj7 a3 t165 t171 true t160 t161 t162 t163)) else (hatstandlaw6_LayoutFresh.j1 kj7 a3 t165 t171 true t160 t161 t162 t163)) else (hatstandlaw6_LayoutFresh.j1 kj7 a3 t165 t171 true t160 t161 t162 t163)) = some r := by rw [if_pos rfl] at H; exact H
                clear H
                have H := H1
                clear H1
                by_cases c39 : t179 = true
                · subst c39
                  have H1 : (if t183 = true then (if (t171.length : Int) = t160 then (if (t176.length : Int) = 0 then (if (t180.length : Int) = 0 then ((pack_Tag.f (rd t165 0)).bind fun t185 => (if t185 = a3 then ((pack_Tag.f (rd t165 1)).bind fun t187 => (hatstandlaw6_LayoutFresh.j1 kj7 a3 t165 t171 (t187 != a3) t160 t161 t162 t163)) else (hatstandlaw6_LayoutFresh.j1 kj7 a3 t165 t171 true t160 t161 t162 t163))) else (hatstandlaw6_LayoutFresh.j1 kj7 a3 t165 t171 true t160 t161 t162 t163)) else (hatstandlaw6_LayoutFresh.j1 kj7 a3 t165 t171 true t160 t161 t162 t163)) else (hatstandlaw6_LayoutFresh.j1 kj7 a3 t165 t171 true t160 t161 t162 t163)) else (hatstandlaw6_LayoutFresh.j1 kj7 a3 t165 t171 true t160 t161 t162 t163)) = some r := by rw [if_pos rfl] at H; exact H
                  clear H
                  have H := H1
                  clear H1
                  by_cases c40 : t183 = true
                  · subst c40
                    have H1 : (if (t171.length : Int) = t160 then (if (t176.length : Int) = 0 then (if (t180.length : Int) = 0 then ((pack_Tag.f (rd t165 0)).bind fun t185 => (if t185 = a3 then ((pack_Tag.f (rd t165 1)).bind fun t187 => (hatstandlaw6_LayoutFresh.j1 kj7 a3 t165 t171 (t187 != a3) t160 t161 t162 t163)) else (hatstandlaw6_LayoutFresh.j1 kj7 a3 t165 t171 true t160 t161 t162 t163))) else (hatstandlaw6_LayoutFresh.j1 kj7 a3 t165 t171 true t160 t161 t162 t163)) else (hatstandlaw6_LayoutFresh.j1 kj7 a3 t165 t171 true t160 t161 t162 t163)) else (hatstandlaw6_LayoutFresh.j1 kj7 a3 t165 t171 true t160 t161 t162 t163)) = some r := by rw [if_pos rfl] at H; exact H
                    clear H
                    have H := H1
                    clear H1
                    by_cases c41 : (t171.length : Int) = t160
                    · rw [if_pos c41] at H
                      have c41b0 : ((t171.length : Int) == t160) = true := beq_iff_eq.mpr c41
                      have c41b1 : ((t171.length : Int) != t160) = false := bne_eq_false_iff_eq.mpr c41
                      clear c41
                      (first | rw [c41b0] | (simp only [i64_w, i32_w]; rw [c41b0]) | skip)
                      by_cases c42 : (t176.length : Int) = 0
                      · rw [if_pos c42] at H
                        have c42b0 : ((t176.length : Int) == 0) = true := beq_iff_eq.mpr c42
                        have c42b1 : ((t176.length : Int) != 0) = false := bne_eq_false_iff_eq.mpr c42
                        clear c42
                        by_cases c43 : (t180.length : Int) = 0
                        · rw [if_pos c43] at H
                          have c43b0 : ((t180.length : Int) == 0) = true := beq_iff_eq.mpr c43
                          have c43b1 : ((t180.length : Int) != 0) = false := bne_eq_false_iff_eq.mpr c43
                          clear c43
                          replace H := Option.bind_eq_some_iff.mp H
                          obtain ⟨t185, A440, H⟩ := H
                          replace H : (if t185 = a3 then ((pack_Tag.f (rd t165 1)).bind fun t187 => (hatstandlaw6_LayoutFresh.j1 kj7 a3 t165 t171 (t187 != a3) t160 t161 t162 t163)) else (hatstandlaw6_LayoutFresh.j1 kj7 a3 t165 t171 true t160 t161 t162 t163)) = some r := H
                          have A44 := Aside0.mk A440
                          clear A440
                          by_cases c45 : t185 = a3
                          · rw [if_pos c45] at H
                            have c45b0 : (t185 == a3) = true := beq_iff_eq.mpr c45
                            have c45b1 : (t185 != a3) = false := bne_eq_false_iff_eq.mpr c45
                            clear c45
                            replace H := Option.bind_eq_some_iff.mp H
                            obtain ⟨t187, A460, H⟩ := H
                            replace H : (hatstandlaw6_LayoutFresh.j1 kj7 a3 t165 t171 (t187 != a3) t160 t161 t162 t163) = some r := H
                            have A46 := Aside0.mk A460
                            clear A460
                            have H' := Aside0.mk H
                            clear H
                            obtain ⟨Ao47, co47, eo47⟩ := Kd.R_slice HO173.out
                            subst eo47
                            have hcz48_0 : w37.cell? ⟨gb164, 0, none⟩ = some (.int .i64 t160) := (blk_cell BK164.out 0).trans rfl
                            have hcz48_1 : w37.cell? ⟨gb164, 1, none⟩ = some (.int .i64 t161) := (blk_cell BK164.out 1).trans rfl
                            have hcz48_2 : w37.cell? ⟨gb164, 2, none⟩ = some (.int .i64 t162) := (blk_cell BK164.out 2).trans rfl
                            have hcz48_3 : w37.cell? ⟨gb164, 3, none⟩ = some (.int .u32 t163) := (blk_cell BK164.out 3).trans rfl
                            have hfz48_0 := blk_frozen BK164.out 0
                            have hfz48_1 := blk_frozen BK164.out 1
                            have hfz48_2 := blk_frozen BK164.out 2
                            have hfz48_3 := blk_frozen BK164.out 3
                            obtain ⟨Ao49, co49, eo49⟩ := Kd.R_slice HO178.out
                            subst eo49
                            obtain ⟨Ao50, co50, eo50⟩ := Kd.R_slice HO182.out
                            subst eo50
                            have p184 : 0 ≤ (0 : Int) := (by omega)
                            have q184 : 0 < (t165.length : Int) := of_decide_eq_true (by first | (with_reducible assumption) | assumption)
                            obtain ⟨ad184, e184, hx184_0⟩ := Kd.at_int (Kd.R_reads' HO_11.out).2.2 0 p184 q184
                            obtain rfl : ad170 = ad184 := (by injection e184)
                            have qi184 : (0 < t165.length) = True := eq_true (by omega)
                            (try rw [show ((0 : Int)).toNat = 0 from rfl] at hx184_0)
                            (try rw [Addr.add_zero'] at hx184_0)
                            replace p184 := eq_true p184
                            replace q184 := eq_true q184
                            go_wp2_with (first | (go_at_call 47; (with_reducible refine (pack_Tag.calls (rd t165 0) t185 _ A44.out).mono ?_); rintro e w51 ⟨rfl, hb⟩; have n0_ := Aside0.mk (Kd.R_below (by (with_reducible repeat (first | apply Kd.R_alloc | apply Kd.R_drewN | apply Kd.R_drew)); exact HO_11.out) hb); have n1_ := Aside0.mk (Kd.R_below (by (with_reducible repeat (first | apply Kd.R_alloc | apply Kd.R_drewN | apply Kd.R_drew)); exact HO173.out) hb); have n2_ := Aside0.mk (Kd.R_below (by (with_reducible repeat (first | apply Kd.R_alloc | apply Kd.R_drewN | apply Kd.R_drew)); exact HO178.out) hb); have n3_ := Aside0.mk (Kd.R_below (by (with_reducible repeat (first | apply Kd.R_alloc | apply Kd.R_drewN | apply Kd.R_drew)); exact HO182.out) hb); have n4_ := Aside0.mk (blk_below (g := gb164) (o := .cells #[.int .i64 t160, .int .i64 t161, .int .i64 t162, .int .u32 t163] 25 (0, 0)) (by (with_reducible repeat (first | refine blk_drewN ?_ _ | refine blk_drew ?_ | refine blk_alloc ?_ _)); exact BK164.out) hb); have n5_ := Aside0.mk (below_step (by repeat (first | (with_reducible first | exact HB.out | apply below_alloc | apply pw_below_drewN | apply below_drew1 | refine below_set ?_ GE164.out) | exact HB.out)) hb); clear HO_11; clear HO173; clear HO178; clear HO182; clear BK164; clear HB; have HO_11 := n0_; have HO173 := n1_; have HO178 := n2_; have HO182 := n3_; have BK164 := n4_; have HB := n5_; clear n0_ n1_ n2_ n3_ n4_ n5_; (try clear hb); (try clear hb2); (try clear hk); (try clear hi); have p186 : 0 ≤ (1 : Int) := (by omega); have q186 : 1 < (t165.length : Int) := of_decide_eq_true (by first | (with_reducible assumption) | assumption); obtain ⟨ad186, e186, hx186_0⟩ := Kd.at_int (Kd.R_reads' HO_11.out).2.2 1 p186 q186; obtain rfl : ad170 = ad186 := (by injection e186); (try simp only [show (1 : Int).toNat = 1 from rfl, Nat.reduceMul, Nat.reduceEqDiff, Go.Addr.add, ↓reduceIte] at hx186_0); have qi186 : (1 < t165.length) = True := eq_true (by omega); (try rw [show ((1 : Int)).toNat = 1 from rfl] at hx186_0); replace p186 := eq_true p186; replace q186 := eq_true q186) | (go_at_call 47; (with_reducible refine (pack_Tag.calls (rd t165 1) t187 _ A46.out).mono ?_); rintro e w52 ⟨rfl, hb⟩; have n0_ := Aside0.mk (Kd.R_below (by (with_reducible repeat (first | apply Kd.R_alloc | apply Kd.R_drewN | apply Kd.R_drew)); exact HO_11.out) hb); have n1_ := Aside0.mk (Kd.R_below (by (with_reducible repeat (first | apply Kd.R_alloc | apply Kd.R_drewN | apply Kd.R_drew)); exact HO173.out) hb); have n2_ := Aside0.mk (Kd.R_below (by (with_reducible repeat (first | apply Kd.R_alloc | apply Kd.R_drewN | apply Kd.R_drew)); exact HO178.out) hb); have n3_ := Aside0.mk (Kd.R_below (by (with_reducible repeat (first | apply Kd.R_alloc | apply Kd.R_drewN | apply Kd.R_drew)); exact HO182.out) hb); have n4_ := Aside0.mk (blk_below (g := gb164) (o := .cells #[.int .i64 t160, .int .i64 t161, .int .i64 t162, .int .u32 t163] 25 (0, 0)) (by (with_reducible repeat (first | refine blk_drewN ?_ _ | refine blk_drew ?_ | refine blk_alloc ?_ _)); exact BK164.out) hb); have n5_ := Aside0.mk (below_step (by repeat (first | (with_reducible first | exact HB.out | apply below_alloc | apply pw_below_drewN | apply below_drew1 | refine below_set ?_ GE164.out) | exact HB.out)) hb); clear HO_11; clear HO173; clear HO178; clear HO182; clear BK164; clear HB; have HO_11 := n0_; have HO173 := n1_; have HO178 := n2_; have HO182 := n3_; have BK164 := n4_; have HB := n5_; clear n0_ n1_ n2_ n3_ n4_ n5_; (try clear hb); (try clear hb2); (try clear hk); (try clear hi)))
                            go_meet
                            case rel => exact ⟨_, ((t187 != a3)), (by first | rfl | (simp; done) | (simp [*]; done)), H', ⟨by have := HJ7.out; first | omega | exact Nat.le_refl _⟩, ⟨by (with_reducible repeat (first | apply Kd.R_alloc | apply Kd.R_drewN | apply Kd.R_drew)); exact Kd.R_mono HO_11.out (fun _ hk => trivial)⟩, ⟨by (with_reducible repeat (first | apply Kd.R_alloc | apply Kd.R_drewN | apply Kd.R_drew)); exact Kd.R_mono HO173.out (fun _ hk => trivial)⟩, ⟨by (with_reducible repeat (first | refine blk_drewN ?_ _ | refine blk_drew ?_ | refine blk_alloc ?_ _)); exact BK164.out⟩, ⟨by repeat (first | (with_reducible first | exact HB.out | apply below_alloc | apply pw_below_drewN | apply below_drew1 | refine below_set ?_ GE164.out) | exact HB.out)⟩⟩
                          · rw [if_neg c45] at H
                            have c45b0 : (t185 == a3) = false := beq_eq_false_iff_ne.mpr c45
                            have c45b1 : (t185 != a3) = true := bne_iff_ne.mpr c45
                            have H' := Aside0.mk H
                            clear H
                            obtain ⟨Ao53, co53, eo53⟩ := Kd.R_slice HO173.out
                            subst eo53
                            have hcz54_0 : w37.cell? ⟨gb164, 0, none⟩ = some (.int .i64 t160) := (blk_cell BK164.out 0).trans rfl
                            have hcz54_1 : w37.cell? ⟨gb164, 1, none⟩ = some (.int .i64 t161) := (blk_cell BK164.out 1).trans rfl
                            have hcz54_2 : w37.cell? ⟨gb164, 2, none⟩ = some (.int .i64 t162) := (blk_cell BK164.out 2).trans rfl
                            have hcz54_3 : w37.cell? ⟨gb164, 3, none⟩ = some (.int .u32 t163) := (blk_cell BK164.out 3).trans rfl
                            have hfz54_0 := blk_frozen BK164.out 0
                            have hfz54_1 := blk_frozen BK164.out 1
                            have hfz54_2 := blk_frozen BK164.out 2
                            have hfz54_3 := blk_frozen BK164.out 3
                            obtain ⟨Ao55, co55, eo55⟩ := Kd.R_slice HO178.out
                            subst eo55
                            obtain ⟨Ao56, co56, eo56⟩ := Kd.R_slice HO182.out
                            subst eo56
                            have p184 : 0 ≤ (0 : Int) := (by omega)
                            have q184 : 0 < (t165.length : Int) := of_decide_eq_true (by first | (with_reducible assumption) | assumption)
                            obtain ⟨ad184, e184, hx184_0⟩ := Kd.at_int (Kd.R_reads' HO_11.out).2.2 0 p184 q184
                            obtain rfl : ad170 = ad184 := (by injection e184)
                            have qi184 : (0 < t165.length) = True := eq_true (by omega)
                            (try rw [show ((0 : Int)).toNat = 0 from rfl] at hx184_0)
                            (try rw [Addr.add_zero'] at hx184_0)
                            replace p184 := eq_true p184
                            replace q184 := eq_true q184
                            go_wp2_with (first | (go_at_call 47; (with_reducible refine (pack_Tag.calls (rd t165 0) t185 _ A44.out).mono ?_); rintro e w57 ⟨rfl, hb⟩; have n0_ := Aside0.mk (Kd.R_below (by (with_reducible repeat (first | apply Kd.R_alloc | apply Kd.R_drewN | apply Kd.R_drew)); exact HO_11.out) hb); have n1_ := Aside0.mk (Kd.R_below (by (with_reducible repeat (first | apply Kd.R_alloc | apply Kd.R_drewN | apply Kd.R_drew)); exact HO173.out) hb); have n2_ := Aside0.mk (Kd.R_below (by (with_reducible repeat (first | apply Kd.R_alloc | apply Kd.R_drewN | apply Kd.R_drew)); exact HO178.out) hb); have n3_ := Aside0.mk (Kd.R_below (by (with_reducible repeat (first | apply Kd.R_alloc | apply Kd.R_drewN | apply Kd.R_drew)); exact HO182.out) hb); have n4_ := Aside0.mk (blk_below (g := gb164) (o := .cells #[.int .i64 t160, .int .i64 t161, .int .i64 t162, .int .u32 t163] 25 (0, 0)) (by (with_reducible repeat (first | refine blk_drewN ?_ _ | refine blk_drew ?_ | refine blk_alloc ?_ _)); exact BK164.out) hb); have n5_ := Aside0.mk (below_step (by repeat (first | (with_reducible first | exact HB.out | apply below_alloc | apply pw_below_drewN | apply below_drew1 | refine below_set ?_ GE164.out) | exact HB.out)) hb); clear HO_11; clear HO173; clear HO178; clear HO182; clear BK164; clear HB; have HO_11 := n0_; have HO173 := n1_; have HO178 := n2_; have HO182 := n3_; have BK164 := n4_; have HB := n5_; clear n0_ n1_ n2_ n3_ n4_ n5_; (try clear hb); (try clear hb2); (try clear hk); (try clear hi)))
                            go_meet
                            case rel => exact ⟨_, (true), (by first | rfl | (simp; done) | (simp [*]; done)), H', ⟨by have := HJ7.out; first | omega | exact Nat.le_refl _⟩, ⟨by (with_reducible repeat (first | apply Kd.R_alloc | apply Kd.R_drewN | apply Kd.R_drew)); exact Kd.R_mono HO_11.out (fun _ hk => trivial)⟩, ⟨by (with_reducible repeat (first | apply Kd.R_alloc | apply Kd.R_drewN | apply Kd.R_drew)); exact Kd.R_mono HO173.out (fun _ hk => trivial)⟩, ⟨by (with_reducible repeat (first | refine blk_drewN ?_ _ | refine blk_drew ?_ | refine blk_alloc ?_ _)); exact BK164.out⟩, ⟨by repeat (first | (with_reducible first | exact HB.out | apply below_alloc | apply pw_below_drewN | apply below_drew1 | refine below_set ?_ GE164.out) | exact HB.out)⟩⟩
                        · rw [if_neg c43] at H
                          have c43b0 : ((t180.length : Int) == 0) = false := beq_eq_false_iff_ne.mpr c43
                          have c43b1 : ((t180.length : Int) != 0) = true := bne_iff_ne.mpr c43
                          have c43b2 : ¬ (t180 = []) := fun h_ => c43 (by rw [h_]; rfl)
                          have H' := Aside0.mk H
                          clear H
                          obtain ⟨Ao58, co58, eo58⟩ := Kd.R_slice HO173.out
                          subst eo58
                          have hcz59_0 : w37.cell? ⟨gb164, 0, none⟩ = some (.int .i64 t160) := (blk_cell BK164.out 0).trans rfl
                          have hcz59_1 : w37.cell? ⟨gb164, 1, none⟩ = some (.int .i64 t161) := (blk_cell BK164.out 1).trans rfl
                          have hcz59_2 : w37.cell? ⟨gb164, 2, none⟩ = some (.int .i64 t162) := (blk_cell BK164.out 2).trans rfl
                          have hcz59_3 : w37.cell? ⟨gb164, 3, none⟩ = some (.int .u32 t163) := (blk_cell BK164.out 3).trans rfl
                          have hfz59_0 := blk_frozen BK164.out 0
                          have hfz59_1 := blk_frozen BK164.out 1
                          have hfz59_2 := blk_frozen BK164.out 2
                          have hfz59_3 := blk_frozen BK164.out 3
                          obtain ⟨Ao60, co60, eo60⟩ := Kd.R_slice HO178.out
                          subst eo60
                          obtain ⟨Ao61, co61, eo61⟩ := Kd.R_slice HO182.out
                          subst eo61
                          go_wp2
                          go_meet
                          case rel => exact ⟨_, (true), (by first | rfl | (simp; done) | (simp [*]; done)), H', ⟨by have := HJ7.out; first | omega | exact Nat.le_refl _⟩, ⟨by (with_reducible repeat (first | apply Kd.R_alloc | apply Kd.R_drewN | apply Kd.R_drew)); exact Kd.R_mono HO_11.out (fun _ hk => trivial)⟩, ⟨by (with_reducible repeat (first | apply Kd.R_alloc | apply Kd.R_drewN | apply Kd.R_drew)); exact Kd.R_mono HO173.out (fun _ hk => trivial)⟩, ⟨by (with_reducible repeat (first | refine blk_drewN ?_ _ | refine blk_drew ?_ | refine blk_alloc ?_ _)); exact BK164.out⟩, ⟨by repeat (first | (with_reducible first | exact HB.out | apply below_alloc | apply pw_below_drewN | apply below_drew1 | refine below_set ?_ GE164.out) | exact HB.out)⟩⟩
                      · rw [if_neg c42] at H
                        have c42b0 : ((t176.length : Int) == 0) = false := beq_eq_false_iff_ne.mpr c42
                        have c42b1 : ((t176.length : Int) != 0) = true := bne_iff_ne.mpr c42
                        have c42b2 : ¬ (t176 = []) := fun h_ => c42 (by rw [h_]; rfl)
                        have H' := Aside0.mk H
                        clear H
                        obtain ⟨Ao62, co62, eo62⟩ := Kd.R_slice HO173.out
                        subst eo62
                        have hcz63_0 : w37.cell? ⟨gb164, 0, none⟩ = some (.int .i64 t160) := (blk_cell BK164.out 0).trans rfl
                        have hcz63_1 : w37.cell? ⟨gb164, 1, none⟩ = some (.int .i64 t161) := (blk_cell BK164.out 1).trans rfl
                        have hcz63_2 : w37.cell? ⟨gb164, 2, none⟩ = some (.int .i64 t162) := (blk_cell BK164.out 2).trans rfl
                        have hcz63_3 : w37.cell? ⟨gb164, 3, none⟩ = some (.int .u32 t163) := (blk_cell BK164.out 3).trans rfl
                        have hfz63_0 := blk_frozen BK164.out 0
                        have hfz63_1 := blk_frozen BK164.out 1
                        have hfz63_2 := blk_frozen BK164.out 2
                        have hfz63_3 := blk_frozen BK164.out 3
                        obtain ⟨Ao64, co64, eo64⟩ := Kd.R_slice HO178.out
                        subst eo64
                        go_wp2
                        go_meet
                        case rel => exact ⟨_, (true), (by first | rfl | (simp; done) | (simp [*]; done)), H', ⟨by have := HJ7.out; first | omega | exact Nat.le_refl _⟩, ⟨by (with_reducible repeat (first | apply Kd.R_alloc | apply Kd.R_drewN | apply Kd.R_drew)); exact Kd.R_mono HO_11.out (fun _ hk => trivial)⟩, ⟨by (with_reducible repeat (first | apply Kd.R_alloc | apply Kd.R_drewN | apply Kd.R_drew)); exact Kd.R_mono HO173.out (fun _ hk => trivial)⟩, ⟨by (with_reducible repeat (first | refine blk_drewN ?_ _ | refine blk_drew ?_ | refine blk_alloc ?_ _)); exact BK164.out⟩, ⟨by repeat (first | (with_reducible first | exact HB.out | apply below_alloc | apply pw_below_drewN | apply below_drew1 | refine below_set ?_ GE164.out) | exact HB.out)⟩⟩
                    · rw [if_neg c41] at H
                      have c41b0 : ((t171.length : Int) == t160) = false := beq_eq_false_iff_ne.mpr c41
                      have c41b1 : ((t171.length : Int) != t160) = true := bne_iff_ne.mpr c41
                      (first | rw [c41b0] | (simp only [i64_w, i32_w]; rw [c41b0]) | skip)
                      have H' := Aside0.mk H
                      clear H
                      obtain ⟨Ao65, co65, eo65⟩ := Kd.R_slice HO173.out
                      subst eo65
                      have hcz66_0 : w37.cell? ⟨gb164, 0, none⟩ = some (.int .i64 t160) := (blk_cell BK164.out 0).trans rfl
                      have hcz66_1 : w37.cell? ⟨gb164, 1, none⟩ = some (.int .i64 t161) := (blk_cell BK164.out 1).trans rfl
                      have hcz66_2 : w37.cell? ⟨gb164, 2, none⟩ = some (.int .i64 t162) := (blk_cell BK164.out 2).trans rfl
                      have hcz66_3 : w37.cell? ⟨gb164, 3, none⟩ = some (.int .u32 t163) := (blk_cell BK164.out 3).trans rfl
                      have hfz66_0 := blk_frozen BK164.out 0
                      have hfz66_1 := blk_frozen BK164.out 1
                      have hfz66_2 := blk_frozen BK164.out 2
                      have hfz66_3 := blk_frozen BK164.out 3
                      go_wp2
                      go_meet
                      case rel => exact ⟨_, (true), (by first | rfl | (simp; done) | (simp [*]; done)), H', ⟨by have := HJ7.out; first | omega | exact Nat.le_refl _⟩, ⟨by (with_reducible repeat (first | apply Kd.R_alloc | apply Kd.R_drewN | apply Kd.R_drew)); exact Kd.R_mono HO_11.out (fun _ hk => trivial)⟩, ⟨by (with_reducible repeat (first | apply Kd.R_alloc | apply Kd.R_drewN | apply Kd.R_drew)); exact Kd.R_mono HO173.out (fun _ hk => trivial)⟩, ⟨by (with_reducible repeat (first | refine blk_drewN ?_ _ | refine blk_drew ?_ | refine blk_alloc ?_ _)); exact BK164.out⟩, ⟨by repeat (first | (with_reducible first | exact HB.out | apply below_alloc | apply pw_below_drewN | apply below_drew1 | refine below_set ?_ GE164.out) | exact HB.out)⟩⟩
                  · replace c40 := Bool.eq_false_iff.mpr c40
                    subst c40
                    have H1 : (hatstandlaw6_LayoutFresh.j1 kj7 a3 t165 t171 true t160 t161 t162 t163) = some r := by rw [if_neg (show ¬ (false = true) by decide)] at H; exact H
                    clear H
                    have H := H1
                    clear H1
                    have H' := Aside0.mk H
                    clear H
                    go_wp2
                    go_meet
                    case rel => exact ⟨_, (true), (by first | rfl | (simp; done) | (simp [*]; done)), H', ⟨by have := HJ7.out; first | omega | exact Nat.le_refl _⟩, ⟨by (with_reducible repeat (first | apply Kd.R_alloc | apply Kd.R_drewN | apply Kd.R_drew)); exact Kd.R_mono HO_11.out (fun _ hk => trivial)⟩, ⟨by (with_reducible repeat (first | apply Kd.R_alloc | apply Kd.R_drewN | apply Kd.R_drew)); exact Kd.R_mono HO173.out (fun _ hk => trivial)⟩, ⟨by (with_reducible repeat (first | refine blk_drewN ?_ _ | refine blk_drew ?_ | refine blk_alloc ?_ _)); exact BK164.out⟩, ⟨by repeat (first | (with_reducible first | exact HB.out | apply below_alloc | apply pw_below_drewN | apply below_drew1 | refine below_set ?_ GE164.out) | exact HB.out)⟩⟩
                · replace c39 := Bool.eq_false_iff.mpr c39
                  subst c39
                  have H1 : (hatstandlaw6_LayoutFresh.j1 kj7 a3 t165 t171 true t160 t161 t162 t163) = some r := by rw [if_neg (show ¬ (false = true) by decide)] at H; exact H
                  clear H
                  have H := H1
                  clear H1
                  have H' := Aside0.mk H
                  clear H
                  go_wp2
                  go_meet
                  case rel => exact ⟨_, (true), (by first | rfl | (simp; done) | (simp [*]; done)), H', ⟨by have := HJ7.out; first | omega | exact Nat.le_refl _⟩, ⟨by (with_reducible repeat (first | apply Kd.R_alloc | apply Kd.R_drewN | apply Kd.R_drew)); exact Kd.R_mono HO_11.out (fun _ hk => trivial)⟩, ⟨by (with_reducible repeat (first | apply Kd.R_alloc | apply Kd.R_drewN | apply Kd.R_drew)); exact Kd.R_mono HO173.out (fun _ hk => trivial)⟩, ⟨by (with_reducible repeat (first | refine blk_drewN ?_ _ | refine blk_drew ?_ | refine blk_alloc ?_ _)); exact BK164.out⟩, ⟨by repeat (first | (with_reducible first | exact HB.out | apply below_alloc | apply pw_below_drewN | apply below_drew1 | refine below_set ?_ GE164.out) | exact HB.out)⟩⟩
              · replace c38 := Bool.eq_false_iff.mpr c38
                subst c38
                have H1 : (hatstandlaw6_LayoutFresh.j1 kj7 a3 t165 t171 true t160 t161 t162 t163) = some r := by rw [if_neg (show ¬ (false = true) by decide)] at H; exact H
                clear H
                have H := H1
                clear H1
                have H' := Aside0.mk H
                clear H
                go_wp2
                go_meet
                case rel => exact ⟨_, (true), (by first | rfl | (simp; done) | (simp [*]; done)), H', ⟨by have := HJ7.out; first | omega | exact Nat.le_refl _⟩, ⟨by (with_reducible repeat (first | apply Kd.R_alloc | apply Kd.R_drewN | apply Kd.R_drew)); exact Kd.R_mono HO_11.out (fun _ hk => trivial)⟩, ⟨by (with_reducible repeat (first | apply Kd.R_alloc | apply Kd.R_drewN | apply Kd.R_drew)); exact Kd.R_mono HO173.out (fun _ hk => trivial)⟩, ⟨by (with_reducible repeat (first | refine blk_drewN ?_ _ | refine blk_drew ?_ | refine blk_alloc ?_ _)); exact BK164.out⟩, ⟨by repeat (first | (with_reducible first | exact HB.out | apply below_alloc | apply pw_below_drewN | apply below_drew1 | refine below_set ?_ GE164.out) | exact HB.out)⟩⟩
            case rest =>
              clear HC30
              try clear c1
              try clear p1
              try clear q1
              try clear hx1
              try clear qi1
              try clear c2
              try clear p2
              try clear c3
              try clear c4
              try clear c11
              try clear c12
              try clear c13
              try clear c14
              try clear c15
              try clear c15b0
              try clear c15b1
              try clear c17
              try clear c17b0
              try clear c17b1
              try clear p17
              try clear q17
              try clear hx17
              try clear qi17
              try clear p18
              try clear q18
              try clear hx18
              try clear qi18
              try clear c24
              try clear c25
              try clear c25b0
              try clear c25b1
              try clear c27
              try clear c27b0
              try clear c27b1
              try clear c38
              try clear c39
              try clear c40
              try clear c41
              try clear c41b0
              try clear c41b1
              try clear c42
              try clear c42b0
              try clear c42b1
              try clear c42b2
              try clear c43
              try clear c43b0
              try clear c43b1
              try clear c43b2
              try clear c45
              try clear c45b0
              try clear c45b1
              try clear hcz12_0
              try clear hcz12_1
              try clear hcz12_2
              try clear hcz12_3
              try clear hcz19_0
              try clear hcz19_1
              try clear hcz19_2
              try clear hcz19_3
              try clear hcz22_0
              try clear hcz22_1
              try clear hcz22_2
              try clear hcz22_3
              try clear hcz36_0
              try clear hcz36_1
              try clear hcz36_2
              try clear hcz36_3
              try clear hcz48_0
              try clear hcz48_1
              try clear hcz48_2
              try clear hcz48_3
              try clear hcz54_0
              try clear hcz54_1
              try clear hcz54_2
              try clear hcz54_3
              try clear hcz59_0
              try clear hcz59_1
              try clear hcz59_2
              try clear hcz59_3
              try clear hcz63_0
              try clear hcz63_1
              try clear hcz63_2
              try clear hcz63_3
              try clear hcz66_0
              try clear hcz66_1
              try clear hcz66_2
              try clear hcz66_3
              try clear hfz12_0
              try clear hfz12_1
              try clear hfz12_2
              try clear hfz12_3
              try clear hfz19_0
              try clear hfz19_1
              try clear hfz19_2
              try clear hfz19_3
              try clear hfz22_0
              try clear hfz22_1
              try clear hfz22_2
              try clear hfz22_3
              try clear hfz36_0
              try clear hfz36_1
              try clear hfz36_2
              try clear hfz36_3
              try clear hfz48_0
              try clear hfz48_1
              try clear hfz48_2
              try clear hfz48_3
              try clear hfz54_0
              try clear hfz54_1
              try clear hfz54_2
              try clear hfz54_3
              try clear hfz59_0
              try clear hfz59_1
              try clear hfz59_2
              try clear hfz59_3
              try clear hfz63_0
              try clear hfz63_1
              try clear hfz63_2
              try clear hfz63_3
              try clear hfz66_0
              try clear hfz66_1
              try clear hfz66_2
              try clear hfz66_3
              try clear hx170_0
              try clear hx175_0
              try clear hx184_0
              try clear hx186_0
              try clear p170
              try clear p175
              try clear p184
              try clear p186
              try clear p2
              try clear q170
              try clear q175
              try clear q184
              try clear q186
              obtain ⟨kq, x117_29, rfl, HA, HJ29, HO_11, HO_13, BK164, HB⟩ := hcut
              cases kq with
              | zero => exact absurd HA.out (by simp [hatstandlaw6_LayoutFresh.j1])
              | succ kj29 =>
                have H := HA.out
                clear HA
                simp only [hatstandlaw6_LayoutFresh.j1] at H
                by_cases c67 : x117_29 = true
                · subst c67
                  have H1 : (some false) = some r := by rw [if_pos rfl] at H; exact H
                  clear H
                  have H := H1
                  clear H1
                  obtain rfl := Option.some.inj H
                  go_wp2
                  go_ret
                  exact ⟨by first | rfl | (simp [errW_none, errW_some] <;> rfl) | (simp [*, errW_none, errW_some] <;> rfl), by repeat (first | (with_reducible first | exact HB.out | apply below_alloc | apply pw_below_drewN | apply below_drew1 | refine below_set ?_ GE164.out) | exact HB.out)⟩
                · replace c67 := Bool.eq_false_iff.mpr c67
                  subst c67
                  have H1 : (hatstandlaw6_LayoutFresh.l0 kj29 a3 t165 t171 0 t160 t161 t162 t163) = some r := by rw [if_neg (show ¬ (false = true) by decide)] at H; exact H
                  clear H
                  have H := H1
                  clear H1
                  have H' := Aside0.mk H
                  clear H
                  go_wp2
                  go_loopg [19] kj29 (fun kq v19 w' => ∃ (x19_3 : Int), v19 = .int .i64 x19_3 ∧ Aside0 (hatstandlaw6_LayoutFresh.l0 kq a3 t165 t171 x19_3 t160 t161 t162 t163 = some r) ∧ Aside0 (kq ≤ kj29) ∧ Aside0 (Kd.R (Kd.int .u64) 33 w' w.heap.size (fun _ => True) (.slice (some ad170) t165.length co32) t165) ∧ Aside0 (Kd.R (Kd.int .u32) 23 w' w.heap.size (fun _ => True) v172 t171) ∧ Aside0 (w'.heap[gb164]? = some (.cells #[.int .i64 t160, .int .i64 t161, .int .i64 t162, .int .u32 t163] 25 (0, 0))) ∧ Aside0 (Below w.heap.size w w'))
                  case atStart => exact ⟨(0), (by first | rfl | (simp; done) | (simp [*]; done)), H', ⟨Nat.le_refl _⟩, ⟨by (with_reducible repeat (first | apply Kd.R_alloc | apply Kd.R_drewN | apply Kd.R_drew)); exact HO_11.out⟩, ⟨by (with_reducible repeat (first | apply Kd.R_alloc | apply Kd.R_drewN | apply Kd.R_drew)); exact HO_13.out⟩, ⟨by (with_reducible repeat (first | refine blk_drewN ?_ _ | refine blk_drew ?_ | refine blk_alloc ?_ _)); exact BK164.out⟩, ⟨by repeat (first | (with_reducible first | exact HB.out | apply below_alloc | apply pw_below_drewN | apply below_drew1 | refine below_set ?_ GE164.out) | exact HB.out)⟩⟩
                  case round =>
                    clear H'
                    try clear c1
                    try clear p1
                    try clear q1
                    try clear hx1
                    try clear qi1
                    try clear c2
                    try clear p2
                    try clear c3
                    try clear c4
                    try clear c6
                    try clear c11
                    try clear c12
                    try clear c13
                    try clear c14
                    try clear c15
                    try clear c15b0
                    try clear c15b1
                    try clear c17
                    try clear c17b0
                    try clear c17b1
                    try clear p17
                    try clear q17
                    try clear hx17
                    try clear qi17
                    try clear p18
                    try clear q18
                    try clear hx18
                    try clear qi18
                    try clear c24
                    try clear c25
                    try clear c25b0
                    try clear c25b1
                    try clear c27
                    try clear c27b0
                    try clear c27b1
                    try clear c38
                    try clear c39
                    try clear c40
                    try clear c41
                    try clear c41b0
                    try clear c41b1
                    try clear c42
                    try clear c42b0
                    try clear c42b1
                    try clear c42b2
                    try clear c43
                    try clear c43b0
                    try clear c43b1
                    try clear c43b2
                    try clear c45
                    try clear c45b0
                    try clear c45b1
                    try clear c67
                    try clear hcz12_0
                    try clear hcz12_1
                    try clear hcz12_2
                    try clear hcz12_3
                    try clear hcz19_0
                    try clear hcz19_1
                    try clear hcz19_2
                    try clear hcz19_3
                    try clear hcz22_0
                    try clear hcz22_1
                    try clear hcz22_2
                    try clear hcz22_3
                    try clear hcz36_0
                    try clear hcz36_1
                    try clear hcz36_2
                    try clear hcz36_3
                    try clear hcz48_0
                    try clear hcz48_1
                    try clear hcz48_2
                    try clear hcz48_3
                    try clear hcz54_0
                    try clear hcz54_1
                    try clear hcz54_2
                    try clear hcz54_3
                    try clear hcz59_0
                    try clear hcz59_1
                    try clear hcz59_2
                    try clear hcz59_3
                    try clear hcz63_0
                    try clear hcz63_1
                    try clear hcz63_2
                    try clear hcz63_3
                    try clear hcz66_0
                    try clear hcz66_1
                    try clear hcz66_2
                    try clear hcz66_3
                    try clear hfz12_0
                    try clear hfz12_1
                    try clear hfz12_2
                    try clear hfz12_3
                    try clear hfz19_0
                    try clear hfz19_1
                    try clear hfz19_2
                    try clear hfz19_3
                    try clear hfz22_0
                    try clear hfz22_1
                    try clear hfz22_2
                    try clear hfz22_3
                    try clear hfz36_0
                    try clear hfz36_1
                    try clear hfz36_2
                    try clear hfz36_3
                    try clear hfz48_0
                    try clear hfz48_1
                    try clear hfz48_2
                    try clear hfz48_3
                    try clear hfz54_0
                    try clear hfz54_1
                    try clear hfz54_2
                    try clear hfz54_3
                    try clear hfz59_0
                    try clear hfz59_1
                    try clear hfz59_2
                    try clear hfz59_3
                    try clear hfz63_0
                    try clear hfz63_1
                    try clear hfz63_2
                    try clear hfz63_3
                    try clear hfz66_0
                    try clear hfz66_1
                    try clear hfz66_2
                    try clear hfz66_3
                    try clear hx170_0
                    try clear hx175_0
                    try clear hx184_0
                    try clear hx186_0
                    try clear p1
                    try clear p17
                    try clear p170
                    try clear p175
                    try clear p18
                    try clear p184
                    try clear p186
                    try clear p2
                    try clear q1
                    try clear q17
                    try clear q170
                    try clear q175
                    try clear q18
                    try clear q184
                    try clear q186
                    obtain ⟨x19_3, rfl, HA, HK3, HO_11, HO_13, BK164, HB⟩ := hrel
                    cases gk with
                    | zero => exact absurd HA.out (by simp [hatstandlaw6_LayoutFresh.l0])
                    | succ k3 =>
                      have H := HA.out
                      clear HA
                      simp only [hatstandlaw6_LayoutFresh.l0] at H
                      by_cases c68 : x19_3 < (t171.length : Int)
                      · rw [if_pos c68] at H
                        have c68b0 : decide (x19_3 < (t171.length : Int)) = true := decide_eq_true c68
                        clear c68
                        by_cases c69 : 0 ≤ x19_3
                        · rw [if_pos c69] at H
                          have c69b0 : decide (0 ≤ x19_3) = true := decide_eq_true c69
                          clear c69
                          by_cases c70 : (rd t171 x19_3) = ((wrap64 (x19_3 + 1)) % 4294967296)
                          · rw [if_pos c70] at H
                            have c70b0 : ((rd t171 x19_3) == ((wrap64 (x19_3 + 1)) % 4294967296)) = true := beq_iff_eq.mpr c70
                            have c70b1 : ((rd t171 x19_3) != ((wrap64 (x19_3 + 1)) % 4294967296)) = false := bne_eq_false_iff_eq.mpr c70
                            clear c70
                            have H' := Aside0.mk H
                            clear H
                            obtain ⟨Ao71, co71, eo71⟩ := Kd.R_slice HO_13.out
                            subst eo71
                            have p188 : 0 ≤ (x19_3 : Int) := of_decide_eq_true (by first | (with_reducible assumption) | assumption)
                            have q188 : x19_3 < (t171.length : Int) := of_decide_eq_true (by first | (with_reducible assumption) | assumption)
                            obtain ⟨ad188, e188, hx188_0⟩ := Kd.at_int (Kd.R_reads' HO_13.out).2.2 x19_3 p188 q188
                            cases e188
                            replace p188 := eq_true p188
                            replace q188 := eq_true q188
                            go_wp2
                            go_roundg k3
                            case measure => have := HJ7.out; have := HJ29.out; have := HK3.out; omega
                            case rel => exact ⟨(wrap64 (x19_3 + 1)), (by first | rfl | (simp; done) | (simp [*]; done)), H', ⟨by have := HJ7.out; have := HJ29.out; have := HK3.out; omega⟩, ⟨by (with_reducible repeat (first | apply Kd.R_alloc | apply Kd.R_drewN | apply Kd.R_drew)); exact HO_11.out⟩, ⟨by (with_reducible repeat (first | apply Kd.R_alloc | apply Kd.R_drewN | apply Kd.R_drew)); exact HO_13.out⟩, ⟨by (with_reducible repeat (first | refine blk_drewN ?_ _ | refine blk_drew ?_ | refine blk_alloc ?_ _)); exact BK164.out⟩, ⟨by repeat (first | (with_reducible first | exact HB.out | apply below_alloc | apply pw_below_drewN | apply below_drew1 | refine below_set ?_ GE164.out) | exact HB.out)⟩⟩
                          · rw [if_neg c70] at H
                            have c70b0 : ((rd t171 x19_3) == ((wrap64 (x19_3 + 1)) % 4294967296)) = false := beq_eq_false_iff_ne.mpr c70
                            have c70b1 : ((rd t171 x19_3) != ((wrap64 (x19_3 + 1)) % 4294967296)) = true := bne_iff_ne.mpr c70
                            obtain rfl := Option.some.inj H
                            obtain ⟨Ao72, co72, eo72⟩ := Kd.R_slice HO_13.out
                            subst eo72
                            have p188 : 0 ≤ (x19_3 : Int) := of_decide_eq_true (by first | (with_reducible assumption) | assumption)
                            have q188 : x19_3 < (t171.length : Int) := of_decide_eq_true (by first | (with_reducible assumption) | assumption)
                            obtain ⟨ad188, e188, hx188_0⟩ := Kd.at_int (Kd.R_reads' HO_13.out).2.2 x19_3 p188 q188
                            cases e188
                            replace p188 := eq_true p188
                            replace q188 := eq_true q188
                            go_wp2
                            go_ret
                            exact ⟨by first | rfl | (simp [errW_none, errW_some] <;> rfl) | (simp [*, errW_none, errW_some] <;> rfl), by repeat (first | (with_reducible first | exact HB.out | apply below_alloc | apply pw_below_drewN | apply below_drew1 | refine below_set ?_ GE164.out) | exact HB.out)⟩
                        · rw [if_neg c69] at H
                          exact absurd H (by simp)
                      · rw [if_neg c68] at H
                        have c68b0 : decide (x19_3 < (t171.length : Int)) = false := decide_eq_false c68
                        clear c68
                        have H' := Aside0.mk H
                        clear H
                        obtain ⟨Ao73, co73, eo73⟩ := Kd.R_slice HO_13.out
                        subst eo73
                        go_wp2
                        go_loopg [20] k3 (fun kq v20 w' => ∃ (x20_4 : Int), v20 = .int .i64 x20_4 ∧ Aside0 (hatstandlaw6_LayoutFresh.l1 kq a3 t165 x20_4 t160 t161 t162 t163 = some r) ∧ Aside0 (kq ≤ k3) ∧ Aside0 (Kd.R (Kd.int .u64) 33 w' w.heap.size (fun _ => True) (.slice (some ad170) t165.length co32) t165) ∧ Aside0 (w'.heap[gb164]? = some (.cells #[.int .i64 t160, .int .i64 t161, .int .i64 t162, .int .u32 t163] 25 (0, 0))) ∧ Aside0 (Below w.heap.size w w'))
                        case atStart => exact ⟨(0), (by first | rfl | (simp; done) | (simp [*]; done)), H', ⟨Nat.le_refl _⟩, ⟨by (with_reducible repeat (first | apply Kd.R_alloc | apply Kd.R_drewN | apply Kd.R_drew)); exact HO_11.out⟩, ⟨by (with_reducible repeat (first | refine blk_drewN ?_ _ | refine blk_drew ?_ | refine blk_alloc ?_ _)); exact BK164.out⟩, ⟨by repeat (first | (with_reducible first | exact HB.out | apply below_alloc | apply pw_below_drewN | apply below_drew1 | refine below_set ?_ GE164.out) | exact HB.out)⟩⟩
                        case round =>
                          clear H'
                          try clear c1
                          try clear p1
                          try clear q1
                          try clear hx1
                          try clear qi1
                          try clear c2
                          try clear p2
                          try clear c3
                          try clear c4
                          try clear c6
                          try clear p6
                          try clear c7
                          try clear c11
                          try clear c12
                          try clear c13
                          try clear c14
                          try clear c15
                          try clear c15b0
                          try clear c15b1
                          try clear c17
                          try clear c17b0
                          try clear c17b1
                          try clear p17
                          try clear q17
                          try clear hx17
                          try clear qi17
                          try clear p18
                          try clear q18
                          try clear hx18
                          try clear qi18
                          try clear c24
                          try clear c25
                          try clear c25b0
                          try clear c25b1
                          try clear c27
                          try clear c27b0
                          try clear c27b1
                          try clear c38
                          try clear c39
                          try clear c40
                          try clear c41
                          try clear c41b0
                          try clear c41b1
                          try clear c42
                          try clear c42b0
                          try clear c42b1
                          try clear c42b2
                          try clear c43
                          try clear c43b0
                          try clear c43b1
                          try clear c43b2
                          try clear c45
                          try clear c45b0
                          try clear c45b1
                          try clear p64
                          try clear c67
                          try clear c68
                          try clear c68b0
                          try clear c69
                          try clear c69b0
                          try clear c70
                          try clear c70b0
                          try clear c70b1
                          try clear hcz12_0
                          try clear hcz12_1
                          try clear hcz12_2
                          try clear hcz12_3
                          try clear hcz19_0
                          try clear hcz19_1
                          try clear hcz19_2
                          try clear hcz19_3
                          try clear hcz22_0
                          try clear hcz22_1
                          try clear hcz22_2
                          try clear hcz22_3
                          try clear hcz36_0
                          try clear hcz36_1
                          try clear hcz36_2
                          try clear hcz36_3
                          try clear hcz48_0
                          try clear hcz48_1
                          try clear hcz48_2
                          try clear hcz48_3
                          try clear hcz54_0
                          try clear hcz54_1
                          try clear hcz54_2
                          try clear hcz54_3
                          try clear hcz59_0
                          try clear hcz59_1
                          try clear hcz59_2
                          try clear hcz59_3
                          try clear hcz63_0
                          try clear hcz63_1
                          try clear hcz63_2
                          try clear hcz63_3
                          try clear hcz66_0
                          try clear hcz66_1
                          try clear hcz66_2
                          try clear hcz66_3
                          try clear hfz12_0
                          try clear hfz12_1
                          try clear hfz12_2
                          try clear hfz12_3
                          try clear hfz19_0
                          try clear hfz19_1
                          try clear hfz19_2
                          try clear hfz19_3
                          try clear hfz22_0
                          try clear hfz22_1
                          try clear hfz22_2
                          try clear hfz22_3
                          try clear hfz36_0
                          try clear hfz36_1
                          try clear hfz36_2
                          try clear hfz36_3
                          try clear hfz48_0
                          try clear hfz48_1
                          try clear hfz48_2
                          try clear hfz48_3
                          try clear hfz54_0
                          try clear hfz54_1
                          try clear hfz54_2
                          try clear hfz54_3
                          try clear hfz59_0
                          try clear hfz59_1
                          try clear hfz59_2
                          try clear hfz59_3
                          try clear hfz63_0
                          try clear hfz63_1
                          try clear hfz63_2
                          try clear hfz63_3
                          try clear hfz66_0
                          try clear hfz66_1
                          try clear hfz66_2
                          try clear hfz66_3
                          try clear hx170_0
                          try clear hx175_0
                          try clear hx184_0
                          try clear hx186_0
                          try clear hx188_0
                          try clear p1
                          try clear p17
                          try clear p170
                          try clear p175
                          try clear p18
                          try clear p184
                          try clear p186
                          try clear p188
                          try clear p2
                          try clear q1
                          try clear q17
                          try clear q170
                          try clear q175
                          try clear q18
                          try clear q184
                          try clear q186
                          try clear q188
                          obtain ⟨x20_4, rfl, HA, HK4, HO_11, BK164, HB⟩ := hrel
                          cases gk with
                          | zero => exact absurd HA.out (by simp [hatstandlaw6_LayoutFresh.l1])
                          | succ k4 =>
                            have H := HA.out
                            clear HA
                            simp only [hatstandlaw6_LayoutFresh.l1] at H
                            by_cases c74 : x20_4 < t161
                            · rw [if_pos c74] at H
                              have c74b0 : decide (x20_4 < t161) = true := decide_eq_true c74
                              clear c74
                              replace H := Option.bind_eq_some_iff.mp H
                              obtain ⟨t189, A750, H⟩ := H
                              replace H : (if 0 ≤ t189 then (if t189 < (t165.length : Int) then ((pack_Word.f 0 a3).bind fun t191 => (if (rd t165 t189) = t191 then (hatstandlaw6_LayoutFresh.l1 k4 a3 t165 (wrap64 (x20_4 + 1)) t160 t161 t162 t163) else (some false))) else (none)) else (none)) = some r := H
                              have A75 := Aside0.mk A750
                              clear A750
                              by_cases c76 : 0 ≤ t189
                              · rw [if_pos c76] at H
                                have c76b0 : decide (0 ≤ t189) = true := decide_eq_true c76
                                clear c76
                                by_cases c77 : t189 < (t165.length : Int)
                                · rw [if_pos c77] at H
                                  have c77b0 : decide (t189 < (t165.length : Int)) = true := decide_eq_true c77
                                  clear c77
                                  replace H := Option.bind_eq_some_iff.mp H
                                  obtain ⟨t191, A780, H⟩ := H
                                  replace H : (if (rd t165 t189) = t191 then (hatstandlaw6_LayoutFresh.l1 k4 a3 t165 (wrap64 (x20_4 + 1)) t160 t161 t162 t163) else (some false)) = some r := H
                                  have A78 := Aside0.mk A780
                                  clear A780
                                  by_cases c79 : (rd t165 t189) = t191
                                  · rw [if_pos c79] at H
                                    have c79b0 : ((rd t165 t189) == t191) = true := beq_iff_eq.mpr c79
                                    have c79b1 : ((rd t165 t189) != t191) = false := bne_eq_false_iff_eq.mpr c79
                                    clear c79
                                    have H' := Aside0.mk H
                                    clear H
                                    have hcz80_0 : wr.cell? ⟨gb164, 0, none⟩ = some (.int .i64 t160) := (blk_cell BK164.out 0).trans rfl
                                    have hcz80_1 : wr.cell? ⟨gb164, 1, none⟩ = some (.int .i64 t161) := (blk_cell BK164.out 1).trans rfl
                                    have hcz80_2 : wr.cell? ⟨gb164, 2, none⟩ = some (.int .i64 t162) := (blk_cell BK164.out 2).trans rfl
                                    have hcz80_3 : wr.cell? ⟨gb164, 3, none⟩ = some (.int .u32 t163) := (blk_cell BK164.out 3).trans rfl
                                    have hfz80_0 := blk_frozen BK164.out 0
                                    have hfz80_1 := blk_frozen BK164.out 1
                                    have hfz80_2 := blk_frozen BK164.out 2
                                    have hfz80_3 := blk_frozen BK164.out 3
                                    try go_wp2
                                    have n0_ := Aside0.mk (Kd.R_drew HO_11.out)
                                    have n1_ := Aside0.mk (blk_drew BK164.out)
                                    have n2_ := Aside0.mk (below_drew1 HB.out)
                                    clear HO_11
                                    clear BK164
                                    clear HB
                                    have HO_11 := n0_
                                    have BK164 := n1_
                                    have HB := n2_
                                    clear n0_ n1_ n2_
                                    have p190 : 0 ≤ (t189 : Int) := of_decide_eq_true (by first | (with_reducible assumption) | assumption)
                                    have q190 : t189 < (t165.length : Int) := of_decide_eq_true (by first | (with_reducible assumption) | assumption)
                                    obtain ⟨ad190, e190, hx190_0⟩ := Kd.at_int (Kd.R_reads' HO_11.out).2.2 t189 p190 q190
                                    obtain rfl : ad170 = ad190 := (by injection e190)
                                    replace p190 := eq_true p190
                                    replace q190 := eq_true q190
                                    refine start_ (n := 9) (S := fun w' => w'.cell? ⟨gb164, 0, none⟩ = some (.int .i64 t160) ∧ w'.cell? ⟨gb164, 1, none⟩ = some (.int .i64 t161) ∧ w'.cell? ⟨gb164, 2, none⟩ = some (.int .i64 t162) ∧ w'.cell? ⟨gb164, 3, none⟩ = some (.int .u32 t163) ∧ w'.cell? (ad170.add (t189).toNat) = some (.int .u64 (rd t165 t189))) (ds := []) #[false, false, false, false, false, false, false, false, false] (by kernel_rfl) rfl rfl ⟨(blk_cell BK164.out 0).trans rfl, (blk_cell BK164.out 1).trans rfl, (blk_cell BK164.out 2).trans rfl, (blk_cell BK164.out 3).trans rfl, hx190_0⟩ (fun hHeld => ?_); refine with_tabW hatstandlaw6_LayoutFresh.tab19 hatstandlaw6_LayoutFresh.bits19 (fun HT_ HW_ => ?_)
                                    generalize wr.drew = w81 at HO_11 BK164 HB hx190_0 hHeld ⊢
                                    refine pure_ (i := 0) (N := some 138) (v := ?_) (a' := ?_) #[true, false, false, false, false, false, false, false, false] rfl rfl (any_of HT_.out (by kernel_rfl)) (fun _ _ _ h => h) (Or.inl ⟨by rfl, ?_⟩) ?_ ?_
                                    rotate_left
                                    · intro w'
                                      go_simp
                                      with_reducible rfl
                                    rotate_left
                                    · simp only [Act.put, List.setIfInBounds_toArray, List.set_cons_zero, List.set_cons_succ, i64_w, i32_w]
                                      rfl
                                    refine pure_ (i := 2) (N := some 140) (v := ?_) (a' := ?_) #[true, false, true, false, false, false, false, false, false] rfl rfl (any_of HT_.out (by kernel_rfl)) (fun _ _ _ h => h) (Or.inl ⟨by rfl, ?_⟩) ?_ ?_
                                    rotate_left
                                    · intro w'
                                      go_simp
                                      with_reducible rfl
                                    rotate_left
                                    · simp only [Act.put, List.setIfInBounds_toArray, List.set_cons_zero, List.set_cons_succ, i64_w, i32_w]
                                      rfl
                                    refine pure_ (i := 6) (N := some 144) (v := ?_) (a' := ?_) #[true, false, true, false, false, false, true, false, false] rfl rfl (any_of HT_.out (by kernel_rfl)) (fun _ _ _ h => h) (Or.inl ⟨by rfl, ?_⟩) ?_ ?_
                                    rotate_left
                                    · intro w'
                                      go_simp
                                      with_reducible rfl
                                    rotate_left
                                    · simp only [Act.put, List.setIfInBounds_toArray, List.set_cons_zero, List.set_cons_succ, i64_w, i32_w]
                                      rfl
                                    refine take_ (i := 1) (N := some 139) (v := ?_) (a' := ?_) #[true, true, true, false, false, false, true, false, false] rfl rfl (take_ofW HT_.out HW_.out (by kernel_rfl)) (fun _ _ _ h => h) (Or.inl ⟨by rfl, ?_⟩) hHeld ?_ ?_
                                    rotate_left
                                    · rintro w' ⟨s0, s1, s2, s3, s4⟩
                                      go_simp
                                      with_reducible rfl
                                    rotate_left
                                    · simp only [Act.put, List.setIfInBounds_toArray, List.set_cons_zero, List.set_cons_succ, i64_w, i32_w]
                                      rfl
                                    refine one_ (i := 3) (N := some 141) #[true, true, true, true, false, false, true, false, false] rfl rfl (one_of HT_.out (by kernel_rfl)) (by decide) (fun K hK => ?_)
                                    refine goes_ Try.func16 (by kernel_rfl) rfl #[.agg #[.int .i64 t160, .int .i64 t161, .int .i64 t162, .int .u32 t163], .int .i64 x20_4] (by rfl) rfl rfl (by (try simp only [List.map_toArray, List.map_cons, List.map_nil]); first | done | rfl | (simp only [List.length_drop, List.length_take]; rfl)) ?_
                                    with_reducible refine (layout_Config_Slot.calls t160 t161 t162 t163 x20_4 t189 _ A75.out).mono ?_
                                    rintro e w82 ⟨rfl, hb⟩
                                    have HS4_ := (hb.cell (World.block_lt_of_cell? _ _ (hHeld.2.2.2.2))).trans (hHeld.2.2.2.2)
                                    refine ⟨_, rfl, ?_⟩
                                    have n0_ := Aside0.mk (Kd.R_below (by (with_reducible repeat (first | apply Kd.R_alloc | apply Kd.R_drewN | apply Kd.R_drew)); exact HO_11.out) hb)
                                    have n1_ := Aside0.mk (blk_below (g := gb164) (o := .cells #[.int .i64 t160, .int .i64 t161, .int .i64 t162, .int .u32 t163] 25 (0, 0)) (by (with_reducible repeat (first | refine blk_drewN ?_ _ | refine blk_drew ?_ | refine blk_alloc ?_ _)); exact BK164.out) hb)
                                    have n2_ := Aside0.mk (below_step (by repeat (first | (with_reducible first | exact HB.out | apply below_alloc | apply pw_below_drewN | apply below_drew1 | refine below_set ?_ GE164.out) | exact HB.out)) hb)
                                    clear HO_11
                                    clear BK164
                                    clear HB
                                    have HO_11 := n0_
                                    have BK164 := n1_
                                    have HB := n2_
                                    clear n0_ n1_ n2_
                                    (try clear hb)
                                    (try clear hb2)
                                    (try clear hk)
                                    (try clear hi)
                                    refine hK.out _ _ ⟨(blk_cell BK164.out 0).trans rfl, (blk_cell BK164.out 1).trans rfl, (blk_cell BK164.out 2).trans rfl, (blk_cell BK164.out 3).trans rfl, HS4_⟩ (fun hHeld => ?_)
                                    clear hK K
                                    refine norm_ (a' := ?_) ?_ ?_
                                    rotate_left
                                    · show Act.put _ (some 141) _ = _
                                      simp only [Act.put, List.setIfInBounds_toArray, List.set_cons_zero, List.set_cons_succ, i64_w, i32_w]
                                      rfl
                                    refine pure_ (i := 4) (N := some 142) (v := ?_) (a' := ?_) #[true, true, true, true, true, false, true, false, false] rfl rfl (any_of HT_.out (by kernel_rfl)) (fun _ _ _ h => h) (Or.inl ⟨by rfl, ?_⟩) ?_ ?_
                                    rotate_left
                                    · intro w'
                                      go_simp
                                      with_reducible rfl
                                    rotate_left
                                    · simp only [Act.put, List.setIfInBounds_toArray, List.set_cons_zero, List.set_cons_succ, i64_w, i32_w]
                                      rfl
                                    refine take_ (i := 5) (N := some 143) (v := ?_) (a' := ?_) #[true, true, true, true, true, true, true, false, false] rfl rfl (take_ofW HT_.out HW_.out (by kernel_rfl)) (fun _ _ _ h => h) (Or.inl ⟨by rfl, ?_⟩) hHeld ?_ ?_
                                    rotate_left
                                    · rintro w' ⟨s0, s1, s2, s3, s4⟩
                                      go_simp
                                      with_reducible rfl
                                    rotate_left
                                    · simp only [Act.put, List.setIfInBounds_toArray, List.set_cons_zero, List.set_cons_succ, i64_w, i32_w]
                                      rfl
                                    refine one_ (i := 7) (N := some 145) #[true, true, true, true, true, true, true, true, false] rfl rfl (one_of HT_.out (by kernel_rfl)) (by decide) (fun K hK => ?_)
                                    refine goes_ Try.func46 (by kernel_rfl) rfl #[.int .u32 0, .int .u32 a3] (by rfl) rfl rfl (by (try simp only [List.map_toArray, List.map_cons, List.map_nil]); first | done | rfl | (simp only [List.length_drop, List.length_take]; rfl)) ?_
                                    with_reducible refine (pack_Word.calls 0 a3 t191 _ A78.out).mono ?_
                                    rintro e w' ⟨rfl, ⟨nd, rfl⟩⟩
                                    refine ⟨_, rfl, ?_⟩
                                    refine hK.out _ _ ⟨(blk_cell BK164.out 0).trans rfl, (blk_cell BK164.out 1).trans rfl, (blk_cell BK164.out 2).trans rfl, (blk_cell BK164.out 3).trans rfl, hHeld.2.2.2.2⟩ (fun hHeld => ?_)
                                    clear hK K
                                    refine norm_ (a' := ?_) ?_ ?_
                                    rotate_left
                                    · show Act.put _ (some 145) _ = _
                                      simp only [Act.put, List.setIfInBounds_toArray, List.set_cons_zero, List.set_cons_succ, i64_w, i32_w]
                                      rfl
                                    refine pure_ (i := 8) (N := some 146) (v := ?_) (a' := ?_) #[true, true, true, true, true, true, true, true, true] rfl rfl (any_of HT_.out (by kernel_rfl)) (fun _ _ _ h => h) (Or.inl ⟨by rfl, ?_⟩) ?_ ?_
                                    rotate_left
                                    · intro w'
                                      go_simp
                                      with_reducible rfl
                                    rotate_left
                                    · simp only [Act.put, List.setIfInBounds_toArray, List.set_cons_zero, List.set_cons_succ, i64_w, i32_w]
                                      rfl
                                    refine done_ (done_of HT_.out (by kernel_rfl)) ?_
                                    try go_wp2
                                    go_roundg k4
                                    case measure => have := HJ7.out; have := HJ29.out; have := HK3.out; have := HK4.out; omega
                                    case rel => exact ⟨(wrap64 (x20_4 + 1)), (by first | rfl | (simp; done) | (simp [*]; done)), H', ⟨by have := HJ7.out; have := HJ29.out; have := HK3.out; have := HK4.out; omega⟩, ⟨by (with_reducible repeat (first | apply Kd.R_alloc | apply Kd.R_drewN | apply Kd.R_drew)); exact HO_11.out⟩, ⟨by (with_reducible repeat (first | refine blk_drewN ?_ _ | refine blk_drew ?_ | refine blk_alloc ?_ _)); exact BK164.out⟩, ⟨by repeat (first | (with_reducible first | exact HB.out | apply below_alloc | apply pw_below_drewN | apply below_drew1 | refine below_set ?_ GE164.out) | exact HB.out)⟩⟩
                                  · rw [if_neg c79] at H
                                    have c79b0 : ((rd t165 t189) == t191) = false := beq_eq_false_iff_ne.mpr c79
                                    have c79b1 : ((rd t165 t189) != t191) = true := bne_iff_ne.mpr c79
                                    obtain rfl := Option.some.inj H
                                    have hcz83_0 : wr.cell? ⟨gb164, 0, none⟩ = some (.int .i64 t160) := (blk_cell BK164.out 0).trans rfl
                                    have hcz83_1 : wr.cell? ⟨gb164, 1, none⟩ = some (.int .i64 t161) := (blk_cell BK164.out 1).trans rfl
                                    have hcz83_2 : wr.cell? ⟨gb164, 2, none⟩ = some (.int .i64 t162) := (blk_cell BK164.out 2).trans rfl
                                    have hcz83_3 : wr.cell? ⟨gb164, 3, none⟩ = some (.int .u32 t163) := (blk_cell BK164.out 3).trans rfl
                                    have hfz83_0 := blk_frozen BK164.out 0
                                    have hfz83_1 := blk_frozen BK164.out 1
                                    have hfz83_2 := blk_frozen BK164.out 2
                                    have hfz83_3 := blk_frozen BK164.out 3
                                    try go_wp2
                                    have n0_ := Aside0.mk (Kd.R_drew HO_11.out)
                                    have n1_ := Aside0.mk (blk_drew BK164.out)
                                    have n2_ := Aside0.mk (below_drew1 HB.out)
                                    clear HO_11
                                    clear BK164
                                    clear HB
                                    have HO_11 := n0_
                                    have BK164 := n1_
                                    have HB := n2_
                                    clear n0_ n1_ n2_
                                    have p190 : 0 ≤ (t189 : Int) := of_decide_eq_true (by first | (with_reducible assumption) | assumption)
                                    have q190 : t189 < (t165.length : Int) := of_decide_eq_true (by first | (with_reducible assumption) | assumption)
                                    obtain ⟨ad190, e190, hx190_0⟩ := Kd.at_int (Kd.R_reads' HO_11.out).2.2 t189 p190 q190
                                    obtain rfl : ad170 = ad190 := (by injection e190)
                                    replace p190 := eq_true p190
                                    replace q190 := eq_true q190
                                    refine start_ (n := 9) (S := fun w' => w'.cell? ⟨gb164, 0, none⟩ = some (.int .i64 t160) ∧ w'.cell? ⟨gb164, 1, none⟩ = some (.int .i64 t161) ∧ w'.cell? ⟨gb164, 2, none⟩ = some (.int .i64 t162) ∧ w'.cell? ⟨gb164, 3, none⟩ = some (.int .u32 t163) ∧ w'.cell? (ad170.add (t189).toNat) = some (.int .u64 (rd t165 t189))) (ds := []) #[false, false, false, false, false, false, false, false, false] (by kernel_rfl) rfl rfl ⟨(blk_cell BK164.out 0).trans rfl, (blk_cell BK164.out 1).trans rfl, (blk_cell BK164.out 2).trans rfl, (blk_cell BK164.out 3).trans rfl, hx190_0⟩ (fun hHeld => ?_); refine with_tabW hatstandlaw6_LayoutFresh.tab19 hatstandlaw6_LayoutFresh.bits19 (fun HT_ HW_ => ?_)
                                    generalize wr.drew = w84 at HO_11 BK164 HB hx190_0 hHeld ⊢
                                    refine pure_ (i := 0) (N := some 138) (v := ?_) (a' := ?_) #[true, false, false, false, false, false, false, false, false] rfl rfl (any_of HT_.out (by kernel_rfl)) (fun _ _ _ h => h) (Or.inl ⟨by rfl, ?_⟩) ?_ ?_
                                    rotate_left
                                    · intro w'
                                      go_simp
                                      with_reducible rfl
                                    rotate_left
                                    · simp only [Act.put, List.setIfInBounds_toArray, List.set_cons_zero, List.set_cons_succ, i64_w, i32_w]
                                      rfl
                                    refine pure_ (i := 2) (N := some 140) (v := ?_) (a' := ?_) #[true, false, true, false, false, false, false, false, false] rfl rfl (any_of HT_.out (by kernel_rfl)) (fun _ _ _ h => h) (Or.inl ⟨by rfl, ?_⟩) ?_ ?_
                                    rotate_left
                                    · intro w'
                                      go_simp
                                      with_reducible rfl
                                    rotate_left
                                    · simp only [Act.put, List.setIfInBounds_toArray, List.set_cons_zero, List.set_cons_succ, i64_w, i32_w]
                                      rfl
                                    refine pure_ (i := 6) (N := some 144) (v := ?_) (a' := ?_) #[true, false, true, false, false, false, true, false, false] rfl rfl (any_of HT_.out (by kernel_rfl)) (fun _ _ _ h => h) (Or.inl ⟨by rfl, ?_⟩) ?_ ?_
                                    rotate_left
                                    · intro w'
                                      go_simp
                                      with_reducible rfl
                                    rotate_left
                                    · simp only [Act.put, List.setIfInBounds_toArray, List.set_cons_zero, List.set_cons_succ, i64_w, i32_w]
                                      rfl
                                    refine take_ (i := 1) (N := some 139) (v := ?_) (a' := ?_) #[true, true, true, false, false, false, true, false, false] rfl rfl (take_ofW HT_.out HW_.out (by kernel_rfl)) (fun _ _ _ h => h) (Or.inl ⟨by rfl, ?_⟩) hHeld ?_ ?_
                                    rotate_left
                                    · rintro w' ⟨s0, s1, s2, s3, s4⟩
                                      go_simp
                                      with_reducible rfl
                                    rotate_left
                                    · simp only [Act.put, List.setIfInBounds_toArray, List.set_cons_zero, List.set_cons_succ, i64_w, i32_w]
                                      rfl
                                    refine one_ (i := 3) (N := some 141) #[true, true, true, true, false, false, true, false, false] rfl rfl (one_of HT_.out (by kernel_rfl)) (by decide) (fun K hK => ?_)
                                    refine goes_ Try.func16 (by kernel_rfl) rfl #[.agg #[.int .i64 t160, .int .i64 t161, .int .i64 t162, .int .u32 t163], .int .i64 x20_4] (by rfl) rfl rfl (by (try simp only [List.map_toArray, List.map_cons, List.map_nil]); first | done | rfl | (simp only [List.length_drop, List.length_take]; rfl)) ?_
                                    with_reducible refine (layout_Config_Slot.calls t160 t161 t162 t163 x20_4 t189 _ A75.out).mono ?_
                                    rintro e w85 ⟨rfl, hb⟩
                                    have HS4_ := (hb.cell (World.block_lt_of_cell? _ _ (hHeld.2.2.2.2))).trans (hHeld.2.2.2.2)
                                    refine ⟨_, rfl, ?_⟩
                                    have n0_ := Aside0.mk (Kd.R_below (by (with_reducible repeat (first | apply Kd.R_alloc | apply Kd.R_drewN | apply Kd.R_drew)); exact HO_11.out) hb)
                                    have n1_ := Aside0.mk (blk_below (g := gb164) (o := .cells #[.int .i64 t160, .int .i64 t161, .int .i64 t162, .int .u32 t163] 25 (0, 0)) (by (with_reducible repeat (first | refine blk_drewN ?_ _ | refine blk_drew ?_ | refine blk_alloc ?_ _)); exact BK164.out) hb)
                                    have n2_ := Aside0.mk (below_step (by repeat (first | (with_reducible first | exact HB.out | apply below_alloc | apply pw_below_drewN | apply below_drew1 | refine below_set ?_ GE164.out) | exact HB.out)) hb)
                                    clear HO_11
                                    clear BK164
                                    clear HB
                                    have HO_11 := n0_
                                    have BK164 := n1_
                                    have HB := n2_
                                    clear n0_ n1_ n2_
                                    (try clear hb)
                                    (try clear hb2)
                                    (try clear hk)
                                    (try clear hi)
                                    refine hK.out _ _ ⟨(blk_cell BK164.out 0).trans rfl, (blk_cell BK164.out 1).trans rfl, (blk_cell BK164.out 2).trans rfl, (blk_cell BK164.out 3).trans rfl, HS4_⟩ (fun hHeld => ?_)
                                    clear hK K
                                    refine norm_ (a' := ?_) ?_ ?_
                                    rotate_left
                                    · show Act.put _ (some 141) _ = _
                                      simp only [Act.put, List.setIfInBounds_toArray, List.set_cons_zero, List.set_cons_succ, i64_w, i32_w]
                                      rfl
                                    refine pure_ (i := 4) (N := some 142) (v := ?_) (a' := ?_) #[true, true, true, true, true, false, true, false, false] rfl rfl (any_of HT_.out (by kernel_rfl)) (fun _ _ _ h => h) (Or.inl ⟨by rfl, ?_⟩) ?_ ?_
                                    rotate_left
                                    · intro w'
                                      go_simp
                                      with_reducible rfl
                                    rotate_left
                                    · simp only [Act.put, List.setIfInBounds_toArray, List.set_cons_zero, List.set_cons_succ, i64_w, i32_w]
                                      rfl
                                    refine take_ (i := 5) (N := some 143) (v := ?_) (a' := ?_) #[true, true, true, true, true, true, true, false, false] rfl rfl (take_ofW HT_.out HW_.out (by kernel_rfl)) (fun _ _ _ h => h) (Or.inl ⟨by rfl, ?_⟩) hHeld ?_ ?_
                                    rotate_left
                                    · rintro w' ⟨s0, s1, s2, s3, s4⟩
                                      go_simp
                                      with_reducible rfl
                                    rotate_left
                                    · simp only [Act.put, List.setIfInBounds_toArray, List.set_cons_zero, List.set_cons_succ, i64_w, i32_w]
                                      rfl
                                    refine one_ (i := 7) (N := some 145) #[true, true, true, true, true, true, true, true, false] rfl rfl (one_of HT_.out (by kernel_rfl)) (by decide) (fun K hK => ?_)
                                    refine goes_ Try.func46 (by kernel_rfl) rfl #[.int .u32 0, .int .u32 a3] (by rfl) rfl rfl (by (try simp only [List.map_toArray, List.map_cons, List.map_nil]); first | done | rfl | (simp only [List.length_drop, List.length_take]; rfl)) ?_
                                    with_reducible refine (pack_Word.calls 0 a3 t191 _ A78.out).mono ?_
                                    rintro e w' ⟨rfl, ⟨nd, rfl⟩⟩
                                    refine ⟨_, rfl, ?_⟩
                                    refine hK.out _ _ ⟨(blk_cell BK164.out 0).trans rfl, (blk_cell BK164.out 1).trans rfl, (blk_cell BK164.out 2).trans rfl, (blk_cell BK164.out 3).trans rfl, hHeld.2.2.2.2⟩ (fun hHeld => ?_)
                                    clear hK K
                                    refine norm_ (a' := ?_) ?_ ?_
                                    rotate_left
                                    · show Act.put _ (some 145) _ = _
                                      simp only [Act.put, List.setIfInBounds_toArray, List.set_cons_zero, List.set_cons_succ, i64_w, i32_w]
                                      rfl
                                    refine pure_ (i := 8) (N := some 146) (v := ?_) (a' := ?_) #[true, true, true, true, true, true, true, true, true] rfl rfl (any_of HT_.out (by kernel_rfl)) (fun _ _ _ h => h) (Or.inl ⟨by rfl, ?_⟩) ?_ ?_
                                    rotate_left
                                    · intro w'
                                      go_simp
                                      with_reducible rfl
                                    rotate_left
                                    · simp only [Act.put, List.setIfInBounds_toArray, List.set_cons_zero, List.set_cons_succ, i64_w, i32_w]
                                      rfl
                                    refine done_ (done_of HT_.out (by kernel_rfl)) ?_
                                    try go_wp2
                                    go_ret
                                    exact ⟨by first | rfl | (simp [errW_none, errW_some] <;> rfl) | (simp [*, errW_none, errW_some] <;> rfl), by repeat (first | (with_reducible first | exact HB.out | apply below_alloc | apply pw_below_drewN | apply below_drew1 | refine below_set ?_ GE164.out) | exact HB.out)⟩
                                · rw [if_neg c77] at H
                                  exact absurd H (by simp)
                              · rw [if_neg c76] at H
                                exact absurd H (by simp)
                            · rw [if_neg c74] at H
                              have c74b0 : decide (x20_4 < t161) = false := decide_eq_false c74
                              clear c74
                              have H' := Aside0.mk H
                              clear H
                              have hcz86_0 : wr.cell? ⟨gb164, 0, none⟩ = some (.int .i64 t160) := (blk_cell BK164.out 0).trans rfl
                              have hcz86_1 : wr.cell? ⟨gb164, 1, none⟩ = some (.int .i64 t161) := (blk_cell BK164.out 1).trans rfl
                              have hcz86_2 : wr.cell? ⟨gb164, 2, none⟩ = some (.int .i64 t162) := (blk_cell BK164.out 2).trans rfl
                              have hcz86_3 : wr.cell? ⟨gb164, 3, none⟩ = some (.int .u32 t163) := (blk_cell BK164.out 3).trans rfl
                              have hfz86_0 := blk_frozen BK164.out 0
                              have hfz86_1 := blk_frozen BK164.out 1
                              have hfz86_2 := blk_frozen BK164.out 2
                              have hfz86_3 := blk_frozen BK164.out 3
                              go_wp2
                              go_loopg [21] k4 (fun kq v21 w' => ∃ (x21_5 : Int), v21 = .int .i64 x21_5 ∧ Aside0 (hatstandlaw6_LayoutFresh.l2 kq t165 x21_5 t160 t161 t162 t163 = some r) ∧ Aside0 (kq ≤ k4) ∧ Aside0 (Kd.R (Kd.int .u64) 33 w' w.heap.size (fun _ => True) (.slice (some ad170) t165.length co32) t165) ∧ Aside0 (w'.heap[gb164]? = some (.cells #[.int .i64 t160, .int .i64 t161, .int .i64 t162, .int .u32 t163] 25 (0, 0))) ∧ Aside0 (Below w.heap.size w w'))
                              case atStart => exact ⟨(0), (by first | rfl | (simp; done) | (simp [*]; done)), H', ⟨Nat.le_refl _⟩, ⟨by (with_reducible repeat (first | apply Kd.R_alloc | apply Kd.R_drewN | apply Kd.R_drew)); exact HO_11.out⟩, ⟨by (with_reducible repeat (first | refine blk_drewN ?_ _ | refine blk_drew ?_ | refine blk_alloc ?_ _)); exact BK164.out⟩, ⟨by repeat (first | (with_reducible first | exact HB.out | apply below_alloc | apply pw_below_drewN | apply below_drew1 | refine below_set ?_ GE164.out) | exact HB.out)⟩⟩
                              case round =>
                                clear H'
                                try clear c1
                                try clear p1
                                try clear q1
                                try clear hx1
                                try clear qi1
                                try clear c2
                                try clear p2
                                try clear c3
                                try clear c4
                                try clear c6
                                try clear p6
                                try clear c7
                                try clear c11
                                try clear c12
                                try clear c13
                                try clear c14
                                try clear c15
                                try clear c15b0
                                try clear c15b1
                                try clear c16
                                try clear c17
                                try clear c17b0
                                try clear c17b1
                                try clear p17
                                try clear q17
                                try clear hx17
                                try clear qi17
                                try clear p18
                                try clear q18
                                try clear hx18
                                try clear qi18
                                try clear p19
                                try clear q19
                                try clear hx19
                                try clear c24
                                try clear c25
                                try clear c25b0
                                try clear c25b1
                                try clear c27
                                try clear c27b0
                                try clear c27b1
                                try clear c38
                                try clear c39
                                try clear c40
                                try clear c41
                                try clear c41b0
                                try clear c41b1
                                try clear c42
                                try clear c42b0
                                try clear c42b1
                                try clear c42b2
                                try clear c43
                                try clear c43b0
                                try clear c43b1
                                try clear c43b2
                                try clear c45
                                try clear c45b0
                                try clear c45b1
                                try clear c46
                                try clear p64
                                try clear c67
                                try clear c68
                                try clear c68b0
                                try clear c69
                                try clear c69b0
                                try clear c70
                                try clear c70b0
                                try clear c70b1
                                try clear c74
                                try clear c74b0
                                try clear c76
                                try clear c76b0
                                try clear c77
                                try clear c77b0
                                try clear c79
                                try clear c79b0
                                try clear c79b1
                                try clear hcz12_0
                                try clear hcz12_1
                                try clear hcz12_2
                                try clear hcz12_3
                                try clear hcz19_0
                                try clear hcz19_1
                                try clear hcz19_2
                                try clear hcz19_3
                                try clear hcz22_0
                                try clear hcz22_1
                                try clear hcz22_2
                                try clear hcz22_3
                                try clear hcz36_0
                                try clear hcz36_1
                                try clear hcz36_2
                                try clear hcz36_3
                                try clear hcz48_0
                                try clear hcz48_1
                                try clear hcz48_2
                                try clear hcz48_3
                                try clear hcz54_0
                                try clear hcz54_1
                                try clear hcz54_2
                                try clear hcz54_3
                                try clear hcz59_0
                                try clear hcz59_1
                                try clear hcz59_2
                                try clear hcz59_3
                                try clear hcz63_0
                                try clear hcz63_1
                                try clear hcz63_2
                                try clear hcz63_3
                                try clear hcz66_0
                                try clear hcz66_1
                                try clear hcz66_2
                                try clear hcz66_3
                                try clear hcz80_0
                                try clear hcz80_1
                                try clear hcz80_2
                                try clear hcz80_3
                                try clear hcz83_0
                                try clear hcz83_1
                                try clear hcz83_2
                                try clear hcz83_3
                                try clear hcz86_0
                                try clear hcz86_1
                                try clear hcz86_2
                                try clear hcz86_3
                                try clear hfz12_0
                                try clear hfz12_1
                                try clear hfz12_2
                                try clear hfz12_3
                                try clear hfz19_0
                                try clear hfz19_1
                                try clear hfz19_2
                                try clear hfz19_3
                                try clear hfz22_0
                                try clear hfz22_1
                                try clear hfz22_2
                                try clear hfz22_3
                                try clear hfz36_0
                                try clear hfz36_1
                                try clear hfz36_2
                                try clear hfz36_3
                                try clear hfz48_0
                                try clear hfz48_1
                                try clear hfz48_2
                                try clear hfz48_3
                                try clear hfz54_0
                                try clear hfz54_1
                                try clear hfz54_2
                                try clear hfz54_3
                                try clear hfz59_0
                                try clear hfz59_1
                                try clear hfz59_2
                                try clear hfz59_3
                                try clear hfz63_0
                                try clear hfz63_1
                                try clear hfz63_2
                                try clear hfz63_3
                                try clear hfz66_0
                                try clear hfz66_1
                                try clear hfz66_2
                                try clear hfz66_3
                                try clear hfz80_0
                                try clear hfz80_1
                                try clear hfz80_2
                                try clear hfz80_3
                                try clear hfz83_0
                                try clear hfz83_1
                                try clear hfz83_2
                                try clear hfz83_3
                                try clear hfz86_0
                                try clear hfz86_1
                                try clear hfz86_2
                                try clear hfz86_3
                                try clear hx170_0
                                try clear hx175_0
                                try clear hx184_0
                                try clear hx186_0
                                try clear hx188_0
                                try clear hx190_0
                                try clear p1
                                try clear p17
                                try clear p170
                                try clear p175
                                try clear p18
                                try clear p184
                                try clear p186
                                try clear p188
                                try clear p190
                                try clear p2
                                try clear p6
                                try clear p64
                                try clear q1
                                try clear q17
                                try clear q170
                                try clear q175
                                try clear q18
                                try clear q184
                                try clear q186
                                try clear q188
                                try clear q190
                                obtain ⟨x21_5, rfl, HA, HK5, HO_11, BK164, HB⟩ := hrel
                                cases gk with
                                | zero => exact absurd HA.out (by simp [hatstandlaw6_LayoutFresh.l2])
                                | succ k5 =>
                                  have H := HA.out
                                  clear HA
                                  simp only [hatstandlaw6_LayoutFresh.l2] at H
                                  by_cases c87 : x21_5 < t162
                                  · rw [if_pos c87] at H
                                    have c87b0 : decide (x21_5 < t162) = true := decide_eq_true c87
                                    clear c87
                                    replace H := Option.bind_eq_some_iff.mp H
                                    obtain ⟨t192, A880, H⟩ := H
                                    replace H : (if 0 ≤ t192 then (if t192 < (t165.length : Int) then (if (rd t165 t192) = 0 then (hatstandlaw6_LayoutFresh.l2 k5 t165 (wrap64 (x21_5 + 1)) t160 t161 t162 t163) else (some false)) else (none)) else (none)) = some r := H
                                    have A88 := Aside0.mk A880
                                    clear A880
                                    by_cases c89 : 0 ≤ t192
                                    · rw [if_pos c89] at H
                                      have c89b0 : decide (0 ≤ t192) = true := decide_eq_true c89
                                      clear c89
                                      by_cases c90 : t192 < (t165.length : Int)
                                      · rw [if_pos c90] at H
                                        have c90b0 : decide (t192 < (t165.length : Int)) = true := decide_eq_true c90
                                        clear c90
                                        by_cases c91 : (rd t165 t192) = 0
                                        · rw [if_pos c91] at H
                                          have c91b0 : ((rd t165 t192) == 0) = true := beq_iff_eq.mpr c91
                                          have c91b1 : ((rd t165 t192) != 0) = false := bne_eq_false_iff_eq.mpr c91
                                          clear c91
                                          have H' := Aside0.mk H
                                          clear H
                                          have hcz92_0 : wr.cell? ⟨gb164, 0, none⟩ = some (.int .i64 t160) := (blk_cell BK164.out 0).trans rfl
                                          have hcz92_1 : wr.cell? ⟨gb164, 1, none⟩ = some (.int .i64 t161) := (blk_cell BK164.out 1).trans rfl
                                          have hcz92_2 : wr.cell? ⟨gb164, 2, none⟩ = some (.int .i64 t162) := (blk_cell BK164.out 2).trans rfl
                                          have hcz92_3 : wr.cell? ⟨gb164, 3, none⟩ = some (.int .u32 t163) := (blk_cell BK164.out 3).trans rfl
                                          have hfz92_0 := blk_frozen BK164.out 0
                                          have hfz92_1 := blk_frozen BK164.out 1
                                          have hfz92_2 := blk_frozen BK164.out 2
                                          have hfz92_3 := blk_frozen BK164.out 3
                                          go_wp2_with (first | ((with_reducible refine gate_callee (f := 17) rfl ?_); refine goesL_ (some 156) rfl rfl Try.func17 (by kernel_rfl) rfl #[.agg #[.int .i64 t160, .int .i64 t161, .int .i64 t162, .int .u32 t163], .int .i64 x21_5] rfl (by (try simp only [List.map_toArray, List.map_cons, List.map_nil]); first | done | rfl | (simp only [List.length_drop, List.length_take]; rfl)) ?_; (with_reducible refine (layout_Config_Holder.calls t160 t161 t162 t163 x21_5 t192 _ A88.out).mono ?_); rintro e w93 ⟨rfl, hb⟩; refine ⟨_, rfl, ?_⟩; have n0_ := Aside0.mk (Kd.R_below (by (with_reducible repeat (first | apply Kd.R_alloc | apply Kd.R_drewN | apply Kd.R_drew)); exact HO_11.out) hb); have n1_ := Aside0.mk (blk_below (g := gb164) (o := .cells #[.int .i64 t160, .int .i64 t161, .int .i64 t162, .int .u32 t163] 25 (0, 0)) (by (with_reducible repeat (first | refine blk_drewN ?_ _ | refine blk_drew ?_ | refine blk_alloc ?_ _)); exact BK164.out) hb); have n2_ := Aside0.mk (below_step (by repeat (first | (with_reducible first | exact HB.out | apply below_alloc | apply pw_below_drewN | apply below_drew1 | refine below_set ?_ GE164.out) | exact HB.out)) hb); clear HO_11; clear BK164; clear HB; have HO_11 := n0_; have BK164 := n1_; have HB := n2_; clear n0_ n1_ n2_; (try clear hb); (try clear hb2); (try clear hk); (try clear hi); have p193 : 0 ≤ (t192 : Int) := of_decide_eq_true (by first | (with_reducible assumption) | assumption); have q193 : t192 < (t165.length : Int) := of_decide_eq_true (by first | (with_reducible assumption) | assumption); obtain ⟨ad193, e193, hx193_0⟩ := Kd.at_int (Kd.R_reads' HO_11.out).2.2 t192 p193 q193; obtain rfl : ad170 = ad193 := (by injection e193); replace p193 := eq_true p193; replace q193 := eq_true q193))
                                          go_roundg k5
                                          case measure => have := HJ7.out; have := HJ29.out; have := HK3.out; have := HK4.out; have := HK5.out; omega
                                          case rel => exact ⟨(wrap64 (x21_5 + 1)), (by first | rfl | (simp; done) | (simp [*]; done)), H', ⟨by have := HJ7.out; have := HJ29.out; have := HK3.out; have := HK4.out; have := HK5.out; omega⟩, ⟨by (with_reducible repeat (first | apply Kd.R_alloc | apply Kd.R_drewN | apply Kd.R_drew)); exact HO_11.out⟩, ⟨by (with_reducible repeat (first | refine blk_drewN ?_ _ | refine blk_drew ?_ | refine blk_alloc ?_ _)); exact BK164.out⟩, ⟨by repeat (first | (with_reducible first | exact HB.out | apply below_alloc | apply pw_below_drewN | apply below_drew1 | refine below_set ?_ GE164.out) | exact HB.out)⟩⟩
                                        · rw [if_neg c91] at H
                                          have c91b0 : ((rd t165 t192) == 0) = false := beq_eq_false_iff_ne.mpr c91
                                          have c91b1 : ((rd t165 t192) != 0) = true := bne_iff_ne.mpr c91
                                          obtain rfl := Option.some.inj H
                                          have hcz94_0 : wr.cell? ⟨gb164, 0, none⟩ = some (.int .i64 t160) := (blk_cell BK164.out 0).trans rfl
                                          have hcz94_1 : wr.cell? ⟨gb164, 1, none⟩ = some (.int .i64 t161) := (blk_cell BK164.out 1).trans rfl
                                          have hcz94_2 : wr.cell? ⟨gb164, 2, none⟩ = some (.int .i64 t162) := (blk_cell BK164.out 2).trans rfl
                                          have hcz94_3 : wr.cell? ⟨gb164, 3, none⟩ = some (.int .u32 t163) := (blk_cell BK164.out 3).trans rfl
                                          have hfz94_0 := blk_frozen BK164.out 0
                                          have hfz94_1 := blk_frozen BK164.out 1
                                          have hfz94_2 := blk_frozen BK164.out 2
                                          have hfz94_3 := blk_frozen BK164.out 3
                                          go_wp2_with (first | ((with_reducible refine gate_callee (f := 17) rfl ?_); refine goesL_ (some 156) rfl rfl Try.func17 (by kernel_rfl) rfl #[.agg #[.int .i64 t160, .int .i64 t161, .int .i64 t162, .int .u32 t163], .int .i64 x21_5] rfl (by (try simp only [List.map_toArray, List.map_cons, List.map_nil]); first | done | rfl | (simp only [List.length_drop, List.length_take]; rfl)) ?_; (with_reducible refine (layout_Config_Holder.calls t160 t161 t162 t163 x21_5 t192 _ A88.out).mono ?_); rintro e w95 ⟨rfl, hb⟩; refine ⟨_, rfl, ?_⟩; have n0_ := Aside0.mk (Kd.R_below (by (with_reducible repeat (first | apply Kd.R_alloc | apply Kd.R_drewN | apply Kd.R_drew)); exact HO_11.out) hb); have n1_ := Aside0.mk (blk_below (g := gb164) (o := .cells #[.int .i64 t160, .int .i64 t161, .int .i64 t162, .int .u32 t163] 25 (0, 0)) (by (with_reducible repeat (first | refine blk_drewN ?_ _ | refine blk_drew ?_ | refine blk_alloc ?_ _)); exact BK164.out) hb); have n2_ := Aside0.mk (below_step (by repeat (first | (with_reducible first | exact HB.out | apply below_alloc | apply pw_below_drewN | apply below_drew1 | refine below_set ?_ GE164.out) | exact HB.out)) hb); clear HO_11; clear BK164; clear HB; have HO_11 := n0_; have BK164 := n1_; have HB := n2_; clear n0_ n1_ n2_; (try clear hb); (try clear hb2); (try clear hk); (try clear hi); have p193 : 0 ≤ (t192 : Int) := of_decide_eq_true (by first | (with_reducible assumption) | assumption); have q193 : t192 < (t165.length : Int) := of_decide_eq_true (by first | (with_reducible assumption) | assumption); obtain ⟨ad193, e193, hx193_0⟩ := Kd.at_int (Kd.R_reads' HO_11.out).2.2 t192 p193 q193; obtain rfl : ad170 = ad193 := (by injection e193); replace p193 := eq_true p193; replace q193 := eq_true q193))
                                          go_ret
                                          exact ⟨by first | rfl | (simp [errW_none, errW_some] <;> rfl) | (simp [*, errW_none, errW_some] <;> rfl), by repeat (first | (with_reducible first | exact HB.out | apply below_alloc | apply pw_below_drewN | apply below_drew1 | refine below_set ?_ GE164.out) | exact HB.out)⟩
                                      · rw [if_neg c90] at H
                                        exact absurd H (by simp)
                                    · rw [if_neg c89] at H
                                      exact absurd H (by simp)
                                  · rw [if_neg c87] at H
                                    have c87b0 : decide (x21_5 < t162) = false := decide_eq_false c87
                                    clear c87
                                    obtain rfl := Option.some.inj H
                                    have hcz96_0 : wr.cell? ⟨gb164, 0, none⟩ = some (.int .i64 t160) := (blk_cell BK164.out 0).trans rfl
                                    have hcz96_1 : wr.cell? ⟨gb164, 1, none⟩ = some (.int .i64 t161) := (blk_cell BK164.out 1).trans rfl
                                    have hcz96_2 : wr.cell? ⟨gb164, 2, none⟩ = some (.int .i64 t162) := (blk_cell BK164.out 2).trans rfl
                                    have hcz96_3 : wr.cell? ⟨gb164, 3, none⟩ = some (.int .u32 t163) := (blk_cell BK164.out 3).trans rfl
                                    have hfz96_0 := blk_frozen BK164.out 0
                                    have hfz96_1 := blk_frozen BK164.out 1
                                    have hfz96_2 := blk_frozen BK164.out 2
                                    have hfz96_3 := blk_frozen BK164.out 3
                                    go_wp2
                                    go_ret
                                    exact ⟨by first | rfl | (simp [errW_none, errW_some] <;> rfl) | (simp [*, errW_none, errW_some] <;> rfl), by repeat (first | (with_reducible first | exact HB.out | apply below_alloc | apply pw_below_drewN | apply below_drew1 | refine below_set ?_ GE164.out) | exact HB.out)⟩
          · rw [if_neg c27] at H
            exact absurd H (by simp)
        · rw [if_neg c25] at H
          exact absurd H (by simp)

/-- THE ONE PURE STATEMENT of hatstandlaw6_LayoutFresh: yours. -/
def hatstandlaw6_LayoutFresh.Pure : Prop := ∀ (a0 : Int) (a1 : Int) (a2 : Int) (a3 : Int), (Lit.int .i64 a0).wf = true → (Lit.int .i64 a1).wf = true → (Lit.int .i64 a2).wf = true → (Lit.int .u32 a3).wf = true → ∃ k, hatstandlaw6_LayoutFresh.f k a0 a1 a2 a3 = some true
theorem hatstandlaw6_LayoutFresh.walk (P : hatstandlaw6_LayoutFresh.Pure) (a0 : Int) (a1 : Int) (a2 : Int) (a3 : Int) (w : World) (w0 : (Lit.int .i64 a0).wf = true) (w1 : (Lit.int .i64 a1).wf = true) (w2 : (Lit.int .i64 a2).wf = true) (w3 : (Lit.int .u32 a3).wf = true) :
    Calls Try.prog 11 #[.int .i64 a0, .int .i64 a1, .int .i64 a2, .int .u32 a3] w fun e w' => e = .returned (.bool true) ∧ Below w.heap.size w w' := by
  obtain ⟨k, h⟩ := P a0 a1 a2 a3 w0 w1 w2 w3
  refine (hatstandlaw6_LayoutFresh.calls k a0 a1 a2 a3 true w h).mono ?_
  rintro e w' ⟨rfl, hd⟩
  exact ⟨rfl, hd⟩

end Go.Proofs.Ytckmcphphnoilaa.PLayoutFresh
