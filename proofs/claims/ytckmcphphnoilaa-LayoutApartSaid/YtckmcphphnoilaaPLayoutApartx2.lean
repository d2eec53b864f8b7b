/- The Go functions that the law LayoutApart goes through, as Lean functions, each with its contract: written by a program of this session. -/
import Derived.Test.YtckmcphphnoilaaPLayoutApartx0
import Derived.Test.YtckmcphphnoilaaPLayoutApartx1
namespace Go.Proofs.Ytckmcphphnoilaa.PLayoutApart
open Go.RowKit Go.Proofs.YtckmcphphnoilaaW.PrintWords Go.Proofs.YtckmcphphnoilaaW.PrintLast Go.Proofs.YtckmcphphnoilaaW.PrintMore
attribute [local go_sem] max2_int min2_int max_two min_two max_three min_three max_four min_four   -- for this text's walks alone
set_option linter.unusedVariables false
set_option linter.unusedSimpArgs false

/-! ### hatstandlaw6_LayoutApart: function 3 -/
mutual
def hatstandlaw6_LayoutApart.l0 : Nat → List Int → List Int → Int → Int → Int → Int → Int → Option (Bool)
  | 0, _, _, _, _, _, _, _ => none
  | k + 1, x9, x10, x11, x126000, x126001, x126002, x126003 => if x11 ≤ ((x126000) % 4294967296) then ((layout_Config_Next.f x126000 x126001 x126002 x126003 x11).bind fun t132 => ((layout_Config_Value.f x126000 x126001 x126002 x126003 x11).bind fun t133 => ((some (([t132, t133] : List Int) : List Int)).bind fun y134 => (if x10.length + y134.length < 17592186044416 then (hatstandlaw6_LayoutApart.l0 k x9 (x10 ++ y134) ((x11 + 1) % 4294967296) x126000 x126001 x126002 x126003) else (none))))) else (hatstandlaw6_LayoutApart.l1 k x9 x10 0 x126000 x126001 x126002 x126003)
def hatstandlaw6_LayoutApart.l1 : Nat → List Int → List Int → Int → Int → Int → Int → Int → Option (Bool)
  | 0, _, _, _, _, _, _, _ => none
  | k + 1, x9, x10, x12, x126000, x126001, x126002, x126003 => if x12 < x126001 then ((layout_Config_Slot.f x126000 x126001 x126002 x126003 x12).bind fun t140 => (if x10.length < 17592186044416 then (hatstandlaw6_LayoutApart.l1 k x9 (x10 ++ [t140]) (wrap64 (x12 + 1)) x126000 x126001 x126002 x126003) else (none))) else (hatstandlaw6_LayoutApart.l2 k x9 x10 0 x126000 x126001 x126002 x126003)
def hatstandlaw6_LayoutApart.l2 : Nat → List Int → List Int → Int → Int → Int → Int → Int → Option (Bool)
  | 0, _, _, _, _, _, _, _ => none
  | k + 1, x9, x10, x13, x126000, x126001, x126002, x126003 => if x13 < x126002 then ((layout_Config_Holder.f x126000 x126001 x126002 x126003 x13).bind fun t144 => (if x10.length < 17592186044416 then (hatstandlaw6_LayoutApart.l2 k x9 (x10 ++ [t144]) (wrap64 (x13 + 1)) x126000 x126001 x126002 x126003) else (none))) else ((layout_Config_Cells.f x126000 x126001 x126002 x126003).bind fun t148 => (if t148 = (x9.length : Int) then (if (x10.length : Int) = (x9.length : Int) then ((layout_Config_Cells.f x126000 x126001 x126002 x126003).bind fun t149 => (hatstandlaw6_LayoutApart.j3 k x9 x10 (decide (t149 > 1024)) x126000 x126001 x126002 x126003)) else (hatstandlaw6_LayoutApart.j3 k x9 x10 true x126000 x126001 x126002 x126003)) else (hatstandlaw6_LayoutApart.j3 k x9 x10 true x126000 x126001 x126002 x126003)))
def hatstandlaw6_LayoutApart.j3 : Nat → List Int → List Int → Bool → Int → Int → Int → Int → Option (Bool)
  | 0, _, _, _, _, _, _, _ => none
  | k + 1, x9, x10, x91, x126000, x126001, x126002, x126003 => if x91 = true then (some false) else (hatstandlaw6_LayoutApart.l3 k x9 x10 0 x126000 x126001 x126002 x126003)
def hatstandlaw6_LayoutApart.l3 : Nat → List Int → List Int → Int → Int → Int → Int → Int → Option (Bool)
  | 0, _, _, _, _, _, _, _ => none
  | k + 1, x9, x10, x14, x126000, x126001, x126002, x126003 => if x14 < (x10.length : Int) then (if 0 ≤ x14 then (if (rd x10 x14) < 0 then (some false) else (if (rd x10 x14) ≥ (x9.length : Int) then (some false) else (if 0 ≤ (rd x10 x14) then (if (rd x10 x14) < (x9.length : Int) then (hatstandlaw6_LayoutApart.l3 k (x9.set ((rd x10 x14) : Int).toNat (wrap64 ((rd x9 (rd x10 x14)) + 1))) x10 (wrap64 (x14 + 1)) x126000 x126001 x126002 x126003) else (none)) else (none)))) else (none)) else (hatstandlaw6_LayoutApart.l4 k x9 0 x126000 x126001 x126002 x126003)
def hatstandlaw6_LayoutApart.l4 : Nat → List Int → Int → Int → Int → Int → Int → Option (Bool)
  | 0, _, _, _, _, _, _ => none
  | k + 1, x9, x15, x126000, x126001, x126002, x126003 => if x15 < (x9.length : Int) then (if 0 ≤ x15 then (if (rd x9 x15) = 1 then (hatstandlaw6_LayoutApart.l4 k x9 (wrap64 (x15 + 1)) x126000 x126001 x126002 x126003) else (some false)) else (none)) else ((layout_Config_Next.f x126000 x126001 x126002 x126003 0).bind fun t156 => (if t156 < 0 then ((layout_Config_Value.f x126000 x126001 x126002 x126003 0).bind fun t157 => (if t157 < 0 then ((layout_Config_Next.f x126000 x126001 x126002 x126003 ((((x126000) % 4294967296) + 1) % 4294967296)).bind fun t158 => (if t158 < 0 then ((layout_Config_Slot.f x126000 x126001 x126002 x126003 x126001).bind fun t159 => (if t159 < 0 then ((layout_Config_Slot.f x126000 x126001 x126002 x126003 (-1)).bind fun t160 => (if t160 < 0 then ((layout_Config_Holder.f x126000 x126001 x126002 x126003 x126002).bind fun t161 => (some (decide (t161 < 0)))) else (some false))) else (some false))) else (some false))) else (some false))) else (some false)))
end
def hatstandlaw6_LayoutApart.f (k : Nat) (a0 : Int) (a1 : Int) (a2 : Int) : Option (Bool) := (hatstandlaw6_shown.f).bind fun t120 => (if t120 = true then ((hatstandlaw6_config.f a0 a1 a2 0).bind fun bt121 => (if 0 ≤ (wrap64 ((wrap64 ((wrap64 (2 + (wrap64 (2 * bt121.1)))) + bt121.2.1)) + bt121.2.2.1)) then (if (wrap64 ((wrap64 ((wrap64 (2 + (wrap64 (2 * bt121.1)))) + bt121.2.1)) + bt121.2.2.1) : Int).toNat ≤ 35184372088832 then (hatstandlaw6_LayoutApart.l0 k (List.replicate (wrap64 ((wrap64 ((wrap64 (2 + (wrap64 (2 * bt121.1)))) + bt121.2.1)) + bt121.2.2.1) : Int).toNat 0) (([0, 1] : List Int)) 1 bt121.1 bt121.2.1 bt121.2.2.1 bt121.2.2.2) else (none)) else (none))) else (some false))
theorem hatstandlaw6_LayoutApart.mono_l : ∀ k, (∀ y0 y1 y2 y3 y4 y5 y6, LeO (hatstandlaw6_LayoutApart.l0 k y0 y1 y2 y3 y4 y5 y6) (hatstandlaw6_LayoutApart.l0 (k + 1) y0 y1 y2 y3 y4 y5 y6)) ∧ (∀ y0 y1 y2 y3 y4 y5 y6, LeO (hatstandlaw6_LayoutApart.l1 k y0 y1 y2 y3 y4 y5 y6) (hatstandlaw6_LayoutApart.l1 (k + 1) y0 y1 y2 y3 y4 y5 y6)) ∧ (∀ y0 y1 y2 y3 y4 y5 y6, LeO (hatstandlaw6_LayoutApart.l2 k y0 y1 y2 y3 y4 y5 y6) (hatstandlaw6_LayoutApart.l2 (k + 1) y0 y1 y2 y3 y4 y5 y6)) ∧ (∀ y0 y1 y2 y3 y4 y5 y6, LeO (hatstandlaw6_LayoutApart.j3 k y0 y1 y2 y3 y4 y5 y6) (hatstandlaw6_LayoutApart.j3 (k + 1) y0 y1 y2 y3 y4 y5 y6)) ∧ (∀ y0 y1 y2 y3 y4 y5 y6, LeO (hatstandlaw6_LayoutApart.l3 k y0 y1 y2 y3 y4 y5 y6) (hatstandlaw6_LayoutApart.l3 (k + 1) y0 y1 y2 y3 y4 y5 y6)) ∧ (∀ y0 y1 y2 y3 y4 y5, LeO (hatstandlaw6_LayoutApart.l4 k y0 y1 y2 y3 y4 y5) (hatstandlaw6_LayoutApart.l4 (k + 1) y0 y1 y2 y3 y4 y5))
  | 0 => ⟨fun _ _ _ _ _ _ _ r h => by simp [hatstandlaw6_LayoutApart.l0] at h, fun _ _ _ _ _ _ _ r h => by simp [hatstandlaw6_LayoutApart.l1] at h, fun _ _ _ _ _ _ _ r h => by simp [hatstandlaw6_LayoutApart.l2] at h, fun _ _ _ _ _ _ _ r h => by simp [hatstandlaw6_LayoutApart.j3] at h, fun _ _ _ _ _ _ _ r h => by simp [hatstandlaw6_LayoutApart.l3] at h, fun _ _ _ _ _ _ r h => by simp [hatstandlaw6_LayoutApart.l4] at h⟩
  | k + 1 => by
    obtain ⟨ih0, ih1, ih2, ih3, ih4, ih5⟩ := hatstandlaw6_LayoutApart.mono_l k
    refine ⟨?_, ?_, ?_, ?_, ?_, ?_⟩
    · intro y0 y1 y2 y3 y4 y5 y6
      unfold hatstandlaw6_LayoutApart.l0
      repeat' first
      | (with_reducible exact ih0 _ _ _ _ _ _ _)
      | (with_reducible exact ih1 _ _ _ _ _ _ _)
      | (with_reducible exact ih2 _ _ _ _ _ _ _)
      | (with_reducible exact ih3 _ _ _ _ _ _ _)
      | (with_reducible exact ih4 _ _ _ _ _ _ _)
      | (with_reducible exact ih5 _ _ _ _ _ _)
      | (with_reducible exact LeO.refl _)
      | (with_reducible exact LeO.none _)
      | (with_reducible refine LeO.ite ?_ ?_)
      | (with_reducible refine LeO.bind ?_ (fun _ => ?_))
      | exact ih0 _ _ _ _ _ _ _
      | exact ih1 _ _ _ _ _ _ _
      | exact ih2 _ _ _ _ _ _ _
      | exact ih3 _ _ _ _ _ _ _
      | exact ih4 _ _ _ _ _ _ _
      | exact ih5 _ _ _ _ _ _
      | exact LeO.none _
      | refine LeO.ite ?_ ?_
      | refine LeO.bind ?_ (fun _ => ?_)
    · intro y0 y1 y2 y3 y4 y5 y6
      unfold hatstandlaw6_LayoutApart.l1
      repeat' first
      | (with_reducible exact ih0 _ _ _ _ _ _ _)
      | (with_reducible exact ih1 _ _ _ _ _ _ _)
      | (with_reducible exact ih2 _ _ _ _ _ _ _)
      | (with_reducible exact ih3 _ _ _ _ _ _ _)
      | (with_reducible exact ih4 _ _ _ _ _ _ _)
      | (with_reducible exact ih5 _ _ _ _ _ _)
      | (with_reducible exact LeO.refl _)
      | (with_reducible exact LeO.none _)
      | (with_reducible refine LeO.ite ?_ ?_)
      | (with_reducible refine LeO.bind ?_ (fun _ => ?_))
      | exact ih0 _ _ _ _ _ _ _
      | exact ih1 _ _ _ _ _ _ _
      | exact ih2 _ _ _ _ _ _ _
      | exact ih3 _ _ _ _ _ _ _
      | exact ih4 _ _ _ _ _ _ _
      | exact ih5 _ _ _ _ _ _
      | exact LeO.none _
      | refine LeO.ite ?_ ?_
      | refine LeO.bind ?_ (fun _ => ?_)
    · intro y0 y1 y2 y3 y4 y5 y6
      unfold hatstandlaw6_LayoutApart.l2
      repeat' first
      | (with_reducible exact ih0 _ _ _ _ _ _ _)
      | (with_reducible exact ih1 _ _ _ _ _ _ _)
      | (with_reducible exact ih2 _ _ _ _ _ _ _)
      | (with_reducible exact ih3 _ _ _ _ _ _ _)
      | (with_reducible exact ih4 _ _ _ _ _ _ _)
      | (with_reducible exact ih5 _ _ _ _ _ _)
      | (with_reducible exact LeO.refl _)
      | (with_reducible exact LeO.none _)
      | (with_reducible refine LeO.ite ?_ ?_)
      | (with_reducible refine LeO.bind ?_ (fun _ => ?_))
      | exact ih0 _ _ _ _ _ _ _
      | exact ih1 _ _ _ _ _ _ _
      | exact ih2 _ _ _ _ _ _ _
      | exact ih3 _ _ _ _ _ _ _
      | exact ih4 _ _ _ _ _ _ _
      | exact ih5 _ _ _ _ _ _
      | exact LeO.none _
      | refine LeO.ite ?_ ?_
      | refine LeO.bind ?_ (fun _ => ?_)
    · intro y0 y1 y2 y3 y4 y5 y6
      unfold hatstandlaw6_LayoutApart.j3
      repeat' first
      | (with_reducible exact ih0 _ _ _ _ _ _ _)
      | (with_reducible exact ih1 _ _ _ _ _ _ _)
      | (with_reducible exact ih2 _ _ _ _ _ _ _)
      | (with_reducible exact ih3 _ _ _ _ _ _ _)
      | (with_reducible exact ih4 _ _ _ _ _ _ _)
      | (with_reducible exact ih5 _ _ _ _ _ _)
      | (with_reducible exact LeO.refl _)
      | (with_reducible exact LeO.none _)
      | (with_reducible refine LeO.ite ?_ ?_)
      | (with_reducible refine LeO.bind ?_ (fun _ => ?_))
      | exact ih0 _ _ _ _ _ _ _
      | exact ih1 _ _ _ _ _ _ _
      | exact ih2 _ _ _ _ _ _ _
      | exact ih3 _ _ _ _ _ _ _
      | exact ih4 _ _ _ _ _ _ _
      | exact ih5 _ _ _ _ _ _
      | exact LeO.none _
      | refine LeO.ite ?_ ?_
      | refine LeO.bind ?_ (fun _ => ?_)
    · intro y0 y1 y2 y3 y4 y5 y6
      unfold hatstandlaw6_LayoutApart.l3
      repeat' first
      | (with_reducible exact ih0 _ _ _ _ _ _ _)
      | (with_reducible exact ih1 _ _ _ _ _ _ _)
      | (with_reducible exact ih2 _ _ _ _ _ _ _)
      | (with_reducible exact ih3 _ _ _ _ _ _ _)
      | (with_reducible exact ih4 _ _ _ _ _ _ _)
      | (with_reducible exact ih5 _ _ _ _ _ _)
      | (with_reducible exact LeO.refl _)
      | (with_reducible exact LeO.none _)
      | (with_reducible refine LeO.ite ?_ ?_)
      | (with_reducible refine LeO.bind ?_ (fun _ => ?_))
      | exact ih0 _ _ _ _ _ _ _
      | exact ih1 _ _ _ _ _ _ _
      | exact ih2 _ _ _ _ _ _ _
      | exact ih3 _ _ _ _ _ _ _
      | exact ih4 _ _ _ _ _ _ _
      | exact ih5 _ _ _ _ _ _
      | exact LeO.none _
      | refine LeO.ite ?_ ?_
      | refine LeO.bind ?_ (fun _ => ?_)
    · intro y0 y1 y2 y3 y4 y5
      unfold hatstandlaw6_LayoutApart.l4
      repeat' first
      | (with_reducible exact ih0 _ _ _ _ _ _ _)
      | (with_reducible exact ih1 _ _ _ _ _ _ _)
      | (with_reducible exact ih2 _ _ _ _ _ _ _)
      | (with_reducible exact ih3 _ _ _ _ _ _ _)
      | (with_reducible exact ih4 _ _ _ _ _ _ _)
      | (with_reducible exact ih5 _ _ _ _ _ _)
      | (with_reducible exact LeO.refl _)
      | (with_reducible exact LeO.none _)
      | (with_reducible refine LeO.ite ?_ ?_)
      | (with_reducible refine LeO.bind ?_ (fun _ => ?_))
      | exact ih0 _ _ _ _ _ _ _
      | exact ih1 _ _ _ _ _ _ _
      | exact ih2 _ _ _ _ _ _ _
      | exact ih3 _ _ _ _ _ _ _
      | exact ih4 _ _ _ _ _ _ _
      | exact ih5 _ _ _ _ _ _
      | exact LeO.none _
      | refine LeO.ite ?_ ?_
      | refine LeO.bind ?_ (fun _ => ?_)
theorem hatstandlaw6_LayoutApart.mono : ∀ a0 a1 a2 k, LeO (hatstandlaw6_LayoutApart.f k a0 a1 a2) (hatstandlaw6_LayoutApart.f (k + 1) a0 a1 a2) := by
  intro a0 a1 a2 k
  obtain ⟨ih0, ih1, ih2, ih3, ih4, ih5⟩ := hatstandlaw6_LayoutApart.mono_l k
  unfold hatstandlaw6_LayoutApart.f
  repeat' first
      | (with_reducible exact ih0 _ _ _ _ _ _ _)
      | (with_reducible exact ih1 _ _ _ _ _ _ _)
      | (with_reducible exact ih2 _ _ _ _ _ _ _)
      | (with_reducible exact ih3 _ _ _ _ _ _ _)
      | (with_reducible exact ih4 _ _ _ _ _ _ _)
      | (with_reducible exact ih5 _ _ _ _ _ _)
      | (with_reducible exact LeO.refl _)
      | (with_reducible exact LeO.none _)
      | (with_reducible refine LeO.ite ?_ ?_)
      | (with_reducible refine LeO.bind ?_ (fun _ => ?_))
      | exact ih0 _ _ _ _ _ _ _
      | exact ih1 _ _ _ _ _ _ _
      | exact ih2 _ _ _ _ _ _ _
      | exact ih3 _ _ _ _ _ _ _
      | exact ih4 _ _ _ _ _ _ _
      | exact ih5 _ _ _ _ _ _
      | exact LeO.none _
      | refine LeO.ite ?_ ?_
      | refine LeO.bind ?_ (fun _ => ?_)
def hatstandlaw6_LayoutApart.T10 : Bool × List (List Nat × List Nat) := (true, [([], []), ([], []), ([], []), ([1, 2], [1, 2]), ([], []), ([], []), ([4, 5, 3], [4, 5]), ([3, 6], [3, 6]), ([0, 7, 6], [0, 7]), ([8, 8, 0, 1, 2, 3, 4, 5, 6, 7, 8], [0, 8])])
def hatstandlaw6_LayoutApart.B10 : List Nat := [0, 0, 0, 6, 0, 0, 62, 126, 255, 511]
theorem hatstandlaw6_LayoutApart.tab10 : rtab .any (opsOf Try.f3 10) = hatstandlaw6_LayoutApart.T10 := by kernel_rfl
theorem hatstandlaw6_LayoutApart.bits10 : waitsOk hatstandlaw6_LayoutApart.T10.2 hatstandlaw6_LayoutApart.B10 = true := by kernel_rfl
set_option maxHeartbeats 8000000 in
set_option maxRecDepth 100000 in
theorem hatstandlaw6_LayoutApart.calls (k : Nat) (a0 : Int) (a1 : Int) (a2 : Int) (r : Bool) (w : World) (h : hatstandlaw6_LayoutApart.f k a0 a1 a2 = some r) :
    Calls Try.prog 3 #[.int .i64 a0, .int .i64 a1, .int .i64 a2] w fun e w' => e = .returned (.bool r) ∧ Below w.heap.size w w' := by
  have hu25 := Try.underlying25
  have HB := Aside0.mk (Below.refl w.heap.size w)
  have H : ((hatstandlaw6_shown.f).bind fun t120 => (if t120 = true then ((hatstandlaw6_config.f a0 a1 a2 0).bind fun bt121 => (if 0 ≤ (wrap64 ((wrap64 ((wrap64 (2 + (wrap64 (2 * bt121.1)))) + bt121.2.1)) + bt121.2.2.1)) then (if (wrap64 ((wrap64 ((wrap64 (2 + (wrap64 (2 * bt121.1)))) + bt121.2.1)) + bt121.2.2.1) : Int).toNat ≤ 35184372088832 then (hatstandlaw6_LayoutApart.l0 k (List.replicate (wrap64 ((wrap64 ((wrap64 (2 + (wrap64 (2 * bt121.1)))) + bt121.2.1)) + bt121.2.2.1) : Int).toNat 0) (([0, 1] : List Int)) 1 bt121.1 bt121.2.1 bt121.2.2.1 bt121.2.2.2) else (none)) else (none))) else (some false))) = some r := h
  clear h
  replace H := Option.bind_eq_some_iff.mp H
  obtain ⟨t120, A40, H⟩ := H
  replace H : (if t120 = true then ((hatstandlaw6_config.f a0 a1 a2 0).bind fun bt121 => (if 0 ≤ (wrap64 ((wrap64 ((wrap64 (2 + (wrap64 (2 * bt121.1)))) + bt121.2.1)) + bt121.2.2.1)) then (if (wrap64 ((wrap64 ((wrap64 (2 + (wrap64 (2 * bt121.1)))) + bt121.2.1)) + bt121.2.2.1) : Int).toNat ≤ 35184372088832 then (hatstandlaw6_LayoutApart.l0 k (List.replicate (wrap64 ((wrap64 ((wrap64 (2 + (wrap64 (2 * bt121.1)))) + bt121.2.1)) + bt121.2.2.1) : Int).toNat 0) (([0, 1] : List Int)) 1 bt121.1 bt121.2.1 bt121.2.2.1 bt121.2.2.2) else (none)) else (none))) else (some false)) = some r := H
  have A4 := Aside0.mk A40
  clear A40
  by_cases c5 : t120 = true
  · subst c5
    have H1 : ((hatstandlaw6_config.f a0 a1 a2 0).bind fun bt121 => (if 0 ≤ (wrap64 ((wrap64 ((wrap64 (2 + (wrap64 (2 * bt121.1)))) + bt121.2.1)) + bt121.2.2.1)) then (if (wrap64 ((wrap64 ((wrap64 (2 + (wrap64 (2 * bt121.1)))) + bt121.2.1)) + bt121.2.2.1) : Int).toNat ≤ 35184372088832 then (hatstandlaw6_LayoutApart.l0 k (List.replicate (wrap64 ((wrap64 ((wrap64 (2 + (wrap64 (2 * bt121.1)))) + bt121.2.1)) + bt121.2.2.1) : Int).toNat 0) (([0, 1] : List Int)) 1 bt121.1 bt121.2.1 bt121.2.2.1 bt121.2.2.2) else (none)) else (none))) = some r := by rw [if_pos rfl] at H; exact H
    clear H
    have H := H1
    clear H1
    replace H := Option.bind_eq_some_iff.mp H
    obtain ⟨⟨t121, t122, t123, t124⟩, A60, H⟩ := H
    replace H : (if 0 ≤ (wrap64 ((wrap64 ((wrap64 (2 + (wrap64 (2 * t121)))) + t122)) + t123)) then (if (wrap64 ((wrap64 ((wrap64 (2 + (wrap64 (2 * t121)))) + t122)) + t123) : Int).toNat ≤ 35184372088832 then (hatstandlaw6_LayoutApart.l0 k (List.replicate (wrap64 ((wrap64 ((wrap64 (2 + (wrap64 (2 * t121)))) + t122)) + t123) : Int).toNat 0) (([0, 1] : List Int)) 1 t121 t122 t123 t124) else (none)) else (none)) = some r := H
    have A6 := Aside0.mk A60
    clear A60
    obtain ⟨ji7, hji7⟩ : ∃ j_ : Int, (wrap64 ((wrap64 ((wrap64 (2 + (wrap64 (2 * t121)))) + t122)) + t123)) = j_ := ⟨_, rfl⟩
    replace H : (if 0 ≤ (ji7) then (if (ji7 : Int).toNat ≤ 35184372088832 then (hatstandlaw6_LayoutApart.l0 k (List.replicate (ji7 : Int).toNat 0) (([0, 1] : List Int)) 1 t121 t122 t123 t124) else (none)) else (none)) = some r := by first | (rw [hji7] at H; exact H) | (simp only [hji7] at H ⊢; exact H)
    (try rw [hji7] at A4)
    (try rw [hji7] at A6)
    have hji7w : (IntKind.i64.wrap ((wrap64 ((wrap64 (2 + (wrap64 (2 * t121)))) + t122)) + t123)) = ji7 := (i64_w _).trans hji7
    by_cases c8 : 0 ≤ (ji7)
    · rw [if_pos c8] at H
      have c8b0 := eq_true c8
      have c8b1 : decide (0 ≤ (ji7)) = true := decide_eq_true c8
      clear c8
      by_cases c9 : (ji7 : Int).toNat ≤ 35184372088832
      · rw [if_pos c9] at H
        have c9b0 := eq_true c9
        have c9b1 : decide ((ji7 : Int).toNat ≤ 35184372088832) = true := decide_eq_true c9
        clear c9
        obtain ⟨y126, hy126⟩ : ∃ y_ : List Int, y_ = (List.replicate (ji7 : Int).toNat 0) := ⟨_, rfl⟩
        replace H : (hatstandlaw6_LayoutApart.l0 k y126 (([0, 1] : List Int)) 1 t121 t122 t123 t124) = some r := by first | (rw [hy126]; with_reducible exact H) | (have H2_ := (Option.bind_some _ _).symm.trans H; rw [hy126]; with_reducible exact H2_) | (have H2_ := (Option.bind_some _ _).symm.trans H; with_reducible exact H2_) | with_reducible exact H | (rw [hy126]; exact H) | exact H
        have Ny126 := Aside0.mk hy126
        clear hy126
        obtain ⟨y129, hy129⟩ : ∃ y_ : List Int, y_ = (([0, 1] : List Int)) := ⟨_, rfl⟩
        replace H : (hatstandlaw6_LayoutApart.l0 k y126 y129 1 t121 t122 t123 t124) = some r := by first | (rw [hy129]; with_reducible exact H) | (have H2_ := (Option.bind_some _ _).symm.trans H; rw [hy129]; with_reducible exact H2_) | (have H2_ := (Option.bind_some _ _).symm.trans H; with_reducible exact H2_) | with_reducible exact H | (rw [hy129]; exact H) | exact H
        have Ny129 := Aside0.mk hy129
        clear hy129
        have H' := Aside0.mk H
        clear H
        go_enter Try.func3, Try.ntmps3
        go_wp2_with (first | ((with_reducible refine gate_callee (f := 12) rfl ?_); refine goesL_ (some 16) rfl rfl Try.func12 (by kernel_rfl) rfl #[] rfl (by (try simp only [List.map_toArray, List.map_cons, List.map_nil]); first | done | rfl | (simp only [List.length_drop, List.length_take]; rfl)) ?_; (with_reducible refine (hatstandlaw6_shown.calls  true _ A4.out).mono ?_); rintro e w10 ⟨rfl, hb⟩; refine ⟨_, rfl, ?_⟩; have n0_ := Aside0.mk (below_step (by repeat (first | (with_reducible first | exact HB.out | apply below_alloc | apply pw_below_drewN | apply below_drew1) | exact HB.out)) hb); clear HB; have HB := n0_; clear n0_; (try clear hb); (try clear hb2); (try clear hk); (try clear hi)) | ((with_reducible refine gate_callee (f := 13) rfl ?_); refine goesL_ (some 22) rfl rfl Try.func13 (by kernel_rfl) rfl #[.int .i64 a0, .int .i64 a1, .int .i64 a2, .int .u32 0] rfl (by (try simp only [List.map_toArray, List.map_cons, List.map_nil]); first | done | rfl | (simp only [List.length_drop, List.length_take]; rfl)) ?_; (with_reducible refine (hatstandlaw6_config.calls a0 a1 a2 0 t121 t122 t123 t124 _ A6.out).mono ?_); rintro e w11 ⟨rfl, hb⟩; refine ⟨_, rfl, ?_⟩; have n0_ := Aside0.mk (below_step (by repeat (first | (with_reducible first | exact HB.out | apply below_alloc | apply pw_below_drewN | apply below_drew1) | exact HB.out)) hb); clear HB; have HB := n0_; clear n0_; (try clear hb); (try clear hb2); (try clear hk); (try clear hi)) | ((with_reducible refine gate_dst (N := 8) rfl ?_); (try (refine gate_guard (by rfl) ?_; dsimp only)); refine box_event ?hg (N := 8) ?hd (cs := #[.int .i64 0, .int .i64 0, .int .i64 0, .int .u32 0]) (t := 25) ?hr ?_; (case hd => rfl); (case hg => rfl); (case hr => first | (go_simp; done) | (go_simp; rfl)); intro gb125 hg w12 hbox hb; have n0_ := Aside0.mk (below_step (by repeat (first | (with_reducible first | exact HB.out | apply below_alloc | apply pw_below_drewN | apply below_drew1) | exact HB.out)) hb); have n1_ := Aside0.mk (hbox); have n2_ := Aside0.mk ((by rw [hg]; exact (below_size (by repeat (first | (with_reducible first | exact HB.out | apply below_alloc | apply pw_below_drewN | apply below_drew1) | exact HB.out))) : w.heap.size ≤ gb125)); have n3_ := Aside0.mk ((by rw [hg]; exact (below_size (by repeat (first | (with_reducible first | exact HB.out | apply below_alloc | apply pw_below_drewN | apply below_drew1) | exact HB.out))) : w.heap.size ≤ gb125)); clear HB; have HB := n0_; have BK125 := n1_; have GW125 := n2_; have GE125 := n3_; clear n0_ n1_ n2_ n3_; clear hb hbox hg; have hcz13_0 : w12.cell? ⟨gb125, 0, none⟩ = some (.int .i64 0) := (blk_cell BK125.out 0).trans rfl; have hcz13_1 : w12.cell? ⟨gb125, 1, none⟩ = some (.int .i64 0) := (blk_cell BK125.out 1).trans rfl; have hcz13_2 : w12.cell? ⟨gb125, 2, none⟩ = some (.int .i64 0) := (blk_cell BK125.out 2).trans rfl; have hcz13_3 : w12.cell? ⟨gb125, 3, none⟩ = some (.int .u32 0) := (blk_cell BK125.out 3).trans rfl; have hfz13_0 := blk_frozen BK125.out 0; have hfz13_1 := blk_frozen BK125.out 1; have hfz13_2 := blk_frozen BK125.out 2; have hfz13_3 := blk_frozen BK125.out 3) | ((with_reducible refine gate_dst (N := 33) rfl ?_); (try (refine gate_guard (by rfl) ?_; dsimp only)); refine Kd.R_make (Kd.int .i64) _ 3 rfl (N := 33) rfl 27 _ _ rfl ji7 rfl rfl Try.underlying27 (.int .i64 0) 8 info3 rfl (by decide) (by omega) 0 (ok := fun _ => True) (okp := fun _ => True) rfl (fun _ hk => hk) trivial (of_decide_eq_true (by first | (with_reducible assumption) | assumption)) (Nat.le_trans (Nat.mul_le_mul_right _ (of_decide_eq_true (by first | (with_reducible assumption) | assumption) : ji7.toNat ≤ 35184372088832)) (by omega)) (Below.refl _ _) (Nat.le_refl _) ?_; intro v127 w14 ho15 hb hg_ hnew_; clear hg_ hnew_; (first | rw [← Ny126.out] at ho15 | (simp only [Int.reduceToNat] at ho15; rw [← Ny126.out] at ho15)); have n0_ := Aside0.mk (Kd.R_lower ho15 (below_size (by repeat (first | (with_reducible first | exact HB.out | apply below_alloc | apply pw_below_drewN | apply below_drew1 | refine below_set ?_ GE125.out) | exact HB.out)))); have n1_ := Aside0.mk (blk_below (g := gb125) (o := .cells #[.int .i64 t121, .int .i64 t122, .int .i64 t123, .int .u32 t124] 25 (0, 0)) (by (with_reducible repeat (first | refine blk_drewN ?_ _ | refine blk_drew ?_ | refine blk_alloc ?_ _)); refine blk_put (cs := #[.int .i64 t121, .int .i64 t122, .int .i64 t123, .int .u32 0]) ?_ 3 _ rfl; (with_reducible repeat (first | refine blk_drewN ?_ _ | refine blk_drew ?_ | refine blk_alloc ?_ _)); refine blk_put (cs := #[.int .i64 t121, .int .i64 t122, .int .i64 0, .int .u32 0]) ?_ 2 _ rfl; (with_reducible repeat (first | refine blk_drewN ?_ _ | refine blk_drew ?_ | refine blk_alloc ?_ _)); refine blk_put (cs := #[.int .i64 t121, .int .i64 0, .int .i64 0, .int .u32 0]) ?_ 1 _ rfl; (with_reducible repeat (first | refine blk_drewN ?_ _ | refine blk_drew ?_ | refine blk_alloc ?_ _)); refine blk_put (cs := #[.int .i64 0, .int .i64 0, .int .i64 0, .int .u32 0]) ?_ 0 _ rfl; (with_reducible repeat (first | refine blk_drewN ?_ _ | refine blk_drew ?_ | refine blk_alloc ?_ _)); exact BK125.out) hb); have n2_ := Aside0.mk (below_step (by repeat (first | (with_reducible first | exact HB.out | apply below_alloc | apply pw_below_drewN | apply below_drew1 | refine below_set ?_ GE125.out) | exact HB.out)) hb); clear BK125; clear HB; have HO128 := n0_; have BK125 := n1_; have HB := n2_; clear n0_ n1_ n2_; clear hb ho15) | ((with_reducible refine gate_dst (N := 34) rfl ?_); (try (refine gate_guard (by rfl) ?_; dsimp only)); refine Kd.R_lit (Kd.int .i64) _ 3 ?hg (N := 34) ?hd (xs := ([0, 1] : List Int)) (inner := [.int .i64 0, .int .i64 1]) (ok := fun _ => True) (okp := fun _ => True) ?hr ?hp (fun _ hk => hk) trivial (Below.refl _ _) (Nat.le_refl _) (by simp) ?_; (case hd => rfl); (case hg => rfl); (case hr => first | (go_simp; done) | (go_simp; rfl)); (case hp => exact (Reps.one (show Kd.M (Kd.int .i64) _ _ _ 0 [.int .i64 0] from rfl) (Reps.one (show Kd.M (Kd.int .i64) _ _ _ 1 [.int .i64 1] from rfl) (Reps.none _ _)))); intro v130 w16 ho17 hb hg_ hnew_; clear hg_ hnew_; (first | rw [← Ny129.out] at ho17 | (simp only [Int.reduceToNat] at ho17; rw [← Ny129.out] at ho17)); have n0_ := Aside0.mk (Kd.R_elder' (by (with_reducible repeat (first | apply Kd.R_alloc | apply Kd.R_drewN | apply Kd.R_drew)); exact HO128.out) (Kd.R_base ho17) hb); have n1_ := Aside0.mk (Kd.R_lower (Kd.R_new' ho17 (Kd.R_lt (by (with_reducible repeat (first | apply Kd.R_alloc | apply Kd.R_drewN | apply Kd.R_drew)); exact HO128.out))) (below_size (by repeat (first | (with_reducible first | exact HB.out | apply below_alloc | apply pw_below_drewN | apply below_drew1 | refine below_set ?_ GE125.out) | exact HB.out)))); have n2_ := Aside0.mk (blk_below (g := gb125) (o := .cells #[.int .i64 t121, .int .i64 t122, .int .i64 t123, .int .u32 t124] 25 (0, 0)) (by (with_reducible repeat (first | refine blk_drewN ?_ _ | refine blk_drew ?_ | refine blk_alloc ?_ _)); exact BK125.out) hb); have n3_ := Aside0.mk (below_step (by repeat (first | (with_reducible first | exact HB.out | apply below_alloc | apply pw_below_drewN | apply below_drew1 | refine below_set ?_ GE125.out) | exact HB.out)) hb); clear HO128; clear BK125; clear HB; have HO128 := n0_; have HO131 := n1_; have BK125 := n2_; have HB := n3_; clear n0_ n1_ n2_ n3_; clear hb ho17))
        go_loopg [10, 11] k (fun kq v10 v11 w' => ∃ (x10_1 : List Int) (x11_1 : Int), v11 = .int .u32 x11_1 ∧ Aside0 (hatstandlaw6_LayoutApart.l0 kq y126 x10_1 x11_1 t121 t122 t123 t124 = some r) ∧ Aside0 (kq ≤ k) ∧ Aside0 (Kd.R (Kd.int .i64) 3 w' w.heap.size (fun k_ => some k_ ≠ (v10 : Value).ownBlock) v127 y126) ∧ Aside0 (Kd.R (Kd.int .i64) 3 w' w.heap.size (fun k_ => some k_ ≠ (v127 : Value).ownBlock) v10 x10_1) ∧ Aside0 (w'.heap[gb125]? = some (.cells #[.int .i64 t121, .int .i64 t122, .int .i64 t123, .int .u32 t124] 25 (0, 0))) ∧ Aside0 (Below w.heap.size w w'))
        case atStart => exact ⟨(y129), (1), (by first | rfl | (simp; done) | (simp [*]; done)), H', ⟨Nat.le_refl _⟩, ⟨by (with_reducible repeat (first | apply Kd.R_alloc | apply Kd.R_drewN | apply Kd.R_drew)); exact Kd.R_mono HO128.out (fun _ hk => hk.2)⟩, ⟨by (with_reducible repeat (first | apply Kd.R_alloc | apply Kd.R_drewN | apply Kd.R_drew)); exact Kd.R_mono HO131.out (fun _ hk => hk.2)⟩, ⟨by (with_reducible repeat (first | refine blk_drewN ?_ _ | refine blk_drew ?_ | refine blk_alloc ?_ _)); exact BK125.out⟩, ⟨by repeat (first | (with_reducible first | exact HB.out | apply below_alloc | apply pw_below_drewN | apply below_drew1 | refine below_set ?_ GE125.out) | exact HB.out)⟩⟩
        case round =>
          clear H'
          try clear c1
          try clear p2
          try clear c3
          try clear c5
          try clear p6
          try clear c8
          try clear c8b0
          try clear c8b1
          try clear c9
          try clear c9b0
          try clear c9b1
          try clear c12
          try clear c13
          try clear hcz13_0
          try clear hcz13_1
          try clear hcz13_2
          try clear hcz13_3
          try clear hfz13_0
          try clear hfz13_1
          try clear hfz13_2
          try clear hfz13_3
          obtain ⟨x10_1, x11_1, rfl, HA, HK1, HO_9, HO_10, BK125, HB⟩ := hrel
          cases gk with
          | zero => exact absurd HA.out (by simp [hatstandlaw6_LayoutApart.l0])
          | succ k1 =>
            have H := HA.out
            clear HA
            simp only [hatstandlaw6_LayoutApart.l0] at H
            by_cases c18 : x11_1 ≤ ((t121) % 4294967296)
            · rw [if_pos c18] at H
              have c18b0 : decide (x11_1 ≤ ((t121) % 4294967296)) = true := decide_eq_true c18
              clear c18
              replace H := Option.bind_eq_some_iff.mp H
              obtain ⟨t132, A190, H⟩ := H
              replace H : ((layout_Config_Value.f t121 t122 t123 t124 x11_1).bind fun t133 => ((some (([t132, t133] : List Int) : List Int)).bind fun y134 => (if x10_1.length + y134.length < 17592186044416 then (hatstandlaw6_LayoutApart.l0 k1 y126 (x10_1 ++ y134) ((x11_1 + 1) % 4294967296) t121 t122 t123 t124) else (none)))) = some r := H
              have A19 := Aside0.mk A190
              clear A190
              replace H := Option.bind_eq_some_iff.mp H
              obtain ⟨t133, A200, H⟩ := H
              replace H : ((some (([t132, t133] : List Int) : List Int)).bind fun y134 => (if x10_1.length + y134.length < 17592186044416 then (hatstandlaw6_LayoutApart.l0 k1 y126 (x10_1 ++ y134) ((x11_1 + 1) % 4294967296) t121 t122 t123 t124) else (none))) = some r := H
              have A20 := Aside0.mk A200
              clear A200
              obtain ⟨y134, hy134⟩ : ∃ y_ : List Int, y_ = (([t132, t133] : List Int)) := ⟨_, rfl⟩
              replace H : (if x10_1.length + y134.length < 17592186044416 then (hatstandlaw6_LayoutApart.l0 k1 y126 (x10_1 ++ y134) ((x11_1 + 1) % 4294967296) t121 t122 t123 t124) else (none)) = some r := by first | (rw [hy134]; with_reducible exact H) | (have H2_ := (Option.bind_some _ _).symm.trans H; rw [hy134]; with_reducible exact H2_) | (have H2_ := (Option.bind_some _ _).symm.trans H; with_reducible exact H2_) | with_reducible exact H | (rw [hy134]; exact H) | exact H
              have Ny134 := Aside0.mk hy134
              clear hy134
              by_cases c21 : x10_1.length + y134.length < 17592186044416
              · rw [if_pos c21] at H
                have LMc21 := Aside0.mk c21
                clear c21
                obtain ⟨y137, hy137⟩ : ∃ y_ : List Int, y_ = (x10_1 ++ y134) := ⟨_, rfl⟩
                replace H : (hatstandlaw6_LayoutApart.l0 k1 y126 y137 ((x11_1 + 1) % 4294967296) t121 t122 t123 t124) = some r := by first | (rw [hy137]; with_reducible exact H) | (have H2_ := (Option.bind_some _ _).symm.trans H; rw [hy137]; with_reducible exact H2_) | (have H2_ := (Option.bind_some _ _).symm.trans H; with_reducible exact H2_) | with_reducible exact H | (rw [hy137]; exact H) | exact H
                have Ny137 := Aside0.mk hy137
                clear hy137
                have H' := Aside0.mk H
                clear H
                have hcz22_0 : wr.cell? ⟨gb125, 0, none⟩ = some (.int .i64 t121) := (blk_cell BK125.out 0).trans rfl
                have hcz22_1 : wr.cell? ⟨gb125, 1, none⟩ = some (.int .i64 t122) := (blk_cell BK125.out 1).trans rfl
                have hcz22_2 : wr.cell? ⟨gb125, 2, none⟩ = some (.int .i64 t123) := (blk_cell BK125.out 2).trans rfl
                have hcz22_3 : wr.cell? ⟨gb125, 3, none⟩ = some (.int .u32 t124) := (blk_cell BK125.out 3).trans rfl
                have hfz22_0 := blk_frozen BK125.out 0
                have hfz22_1 := blk_frozen BK125.out 1
                have hfz22_2 := blk_frozen BK125.out 2
                have hfz22_3 := blk_frozen BK125.out 3
                try go_wp2
                have n0_ := Aside0.mk (Kd.R_drew HO_9.out)
                have n1_ := Aside0.mk (Kd.R_drew HO_10.out)
                have n2_ := Aside0.mk (blk_drew BK125.out)
                have n3_ := Aside0.mk (below_drew1 HB.out)
                clear HO_9
                clear HO_10
                clear BK125
                clear HB
                have HO_9 := n0_
                have HO_10 := n1_
                have BK125 := n2_
                have HB := n3_
                clear n0_ n1_ n2_ n3_
                refine start_ (n := 10) (S := fun w' => w'.cell? ⟨gb125, 0, none⟩ = some (.int .i64 t121) ∧ w'.cell? ⟨gb125, 1, none⟩ = some (.int .i64 t122) ∧ w'.cell? ⟨gb125, 2, none⟩ = some (.int .i64 t123) ∧ w'.cell? ⟨gb125, 3, none⟩ = some (.int .u32 t124)) (ds := []) #[false, false, false, false, false, false, false, false, false, false] (by kernel_rfl) rfl rfl ⟨(blk_cell BK125.out 0).trans rfl, (blk_cell BK125.out 1).trans rfl, (blk_cell BK125.out 2).trans rfl, (blk_cell BK125.out 3).trans rfl⟩ (fun hHeld => ?_); refine with_tabW hatstandlaw6_LayoutApart.tab10 hatstandlaw6_LayoutApart.bits10 (fun HT_ HW_ => ?_)
                generalize wr.drew = w23 at HO_9 HO_10 BK125 HB hHeld ⊢
                refine pure_ (i := 0) (N := some 42) (v := ?_) (a' := ?_) #[true, false, false, false, false, false, false, false, false, false] rfl rfl (any_of HT_.out (by kernel_rfl)) (fun _ _ _ h => h) (Or.inl ⟨by rfl, ?_⟩) ?_ ?_
                rotate_left
                · intro w'
                  go_simp
                  with_reducible rfl
                rotate_left
                · simp only [Act.put, List.setIfInBounds_toArray, List.set_cons_zero, List.set_cons_succ, i64_w, i32_w]
                  rfl
                refine pure_ (i := 2) (N := some 44) (v := ?_) (a' := ?_) #[true, false, true, false, false, false, false, false, false, false] rfl rfl (any_of HT_.out (by kernel_rfl)) (fun _ _ _ h => h) (Or.inl ⟨by rfl, ?_⟩) ?_ ?_
                rotate_left
                · intro w'
                  go_simp
                  with_reducible rfl
                rotate_left
                · simp only [Act.put, List.setIfInBounds_toArray, List.set_cons_zero, List.set_cons_succ, i64_w, i32_w]
                  rfl
                refine pure_ (i := 5) (N := some 47) (v := ?_) (a' := ?_) #[true, false, true, false, false, true, false, false, false, false] rfl rfl (any_of HT_.out (by kernel_rfl)) (fun _ _ _ h => h) (Or.inl ⟨by rfl, ?_⟩) ?_ ?_
                rotate_left
                · intro w'
                  go_simp
                  with_reducible rfl
                rotate_left
                · simp only [Act.put, List.setIfInBounds_toArray, List.set_cons_zero, List.set_cons_succ, i64_w, i32_w]
                  rfl
                refine take_ (i := 1) (N := some 43) (v := ?_) (a' := ?_) #[true, true, true, false, false, true, false, false, false, false] rfl rfl (take_ofW HT_.out HW_.out (by kernel_rfl)) (fun _ _ _ h => h) (Or.inl ⟨by rfl, ?_⟩) hHeld ?_ ?_
                rotate_left
                · rintro w' ⟨s0, s1, s2, s3⟩
                  go_simp
                  with_reducible rfl
                rotate_left
                · simp only [Act.put, List.setIfInBounds_toArray, List.set_cons_zero, List.set_cons_succ, i64_w, i32_w]
                  rfl
                refine take_ (i := 4) (N := some 46) (v := ?_) (a' := ?_) #[true, true, true, false, true, true, false, false, false, false] rfl rfl (take_ofW HT_.out HW_.out (by kernel_rfl)) (fun _ _ _ h => h) (Or.inl ⟨by rfl, ?_⟩) hHeld ?_ ?_
                rotate_left
                · rintro w' ⟨s0, s1, s2, s3⟩
                  go_simp
                  with_reducible rfl
                rotate_left
                · simp only [Act.put, List.setIfInBounds_toArray, List.set_cons_zero, List.set_cons_succ, i64_w, i32_w]
                  rfl
                refine one_ (i := 3) (N := some 45) #[true, true, true, true, true, true, false, false, false, false] rfl rfl (one_of HT_.out (by kernel_rfl)) (by decide) (fun K hK => ?_)
                refine goes_ Try.func14 (by kernel_rfl) rfl #[.agg #[.int .i64 t121, .int .i64 t122, .int .i64 t123, .int .u32 t124], .int .u32 x11_1] (by rfl) rfl rfl (by (try simp only [List.map_toArray, List.map_cons, List.map_nil]); first | done | rfl | (simp only [List.length_drop, List.length_take]; rfl)) ?_
                with_reducible refine (layout_Config_Next.calls t121 t122 t123 t124 x11_1 t132 _ A19.out).mono ?_
                rintro e w24 ⟨rfl, hb⟩
                refine ⟨_, rfl, ?_⟩
                have n0_ := Aside0.mk (Kd.R_below (by (with_reducible repeat (first | apply Kd.R_alloc | apply Kd.R_drewN | apply Kd.R_drew)); exact HO_9.out) hb)
                have n1_ := Aside0.mk (Kd.R_below (by (with_reducible repeat (first | apply Kd.R_alloc | apply Kd.R_drewN | apply Kd.R_drew)); exact HO_10.out) hb)
                have n2_ := Aside0.mk (blk_below (g := gb125) (o := .cells #[.int .i64 t121, .int .i64 t122, .int .i64 t123, .int .u32 t124] 25 (0, 0)) (by (with_reducible repeat (first | refine blk_drewN ?_ _ | refine blk_drew ?_ | refine blk_alloc ?_ _)); exact BK125.out) hb)
                have n3_ := Aside0.mk (below_step (by repeat (first | (with_reducible first | exact HB.out | apply below_alloc | apply pw_below_drewN | apply below_drew1 | refine below_set ?_ GE125.out) | exact HB.out)) hb)
                clear HO_9
                clear HO_10
                clear BK125
                clear HB
                have HO_9 := n0_
                have HO_10 := n1_
                have BK125 := n2_
                have HB := n3_
                clear n0_ n1_ n2_ n3_
                (try clear hb)
                (try clear hb2)
                (try clear hk)
                (try clear hi)
                refine hK.out _ _ ⟨(blk_cell BK125.out 0).trans rfl, (blk_cell BK125.out 1).trans rfl, (blk_cell BK125.out 2).trans rfl, (blk_cell BK125.out 3).trans rfl⟩ (fun hHeld => ?_)
                clear hK K
                refine norm_ (a' := ?_) ?_ ?_
                rotate_left
                · show Act.put _ (some 45) _ = _
                  simp only [Act.put, List.setIfInBounds_toArray, List.set_cons_zero, List.set_cons_succ, i64_w, i32_w]
                  rfl
                refine one_ (i := 6) (N := some 48) #[true, true, true, true, true, true, true, false, false, false] rfl rfl (one_of HT_.out (by kernel_rfl)) (by decide) (fun K hK => ?_)
                refine goes_ Try.func15 (by kernel_rfl) rfl #[.agg #[.int .i64 t121, .int .i64 t122, .int .i64 t123, .int .u32 t124], .int .u32 x11_1] (by rfl) rfl rfl (by (try simp only [List.map_toArray, List.map_cons, List.map_nil]); first | done | rfl | (simp only [List.length_drop, List.length_take]; rfl)) ?_
                with_reducible refine (layout_Config_Value.calls t121 t122 t123 t124 x11_1 t133 _ A20.out).mono ?_
                rintro e w25 ⟨rfl, hb⟩
                refine ⟨_, rfl, ?_⟩
                have n0_ := Aside0.mk (Kd.R_below (by (with_reducible repeat (first | apply Kd.R_alloc | apply Kd.R_drewN | apply Kd.R_drew)); exact HO_9.out) hb)
                have n1_ := Aside0.mk (Kd.R_below (by (with_reducible repeat (first | apply Kd.R_alloc | apply Kd.R_drewN | apply Kd.R_drew)); exact HO_10.out) hb)
                have n2_ := Aside0.mk (blk_below (g := gb125) (o := .cells #[.int .i64 t121, .int .i64 t122, .int .i64 t123, .int .u32 t124] 25 (0, 0)) (by (with_reducible repeat (first | refine blk_drewN ?_ _ | refine blk_drew ?_ | refine blk_alloc ?_ _)); exact BK125.out) hb)
                have n3_ := Aside0.mk (below_step (by repeat (first | (with_reducible first | exact HB.out | apply below_alloc | apply pw_below_drewN | apply below_drew1 | refine below_set ?_ GE125.out) | exact HB.out)) hb)
                clear HO_9
                clear HO_10
                clear BK125
                clear HB
                have HO_9 := n0_
                have HO_10 := n1_
                have BK125 := n2_
                have HB := n3_
                clear n0_ n1_ n2_ n3_
                (try clear hb)
                (try clear hb2)
                (try clear hk)
                (try clear hi)
                refine hK.out _ _ ⟨(blk_cell BK125.out 0).trans rfl, (blk_cell BK125.out 1).trans rfl, (blk_cell BK125.out 2).trans rfl, (blk_cell BK125.out 3).trans rfl⟩ (fun hHeld => ?_)
                clear hK K
                refine norm_ (a' := ?_) ?_ ?_
                rotate_left
                · show Act.put _ (some 48) _ = _
                  simp only [Act.put, List.setIfInBounds_toArray, List.set_cons_zero, List.set_cons_succ, i64_w, i32_w]
                  rfl
                refine one_ (i := 7) (N := some 49) #[true, true, true, true, true, true, true, true, false, false] rfl rfl (one_of HT_.out (by kernel_rfl)) (by decide) (fun K hK => ?_)
                refine Kd.R_lit_step (Kd.int .i64) _ 3 ?hg (N := 49) ?hd (xs := ([t132, t133] : List Int)) (inner := [.int .i64 t132, .int .i64 t133]) (ok := fun _ => True) (okp := fun _ => True) ?hr ?hp (fun _ hk => hk) trivial (Below.refl _ _) (Nat.le_refl _) (by simp) ?_; (case hd => rfl); (case hg => rfl); (case hr => first | (go_simp; done) | (go_simp; rfl)); (case hp => exact (Reps.one (show Kd.M (Kd.int .i64) _ _ _ t132 [.int .i64 t132] from rfl) (Reps.one (show Kd.M (Kd.int .i64) _ _ _ t133 [.int .i64 t133] from rfl) (Reps.none _ _))))
                intro v135 w26 ho27 hb hg_ hnew_
                clear hg_ hnew_
                (first | rw [← Ny134.out] at ho27 | (simp only [Int.reduceToNat] at ho27; rw [← Ny134.out] at ho27))
                have n0_ := Aside0.mk (Kd.R_elder' (by (with_reducible repeat (first | apply Kd.R_alloc | apply Kd.R_drewN | apply Kd.R_drew)); exact HO_9.out) (Kd.R_base ho27) hb)
                have n1_ := Aside0.mk (Kd.R_elder' (by (with_reducible repeat (first | apply Kd.R_alloc | apply Kd.R_drewN | apply Kd.R_drew)); exact HO_10.out) (Kd.R_base ho27) hb)
                have n2_ := Aside0.mk (Kd.R_lower (Kd.R_new' (Kd.R_new' ho27 (Kd.R_lt (by (with_reducible repeat (first | apply Kd.R_alloc | apply Kd.R_drewN | apply Kd.R_drew)); exact HO_9.out))) (Kd.R_lt (by (with_reducible repeat (first | apply Kd.R_alloc | apply Kd.R_drewN | apply Kd.R_drew)); exact HO_10.out))) (below_size (by repeat (first | (with_reducible first | exact HB.out | apply below_alloc | apply pw_below_drewN | apply below_drew1 | refine below_set ?_ GE125.out) | exact HB.out))))
                have n3_ := Aside0.mk (blk_below (g := gb125) (o := .cells #[.int .i64 t121, .int .i64 t122, .int .i64 t123, .int .u32 t124] 25 (0, 0)) (by (with_reducible repeat (first | refine blk_drewN ?_ _ | refine blk_drew ?_ | refine blk_alloc ?_ _)); exact BK125.out) hb)
                have n4_ := Aside0.mk (below_step (by repeat (first | (with_reducible first | exact HB.out | apply below_alloc | apply pw_below_drewN | apply below_drew1 | refine below_set ?_ GE125.out) | exact HB.out)) hb)
                clear HO_9
                clear HO_10
                clear BK125
                clear HB
                have HO_9 := n0_
                have HO_10 := n1_
                have HO136 := n2_
                have BK125 := n3_
                have HB := n4_
                clear n0_ n1_ n2_ n3_ n4_
                clear hb ho27
                obtain ⟨Ao29, co29, eo29⟩ := Kd.R_slice HO136.out
                (first | subst eo29 | (injection eo29 with f1_ f2_ f3_; have f4_ := f1_.symm; have f5_ := f3_.symm; clear f1_ f2_ f3_; subst f4_; subst f5_))
                refine hK.out _ _ ⟨(blk_cell BK125.out 0).trans rfl, (blk_cell BK125.out 1).trans rfl, (blk_cell BK125.out 2).trans rfl, (blk_cell BK125.out 3).trans rfl⟩ (fun hHeld => ?_)
                clear hK K
                refine norm_ (a' := ?_) ?_ ?_
                rotate_left
                · show Act.put _ (some 49) _ = _
                  simp only [Act.put, List.setIfInBounds_toArray, List.set_cons_zero, List.set_cons_succ, i64_w, i32_w]
                  rfl
                refine one_ (i := 8) (N := some 50) #[true, true, true, true, true, true, true, true, true, false] rfl rfl (one_of HT_.out (by kernel_rfl)) (by decide) (fun K hK => ?_)
                refine Kd.R_append_rows_step (Kd.int .i64) (w0 := w) w.heap.size (by rfl) (.tmp 42) (.tmp 49) 27 3 (.int .i64 0) 8 rfl Try.underlying27 info3 rfl (by decide) (by omega) u10 x10_1 y134 _ _ _ (fun k_ => some k_ ≠ (v127 : Value).ownBlock ∧ some k_ ≠ (.slice Ao29 y134.length co29 : Value).ownBlock) (fun _ => False) rfl rfl ?aO ?aR (fun _ _ h => h) (fun _ h => h.elim) ?aF ?aB ?aS ?aL ?_
                (case aR => repeat (first | exact (Kd.R_reads' HO136.out).2.2 | (with_reducible refine Kd.C_alloc ?_ _) | (with_reducible refine Kd.C_drewN ?_ _) | (with_reducible refine Kd.C_drew ?_)))
                (case aB => exact (by repeat (first | (with_reducible first | exact HB.out | apply below_alloc | apply pw_below_drewN | apply below_drew1 | refine below_set ?_ GE125.out) | exact HB.out)))
                (case aF => exact (fun k_ hk => ⟨Kd.fresh' (Kd.R_lt (by (with_reducible repeat (first | apply Kd.R_alloc | apply Kd.R_drewN | apply Kd.R_drew)); exact HO_9.out)) k_ hk, Kd.fresh' (Kd.R_lt (by (with_reducible repeat (first | apply Kd.R_alloc | apply Kd.R_drewN | apply Kd.R_drew)); exact HO136.out)) k_ hk⟩))
                (case aO => exact (by (with_reducible repeat (first | apply Kd.R_alloc | apply Kd.R_drewN | apply Kd.R_drew)); exact HO_10.out))
                (case aS => exact (below_size (by repeat (first | (with_reducible first | exact HB.out | apply below_alloc | apply pw_below_drewN | apply below_drew1 | refine below_set ?_ GE125.out) | exact HB.out))))
                (case aL => have := LMc21.out; omega)
                intro v138 w28 ho hb hg hat
                rw [← Ny137.out] at ho
                have n0_ := Aside0.mk (Kd.R_after (ok := (fun k_ => some k_ ≠ (.slice Ao29 y134.length co29 : Value).ownBlock)) (by (with_reducible repeat (first | apply Kd.R_alloc | apply Kd.R_drewN | apply Kd.R_drew)); exact Kd.R_mono HO_9.out (fun _ hk => ⟨hk.2, hk.1⟩)) hg hat)
                have n1_ := Aside0.mk (blk_grown (g := gb125) (o := .cells #[.int .i64 t121, .int .i64 t122, .int .i64 t123, .int .u32 t124] 25 (0, 0)) (by (with_reducible repeat (first | refine blk_drewN ?_ _ | refine blk_drew ?_ | refine blk_alloc ?_ _)); exact BK125.out) hg (Kd.R_ne HO_10.out BK125.out (by decide)))
                have n2_ := Aside0.mk (Kd.R_after (ok := (fun k_ => some k_ ≠ (v127 : Value).ownBlock)) (by (with_reducible repeat (first | apply Kd.R_alloc | apply Kd.R_drewN | apply Kd.R_drew)); exact Kd.R_mono HO136.out (fun _ hk => ⟨hk.1.2, hk.2⟩)) hg hat)
                have n3_ := Aside0.mk (hb)
                have n4_ := Aside0.mk (ho)
                clear HO_9
                clear BK125
                clear HO136
                clear HB
                clear HO_10
                have HO_9 := n0_
                have BK125 := n1_
                have HO136 := n2_
                have HB := n3_
                have HO139 := n4_
                clear n0_ n1_ n2_ n3_ n4_
                clear ho hb hg hat
                refine hK.out _ _ ⟨(blk_cell BK125.out 0).trans rfl, (blk_cell BK125.out 1).trans rfl, (blk_cell BK125.out 2).trans rfl, (blk_cell BK125.out 3).trans rfl⟩ (fun hHeld => ?_)
                clear hK K
                refine norm_ (a' := ?_) ?_ ?_
                rotate_left
                · show Act.put _ (some 50) _ = _
                  simp only [Act.put, List.setIfInBounds_toArray, List.set_cons_zero, List.set_cons_succ, i64_w, i32_w]
                  rfl
                refine pure_ (i := 9) (N := some 10) (v := ?_) (a' := ?_) #[true, true, true, true, true, true, true, true, true, true] rfl rfl (any_of HT_.out (by kernel_rfl)) (fun _ _ _ h => h) (Or.inl ⟨by rfl, ?_⟩) ?_ ?_
                rotate_left
                · intro w'
                  go_simp
                  with_reducible rfl
                rotate_left
                · simp only [Act.put, List.setIfInBounds_toArray, List.set_cons_zero, List.set_cons_succ, i64_w, i32_w]
                  rfl
                refine done_ (done_of HT_.out (by kernel_rfl)) ?_
                try go_wp2
                go_roundg k1
                case measure => have := HK1.out; omega
                case rel => exact ⟨(y137), ((x11_1 + 1) % 4294967296), (by first | rfl | (simp; done) | (simp [*]; done)), H', ⟨by have := HK1.out; omega⟩, ⟨by (with_reducible repeat (first | apply Kd.R_alloc | apply Kd.R_drewN | apply Kd.R_drew)); exact Kd.R_mono HO_9.out (fun _ hk => hk.2)⟩, ⟨by (with_reducible repeat (first | apply Kd.R_alloc | apply Kd.R_drewN | apply Kd.R_drew)); exact Kd.R_mono HO139.out (fun _ hk => hk.1)⟩, ⟨by (with_reducible repeat (first | refine blk_drewN ?_ _ | refine blk_drew ?_ | refine blk_alloc ?_ _)); exact BK125.out⟩, ⟨by repeat (first | (with_reducible first | exact HB.out | apply below_alloc | apply pw_below_drewN | apply below_drew1 | refine below_set ?_ GE125.out) | exact HB.out)⟩⟩
              · rw [if_neg c21] at H
                exact absurd H (by simp)
            · rw [if_neg c18] at H
              have c18b0 : decide (x11_1 ≤ ((t121) % 4294967296)) = false := decide_eq_false c18
              clear c18
              have H' := Aside0.mk H
              clear H
              have hcz30_0 : wr.cell? ⟨gb125, 0, none⟩ = some (.int .i64 t121) := (blk_cell BK125.out 0).trans rfl
              have hcz30_1 : wr.cell? ⟨gb125, 1, none⟩ = some (.int .i64 t122) := (blk_cell BK125.out 1).trans rfl
              have hcz30_2 : wr.cell? ⟨gb125, 2, none⟩ = some (.int .i64 t123) := (blk_cell BK125.out 2).trans rfl
              have hcz30_3 : wr.cell? ⟨gb125, 3, none⟩ = some (.int .u32 t124) := (blk_cell BK125.out 3).trans rfl
              have hfz30_0 := blk_frozen BK125.out 0
              have hfz30_1 := blk_frozen BK125.out 1
              have hfz30_2 := blk_frozen BK125.out 2
              have hfz30_3 := blk_frozen BK125.out 3
              go_wp2
              go_loopg [10, 12] k1 (fun kq v10 v12 w' => ∃ (x10_2 : List Int) (x12_2 : Int), v12 = .int .i64 x12_2 ∧ Aside0 (hatstandlaw6_LayoutApart.l1 kq y126 x10_2 x12_2 t121 t122 t123 t124 = some r) ∧ Aside0 (kq ≤ k1) ∧ Aside0 (Kd.R (Kd.int .i64) 3 w' w.heap.size (fun k_ => some k_ ≠ (v10 : Value).ownBlock) v127 y126) ∧ Aside0 (Kd.R (Kd.int .i64) 3 w' w.heap.size (fun k_ => some k_ ≠ (v127 : Value).ownBlock) v10 x10_2) ∧ Aside0 (w'.heap[gb125]? = some (.cells #[.int .i64 t121, .int .i64 t122, .int .i64 t123, .int .u32 t124] 25 (0, 0))) ∧ Aside0 (Below w.heap.size w w'))
              case atStart => exact ⟨(x10_1), (0), (by first | rfl | (simp; done) | (simp [*]; done)), H', ⟨Nat.le_refl _⟩, ⟨by (with_reducible repeat (first | apply Kd.R_alloc | apply Kd.R_drewN | apply Kd.R_drew)); exact HO_9.out⟩, ⟨by (with_reducible repeat (first | apply Kd.R_alloc | apply Kd.R_drewN | apply Kd.R_drew)); exact HO_10.out⟩, ⟨by (with_reducible repeat (first | refine blk_drewN ?_ _ | refine blk_drew ?_ | refine blk_alloc ?_ _)); exact BK125.out⟩, ⟨by repeat (first | (with_reducible first | exact HB.out | apply below_alloc | apply pw_below_drewN | apply below_drew1 | refine below_set ?_ GE125.out) | exact HB.out)⟩⟩
              case round =>
                clear H'
                try clear c1
                try clear c2
                try clear p2
                try clear c3
                try clear c5
                try clear p6
                try clear c8
                try clear c8b0
                try clear c8b1
                try clear c9
                try clear c9b0
                try clear c9b1
                try clear c12
                try clear c13
                try clear c14
                try clear c15
                try clear c18
                try clear c18b0
                try clear c21
                try clear hcz13_0
                try clear hcz13_1
                try clear hcz13_2
                try clear hcz13_3
                try clear hcz22_0
                try clear hcz22_1
                try clear hcz22_2
                try clear hcz22_3
                try clear hcz30_0
                try clear hcz30_1
                try clear hcz30_2
                try clear hcz30_3
                try clear hfz13_0
                try clear hfz13_1
                try clear hfz13_2
                try clear hfz13_3
                try clear hfz22_0
                try clear hfz22_1
                try clear hfz22_2
                try clear hfz22_3
                try clear hfz30_0
                try clear hfz30_1
                try clear hfz30_2
                try clear hfz30_3
                try clear p2
                try clear p6
                obtain ⟨x10_2, x12_2, rfl, HA, HK2, HO_9, HO_10, BK125, HB⟩ := hrel
                cases gk with
                | zero => exact absurd HA.out (by simp [hatstandlaw6_LayoutApart.l1])
                | succ k2 =>
                  have H := HA.out
                  clear HA
                  simp only [hatstandlaw6_LayoutApart.l1] at H
                  by_cases c31 : x12_2 < t122
                  · rw [if_pos c31] at H
                    have c31b0 : decide (x12_2 < t122) = true := decide_eq_true c31
                    clear c31
                    replace H := Option.bind_eq_some_iff.mp H
                    obtain ⟨t140, A320, H⟩ := H
                    replace H : (if x10_2.length < 17592186044416 then (hatstandlaw6_LayoutApart.l1 k2 y126 (x10_2 ++ [t140]) (wrap64 (x12_2 + 1)) t121 t122 t123 t124) else (none)) = some r := H
                    have A32 := Aside0.mk A320
                    clear A320
                    by_cases c33 : x10_2.length < 17592186044416
                    · rw [if_pos c33] at H
                      have LMc33 := Aside0.mk c33
                      clear c33
                      obtain ⟨y141, hy141⟩ : ∃ y_ : List Int, y_ = (x10_2 ++ [t140]) := ⟨_, rfl⟩
                      replace H : (hatstandlaw6_LayoutApart.l1 k2 y126 y141 (wrap64 (x12_2 + 1)) t121 t122 t123 t124) = some r := by first | (rw [hy141]; with_reducible exact H) | (have H2_ := (Option.bind_some _ _).symm.trans H; rw [hy141]; with_reducible exact H2_) | (have H2_ := (Option.bind_some _ _).symm.trans H; with_reducible exact H2_) | with_reducible exact H | (rw [hy141]; exact H) | exact H
                      have Ny141 := Aside0.mk hy141
                      clear hy141
                      have H' := Aside0.mk H
                      clear H
                      have hcz34_0 : wr.cell? ⟨gb125, 0, none⟩ = some (.int .i64 t121) := (blk_cell BK125.out 0).trans rfl
                      have hcz34_1 : wr.cell? ⟨gb125, 1, none⟩ = some (.int .i64 t122) := (blk_cell BK125.out 1).trans rfl
                      have hcz34_2 : wr.cell? ⟨gb125, 2, none⟩ = some (.int .i64 t123) := (blk_cell BK125.out 2).trans rfl
                      have hcz34_3 : wr.cell? ⟨gb125, 3, none⟩ = some (.int .u32 t124) := (blk_cell BK125.out 3).trans rfl
                      have hfz34_0 := blk_frozen BK125.out 0
                      have hfz34_1 := blk_frozen BK125.out 1
                      have hfz34_2 := blk_frozen BK125.out 2
                      have hfz34_3 := blk_frozen BK125.out 3
                      go_wp2_with (first | ((with_reducible refine gate_callee (f := 16) rfl ?_); refine goesL_ (some 60) rfl rfl Try.func16 (by kernel_rfl) rfl #[.agg #[.int .i64 t121, .int .i64 t122, .int .i64 t123, .int .u32 t124], .int .i64 x12_2] rfl (by (try simp only [List.map_toArray, List.map_cons, List.map_nil]); first | done | rfl | (simp only [List.length_drop, List.length_take]; rfl)) ?_; (with_reducible refine (layout_Config_Slot.calls t121 t122 t123 t124 x12_2 t140 _ A32.out).mono ?_); rintro e w35 ⟨rfl, hb⟩; refine ⟨_, rfl, ?_⟩; have n0_ := Aside0.mk (Kd.R_below (by (with_reducible repeat (first | apply Kd.R_alloc | apply Kd.R_drewN | apply Kd.R_drew)); exact HO_9.out) hb); have n1_ := Aside0.mk (Kd.R_below (by (with_reducible repeat (first | apply Kd.R_alloc | apply Kd.R_drewN | apply Kd.R_drew)); exact HO_10.out) hb); have n2_ := Aside0.mk (blk_below (g := gb125) (o := .cells #[.int .i64 t121, .int .i64 t122, .int .i64 t123, .int .u32 t124] 25 (0, 0)) (by (with_reducible repeat (first | refine blk_drewN ?_ _ | refine blk_drew ?_ | refine blk_alloc ?_ _)); exact BK125.out) hb); have n3_ := Aside0.mk (below_step (by repeat (first | (with_reducible first | exact HB.out | apply below_alloc | apply pw_below_drewN | apply below_drew1 | refine below_set ?_ GE125.out) | exact HB.out)) hb); clear HO_9; clear HO_10; clear BK125; clear HB; have HO_9 := n0_; have HO_10 := n1_; have BK125 := n2_; have HB := n3_; clear n0_ n1_ n2_ n3_; (try clear hb); (try clear hb2); (try clear hk); (try clear hi)) | ((with_reducible refine gate_builtin (b := .append) (xs := #[.tmp 57, .tmp 61]) rfl ?_); (try (refine gate_guard (by rfl) ?_; dsimp only)); at_builtin; refine Kd.R_append (Kd.int .i64) (w0 := w) w.heap.size rfl (.tmp 57) (.tmp 61) 27 3 (.int .i64 0) 8 rfl Try.underlying27 info3 rfl (by decide) (by omega) u10 x10_2 t140 [.int .i64 t140] (fun k_ => some k_ ≠ (v127 : Value).ownBlock) (fun _ => False) rfl rfl ?aP (fun _ hk => hk.elim) ?aF ?aO ?aB ?aS ?aL ?_; (case aP => exact rfl); (case aB => exact (by repeat (first | (with_reducible first | exact HB.out | apply below_alloc | apply pw_below_drewN | apply below_drew1 | refine below_set ?_ GE125.out) | exact HB.out))); (case aF => exact (fun k_ hk => Kd.fresh' (Kd.R_lt (by (with_reducible repeat (first | apply Kd.R_alloc | apply Kd.R_drewN | apply Kd.R_drew)); exact HO_9.out)) k_ hk)); (case aO => exact (by (with_reducible repeat (first | apply Kd.R_alloc | apply Kd.R_drewN | apply Kd.R_drew)); exact HO_10.out)); (case aS => exact (below_size (by repeat (first | (with_reducible first | exact HB.out | apply below_alloc | apply pw_below_drewN | apply below_drew1 | refine below_set ?_ GE125.out) | exact HB.out)))); (case aL => have := LMc33.out; omega); intro v142 w36 ho hb hg hat; rw [← Ny141.out] at ho; have n0_ := Aside0.mk (Kd.R_after (ok := (fun _ => True)) (by (with_reducible repeat (first | apply Kd.R_alloc | apply Kd.R_drewN | apply Kd.R_drew)); exact Kd.R_mono HO_9.out (fun _ hk => ⟨trivial, hk⟩)) hg hat); have n1_ := Aside0.mk (blk_grown (g := gb125) (o := .cells #[.int .i64 t121, .int .i64 t122, .int .i64 t123, .int .u32 t124] 25 (0, 0)) (by (with_reducible repeat (first | refine blk_drewN ?_ _ | refine blk_drew ?_ | refine blk_alloc ?_ _)); exact BK125.out) hg (Kd.R_ne HO_10.out BK125.out (by decide))); have n2_ := Aside0.mk (hb); have n3_ := Aside0.mk (ho); clear HO_9; clear BK125; clear HB; clear HO_10; have HO_9 := n0_; have BK125 := n1_; have HB := n2_; have HO143 := n3_; clear n0_ n1_ n2_ n3_; clear ho hb hg hat))
                      go_roundg k2
                      case measure => have := HK1.out; have := HK2.out; omega
                      case rel => exact ⟨(y141), (wrap64 (x12_2 + 1)), (by first | rfl | (simp; done) | (simp [*]; done)), H', ⟨by have := HK1.out; have := HK2.out; omega⟩, ⟨by (with_reducible repeat (first | apply Kd.R_alloc | apply Kd.R_drewN | apply Kd.R_drew)); exact Kd.R_mono HO_9.out (fun _ hk => hk.2)⟩, ⟨by (with_reducible repeat (first | apply Kd.R_alloc | apply Kd.R_drewN | apply Kd.R_drew)); exact HO143.out⟩, ⟨by (with_reducible repeat (first | refine blk_drewN ?_ _ | refine blk_drew ?_ | refine blk_alloc ?_ _)); exact BK125.out⟩, ⟨by repeat (first | (with_reducible first | exact HB.out | apply below_alloc | apply pw_below_drewN | apply below_drew1 | refine below_set ?_ GE125.out) | exact HB.out)⟩⟩
                    · rw [if_neg c33] at H
                      exact absurd H (by simp)
                  · rw [if_neg c31] at H
                    have c31b0 : decide (x12_2 < t122) = false := decide_eq_false c31
                    clear c31
                    have H' := Aside0.mk H
                    clear H
                    have hcz37_0 : wr.cell? ⟨gb125, 0, none⟩ = some (.int .i64 t121) := (blk_cell BK125.out 0).trans rfl
                    have hcz37_1 : wr.cell? ⟨gb125, 1, none⟩ = some (.int .i64 t122) := (blk_cell BK125.out 1).trans rfl
                    have hcz37_2 : wr.cell? ⟨gb125, 2, none⟩ = some (.int .i64 t123) := (blk_cell BK125.out 2).trans rfl
                    have hcz37_3 : wr.cell? ⟨gb125, 3, none⟩ = some (.int .u32 t124) := (blk_cell BK125.out 3).trans rfl
                    have hfz37_0 := blk_frozen BK125.out 0
                    have hfz37_1 := blk_frozen BK125.out 1
                    have hfz37_2 := blk_frozen BK125.out 2
                    have hfz37_3 := blk_frozen BK125.out 3
                    go_wp2
                    go_loopg [10, 13] k2 (fun kq v10 v13 w' => ∃ (x10_3 : List Int) (x13_3 : Int), v13 = .int .i64 x13_3 ∧ Aside0 (hatstandlaw6_LayoutApart.l2 kq y126 x10_3 x13_3 t121 t122 t123 t124 = some r) ∧ Aside0 (kq ≤ k2) ∧ Aside0 (Kd.R (Kd.int .i64) 3 w' w.heap.size (fun k_ => some k_ ≠ (v10 : Value).ownBlock) v127 y126) ∧ Aside0 (Kd.R (Kd.int .i64) 3 w' w.heap.size (fun k_ => some k_ ≠ (v127 : Value).ownBlock) v10 x10_3) ∧ Aside0 (w'.heap[gb125]? = some (.cells #[.int .i64 t121, .int .i64 t122, .int .i64 t123, .int .u32 t124] 25 (0, 0))) ∧ Aside0 (Below w.heap.size w w'))
                    case atStart => exact ⟨(x10_2), (0), (by first | rfl | (simp; done) | (simp [*]; done)), H', ⟨Nat.le_refl _⟩, ⟨by (with_reducible repeat (first | apply Kd.R_alloc | apply Kd.R_drewN | apply Kd.R_drew)); exact HO_9.out⟩, ⟨by (with_reducible repeat (first | apply Kd.R_alloc | apply Kd.R_drewN | apply Kd.R_drew)); exact HO_10.out⟩, ⟨by (with_reducible repeat (first | refine blk_drewN ?_ _ | refine blk_drew ?_ | refine blk_alloc ?_ _)); exact BK125.out⟩, ⟨by repeat (first | (with_reducible first | exact HB.out | apply below_alloc | apply pw_below_drewN | apply below_drew1 | refine below_set ?_ GE125.out) | exact HB.out)⟩⟩
                    case round =>
                      clear H'
                      try clear c1
                      try clear c2
                      try clear p2
                      try clear c3
                      try clear c5
                      try clear p6
                      try clear c8
                      try clear c8b0
                      try clear c8b1
                      try clear c9
                      try clear c9b0
                      try clear c9b1
                      try clear c12
                      try clear c13
                      try clear c14
                      try clear c15
                      try clear c16
                      try clear c18
                      try clear c18b0
                      try clear c21
                      try clear c31
                      try clear c31b0
                      try clear c33
                      try clear hcz13_0
                      try clear hcz13_1
                      try clear hcz13_2
                      try clear hcz13_3
                      try clear hcz22_0
                      try clear hcz22_1
                      try clear hcz22_2
                      try clear hcz22_3
                      try clear hcz30_0
                      try clear hcz30_1
                      try clear hcz30_2
                      try clear hcz30_3
                      try clear hcz34_0
                      try clear hcz34_1
                      try clear hcz34_2
                      try clear hcz34_3
                      try clear hcz37_0
                      try clear hcz37_1
                      try clear hcz37_2
                      try clear hcz37_3
                      try clear hfz13_0
                      try clear hfz13_1
                      try clear hfz13_2
                      try clear hfz13_3
                      try clear hfz22_0
                      try clear hfz22_1
                      try clear hfz22_2
                      try clear hfz22_3
                      try clear hfz30_0
                      try clear hfz30_1
                      try clear hfz30_2
                      try clear hfz30_3
                      try clear hfz34_0
                      try clear hfz34_1
                      try clear hfz34_2
                      try clear hfz34_3
                      try clear hfz37_0
                      try clear hfz37_1
                      try clear hfz37_2
                      try clear hfz37_3
                      try clear p2
                      try clear p6
                      obtain ⟨x10_3, x13_3, rfl, HA, HK3, HO_9, HO_10, BK125, HB⟩ := hrel
                      cases gk with
                      | zero => exact absurd HA.out (by simp [hatstandlaw6_LayoutApart.l2])
                      | succ k3 =>
                        have H := HA.out
                        clear HA
                        simp only [hatstandlaw6_LayoutApart.l2] at H
                        by_cases c38 : x13_3 < t123
                        · rw [if_pos c38] at H
                          have c38b0 : decide (x13_3 < t123) = true := decide_eq_true c38
                          clear c38
                          replace H := Option.bind_eq_some_iff.mp H
                          obtain ⟨t144, A390, H⟩ := H
                          replace H : (if x10_3.length < 17592186044416 then (hatstandlaw6_LayoutApart.l2 k3 y126 (x10_3 ++ [t144]) (wrap64 (x13_3 + 1)) t121 t122 t123 t124) else (none)) = some r := H
                          have A39 := Aside0.mk A390
                          clear A390
                          by_cases c40 : x10_3.length < 17592186044416
                          · rw [if_pos c40] at H
                            have LMc40 := Aside0.mk c40
                            clear c40
                            obtain ⟨y145, hy145⟩ : ∃ y_ : List Int, y_ = (x10_3 ++ [t144]) := ⟨_, rfl⟩
                            replace H : (hatstandlaw6_LayoutApart.l2 k3 y126 y145 (wrap64 (x13_3 + 1)) t121 t122 t123 t124) = some r := by first | (rw [hy145]; with_reducible exact H) | (have H2_ := (Option.bind_some _ _).symm.trans H; rw [hy145]; with_reducible exact H2_) | (have H2_ := (Option.bind_some _ _).symm.trans H; with_reducible exact H2_) | with_reducible exact H | (rw [hy145]; exact H) | exact H
                            have Ny145 := Aside0.mk hy145
                            clear hy145
                            have H' := Aside0.mk H
                            clear H
                            have hcz41_0 : wr.cell? ⟨gb125, 0, none⟩ = some (.int .i64 t121) := (blk_cell BK125.out 0).trans rfl
                            have hcz41_1 : wr.cell? ⟨gb125, 1, none⟩ = some (.int .i64 t122) := (blk_cell BK125.out 1).trans rfl
                            have hcz41_2 : wr.cell? ⟨gb125, 2, none⟩ = some (.int .i64 t123) := (blk_cell BK125.out 2).trans rfl
                            have hcz41_3 : wr.cell? ⟨gb125, 3, none⟩ = some (.int .u32 t124) := (blk_cell BK125.out 3).trans rfl
                            have hfz41_0 := blk_frozen BK125.out 0
                            have hfz41_1 := blk_frozen BK125.out 1
                            have hfz41_2 := blk_frozen BK125.out 2
                            have hfz41_3 := blk_frozen BK125.out 3
                            go_wp2_with (first | ((with_reducible refine gate_callee (f := 17) rfl ?_); refine goesL_ (some 72) rfl rfl Try.func17 (by kernel_rfl) rfl #[.agg #[.int .i64 t121, .int .i64 t122, .int .i64 t123, .int .u32 t124], .int .i64 x13_3] rfl (by (try simp only [List.map_toArray, List.map_cons, List.map_nil]); first | done | rfl | (simp only [List.length_drop, List.length_take]; rfl)) ?_; (with_reducible refine (layout_Config_Holder.calls t121 t122 t123 t124 x13_3 t144 _ A39.out).mono ?_); rintro e w42 ⟨rfl, hb⟩; refine ⟨_, rfl, ?_⟩; have n0_ := Aside0.mk (Kd.R_below (by (with_reducible repeat (first | apply Kd.R_alloc | apply Kd.R_drewN | apply Kd.R_drew)); exact HO_9.out) hb); have n1_ := Aside0.mk (Kd.R_below (by (with_reducible repeat (first | apply Kd.R_alloc | apply Kd.R_drewN | apply Kd.R_drew)); exact HO_10.out) hb); have n2_ := Aside0.mk (blk_below (g := gb125) (o := .cells #[.int .i64 t121, .int .i64 t122, .int .i64 t123, .int .u32 t124] 25 (0, 0)) (by (with_reducible repeat (first | refine blk_drewN ?_ _ | refine blk_drew ?_ | refine blk_alloc ?_ _)); exact BK125.out) hb); have n3_ := Aside0.mk (below_step (by repeat (first | (with_reducible first | exact HB.out | apply below_alloc | apply pw_below_drewN | apply below_drew1 | refine below_set ?_ GE125.out) | exact HB.out)) hb); clear HO_9; clear HO_10; clear BK125; clear HB; have HO_9 := n0_; have HO_10 := n1_; have BK125 := n2_; have HB := n3_; clear n0_ n1_ n2_ n3_; (try clear hb); (try clear hb2); (try clear hk); (try clear hi)) | ((with_reducible refine gate_builtin (b := .append) (xs := #[.tmp 69, .tmp 73]) rfl ?_); (try (refine gate_guard (by rfl) ?_; dsimp only)); at_builtin; refine Kd.R_append (Kd.int .i64) (w0 := w) w.heap.size rfl (.tmp 69) (.tmp 73) 27 3 (.int .i64 0) 8 rfl Try.underlying27 info3 rfl (by decide) (by omega) u10 x10_3 t144 [.int .i64 t144] (fun k_ => some k_ ≠ (v127 : Value).ownBlock) (fun _ => False) rfl rfl ?aP (fun _ hk => hk.elim) ?aF ?aO ?aB ?aS ?aL ?_; (case aP => exact rfl); (case aB => exact (by repeat (first | (with_reducible first | exact HB.out | apply below_alloc | apply pw_below_drewN | apply below_drew1 | refine below_set ?_ GE125.out) | exact HB.out))); (case aF => exact (fun k_ hk => Kd.fresh' (Kd.R_lt (by (with_reducible repeat (first | apply Kd.R_alloc | apply Kd.R_drewN | apply Kd.R_drew)); exact HO_9.out)) k_ hk)); (case aO => exact (by (with_reducible repeat (first | apply Kd.R_alloc | apply Kd.R_drewN | apply Kd.R_drew)); exact HO_10.out)); (case aS => exact (below_size (by repeat (first | (with_reducible first | exact HB.out | apply below_alloc | apply pw_below_drewN | apply below_drew1 | refine below_set ?_ GE125.out) | exact HB.out)))); (case aL => have := LMc40.out; omega); intro v146 w43 ho hb hg hat; rw [← Ny145.out] at ho; have n0_ := Aside0.mk (Kd.R_after (ok := (fun _ => True)) (by (with_reducible repeat (first | apply Kd.R_alloc | apply Kd.R_drewN | apply Kd.R_drew)); exact Kd.R_mono HO_9.out (fun _ hk => ⟨trivial, hk⟩)) hg hat); have n1_ := Aside0.mk (blk_grown (g := gb125) (o := .cells #[.int .i64 t121, .int .i64 t122, .int .i64 t123, .int .u32 t124] 25 (0, 0)) (by (with_reducible repeat (first | refine blk_drewN ?_ _ | refine blk_drew ?_ | refine blk_alloc ?_ _)); exact BK125.out) hg (Kd.R_ne HO_10.out BK125.out (by decide))); have n2_ := Aside0.mk (hb); have n3_ := Aside0.mk (ho); clear HO_9; clear BK125; clear HB; clear HO_10; have HO_9 := n0_; have BK125 := n1_; have HB := n2_; have HO147 := n3_; clear n0_ n1_ n2_ n3_; clear ho hb hg hat))
                            go_roundg k3
                            case measure => have := HK1.out; have := HK2.out; have := HK3.out; omega
                            case rel => exact ⟨(y145), (wrap64 (x13_3 + 1)), (by first | rfl | (simp; done) | (simp [*]; done)), H', ⟨by have := HK1.out; have := HK2.out; have := HK3.out; omega⟩, ⟨by (with_reducible repeat (first | apply Kd.R_alloc | apply Kd.R_drewN | apply Kd.R_drew)); exact Kd.R_mono HO_9.out (fun _ hk => hk.2)⟩, ⟨by (with_reducible repeat (first | apply Kd.R_alloc | apply Kd.R_drewN | apply Kd.R_drew)); exact HO147.out⟩, ⟨by (with_reducible repeat (first | refine blk_drewN ?_ _ | refine blk_drew ?_ | refine blk_alloc ?_ _)); exact BK125.out⟩, ⟨by repeat (first | (with_reducible first | exact HB.out | apply below_alloc | apply pw_below_drewN | apply below_drew1 | refine below_set ?_ GE125.out) | exact HB.out)⟩⟩
                          · rw [if_neg c40] at H
                            exact absurd H (by simp)
                        · rw [if_neg c38] at H
                          have c38b0 : decide (x13_3 < t123) = false := decide_eq_false c38
                          clear c38
                          have HC44 := Aside0.mk H
                          clear H
                          have hcz45_0 : wr.cell? ⟨gb125, 0, none⟩ = some (.int .i64 t121) := (blk_cell BK125.out 0).trans rfl
                          have hcz45_1 : wr.cell? ⟨gb125, 1, none⟩ = some (.int .i64 t122) := (blk_cell BK125.out 1).trans rfl
                          have hcz45_2 : wr.cell? ⟨gb125, 2, none⟩ = some (.int .i64 t123) := (blk_cell BK125.out 2).trans rfl
                          have hcz45_3 : wr.cell? ⟨gb125, 3, none⟩ = some (.int .u32 t124) := (blk_cell BK125.out 3).trans rfl
                          have hfz45_0 := blk_frozen BK125.out 0
                          have hfz45_1 := blk_frozen BK125.out 1
                          have hfz45_2 := blk_frozen BK125.out 2
                          have hfz45_3 := blk_frozen BK125.out 3
                          go_upto_region 19 with (fail)
                          go_cut [91] (fun v91 wc => ∃ (kq : Nat) (x91_43 : Bool), v91 = .bool x91_43 ∧ Aside0 (hatstandlaw6_LayoutApart.j3 kq y126 x10_3 x91_43 t121 t122 t123 t124 = some r) ∧ Aside0 (kq ≤ k3) ∧ Aside0 (Kd.R (Kd.int .i64) 3 wc w.heap.size (fun k_ => some k_ ≠ (u10 : Value).ownBlock) v127 y126) ∧ Aside0 (Kd.R (Kd.int .i64) 3 wc w.heap.size (fun k_ => some k_ ≠ (v127 : Value).ownBlock) u10 x10_3) ∧ Aside0 (wc.heap[gb125]? = some (.cells #[.int .i64 t121, .int .i64 t122, .int .i64 t123, .int .u32 t124] 25 (0, 0))) ∧ Aside0 (Below w.heap.size w wc))
                          case first =>
                            have H := HC44.out
                            clear HC44
                            replace H := Option.bind_eq_some_iff.mp H
                            obtain ⟨t148, A460, H⟩ := H
                            replace H : (if t148 = (y126.length : Int) then (if (x10_3.length : Int) = (y126.length : Int) then ((layout_Config_Cells.f t121 t122 t123 t124).bind fun t149 => (hatstandlaw6_LayoutApart.j3 k3 y126 x10_3 (decide (t149 > 1024)) t121 t122 t123 t124)) else (hatstandlaw6_LayoutApart.j3 k3 y126 x10_3 true t121 t122 t123 t124)) else (hatstandlaw6_LayoutApart.j3 k3 y126 x10_3 true t121 t122 t123 t124)) = some r := H
                            have A46 := Aside0.mk A460
                            clear A460
                            by_cases c47 : t148 = (y126.length : Int)
                            · rw [if_pos c47] at H
                              have c47b0 : (t148 == (y126.length : Int)) = true := beq_iff_eq.mpr c47
                              have c47b1 : (t148 != (y126.length : Int)) = false := bne_eq_false_iff_eq.mpr c47
                              clear c47
                              (first | rw [c47b0] | (simp only [i64_w, i32_w]; rw [c47b0]) | skip)
                              by_cases c48 : (x10_3.length : Int) = (y126.length : Int)
                              · rw [if_pos c48] at H
                                have c48b0 : ((x10_3.length : Int) == (y126.length : Int)) = true := beq_iff_eq.mpr c48
                                have c48b1 : ((x10_3.length : Int) != (y126.length : Int)) = false := bne_eq_false_iff_eq.mpr c48
                                have c48b2 : (x10_3.length == y126.length) = true := by first | simpa using c48 | (simp at c48 ⊢; omega)
                                clear c48
                                replace H := Option.bind_eq_some_iff.mp H
                                obtain ⟨t149, A490, H⟩ := H
                                replace H : (hatstandlaw6_LayoutApart.j3 k3 y126 x10_3 (decide (t149 > 1024)) t121 t122 t123 t124) = some r := H
                                have A49 := Aside0.mk A490
                                clear A490
                                have H' := Aside0.mk H
                                clear H
                                have hcz50_0 : wr.cell? ⟨gb125, 0, none⟩ = some (.int .i64 t121) := (blk_cell BK125.out 0).trans rfl
                                have hcz50_1 : wr.cell? ⟨gb125, 1, none⟩ = some (.int .i64 t122) := (blk_cell BK125.out 1).trans rfl
                                have hcz50_2 : wr.cell? ⟨gb125, 2, none⟩ = some (.int .i64 t123) := (blk_cell BK125.out 2).trans rfl
                                have hcz50_3 : wr.cell? ⟨gb125, 3, none⟩ = some (.int .u32 t124) := (blk_cell BK125.out 3).trans rfl
                                have hfz50_0 := blk_frozen BK125.out 0
                                have hfz50_1 := blk_frozen BK125.out 1
                                have hfz50_2 := blk_frozen BK125.out 2
                                have hfz50_3 := blk_frozen BK125.out 3
                                go_wp2_with (first | ((with_reducible refine gate_callee (f := 18) rfl ?_); refine goesL_ (some 76) rfl rfl Try.func18 (by kernel_rfl) rfl #[.agg #[.int .i64 t121, .int .i64 t122, .int .i64 t123, .int .u32 t124]] rfl (by (try simp only [List.map_toArray, List.map_cons, List.map_nil]); first | done | rfl | (simp only [List.length_drop, List.length_take]; rfl)) ?_; (with_reducible refine (layout_Config_Cells.calls t121 t122 t123 t124 t148 _ A46.out).mono ?_); rintro e w51 ⟨rfl, hb⟩; refine ⟨_, rfl, ?_⟩; have n0_ := Aside0.mk (Kd.R_below (by (with_reducible repeat (first | apply Kd.R_alloc | apply Kd.R_drewN | apply Kd.R_drew)); exact HO_9.out) hb); have n1_ := Aside0.mk (Kd.R_below (by (with_reducible repeat (first | apply Kd.R_alloc | apply Kd.R_drewN | apply Kd.R_drew)); exact HO_10.out) hb); have n2_ := Aside0.mk (blk_below (g := gb125) (o := .cells #[.int .i64 t121, .int .i64 t122, .int .i64 t123, .int .u32 t124] 25 (0, 0)) (by (with_reducible repeat (first | refine blk_drewN ?_ _ | refine blk_drew ?_ | refine blk_alloc ?_ _)); exact BK125.out) hb); have n3_ := Aside0.mk (below_step (by repeat (first | (with_reducible first | exact HB.out | apply below_alloc | apply pw_below_drewN | apply below_drew1 | refine below_set ?_ GE125.out) | exact HB.out)) hb); clear HO_9; clear HO_10; clear BK125; clear HB; have HO_9 := n0_; have HO_10 := n1_; have BK125 := n2_; have HB := n3_; clear n0_ n1_ n2_ n3_; (try clear hb); (try clear hb2); (try clear hk); (try clear hi); obtain ⟨Ao52, co52, eo52⟩ := Kd.R_slice HO_9.out; subst eo52; obtain ⟨Ao53, co53, eo53⟩ := Kd.R_slice HO_10.out; subst eo53; have hcz54_0 : w51.cell? ⟨gb125, 0, none⟩ = some (.int .i64 t121) := (blk_cell BK125.out 0).trans rfl; have hcz54_1 : w51.cell? ⟨gb125, 1, none⟩ = some (.int .i64 t122) := (blk_cell BK125.out 1).trans rfl; have hcz54_2 : w51.cell? ⟨gb125, 2, none⟩ = some (.int .i64 t123) := (blk_cell BK125.out 2).trans rfl; have hcz54_3 : w51.cell? ⟨gb125, 3, none⟩ = some (.int .u32 t124) := (blk_cell BK125.out 3).trans rfl; have hfz54_0 := blk_frozen BK125.out 0; have hfz54_1 := blk_frozen BK125.out 1; have hfz54_2 := blk_frozen BK125.out 2; have hfz54_3 := blk_frozen BK125.out 3) | (go_at_call 18; (with_reducible refine (layout_Config_Cells.calls t121 t122 t123 t124 t149 _ A49.out).mono ?_); rintro e w55 ⟨rfl, hb⟩; have n0_ := Aside0.mk (Kd.R_below (by (with_reducible repeat (first | apply Kd.R_alloc | apply Kd.R_drewN | apply Kd.R_drew)); exact HO_9.out) hb); have n1_ := Aside0.mk (Kd.R_below (by (with_reducible repeat (first | apply Kd.R_alloc | apply Kd.R_drewN | apply Kd.R_drew)); exact HO_10.out) hb); have n2_ := Aside0.mk (blk_below (g := gb125) (o := .cells #[.int .i64 t121, .int .i64 t122, .int .i64 t123, .int .u32 t124] 25 (0, 0)) (by (with_reducible repeat (first | refine blk_drewN ?_ _ | refine blk_drew ?_ | refine blk_alloc ?_ _)); exact BK125.out) hb); have n3_ := Aside0.mk (below_step (by repeat (first | (with_reducible first | exact HB.out | apply below_alloc | apply pw_below_drewN | apply below_drew1 | refine below_set ?_ GE125.out) | exact HB.out)) hb); clear HO_9; clear HO_10; clear BK125; clear HB; have HO_9 := n0_; have HO_10 := n1_; have BK125 := n2_; have HB := n3_; clear n0_ n1_ n2_ n3_; (try clear hb); (try clear hb2); (try clear hk); (try clear hi)))
                                go_meet
                                case rel => exact ⟨_, (decide (t149 > 1024)), (by first | rfl | (simp; done) | (simp [*]; done)), H', ⟨by have := HK1.out; have := HK2.out; have := HK3.out; first | omega | exact Nat.le_refl _⟩, ⟨by (with_reducible repeat (first | apply Kd.R_alloc | apply Kd.R_drewN | apply Kd.R_drew)); exact HO_9.out⟩, ⟨by (with_reducible repeat (first | apply Kd.R_alloc | apply Kd.R_drewN | apply Kd.R_drew)); exact HO_10.out⟩, ⟨by (with_reducible repeat (first | refine blk_drewN ?_ _ | refine blk_drew ?_ | refine blk_alloc ?_ _)); exact BK125.out⟩, ⟨by repeat (first | (with_reducible first | exact HB.out | apply below_alloc | apply pw_below_drewN | apply below_drew1 | refine below_set ?_ GE125.out) | exact HB.out)⟩⟩
                              · rw [if_neg c48] at H
                                have c48b0 : ((x10_3.length : Int) == (y126.length : Int)) = false := beq_eq_false_iff_ne.mpr c48
                                have c48b1 : ((x10_3.length : Int) != (y126.length : Int)) = true := bne_iff_ne.mpr c48
                                have c48b2 : (x10_3.length == y126.length) = false := by first | simpa using c48 | (simp at c48 ⊢; omega)
                                have H' := Aside0.mk H
                                clear H
                                have hcz56_0 : wr.cell? ⟨gb125, 0, none⟩ = some (.int .i64 t121) := (blk_cell BK125.out 0).trans rfl
                                have hcz56_1 : wr.cell? ⟨gb125, 1, none⟩ = some (.int .i64 t122) := (blk_cell BK125.out 1).trans rfl
                                have hcz56_2 : wr.cell? ⟨gb125, 2, none⟩ = some (.int .i64 t123) := (blk_cell BK125.out 2).trans rfl
                                have hcz56_3 : wr.cell? ⟨gb125, 3, none⟩ = some (.int .u32 t124) := (blk_cell BK125.out 3).trans rfl
                                have hfz56_0 := blk_frozen BK125.out 0
                                have hfz56_1 := blk_frozen BK125.out 1
                                have hfz56_2 := blk_frozen BK125.out 2
                                have hfz56_3 := blk_frozen BK125.out 3
                                go_wp2_with (first | ((with_reducible refine gate_callee (f := 18) rfl ?_); refine goesL_ (some 76) rfl rfl Try.func18 (by kernel_rfl) rfl #[.agg #[.int .i64 t121, .int .i64 t122, .int .i64 t123, .int .u32 t124]] rfl (by (try simp only [List.map_toArray, List.map_cons, List.map_nil]); first | done | rfl | (simp only [List.length_drop, List.length_take]; rfl)) ?_; (with_reducible refine (layout_Config_Cells.calls t121 t122 t123 t124 t148 _ A46.out).mono ?_); rintro e w57 ⟨rfl, hb⟩; refine ⟨_, rfl, ?_⟩; have n0_ := Aside0.mk (Kd.R_below (by (with_reducible repeat (first | apply Kd.R_alloc | apply Kd.R_drewN | apply Kd.R_drew)); exact HO_9.out) hb); have n1_ := Aside0.mk (Kd.R_below (by (with_reducible repeat (first | apply Kd.R_alloc | apply Kd.R_drewN | apply Kd.R_drew)); exact HO_10.out) hb); have n2_ := Aside0.mk (blk_below (g := gb125) (o := .cells #[.int .i64 t121, .int .i64 t122, .int .i64 t123, .int .u32 t124] 25 (0, 0)) (by (with_reducible repeat (first | refine blk_drewN ?_ _ | refine blk_drew ?_ | refine blk_alloc ?_ _)); exact BK125.out) hb); have n3_ := Aside0.mk (below_step (by repeat (first | (with_reducible first | exact HB.out | apply below_alloc | apply pw_below_drewN | apply below_drew1 | refine below_set ?_ GE125.out) | exact HB.out)) hb); clear HO_9; clear HO_10; clear BK125; clear HB; have HO_9 := n0_; have HO_10 := n1_; have BK125 := n2_; have HB := n3_; clear n0_ n1_ n2_ n3_; (try clear hb); (try clear hb2); (try clear hk); (try clear hi); obtain ⟨Ao58, co58, eo58⟩ := Kd.R_slice HO_9.out; subst eo58; obtain ⟨Ao59, co59, eo59⟩ := Kd.R_slice HO_10.out; subst eo59))
                                go_meet
                                case rel => exact ⟨_, (true), (by first | rfl | (simp; done) | (simp [*]; done)), H', ⟨by have := HK1.out; have := HK2.out; have := HK3.out; first | omega | exact Nat.le_refl _⟩, ⟨by (with_reducible repeat (first | apply Kd.R_alloc | apply Kd.R_drewN | apply Kd.R_drew)); exact HO_9.out⟩, ⟨by (with_reducible repeat (first | apply Kd.R_alloc | apply Kd.R_drewN | apply Kd.R_drew)); exact HO_10.out⟩, ⟨by (with_reducible repeat (first | refine blk_drewN ?_ _ | refine blk_drew ?_ | refine blk_alloc ?_ _)); exact BK125.out⟩, ⟨by repeat (first | (with_reducible first | exact HB.out | apply below_alloc | apply pw_below_drewN | apply below_drew1 | refine below_set ?_ GE125.out) | exact HB.out)⟩⟩
                            · rw [if_neg c47] at H
                              have c47b0 : (t148 == (y126.length : Int)) = false := beq_eq_false_iff_ne.mpr c47
                              have c47b1 : (t148 != (y126.length : Int)) = true := bne_iff_ne.mpr c47
                              (first | rw [c47b0] | (simp only [i64_w, i32_w]; rw [c47b0]) | skip)
                              have H' := Aside0.mk H
                              clear H
                              have hcz60_0 : wr.cell? ⟨gb125, 0, none⟩ = some (.int .i64 t121) := (blk_cell BK125.out 0).trans rfl
                              have hcz60_1 : wr.cell? ⟨gb125, 1, none⟩ = some (.int .i64 t122) := (blk_cell BK125.out 1).trans rfl
                              have hcz60_2 : wr.cell? ⟨gb125, 2, none⟩ = some (.int .i64 t123) := (blk_cell BK125.out 2).trans rfl
                              have hcz60_3 : wr.cell? ⟨gb125, 3, none⟩ = some (.int .u32 t124) := (blk_cell BK125.out 3).trans rfl
                              have hfz60_0 := blk_frozen BK125.out 0
                              have hfz60_1 := blk_frozen BK125.out 1
                              have hfz60_2 := blk_frozen BK125.out 2
                              have hfz60_3 := blk_frozen BK125.out 3
                              go_wp2_with (first | ((with_reducible refine gate_callee (f := 18) rfl ?_); refine goesL_ (some 76) rfl rfl Try.func18 (by kernel_rfl) rfl #[.agg #[.int .i64 t121, .int .i64 t122, .int .i64 t123, .int .u32 t124]] rfl (by (try simp only [List.map_toArray, List.map_cons, List.map_nil]); first | done | rfl | (simp only [List.length_drop, List.length_take]; rfl)) ?_; (with_reducible refine (layout_Config_Cells.calls t121 t122 t123 t124 t148 _ A46.out).mono ?_); rintro e w61 ⟨rfl, hb⟩; refine ⟨_, rfl, ?_⟩; have n0_ := Aside0.mk (Kd.R_below (by (with_reducible repeat (first | apply Kd.R_alloc | apply Kd.R_drewN | apply Kd.R_drew)); exact HO_9.out) hb); have n1_ := Aside0.mk (Kd.R_below (by (with_reducible repeat (first | apply Kd.R_alloc | apply Kd.R_drewN | apply Kd.R_drew)); exact HO_10.out) hb); have n2_ := Aside0.mk (blk_below (g := gb125) (o := .cells #[.int .i64 t121, .int .i64 t122, .int .i64 t123, .int .u32 t124] 25 (0, 0)) (by (with_reducible repeat (first | refine blk_drewN ?_ _ | refine blk_drew ?_ | refine blk_alloc ?_ _)); exact BK125.out) hb); have n3_ := Aside0.mk (below_step (by repeat (first | (with_reducible first | exact HB.out | apply below_alloc | apply pw_below_drewN | apply below_drew1 | refine below_set ?_ GE125.out) | exact HB.out)) hb); clear HO_9; clear HO_10; clear BK125; clear HB; have HO_9 := n0_; have HO_10 := n1_; have BK125 := n2_; have HB := n3_; clear n0_ n1_ n2_ n3_; (try clear hb); (try clear hb2); (try clear hk); (try clear hi); obtain ⟨Ao62, co62, eo62⟩ := Kd.R_slice HO_9.out; subst eo62))
                              go_meet
                              case rel => exact ⟨_, (true), (by first | rfl | (simp; done) | (simp [*]; done)), H', ⟨by have := HK1.out; have := HK2.out; have := HK3.out; first | omega | exact Nat.le_refl _⟩, ⟨by (with_reducible repeat (first | apply Kd.R_alloc | apply Kd.R_drewN | apply Kd.R_drew)); exact HO_9.out⟩, ⟨by (with_reducible repeat (first | apply Kd.R_alloc | apply Kd.R_drewN | apply Kd.R_drew)); exact HO_10.out⟩, ⟨by (with_reducible repeat (first | refine blk_drewN ?_ _ | refine blk_drew ?_ | refine blk_alloc ?_ _)); exact BK125.out⟩, ⟨by repeat (first | (with_reducible first | exact HB.out | apply below_alloc | apply pw_below_drewN | apply below_drew1 | refine below_set ?_ GE125.out) | exact HB.out)⟩⟩
                          case rest =>
                            clear HC44
                            try clear c1
                            try clear c2
                            try clear p2
                            try clear c3
                            try clear c4
                            try clear c5
                            try clear p6
                            try clear c8
                            try clear c8b0
                            try clear c8b1
                            try clear c9
                            try clear c9b0
                            try clear c9b1
                            try clear c12
                            try clear c13
                            try clear c14
                            try clear c15
                            try clear c16
                            try clear c17
                            try clear c18
                            try clear c18b0
                            try clear c21
                            try clear c31
                            try clear c31b0
                            try clear c33
                            try clear c38
                            try clear c38b0
                            try clear c40
                            try clear c47
                            try clear c47b0
                            try clear c47b1
                            try clear c48
                            try clear c48b0
                            try clear c48b1
                            try clear c48b2
                            try clear hcz13_0
                            try clear hcz13_1
                            try clear hcz13_2
                            try clear hcz13_3
                            try clear hcz22_0
                            try clear hcz22_1
                            try clear hcz22_2
                            try clear hcz22_3
                            try clear hcz30_0
                            try clear hcz30_1
                            try clear hcz30_2
                            try clear hcz30_3
                            try clear hcz34_0
                            try clear hcz34_1
                            try clear hcz34_2
                            try clear hcz34_3
                            try clear hcz37_0
                            try clear hcz37_1
                            try clear hcz37_2
                            try clear hcz37_3
                            try clear hcz41_0
                            try clear hcz41_1
                            try clear hcz41_2
                            try clear hcz41_3
                            try clear hcz45_0
                            try clear hcz45_1
                            try clear hcz45_2
                            try clear hcz45_3
                            try clear hcz50_0
                            try clear hcz50_1
                            try clear hcz50_2
                            try clear hcz50_3
                            try clear hcz54_0
                            try clear hcz54_1
                            try clear hcz54_2
                            try clear hcz54_3
                            try clear hcz56_0
                            try clear hcz56_1
                            try clear hcz56_2
                            try clear hcz56_3
                            try clear hcz60_0
                            try clear hcz60_1
                            try clear hcz60_2
                            try clear hcz60_3
                            try clear hfz13_0
                            try clear hfz13_1
                            try clear hfz13_2
                            try clear hfz13_3
                            try clear hfz22_0
                            try clear hfz22_1
                            try clear hfz22_2
                            try clear hfz22_3
                            try clear hfz30_0
                            try clear hfz30_1
                            try clear hfz30_2
                            try clear hfz30_3
                            try clear hfz34_0
                            try clear hfz34_1
                            try clear hfz34_2
                            try clear hfz34_3
                            try clear hfz37_0
                            try clear hfz37_1
                            try clear hfz37_2
                            try clear hfz37_3
                            try clear hfz41_0
                            try clear hfz41_1
                            try clear hfz41_2
                            try clear hfz41_3
                            try clear hfz45_0
                            try clear hfz45_1
                            try clear hfz45_2
                            try clear hfz45_3
                            try clear hfz50_0
                            try clear hfz50_1
                            try clear hfz50_2
                            try clear hfz50_3
                            try clear hfz54_0
                            try clear hfz54_1
                            try clear hfz54_2
                            try clear hfz54_3
                            try clear hfz56_0
                            try clear hfz56_1
                            try clear hfz56_2
                            try clear hfz56_3
                            try clear hfz60_0
                            try clear hfz60_1
                            try clear hfz60_2
                            try clear hfz60_3
                            try clear p2
                            try clear p6
                            obtain ⟨kq, x91_43, rfl, HA, HJ43, HO_9, HO_10, BK125, HB⟩ := hcut
                            cases kq with
                            | zero => exact absurd HA.out (by simp [hatstandlaw6_LayoutApart.j3])
                            | succ kj43 =>
                              have H := HA.out
                              clear HA
                              simp only [hatstandlaw6_LayoutApart.j3] at H
                              by_cases c63 : x91_43 = true
                              · subst c63
                                have H1 : (some false) = some r := by rw [if_pos rfl] at H; exact H
                                clear H
                                have H := H1
                                clear H1
                                obtain rfl := Option.some.inj H
                                go_wp2
                                go_ret
                                exact ⟨by first | rfl | (simp [errW_none, errW_some] <;> rfl) | (simp only [← hji7]; first | rfl | (simp [errW_none, errW_some] <;> rfl)) | (simp [*, errW_none, errW_some] <;> rfl), by repeat (first | (with_reducible first | exact HB.out | apply below_alloc | apply pw_below_drewN | apply below_drew1 | refine below_set ?_ GE125.out) | exact HB.out)⟩
                              · replace c63 := Bool.eq_false_iff.mpr c63
                                subst c63
                                have H1 : (hatstandlaw6_LayoutApart.l3 kj43 y126 x10_3 0 t121 t122 t123 t124) = some r := by rw [if_neg (show ¬ (false = true) by decide)] at H; exact H
                                clear H
                                have H := H1
                                clear H1
                                have H' := Aside0.mk H
                                clear H
                                go_wp2
                                go_loopg [14] kj43 (fun kq v14 w' => ∃ (x9_5 : List Int) (x14_5 : Int), v14 = .int .i64 x14_5 ∧ Aside0 (hatstandlaw6_LayoutApart.l3 kq x9_5 x10_3 x14_5 t121 t122 t123 t124 = some r) ∧ Aside0 (kq ≤ kj43) ∧ Aside0 (Kd.R (Kd.int .i64) 3 w' w.heap.size (fun k_ => some k_ ≠ (u10 : Value).ownBlock) v127 x9_5) ∧ Aside0 (Kd.R (Kd.int .i64) 3 w' w.heap.size (fun k_ => some k_ ≠ (v127 : Value).ownBlock) u10 x10_3) ∧ Aside0 (w'.heap[gb125]? = some (.cells #[.int .i64 t121, .int .i64 t122, .int .i64 t123, .int .u32 t124] 25 (0, 0))) ∧ Aside0 (Below w.heap.size w w'))
                                case atStart => exact ⟨(y126), (0), (by first | rfl | (simp; done) | (simp [*]; done)), H', ⟨Nat.le_refl _⟩, ⟨by (with_reducible repeat (first | apply Kd.R_alloc | apply Kd.R_drewN | apply Kd.R_drew)); exact HO_9.out⟩, ⟨by (with_reducible repeat (first | apply Kd.R_alloc | apply Kd.R_drewN | apply Kd.R_drew)); exact HO_10.out⟩, ⟨by (with_reducible repeat (first | refine blk_drewN ?_ _ | refine blk_drew ?_ | refine blk_alloc ?_ _)); exact BK125.out⟩, ⟨by repeat (first | (with_reducible first | exact HB.out | apply below_alloc | apply pw_below_drewN | apply below_drew1 | refine below_set ?_ GE125.out) | exact HB.out)⟩⟩
                                case round =>
                                  clear H'
                                  try clear c1
                                  try clear c2
                                  try clear p2
                                  try clear c3
                                  try clear c4
                                  try clear c5
                                  try clear c6
                                  try clear p6
                                  try clear c8
                                  try clear c8b0
                                  try clear c8b1
                                  try clear c9
                                  try clear c9b0
                                  try clear c9b1
                                  try clear c12
                                  try clear c13
                                  try clear c14
                                  try clear c15
                                  try clear c16
                                  try clear c17
                                  try clear c18
                                  try clear c18b0
                                  try clear c21
                                  try clear c31
                                  try clear c31b0
                                  try clear c33
                                  try clear c38
                                  try clear c38b0
                                  try clear c40
                                  try clear c47
                                  try clear c47b0
                                  try clear c47b1
                                  try clear c48
                                  try clear c48b0
                                  try clear c48b1
                                  try clear c48b2
                                  try clear c63
                                  try clear hcz13_0
                                  try clear hcz13_1
                                  try clear hcz13_2
                                  try clear hcz13_3
                                  try clear hcz22_0
                                  try clear hcz22_1
                                  try clear hcz22_2
                                  try clear hcz22_3
                                  try clear hcz30_0
                                  try clear hcz30_1
                                  try clear hcz30_2
                                  try clear hcz30_3
                                  try clear hcz34_0
                                  try clear hcz34_1
                                  try clear hcz34_2
                                  try clear hcz34_3
                                  try clear hcz37_0
                                  try clear hcz37_1
                                  try clear hcz37_2
                                  try clear hcz37_3
                                  try clear hcz41_0
                                  try clear hcz41_1
                                  try clear hcz41_2
                                  try clear hcz41_3
                                  try clear hcz45_0
                                  try clear hcz45_1
                                  try clear hcz45_2
                                  try clear hcz45_3
                                  try clear hcz50_0
                                  try clear hcz50_1
                                  try clear hcz50_2
                                  try clear hcz50_3
                                  try clear hcz54_0
                                  try clear hcz54_1
                                  try clear hcz54_2
                                  try clear hcz54_3
                                  try clear hcz56_0
                                  try clear hcz56_1
                                  try clear hcz56_2
                                  try clear hcz56_3
                                  try clear hcz60_0
                                  try clear hcz60_1
                                  try clear hcz60_2
                                  try clear hcz60_3
                                  try clear hfz13_0
                                  try clear hfz13_1
                                  try clear hfz13_2
                                  try clear hfz13_3
                                  try clear hfz22_0
                                  try clear hfz22_1
                                  try clear hfz22_2
                                  try clear hfz22_3
                                  try clear hfz30_0
                                  try clear hfz30_1
                                  try clear hfz30_2
                                  try clear hfz30_3
                                  try clear hfz34_0
                                  try clear hfz34_1
                                  try clear hfz34_2
                                  try clear hfz34_3
                                  try clear hfz37_0
                                  try clear hfz37_1
                                  try clear hfz37_2
                                  try clear hfz37_3
                                  try clear hfz41_0
                                  try clear hfz41_1
                                  try clear hfz41_2
                                  try clear hfz41_3
                                  try clear hfz45_0
                                  try clear hfz45_1
                                  try clear hfz45_2
                                  try clear hfz45_3
                                  try clear hfz50_0
                                  try clear hfz50_1
                                  try clear hfz50_2
                                  try clear hfz50_3
                                  try clear hfz54_0
                                  try clear hfz54_1
                                  try clear hfz54_2
                                  try clear hfz54_3
                                  try clear hfz56_0
                                  try clear hfz56_1
                                  try clear hfz56_2
                                  try clear hfz56_3
                                  try clear hfz60_0
                                  try clear hfz60_1
                                  try clear hfz60_2
                                  try clear hfz60_3
                                  try clear p2
                                  try clear p6
                                  obtain ⟨x9_5, x14_5, rfl, HA, HK5, HO_9, HO_10, BK125, HB⟩ := hrel
                                  cases gk with
                                  | zero => exact absurd HA.out (by simp [hatstandlaw6_LayoutApart.l3])
                                  | succ k5 =>
                                    have H := HA.out
                                    clear HA
                                    simp only [hatstandlaw6_LayoutApart.l3] at H
                                    by_cases c64 : x14_5 < (x10_3.length : Int)
                                    · rw [if_pos c64] at H
                                      have c64b0 : decide (x14_5 < (x10_3.length : Int)) = true := decide_eq_true c64
                                      clear c64
                                      by_cases c65 : 0 ≤ x14_5
                                      · rw [if_pos c65] at H
                                        have c65b0 : decide (0 ≤ x14_5) = true := decide_eq_true c65
                                        clear c65
                                        by_cases c66 : (rd x10_3 x14_5) < 0
                                        · rw [if_pos c66] at H
                                          have c66b0 : decide ((rd x10_3 x14_5) < 0) = true := decide_eq_true c66
                                          clear c66
                                          obtain rfl := Option.some.inj H
                                          obtain ⟨Ao67, co67, eo67⟩ := Kd.R_slice HO_10.out
                                          subst eo67
                                          have p150 : 0 ≤ (x14_5 : Int) := of_decide_eq_true (by first | (with_reducible assumption) | assumption)
                                          have q150 : x14_5 < (x10_3.length : Int) := of_decide_eq_true (by first | (with_reducible assumption) | assumption)
                                          obtain ⟨ad150, e150, hx150_0⟩ := Kd.at_int (Kd.R_reads' HO_10.out).2.2 x14_5 p150 q150
                                          cases e150
                                          replace p150 := eq_true p150
                                          replace q150 := eq_true q150
                                          go_wp2
                                          go_ret
                                          exact ⟨by first | rfl | (simp [errW_none, errW_some] <;> rfl) | (simp only [← hji7]; first | rfl | (simp [errW_none, errW_some] <;> rfl)) | (simp [*, errW_none, errW_some] <;> rfl), by repeat (first | (with_reducible first | exact HB.out | apply below_alloc | apply pw_below_drewN | apply below_drew1 | refine below_set ?_ GE125.out) | exact HB.out)⟩
                                        · rw [if_neg c66] at H
                                          have c66b0 : decide ((rd x10_3 x14_5) < 0) = false := decide_eq_false c66
                                          clear c66
                                          by_cases c68 : (rd x10_3 x14_5) ≥ (x9_5.length : Int)
                                          · rw [if_pos c68] at H
                                            have c68b0 : decide ((x9_5.length : Int) ≤ (rd x10_3 x14_5)) = true := decide_eq_true c68
                                            clear c68
                                            obtain rfl := Option.some.inj H
                                            obtain ⟨Ao69, co69, eo69⟩ := Kd.R_slice HO_10.out
                                            subst eo69
                                            have p150 : 0 ≤ (x14_5 : Int) := of_decide_eq_true (by first | (with_reducible assumption) | assumption)
                                            have q150 : x14_5 < (x10_3.length : Int) := of_decide_eq_true (by first | (with_reducible assumption) | assumption)
                                            obtain ⟨ad150, e150, hx150_0⟩ := Kd.at_int (Kd.R_reads' HO_10.out).2.2 x14_5 p150 q150
                                            cases e150
                                            replace p150 := eq_true p150
                                            replace q150 := eq_true q150
                                            have p151 : 0 ≤ (x14_5 : Int) := of_decide_eq_true (by first | (with_reducible assumption) | assumption)
                                            have q151 : x14_5 < (x10_3.length : Int) := of_decide_eq_true (by first | (with_reducible assumption) | assumption)
                                            obtain ⟨ad151, e151, hx151_0⟩ := Kd.at_int (Kd.R_reads' HO_10.out).2.2 x14_5 p151 q151
                                            obtain rfl : ad150 = ad151 := (by injection e151)
                                            replace p151 := eq_true p151
                                            replace q151 := eq_true q151
                                            obtain ⟨Ao70, co70, eo70⟩ := Kd.R_slice HO_9.out
                                            subst eo70
                                            go_wp2
                                            go_ret
                                            exact ⟨by first | rfl | (simp [errW_none, errW_some] <;> rfl) | (simp only [← hji7]; first | rfl | (simp [errW_none, errW_some] <;> rfl)) | (simp [*, errW_none, errW_some] <;> rfl), by repeat (first | (with_reducible first | exact HB.out | apply below_alloc | apply pw_below_drewN | apply below_drew1 | refine below_set ?_ GE125.out) | exact HB.out)⟩
                                          · rw [if_neg c68] at H
                                            have c68b0 : decide ((x9_5.length : Int) ≤ (rd x10_3 x14_5)) = false := decide_eq_false c68
                                            clear c68
                                            by_cases c71 : 0 ≤ (rd x10_3 x14_5)
                                            · rw [if_pos c71] at H
                                              have c71b0 : decide (0 ≤ (rd x10_3 x14_5)) = true := decide_eq_true c71
                                              clear c71
                                              by_cases c72 : (rd x10_3 x14_5) < (x9_5.length : Int)
                                              · rw [if_pos c72] at H
                                                have c72b0 : decide ((rd x10_3 x14_5) < (x9_5.length : Int)) = true := decide_eq_true c72
                                                clear c72
                                                obtain ⟨y154, hy154⟩ : ∃ y_ : List Int, y_ = (x9_5.set ((rd x10_3 x14_5) : Int).toNat (wrap64 ((rd x9_5 (rd x10_3 x14_5)) + 1))) := ⟨_, rfl⟩
                                                replace H : (hatstandlaw6_LayoutApart.l3 k5 y154 x10_3 (wrap64 (x14_5 + 1)) t121 t122 t123 t124) = some r := by first | (rw [hy154]; with_reducible exact H) | (have H2_ := (Option.bind_some _ _).symm.trans H; rw [hy154]; with_reducible exact H2_) | (have H2_ := (Option.bind_some _ _).symm.trans H; with_reducible exact H2_) | with_reducible exact H | (rw [hy154]; exact H) | exact H
                                                have Ny154 := Aside0.mk hy154
                                                clear hy154
                                                have H' := Aside0.mk H
                                                clear H
                                                obtain ⟨Ao74, co74, eo74⟩ := Kd.R_slice HO_10.out
                                                subst eo74
                                                have p150 : 0 ≤ (x14_5 : Int) := of_decide_eq_true (by first | (with_reducible assumption) | assumption)
                                                have q150 : x14_5 < (x10_3.length : Int) := of_decide_eq_true (by first | (with_reducible assumption) | assumption)
                                                obtain ⟨ad150, e150, hx150_0⟩ := Kd.at_int (Kd.R_reads' HO_10.out).2.2 x14_5 p150 q150
                                                cases e150
                                                replace p150 := eq_true p150
                                                replace q150 := eq_true q150
                                                have p151 : 0 ≤ (x14_5 : Int) := of_decide_eq_true (by first | (with_reducible assumption) | assumption)
                                                have q151 : x14_5 < (x10_3.length : Int) := of_decide_eq_true (by first | (with_reducible assumption) | assumption)
                                                obtain ⟨ad151, e151, hx151_0⟩ := Kd.at_int (Kd.R_reads' HO_10.out).2.2 x14_5 p151 q151
                                                obtain rfl : ad150 = ad151 := (by injection e151)
                                                replace p151 := eq_true p151
                                                replace q151 := eq_true q151
                                                obtain ⟨Ao75, co75, eo75⟩ := Kd.R_slice HO_9.out
                                                subst eo75
                                                have p152 : 0 ≤ (x14_5 : Int) := of_decide_eq_true (by first | (with_reducible assumption) | assumption)
                                                have q152 : x14_5 < (x10_3.length : Int) := of_decide_eq_true (by first | (with_reducible assumption) | assumption)
                                                obtain ⟨ad152, e152, hx152_0⟩ := Kd.at_int (Kd.R_reads' HO_10.out).2.2 x14_5 p152 q152
                                                obtain rfl : ad150 = ad152 := (by injection e152)
                                                replace p152 := eq_true p152
                                                replace q152 := eq_true q152
                                                have p153 : 0 ≤ ((rd x10_3 x14_5) : Int) := of_decide_eq_true (by first | (with_reducible assumption) | assumption)
                                                have q153 : (rd x10_3 x14_5) < (x9_5.length : Int) := of_decide_eq_true (by first | (with_reducible assumption) | assumption)
                                                obtain ⟨ad153, e153, hx153_0⟩ := Kd.at_int (Kd.R_reads' HO_9.out).2.2 (rd x10_3 x14_5) p153 q153
                                                cases e153
                                                replace p153 := eq_true p153
                                                replace q153 := eq_true q153
                                                have p73 : 0 ≤ ((rd x10_3 x14_5) : Int) := of_decide_eq_true (by first | (with_reducible assumption) | assumption)
                                                have q73 : ((rd x10_3 x14_5) : Int) < ((x9_5.length : Int) : Int) := of_decide_eq_true (by first | (with_reducible assumption) | assumption)
                                                obtain ⟨go73, co73, eo73, gb73, gl73, cl73, HG73⟩ := Kd.R_form HO_9.out (by omega)
                                                (first | cases eo73 | (injection eo73 with ea_ en_ ec_; (first | subst ea_ | (injection ea_ with ea_; subst ea_)); subst ec_; clear en_))
                                                have GB73 := Aside0.mk gb73
                                                have GG73 := Aside0.mk HG73
                                                clear gb73 gl73 HG73
                                                (first | simp only [add_plain] at hx153_0 | skip)
                                                obtain ⟨hx73_0, hf73_0⟩ := Kd.R_celln 0 HO_9.out ((rd x10_3 x14_5) : Int) p73 q73
                                                replace p73 := eq_true p73
                                                replace q73 := eq_true q73
                                                have HP76 := Kd.R_putg HO_9.out ((rd x10_3 x14_5) : Int) (wrap64 ((rd x9_5 (rd x10_3 x14_5)) + 1))
                                                go_wp2_with (first | ((with_reducible refine gate_store (t := 3) (p := 120) rfl ?_); refine store_event (t := 3) (p := 120) (v := ?vo_w77) (w1 := (wr.setCell ⟨go73, ((rd x10_3 x14_5) : Int).toNat, none⟩ (.int .i64 (wrap64 ((rd x9_5 (rd x10_3 x14_5)) + 1))))) ?hg ?ho ?hn ?hr ?_; (case ho => rfl); (case hg => rfl); (case hn => rfl); (case hr => first | (go_simp; done) | (go_simp; rfl)); intro w77 hw; have hg : wr.grownBy w77 (some go73) := (by rw [hw]; exact HP76.2); have hp_ : Kd.R (Kd.int .i64) 3 w77 w.heap.size (fun k_ => some k_ ≠ (.slice (some ad150) x10_3.length co74 : Value).ownBlock) (.slice (some ⟨go73, 0, none⟩) x9_5.length co75) y154 := (by rw [hw, Ny154.out]; exact HP76.1); clear HP76; have n0_ := Aside0.mk (hp_); have n1_ := Aside0.mk (Kd.R_after (v := (.slice (some ⟨go73, 0, none⟩) x9_5.length co75)) (v1 := (.slice (some ⟨go73, 0, none⟩) x9_5.length co75)) (ok := (fun _ => True)) (by (with_reducible repeat (first | apply Kd.R_alloc | apply Kd.R_drewN | apply Kd.R_drew)); exact Kd.R_mono HO_10.out (fun _ hk => ⟨trivial, hk⟩)) hg (.inl rfl)); have n2_ := Aside0.mk (blk_grown (g := gb125) (o := .cells #[.int .i64 t121, .int .i64 t122, .int .i64 t123, .int .u32 t124] 25 (0, 0)) (by (with_reducible repeat (first | refine blk_drewN ?_ _ | refine blk_drew ?_ | refine blk_alloc ?_ _)); exact BK125.out) hg (Kd.R_ne HO_9.out BK125.out (by decide))); have n3_ := Aside0.mk ((by rw [hw]; exact below_set (HB.out) GB73.out : Below w.heap.size w w77)); clear HO_9; clear HO_10; clear BK125; clear HB; have HO_9 := n0_; have HO_10 := n1_; have BK125 := n2_; have HB := n3_; clear n0_ n1_ n2_ n3_; clear hg hw hp_))
                                                go_roundg k5
                                                case measure => have := HK1.out; have := HK2.out; have := HK3.out; have := HJ43.out; have := HK5.out; omega
                                                case rel => exact ⟨(y154), (wrap64 (x14_5 + 1)), (by first | rfl | (simp; done) | (simp [*]; done)), H', ⟨by have := HK1.out; have := HK2.out; have := HK3.out; have := HJ43.out; have := HK5.out; omega⟩, ⟨by (with_reducible repeat (first | apply Kd.R_alloc | apply Kd.R_drewN | apply Kd.R_drew)); exact HO_9.out⟩, ⟨by (with_reducible repeat (first | apply Kd.R_alloc | apply Kd.R_drewN | apply Kd.R_drew)); exact Kd.R_mono HO_10.out (fun _ hk => hk.2)⟩, ⟨by (with_reducible repeat (first | refine blk_drewN ?_ _ | refine blk_drew ?_ | refine blk_alloc ?_ _)); exact BK125.out⟩, ⟨by repeat (first | (with_reducible first | exact HB.out | apply below_alloc | apply pw_below_drewN | apply below_drew1 | refine below_set ?_ GE125.out) | exact HB.out)⟩⟩
                                              · rw [if_neg c72] at H
                                                exact absurd H (by simp)
                                            · rw [if_neg c71] at H
                                              exact absurd H (by simp)
                                      · rw [if_neg c65] at H
                                        exact absurd H (by simp)
                                    · rw [if_neg c64] at H
                                      have c64b0 : decide (x14_5 < (x10_3.length : Int)) = false := decide_eq_false c64
                                      clear c64
                                      have H' := Aside0.mk H
                                      clear H
                                      obtain ⟨Ao78, co78, eo78⟩ := Kd.R_slice HO_10.out
                                      subst eo78
                                      go_wp2
                                      go_loopg [15] k5 (fun kq v15 w' => ∃ (x15_6 : Int), v15 = .int .i64 x15_6 ∧ Aside0 (hatstandlaw6_LayoutApart.l4 kq x9_5 x15_6 t121 t122 t123 t124 = some r) ∧ Aside0 (kq ≤ k5) ∧ Aside0 (Kd.R (Kd.int .i64) 3 w' w.heap.size (fun _ => True) v127 x9_5) ∧ Aside0 (w'.heap[gb125]? = some (.cells #[.int .i64 t121, .int .i64 t122, .int .i64 t123, .int .u32 t124] 25 (0, 0))) ∧ Aside0 (Below w.heap.size w w'))
                                      case atStart => exact ⟨(0), (by first | rfl | (simp; done) | (simp [*]; done)), H', ⟨Nat.le_refl _⟩, ⟨by (with_reducible repeat (first | apply Kd.R_alloc | apply Kd.R_drewN | apply Kd.R_drew)); exact Kd.R_mono HO_9.out (fun _ hk => trivial)⟩, ⟨by (with_reducible repeat (first | refine blk_drewN ?_ _ | refine blk_drew ?_ | refine blk_alloc ?_ _)); exact BK125.out⟩, ⟨by repeat (first | (with_reducible first | exact HB.out | apply below_alloc | apply pw_below_drewN | apply below_drew1 | refine below_set ?_ GE125.out) | exact HB.out)⟩⟩
                                      case round =>
                                        clear H'
                                        try clear c1
                                        try clear p1
                                        try clear q1
                                        try clear hx1
                                        try clear c2
                                        try clear p2
                                        try clear c3
                                        try clear c4
                                        try clear c5
                                        try clear c6
                                        try clear p6
                                        try clear c7
                                        try clear p7
                                        try clear q7
                                        try clear hx7
                                        try clear hf7
                                        try clear c8
                                        try clear c8b0
                                        try clear c8b1
                                        try clear c9
                                        try clear c9b0
                                        try clear c9b1
                                        try clear c12
                                        try clear c13
                                        try clear c14
                                        try clear c15
                                        try clear p15
                                        try clear q15
                                        try clear hx15
                                        try clear c16
                                        try clear c17
                                        try clear c18
                                        try clear c18b0
                                        try clear c21
                                        try clear c31
                                        try clear c31b0
                                        try clear c33
                                        try clear c38
                                        try clear c38b0
                                        try clear c40
                                        try clear c47
                                        try clear c47b0
                                        try clear c47b1
                                        try clear c48
                                        try clear c48b0
                                        try clear c48b1
                                        try clear c48b2
                                        try clear c63
                                        try clear c64
                                        try clear c64b0
                                        try clear p64
                                        try clear c65
                                        try clear c65b0
                                        try clear c66
                                        try clear c66b0
                                        try clear c68
                                        try clear c68b0
                                        try clear c71
                                        try clear c71b0
                                        try clear c72
                                        try clear c72b0
                                        try clear p73
                                        try clear q73
                                        try clear hx73
                                        try clear hf73
                                        try clear hcz13_0
                                        try clear hcz13_1
                                        try clear hcz13_2
                                        try clear hcz13_3
                                        try clear hcz22_0
                                        try clear hcz22_1
                                        try clear hcz22_2
                                        try clear hcz22_3
                                        try clear hcz30_0
                                        try clear hcz30_1
                                        try clear hcz30_2
                                        try clear hcz30_3
                                        try clear hcz34_0
                                        try clear hcz34_1
                                        try clear hcz34_2
                                        try clear hcz34_3
                                        try clear hcz37_0
                                        try clear hcz37_1
                                        try clear hcz37_2
                                        try clear hcz37_3
                                        try clear hcz41_0
                                        try clear hcz41_1
                                        try clear hcz41_2
                                        try clear hcz41_3
                                        try clear hcz45_0
                                        try clear hcz45_1
                                        try clear hcz45_2
                                        try clear hcz45_3
                                        try clear hcz50_0
                                        try clear hcz50_1
                                        try clear hcz50_2
                                        try clear hcz50_3
                                        try clear hcz54_0
                                        try clear hcz54_1
                                        try clear hcz54_2
                                        try clear hcz54_3
                                        try clear hcz56_0
                                        try clear hcz56_1
                                        try clear hcz56_2
                                        try clear hcz56_3
                                        try clear hcz60_0
                                        try clear hcz60_1
                                        try clear hcz60_2
                                        try clear hcz60_3
                                        try clear hfz13_0
                                        try clear hfz13_1
                                        try clear hfz13_2
                                        try clear hfz13_3
                                        try clear hfz22_0
                                        try clear hfz22_1
                                        try clear hfz22_2
                                        try clear hfz22_3
                                        try clear hfz30_0
                                        try clear hfz30_1
                                        try clear hfz30_2
                                        try clear hfz30_3
                                        try clear hfz34_0
                                        try clear hfz34_1
                                        try clear hfz34_2
                                        try clear hfz34_3
                                        try clear hfz37_0
                                        try clear hfz37_1
                                        try clear hfz37_2
                                        try clear hfz37_3
                                        try clear hfz41_0
                                        try clear hfz41_1
                                        try clear hfz41_2
                                        try clear hfz41_3
                                        try clear hfz45_0
                                        try clear hfz45_1
                                        try clear hfz45_2
                                        try clear hfz45_3
                                        try clear hfz50_0
                                        try clear hfz50_1
                                        try clear hfz50_2
                                        try clear hfz50_3
                                        try clear hfz54_0
                                        try clear hfz54_1
                                        try clear hfz54_2
                                        try clear hfz54_3
                                        try clear hfz56_0
                                        try clear hfz56_1
                                        try clear hfz56_2
                                        try clear hfz56_3
                                        try clear hfz60_0
                                        try clear hfz60_1
                                        try clear hfz60_2
                                        try clear hfz60_3
                                        try clear hx150_0
                                        try clear hx151_0
                                        try clear hx152_0
                                        try clear hx153_0
                                        try clear hx73_0
                                        try clear p150
                                        try clear p151
                                        try clear p152
                                        try clear p153
                                        try clear p2
                                        try clear p6
                                        try clear p73
                                        try clear q150
                                        try clear q151
                                        try clear q152
                                        try clear q153
                                        try clear q73
                                        obtain ⟨x15_6, rfl, HA, HK6, HO_9, BK125, HB⟩ := hrel
                                        cases gk with
                                        | zero => exact absurd HA.out (by simp [hatstandlaw6_LayoutApart.l4])
                                        | succ k6 =>
                                          have H := HA.out
                                          clear HA
                                          simp only [hatstandlaw6_LayoutApart.l4] at H
                                          by_cases c79 : x15_6 < (x9_5.length : Int)
                                          · rw [if_pos c79] at H
                                            have c79b0 : decide (x15_6 < (x9_5.length : Int)) = true := decide_eq_true c79
                                            clear c79
                                            by_cases c80 : 0 ≤ x15_6
                                            · rw [if_pos c80] at H
                                              have c80b0 : decide (0 ≤ x15_6) = true := decide_eq_true c80
                                              clear c80
                                              by_cases c81 : (rd x9_5 x15_6) = 1
                                              · rw [if_pos c81] at H
                                                have c81b0 : ((rd x9_5 x15_6) == 1) = true := beq_iff_eq.mpr c81
                                                have c81b1 : ((rd x9_5 x15_6) != 1) = false := bne_eq_false_iff_eq.mpr c81
                                                clear c81
                                                have H' := Aside0.mk H
                                                clear H
                                                obtain ⟨Ao82, co82, eo82⟩ := Kd.R_slice HO_9.out
                                                subst eo82
                                                have p155 : 0 ≤ (x15_6 : Int) := of_decide_eq_true (by first | (with_reducible assumption) | assumption)
                                                have q155 : x15_6 < (x9_5.length : Int) := of_decide_eq_true (by first | (with_reducible assumption) | assumption)
                                                obtain ⟨ad155, e155, hx155_0⟩ := Kd.at_int (Kd.R_reads' HO_9.out).2.2 x15_6 p155 q155
                                                cases e155
                                                replace p155 := eq_true p155
                                                replace q155 := eq_true q155
                                                go_wp2
                                                go_roundg k6
                                                case measure => have := HK1.out; have := HK2.out; have := HK3.out; have := HJ43.out; have := HK5.out; have := HK6.out; omega
                                                case rel => exact ⟨(wrap64 (x15_6 + 1)), (by first | rfl | (simp; done) | (simp [*]; done)), H', ⟨by have := HK1.out; have := HK2.out; have := HK3.out; have := HJ43.out; have := HK5.out; have := HK6.out; omega⟩, ⟨by (with_reducible repeat (first | apply Kd.R_alloc | apply Kd.R_drewN | apply Kd.R_drew)); exact HO_9.out⟩, ⟨by (with_reducible repeat (first | refine blk_drewN ?_ _ | refine blk_drew ?_ | refine blk_alloc ?_ _)); exact BK125.out⟩, ⟨by repeat (first | (with_reducible first | exact HB.out | apply below_alloc | apply pw_below_drewN | apply below_drew1 | refine below_set ?_ GE125.out) | exact HB.out)⟩⟩
                                              · rw [if_neg c81] at H
                                                have c81b0 : ((rd x9_5 x15_6) == 1) = false := beq_eq_false_iff_ne.mpr c81
                                                have c81b1 : ((rd x9_5 x15_6) != 1) = true := bne_iff_ne.mpr c81
                                                obtain rfl := Option.some.inj H
                                                obtain ⟨Ao83, co83, eo83⟩ := Kd.R_slice HO_9.out
                                                subst eo83
                                                have p155 : 0 ≤ (x15_6 : Int) := of_decide_eq_true (by first | (with_reducible assumption) | assumption)
                                                have q155 : x15_6 < (x9_5.length : Int) := of_decide_eq_true (by first | (with_reducible assumption) | assumption)
                                                obtain ⟨ad155, e155, hx155_0⟩ := Kd.at_int (Kd.R_reads' HO_9.out).2.2 x15_6 p155 q155
                                                cases e155
                                                replace p155 := eq_true p155
                                                replace q155 := eq_true q155
                                                go_wp2
                                                go_ret
                                                exact ⟨by first | rfl | (simp [errW_none, errW_some] <;> rfl) | (simp only [← hji7]; first | rfl | (simp [errW_none, errW_some] <;> rfl)) | (simp [*, errW_none, errW_some] <;> rfl), by repeat (first | (with_reducible first | exact HB.out | apply below_alloc | apply pw_below_drewN | apply below_drew1 | refine below_set ?_ GE125.out) | exact HB.out)⟩
                                            · rw [if_neg c80] at H
                                              exact absurd H (by simp)
                                          · rw [if_neg c79] at H
                                            have c79b0 : decide (x15_6 < (x9_5.length : Int)) = false := decide_eq_false c79
                                            clear c79
                                            replace H := Option.bind_eq_some_iff.mp H
                                            obtain ⟨t156, A840, H⟩ := H
                                            replace H : (if t156 < 0 then ((layout_Config_Value.f t121 t122 t123 t124 0).bind fun t157 => (if t157 < 0 then ((layout_Config_Next.f t121 t122 t123 t124 ((((t121) % 4294967296) + 1) % 4294967296)).bind fun t158 => (if t158 < 0 then ((layout_Config_Slot.f t121 t122 t123 t124 t122).bind fun t159 => (if t159 < 0 then ((layout_Config_Slot.f t121 t122 t123 t124 (-1)).bind fun t160 => (if t160 < 0 then ((layout_Config_Holder.f t121 t122 t123 t124 t123).bind fun t161 => (some (decide (t161 < 0)))) else (some false))) else (some false))) else (some false))) else (some false))) else (some false)) = some r := H
                                            have A84 := Aside0.mk A840
                                            clear A840
                                            by_cases c85 : t156 < 0
                                            · rw [if_pos c85] at H
                                              have c85b0 : decide (t156 < 0) = true := decide_eq_true c85
                                              clear c85
                                              replace H := Option.bind_eq_some_iff.mp H
                                              obtain ⟨t157, A860, H⟩ := H
                                              replace H : (if t157 < 0 then ((layout_Config_Next.f t121 t122 t123 t124 ((((t121) % 4294967296) + 1) % 4294967296)).bind fun t158 => (if t158 < 0 then ((layout_Config_Slot.f t121 t122 t123 t124 t122).bind fun t159 => (if t159 < 0 then ((layout_Config_Slot.f t121 t122 t123 t124 (-1)).bind fun t160 => (if t160 < 0 then ((layout_Config_Holder.f t121 t122 t123 t124 t123).bind fun t161 => (some (decide (t161 < 0)))) else (some false))) else (some false))) else (some false))) else (some false)) = some r := H
                                              have A86 := Aside0.mk A860
                                              clear A860
                                              by_cases c87 : t157 < 0
                                              · rw [if_pos c87] at H
                                                have c87b0 : decide (t157 < 0) = true := decide_eq_true c87
                                                clear c87
                                                replace H := Option.bind_eq_some_iff.mp H
                                                obtain ⟨t158, A880, H⟩ := H
                                                replace H : (if t158 < 0 then ((layout_Config_Slot.f t121 t122 t123 t124 t122).bind fun t159 => (if t159 < 0 then ((layout_Config_Slot.f t121 t122 t123 t124 (-1)).bind fun t160 => (if t160 < 0 then ((layout_Config_Holder.f t121 t122 t123 t124 t123).bind fun t161 => (some (decide (t161 < 0)))) else (some false))) else (some false))) else (some false)) = some r := H
                                                have A88 := Aside0.mk A880
                                                clear A880
                                                by_cases c89 : t158 < 0
                                                · rw [if_pos c89] at H
                                                  have c89b0 : decide (t158 < 0) = true := decide_eq_true c89
                                                  clear c89
                                                  replace H := Option.bind_eq_some_iff.mp H
                                                  obtain ⟨t159, A900, H⟩ := H
                                                  replace H : (if t159 < 0 then ((layout_Config_Slot.f t121 t122 t123 t124 (-1)).bind fun t160 => (if t160 < 0 then ((layout_Config_Holder.f t121 t122 t123 t124 t123).bind fun t161 => (some (decide (t161 < 0)))) else (some false))) else (some false)) = some r := H
                                                  have A90 := Aside0.mk A900
                                                  clear A900
                                                  by_cases c91 : t159 < 0
                                                  · rw [if_pos c91] at H
                                                    have c91b0 : decide (t159 < 0) = true := decide_eq_true c91
                                                    clear c91
                                                    replace H := Option.bind_eq_some_iff.mp H
                                                    obtain ⟨t160, A920, H⟩ := H
                                                    replace H : (if t160 < 0 then ((layout_Config_Holder.f t121 t122 t123 t124 t123).bind fun t161 => (some (decide (t161 < 0)))) else (some false)) = some r := H
                                                    have A92 := Aside0.mk A920
                                                    clear A920
                                                    by_cases c93 : t160 < 0
                                                    · rw [if_pos c93] at H
                                                      have c93b0 : decide (t160 < 0) = true := decide_eq_true c93
                                                      clear c93
                                                      replace H := Option.bind_eq_some_iff.mp H
                                                      obtain ⟨t161, A940, H⟩ := H
                                                      replace H : (some (decide (t161 < 0))) = some r := H
                                                      have A94 := Aside0.mk A940
                                                      clear A940
                                                      obtain rfl := Option.some.inj H
                                                      obtain ⟨Ao95, co95, eo95⟩ := Kd.R_slice HO_9.out
                                                      subst eo95
                                                      have hcz96_0 : wr.cell? ⟨gb125, 0, none⟩ = some (.int .i64 t121) := (blk_cell BK125.out 0).trans rfl
                                                      have hcz96_1 : wr.cell? ⟨gb125, 1, none⟩ = some (.int .i64 t122) := (blk_cell BK125.out 1).trans rfl
                                                      have hcz96_2 : wr.cell? ⟨gb125, 2, none⟩ = some (.int .i64 t123) := (blk_cell BK125.out 2).trans rfl
                                                      have hcz96_3 : wr.cell? ⟨gb125, 3, none⟩ = some (.int .u32 t124) := (blk_cell BK125.out 3).trans rfl
                                                      have hfz96_0 := blk_frozen BK125.out 0
                                                      have hfz96_1 := blk_frozen BK125.out 1
                                                      have hfz96_2 := blk_frozen BK125.out 2
                                                      have hfz96_3 := blk_frozen BK125.out 3
                                                      go_wp2_with (first | ((with_reducible refine gate_callee (f := 14) rfl ?_); refine goesL_ (some 133) rfl rfl Try.func14 (by kernel_rfl) rfl #[.agg #[.int .i64 t121, .int .i64 t122, .int .i64 t123, .int .u32 t124], .int .u32 0] rfl (by (try simp only [List.map_toArray, List.map_cons, List.map_nil]); first | done | rfl | (simp only [List.length_drop, List.length_take]; rfl)) ?_; (with_reducible refine (layout_Config_Next.calls t121 t122 t123 t124 0 t156 _ A84.out).mono ?_); rintro e w97 ⟨rfl, hb⟩; refine ⟨_, rfl, ?_⟩; have n0_ := Aside0.mk (Kd.R_below (by (with_reducible repeat (first | apply Kd.R_alloc | apply Kd.R_drewN | apply Kd.R_drew)); exact HO_9.out) hb); have n1_ := Aside0.mk (blk_below (g := gb125) (o := .cells #[.int .i64 t121, .int .i64 t122, .int .i64 t123, .int .u32 t124] 25 (0, 0)) (by (with_reducible repeat (first | refine blk_drewN ?_ _ | refine blk_drew ?_ | refine blk_alloc ?_ _)); exact BK125.out) hb); have n2_ := Aside0.mk (below_step (by repeat (first | (with_reducible first | exact HB.out | apply below_alloc | apply pw_below_drewN | apply below_drew1 | refine below_set ?_ GE125.out) | exact HB.out)) hb); clear HO_9; clear BK125; clear HB; have HO_9 := n0_; have BK125 := n1_; have HB := n2_; clear n0_ n1_ n2_; (try clear hb); (try clear hb2); (try clear hk); (try clear hi); have hcz98_0 : w97.cell? ⟨gb125, 0, none⟩ = some (.int .i64 t121) := (blk_cell BK125.out 0).trans rfl; have hcz98_1 : w97.cell? ⟨gb125, 1, none⟩ = some (.int .i64 t122) := (blk_cell BK125.out 1).trans rfl; have hcz98_2 : w97.cell? ⟨gb125, 2, none⟩ = some (.int .i64 t123) := (blk_cell BK125.out 2).trans rfl; have hcz98_3 : w97.cell? ⟨gb125, 3, none⟩ = some (.int .u32 t124) := (blk_cell BK125.out 3).trans rfl; have hfz98_0 := blk_frozen BK125.out 0; have hfz98_1 := blk_frozen BK125.out 1; have hfz98_2 := blk_frozen BK125.out 2; have hfz98_3 := blk_frozen BK125.out 3) | (go_at_call 15; (with_reducible refine (layout_Config_Value.calls t121 t122 t123 t124 0 t157 _ A86.out).mono ?_); rintro e w99 ⟨rfl, hb⟩; have n0_ := Aside0.mk (Kd.R_below (by (with_reducible repeat (first | apply Kd.R_alloc | apply Kd.R_drewN | apply Kd.R_drew)); exact HO_9.out) hb); have n1_ := Aside0.mk (blk_below (g := gb125) (o := .cells #[.int .i64 t121, .int .i64 t122, .int .i64 t123, .int .u32 t124] 25 (0, 0)) (by (with_reducible repeat (first | refine blk_drewN ?_ _ | refine blk_drew ?_ | refine blk_alloc ?_ _)); exact BK125.out) hb); have n2_ := Aside0.mk (below_step (by repeat (first | (with_reducible first | exact HB.out | apply below_alloc | apply pw_below_drewN | apply below_drew1 | refine below_set ?_ GE125.out) | exact HB.out)) hb); clear HO_9; clear BK125; clear HB; have HO_9 := n0_; have BK125 := n1_; have HB := n2_; clear n0_ n1_ n2_; (try clear hb); (try clear hb2); (try clear hk); (try clear hi); have hcz100_0 : w99.cell? ⟨gb125, 0, none⟩ = some (.int .i64 t121) := (blk_cell BK125.out 0).trans rfl; have hcz100_1 : w99.cell? ⟨gb125, 1, none⟩ = some (.int .i64 t122) := (blk_cell BK125.out 1).trans rfl; have hcz100_2 : w99.cell? ⟨gb125, 2, none⟩ = some (.int .i64 t123) := (blk_cell BK125.out 2).trans rfl; have hcz100_3 : w99.cell? ⟨gb125, 3, none⟩ = some (.int .u32 t124) := (blk_cell BK125.out 3).trans rfl; have hfz100_0 := blk_frozen BK125.out 0; have hfz100_1 := blk_frozen BK125.out 1; have hfz100_2 := blk_frozen BK125.out 2; have hfz100_3 := blk_frozen BK125.out 3) | (go_at_call 14; (with_reducible refine (layout_Config_Next.calls t121 t122 t123 t124 ((t121 + 1) % 4294967296) t158 _ (by have z_ := A88.out; rwa [Int.emod_add_emod] at z_)).mono ?_); rintro e w101 ⟨rfl, hb⟩; have n0_ := Aside0.mk (Kd.R_below (by (with_reducible repeat (first | apply Kd.R_alloc | apply Kd.R_drewN | apply Kd.R_drew)); exact HO_9.out) hb); have n1_ := Aside0.mk (blk_below (g := gb125) (o := .cells #[.int .i64 t121, .int .i64 t122, .int .i64 t123, .int .u32 t124] 25 (0, 0)) (by (with_reducible repeat (first | refine blk_drewN ?_ _ | refine blk_drew ?_ | refine blk_alloc ?_ _)); exact BK125.out) hb); have n2_ := Aside0.mk (below_step (by repeat (first | (with_reducible first | exact HB.out | apply below_alloc | apply pw_below_drewN | apply below_drew1 | refine below_set ?_ GE125.out) | exact HB.out)) hb); clear HO_9; clear BK125; clear HB; have HO_9 := n0_; have BK125 := n1_; have HB := n2_; clear n0_ n1_ n2_; (try clear hb); (try clear hb2); (try clear hk); (try clear hi); have hcz102_0 : w101.cell? ⟨gb125, 0, none⟩ = some (.int .i64 t121) := (blk_cell BK125.out 0).trans rfl; have hcz102_1 : w101.cell? ⟨gb125, 1, none⟩ = some (.int .i64 t122) := (blk_cell BK125.out 1).trans rfl; have hcz102_2 : w101.cell? ⟨gb125, 2, none⟩ = some (.int .i64 t123) := (blk_cell BK125.out 2).trans rfl; have hcz102_3 : w101.cell? ⟨gb125, 3, none⟩ = some (.int .u32 t124) := (blk_cell BK125.out 3).trans rfl; have hfz102_0 := blk_frozen BK125.out 0; have hfz102_1 := blk_frozen BK125.out 1; have hfz102_2 := blk_frozen BK125.out 2; have hfz102_3 := blk_frozen BK125.out 3) | (go_at_call 16; (with_reducible refine (layout_Config_Slot.calls t121 t122 t123 t124 t122 t159 _ A90.out).mono ?_); rintro e w103 ⟨rfl, hb⟩; have n0_ := Aside0.mk (Kd.R_below (by (with_reducible repeat (first | apply Kd.R_alloc | apply Kd.R_drewN | apply Kd.R_drew)); exact HO_9.out) hb); have n1_ := Aside0.mk (blk_below (g := gb125) (o := .cells #[.int .i64 t121, .int .i64 t122, .int .i64 t123, .int .u32 t124] 25 (0, 0)) (by (with_reducible repeat (first | refine blk_drewN ?_ _ | refine blk_drew ?_ | refine blk_alloc ?_ _)); exact BK125.out) hb); have n2_ := Aside0.mk (below_step (by repeat (first | (with_reducible first | exact HB.out | apply below_alloc | apply pw_below_drewN | apply below_drew1 | refine below_set ?_ GE125.out) | exact HB.out)) hb); clear HO_9; clear BK125; clear HB; have HO_9 := n0_; have BK125 := n1_; have HB := n2_; clear n0_ n1_ n2_; (try clear hb); (try clear hb2); (try clear hk); (try clear hi); have hcz104_0 : w103.cell? ⟨gb125, 0, none⟩ = some (.int .i64 t121) := (blk_cell BK125.out 0).trans rfl; have hcz104_1 : w103.cell? ⟨gb125, 1, none⟩ = some (.int .i64 t122) := (blk_cell BK125.out 1).trans rfl; have hcz104_2 : w103.cell? ⟨gb125, 2, none⟩ = some (.int .i64 t123) := (blk_cell BK125.out 2).trans rfl; have hcz104_3 : w103.cell? ⟨gb125, 3, none⟩ = some (.int .u32 t124) := (blk_cell BK125.out 3).trans rfl; have hfz104_0 := blk_frozen BK125.out 0; have hfz104_1 := blk_frozen BK125.out 1; have hfz104_2 := blk_frozen BK125.out 2; have hfz104_3 := blk_frozen BK125.out 3) | (go_at_call 16; (with_reducible refine (layout_Config_Slot.calls t121 t122 t123 t124 (-1) t160 _ A92.out).mono ?_); rintro e w105 ⟨rfl, hb⟩; have n0_ := Aside0.mk (Kd.R_below (by (with_reducible repeat (first | apply Kd.R_alloc | apply Kd.R_drewN | apply Kd.R_drew)); exact HO_9.out) hb); have n1_ := Aside0.mk (blk_below (g := gb125) (o := .cells #[.int .i64 t121, .int .i64 t122, .int .i64 t123, .int .u32 t124] 25 (0, 0)) (by (with_reducible repeat (first | refine blk_drewN ?_ _ | refine blk_drew ?_ | refine blk_alloc ?_ _)); exact BK125.out) hb); have n2_ := Aside0.mk (below_step (by repeat (first | (with_reducible first | exact HB.out | apply below_alloc | apply pw_below_drewN | apply below_drew1 | refine below_set ?_ GE125.out) | exact HB.out)) hb); clear HO_9; clear BK125; clear HB; have HO_9 := n0_; have BK125 := n1_; have HB := n2_; clear n0_ n1_ n2_; (try clear hb); (try clear hb2); (try clear hk); (try clear hi); have hcz106_0 : w105.cell? ⟨gb125, 0, none⟩ = some (.int .i64 t121) := (blk_cell BK125.out 0).trans rfl; have hcz106_1 : w105.cell? ⟨gb125, 1, none⟩ = some (.int .i64 t122) := (blk_cell BK125.out 1).trans rfl; have hcz106_2 : w105.cell? ⟨gb125, 2, none⟩ = some (.int .i64 t123) := (blk_cell BK125.out 2).trans rfl; have hcz106_3 : w105.cell? ⟨gb125, 3, none⟩ = some (.int .u32 t124) := (blk_cell BK125.out 3).trans rfl; have hfz106_0 := blk_frozen BK125.out 0; have hfz106_1 := blk_frozen BK125.out 1; have hfz106_2 := blk_frozen BK125.out 2; have hfz106_3 := blk_frozen BK125.out 3) | (go_at_call 17; (with_reducible refine (layout_Config_Holder.calls t121 t122 t123 t124 t123 t161 _ A94.out).mono ?_); rintro e w107 ⟨rfl, hb⟩; have n0_ := Aside0.mk (Kd.R_below (by (with_reducible repeat (first | apply Kd.R_alloc | apply Kd.R_drewN | apply Kd.R_drew)); exact HO_9.out) hb); have n1_ := Aside0.mk (blk_below (g := gb125) (o := .cells #[.int .i64 t121, .int .i64 t122, .int .i64 t123, .int .u32 t124] 25 (0, 0)) (by (with_reducible repeat (first | refine blk_drewN ?_ _ | refine blk_drew ?_ | refine blk_alloc ?_ _)); exact BK125.out) hb); have n2_ := Aside0.mk (below_step (by repeat (first | (with_reducible first | exact HB.out | apply below_alloc | apply pw_below_drewN | apply below_drew1 | refine below_set ?_ GE125.out) | exact HB.out)) hb); clear HO_9; clear BK125; clear HB; have HO_9 := n0_; have BK125 := n1_; have HB := n2_; clear n0_ n1_ n2_; (try clear hb); (try clear hb2); (try clear hk); (try clear hi)))
                                                      go_ret
                                                      exact ⟨by first | rfl | (simp [errW_none, errW_some] <;> rfl) | (simp only [← hji7]; first | rfl | (simp [errW_none, errW_some] <;> rfl)) | (simp [*, errW_none, errW_some] <;> rfl), by repeat (first | (with_reducible first | exact HB.out | apply below_alloc | apply pw_below_drewN | apply below_drew1 | refine below_set ?_ GE125.out) | exact HB.out)⟩
                                                    · rw [if_neg c93] at H
                                                      have c93b0 : decide (t160 < 0) = false := decide_eq_false c93
                                                      clear c93
                                                      obtain rfl := Option.some.inj H
                                                      obtain ⟨Ao108, co108, eo108⟩ := Kd.R_slice HO_9.out
                                                      subst eo108
                                                      have hcz109_0 : wr.cell? ⟨gb125, 0, none⟩ = some (.int .i64 t121) := (blk_cell BK125.out 0).trans rfl
                                                      have hcz109_1 : wr.cell? ⟨gb125, 1, none⟩ = some (.int .i64 t122) := (blk_cell BK125.out 1).trans rfl
                                                      have hcz109_2 : wr.cell? ⟨gb125, 2, none⟩ = some (.int .i64 t123) := (blk_cell BK125.out 2).trans rfl
                                                      have hcz109_3 : wr.cell? ⟨gb125, 3, none⟩ = some (.int .u32 t124) := (blk_cell BK125.out 3).trans rfl
                                                      have hfz109_0 := blk_frozen BK125.out 0
                                                      have hfz109_1 := blk_frozen BK125.out 1
                                                      have hfz109_2 := blk_frozen BK125.out 2
                                                      have hfz109_3 := blk_frozen BK125.out 3
                                                      go_wp2_with (first | ((with_reducible refine gate_callee (f := 14) rfl ?_); refine goesL_ (some 133) rfl rfl Try.func14 (by kernel_rfl) rfl #[.agg #[.int .i64 t121, .int .i64 t122, .int .i64 t123, .int .u32 t124], .int .u32 0] rfl (by (try simp only [List.map_toArray, List.map_cons, List.map_nil]); first | done | rfl | (simp only [List.length_drop, List.length_take]; rfl)) ?_; (with_reducible refine (layout_Config_Next.calls t121 t122 t123 t124 0 t156 _ A84.out).mono ?_); rintro e w110 ⟨rfl, hb⟩; refine ⟨_, rfl, ?_⟩; have n0_ := Aside0.mk (Kd.R_below (by (with_reducible repeat (first | apply Kd.R_alloc | apply Kd.R_drewN | apply Kd.R_drew)); exact HO_9.out) hb); have n1_ := Aside0.mk (blk_below (g := gb125) (o := .cells #[.int .i64 t121, .int .i64 t122, .int .i64 t123, .int .u32 t124] 25 (0, 0)) (by (with_reducible repeat (first | refine blk_drewN ?_ _ | refine blk_drew ?_ | refine blk_alloc ?_ _)); exact BK125.out) hb); have n2_ := Aside0.mk (below_step (by repeat (first | (with_reducible first | exact HB.out | apply below_alloc | apply pw_below_drewN | apply below_drew1 | refine below_set ?_ GE125.out) | exact HB.out)) hb); clear HO_9; clear BK125; clear HB; have HO_9 := n0_; have BK125 := n1_; have HB := n2_; clear n0_ n1_ n2_; (try clear hb); (try clear hb2); (try clear hk); (try clear hi); have hcz111_0 : w110.cell? ⟨gb125, 0, none⟩ = some (.int .i64 t121) := (blk_cell BK125.out 0).trans rfl; have hcz111_1 : w110.cell? ⟨gb125, 1, none⟩ = some (.int .i64 t122) := (blk_cell BK125.out 1).trans rfl; have hcz111_2 : w110.cell? ⟨gb125, 2, none⟩ = some (.int .i64 t123) := (blk_cell BK125.out 2).trans rfl; have hcz111_3 : w110.cell? ⟨gb125, 3, none⟩ = some (.int .u32 t124) := (blk_cell BK125.out 3).trans rfl; have hfz111_0 := blk_frozen BK125.out 0; have hfz111_1 := blk_frozen BK125.out 1; have hfz111_2 := blk_frozen BK125.out 2; have hfz111_3 := blk_frozen BK125.out 3) | (go_at_call 15; (with_reducible refine (layout_Config_Value.calls t121 t122 t123 t124 0 t157 _ A86.out).mono ?_); rintro e w112 ⟨rfl, hb⟩; have n0_ := Aside0.mk (Kd.R_below (by (with_reducible repeat (first | apply Kd.R_alloc | apply Kd.R_drewN | apply Kd.R_drew)); exact HO_9.out) hb); have n1_ := Aside0.mk (blk_below (g := gb125) (o := .cells #[.int .i64 t121, .int .i64 t122, .int .i64 t123, .int .u32 t124] 25 (0, 0)) (by (with_reducible repeat (first | refine blk_drewN ?_ _ | refine blk_drew ?_ | refine blk_alloc ?_ _)); exact BK125.out) hb); have n2_ := Aside0.mk (below_step (by repeat (first | (with_reducible first | exact HB.out | apply below_alloc | apply pw_below_drewN | apply below_drew1 | refine below_set ?_ GE125.out) | exact HB.out)) hb); clear HO_9; clear BK125; clear HB; have HO_9 := n0_; have BK125 := n1_; have HB := n2_; clear n0_ n1_ n2_; (try clear hb); (try clear hb2); (try clear hk); (try clear hi); have hcz113_0 : w112.cell? ⟨gb125, 0, none⟩ = some (.int .i64 t121) := (blk_cell BK125.out 0).trans rfl; have hcz113_1 : w112.cell? ⟨gb125, 1, none⟩ = some (.int .i64 t122) := (blk_cell BK125.out 1).trans rfl; have hcz113_2 : w112.cell? ⟨gb125, 2, none⟩ = some (.int .i64 t123) := (blk_cell BK125.out 2).trans rfl; have hcz113_3 : w112.cell? ⟨gb125, 3, none⟩ = some (.int .u32 t124) := (blk_cell BK125.out 3).trans rfl; have hfz113_0 := blk_frozen BK125.out 0; have hfz113_1 := blk_frozen BK125.out 1; have hfz113_2 := blk_frozen BK125.out 2; have hfz113_3 := blk_frozen BK125.out 3) | (go_at_call 14; (with_reducible refine (layout_Config_Next.calls t121 t122 t123 t124 ((t121 + 1) % 4294967296) t158 _ (by have z_ := A88.out; rwa [Int.emod_add_emod] at z_)).mono ?_); rintro e w114 ⟨rfl, hb⟩; have n0_ := Aside0.mk (Kd.R_below (by (with_reducible repeat (first | apply Kd.R_alloc | apply Kd.R_drewN | apply Kd.R_drew)); exact HO_9.out) hb); have n1_ := Aside0.mk (blk_below (g := gb125) (o := .cells #[.int .i64 t121, .int .i64 t122, .int .i64 t123, .int .u32 t124] 25 (0, 0)) (by (with_reducible repeat (first | refine blk_drewN ?_ _ | refine blk_drew ?_ | refine blk_alloc ?_ _)); exact BK125.out) hb); have n2_ := Aside0.mk (below_step (by repeat (first | (with_reducible first | exact HB.out | apply below_alloc | apply pw_below_drewN | apply below_drew1 | refine below_set ?_ GE125.out) | exact HB.out)) hb); clear HO_9; clear BK125; clear HB; have HO_9 := n0_; have BK125 := n1_; have HB := n2_; clear n0_ n1_ n2_; (try clear hb); (try clear hb2); (try clear hk); (try clear hi); have hcz115_0 : w114.cell? ⟨gb125, 0, none⟩ = some (.int .i64 t121) := (blk_cell BK125.out 0).trans rfl; have hcz115_1 : w114.cell? ⟨gb125, 1, none⟩ = some (.int .i64 t122) := (blk_cell BK125.out 1).trans rfl; have hcz115_2 : w114.cell? ⟨gb125, 2, none⟩ = some (.int .i64 t123) := (blk_cell BK125.out 2).trans rfl; have hcz115_3 : w114.cell? ⟨gb125, 3, none⟩ = some (.int .u32 t124) := (blk_cell BK125.out 3).trans rfl; have hfz115_0 := blk_frozen BK125.out 0; have hfz115_1 := blk_frozen BK125.out 1; have hfz115_2 := blk_frozen BK125.out 2; have hfz115_3 := blk_frozen BK125.out 3) | (go_at_call 16; (with_reducible refine (layout_Config_Slot.calls t121 t122 t123 t124 t122 t159 _ A90.out).mono ?_); rintro e w116 ⟨rfl, hb⟩; have n0_ := Aside0.mk (Kd.R_below (by (with_reducible repeat (first | apply Kd.R_alloc | apply Kd.R_drewN | apply Kd.R_drew)); exact HO_9.out) hb); have n1_ := Aside0.mk (blk_below (g := gb125) (o := .cells #[.int .i64 t121, .int .i64 t122, .int .i64 t123, .int .u32 t124] 25 (0, 0)) (by (with_reducible repeat (first | refine blk_drewN ?_ _ | refine blk_drew ?_ | refine blk_alloc ?_ _)); exact BK125.out) hb); have n2_ := Aside0.mk (below_step (by repeat (first | (with_reducible first | exact HB.out | apply below_alloc | apply pw_below_drewN | apply below_drew1 | refine below_set ?_ GE125.out) | exact HB.out)) hb); clear HO_9; clear BK125; clear HB; have HO_9 := n0_; have BK125 := n1_; have HB := n2_; clear n0_ n1_ n2_; (try clear hb); (try clear hb2); (try clear hk); (try clear hi); have hcz117_0 : w116.cell? ⟨gb125, 0, none⟩ = some (.int .i64 t121) := (blk_cell BK125.out 0).trans rfl; have hcz117_1 : w116.cell? ⟨gb125, 1, none⟩ = some (.int .i64 t122) := (blk_cell BK125.out 1).trans rfl; have hcz117_2 : w116.cell? ⟨gb125, 2, none⟩ = some (.int .i64 t123) := (blk_cell BK125.out 2).trans rfl; have hcz117_3 : w116.cell? ⟨gb125, 3, none⟩ = some (.int .u32 t124) := (blk_cell BK125.out 3).trans rfl; have hfz117_0 := blk_frozen BK125.out 0; have hfz117_1 := blk_frozen BK125.out 1; have hfz117_2 := blk_frozen BK125.out 2; have hfz117_3 := blk_frozen BK125.out 3) | (go_at_call 16; (with_reducible refine (layout_Config_Slot.calls t121 t122 t123 t124 (-1) t160 _ A92.out).mono ?_); rintro e w118 ⟨rfl, hb⟩; have n0_ := Aside0.mk (Kd.R_below (by (with_reducible repeat (first | apply Kd.R_alloc | apply Kd.R_drewN | apply Kd.R_drew)); exact HO_9.out) hb); have n1_ := Aside0.mk (blk_below (g := gb125) (o := .cells #[.int .i64 t121, .int .i64 t122, .int .i64 t123, .int .u32 t124] 25 (0, 0)) (by (with_reducible repeat (first | refine blk_drewN ?_ _ | refine blk_drew ?_ | refine blk_alloc ?_ _)); exact BK125.out) hb); have n2_ := Aside0.mk (below_step (by repeat (first | (with_reducible first | exact HB.out | apply below_alloc | apply pw_below_drewN | apply below_drew1 | refine below_set ?_ GE125.out) | exact HB.out)) hb); clear HO_9; clear BK125; clear HB; have HO_9 := n0_; have BK125 := n1_; have HB := n2_; clear n0_ n1_ n2_; (try clear hb); (try clear hb2); (try clear hk); (try clear hi)))
                                                      go_ret
                                                      exact ⟨by first | rfl | (simp [errW_none, errW_some] <;> rfl) | (simp only [← hji7]; first | rfl | (simp [errW_none, errW_some] <;> rfl)) | (simp [*, errW_none, errW_some] <;> rfl), by repeat (first | (with_reducible first | exact HB.out | apply below_alloc | apply pw_below_drewN | apply below_drew1 | refine below_set ?_ GE125.out) | exact HB.out)⟩
                                                  · rw [if_neg c91] at H
                                                    have c91b0 : decide (t159 < 0) = false := decide_eq_false c91
                                                    clear c91
                                                    obtain rfl := Option.some.inj H
                                                    obtain ⟨Ao119, co119, eo119⟩ := Kd.R_slice HO_9.out
                                                    subst eo119
                                                    have hcz120_0 : wr.cell? ⟨gb125, 0, none⟩ = some (.int .i64 t121) := (blk_cell BK125.out 0).trans rfl
                                                    have hcz120_1 : wr.cell? ⟨gb125, 1, none⟩ = some (.int .i64 t122) := (blk_cell BK125.out 1).trans rfl
                                                    have hcz120_2 : wr.cell? ⟨gb125, 2, none⟩ = some (.int .i64 t123) := (blk_cell BK125.out 2).trans rfl
                                                    have hcz120_3 : wr.cell? ⟨gb125, 3, none⟩ = some (.int .u32 t124) := (blk_cell BK125.out 3).trans rfl
                                                    have hfz120_0 := blk_frozen BK125.out 0
                                                    have hfz120_1 := blk_frozen BK125.out 1
                                                    have hfz120_2 := blk_frozen BK125.out 2
                                                    have hfz120_3 := blk_frozen BK125.out 3
                                                    go_wp2_with (first | ((with_reducible refine gate_callee (f := 14) rfl ?_); refine goesL_ (some 133) rfl rfl Try.func14 (by kernel_rfl) rfl #[.agg #[.int .i64 t121, .int .i64 t122, .int .i64 t123, .int .u32 t124], .int .u32 0] rfl (by (try simp only [List.map_toArray, List.map_cons, List.map_nil]); first | done | rfl | (simp only [List.length_drop, List.length_take]; rfl)) ?_; (with_reducible refine (layout_Config_Next.calls t121 t122 t123 t124 0 t156 _ A84.out).mono ?_); rintro e w121 ⟨rfl, hb⟩; refine ⟨_, rfl, ?_⟩; have n0_ := Aside0.mk (Kd.R_below (by (with_reducible repeat (first | apply Kd.R_alloc | apply Kd.R_drewN | apply Kd.R_drew)); exact HO_9.out) hb); have n1_ := Aside0.mk (blk_below (g := gb125) (o := .cells #[.int .i64 t121, .int .i64 t122, .int .i64 t123, .int .u32 t124] 25 (0, 0)) (by (with_reducible repeat (first | refine blk_drewN ?_ _ | refine blk_drew ?_ | refine blk_alloc ?_ _)); exact BK125.out) hb); have n2_ := Aside0.mk (below_step (by repeat (first | (with_reducible first | exact HB.out | apply below_alloc | apply pw_below_drewN | apply below_drew1 | refine below_set ?_ GE125.out) | exact HB.out)) hb); clear HO_9; clear BK125; clear HB; have HO_9 := n0_; have BK125 := n1_; have HB := n2_; clear n0_ n1_ n2_; (try clear hb); (try clear hb2); (try clear hk); (try clear hi); have hcz122_0 : w121.cell? ⟨gb125, 0, none⟩ = some (.int .i64 t121) := (blk_cell BK125.out 0).trans rfl; have hcz122_1 : w121.cell? ⟨gb125, 1, none⟩ = some (.int .i64 t122) := (blk_cell BK125.out 1).trans rfl; have hcz122_2 : w121.cell? ⟨gb125, 2, none⟩ = some (.int .i64 t123) := (blk_cell BK125.out 2).trans rfl; have hcz122_3 : w121.cell? ⟨gb125, 3, none⟩ = some (.int .u32 t124) := (blk_cell BK125.out 3).trans rfl; have hfz122_0 := blk_frozen BK125.out 0; have hfz122_1 := blk_frozen BK125.out 1; have hfz122_2 := blk_frozen BK125.out 2; have hfz122_3 := blk_frozen BK125.out 3) | (go_at_call 15; (with_reducible refine (layout_Config_Value.calls t121 t122 t123 t124 0 t157 _ A86.out).mono ?_); rintro e w123 ⟨rfl, hb⟩; have n0_ := Aside0.mk (Kd.R_below (by (with_reducible repeat (first | apply Kd.R_alloc | apply Kd.R_drewN | apply Kd.R_drew)); exact HO_9.out) hb); have n1_ := Aside0.mk (blk_below (g := gb125) (o := .cells #[.int .i64 t121, .int .i64 t122, .int .i64 t123, .int .u32 t124] 25 (0, 0)) (by (with_reducible repeat (first | refine blk_drewN ?_ _ | refine blk_drew ?_ | refine blk_alloc ?_ _)); exact BK125.out) hb); have n2_ := Aside0.mk (below_step (by repeat (first | (with_reducible first | exact HB.out | apply below_alloc | apply pw_below_drewN | apply below_drew1 | refine below_set ?_ GE125.out) | exact HB.out)) hb); clear HO_9; clear BK125; clear HB; have HO_9 := n0_; have BK125 := n1_; have HB := n2_; clear n0_ n1_ n2_; (try clear hb); (try clear hb2); (try clear hk); (try clear hi); have hcz124_0 : w123.cell? ⟨gb125, 0, none⟩ = some (.int .i64 t121) := (blk_cell BK125.out 0).trans rfl; have hcz124_1 : w123.cell? ⟨gb125, 1, none⟩ = some (.int .i64 t122) := (blk_cell BK125.out 1).trans rfl; have hcz124_2 : w123.cell? ⟨gb125, 2, none⟩ = some (.int .i64 t123) := (blk_cell BK125.out 2).trans rfl; have hcz124_3 : w123.cell? ⟨gb125, 3, none⟩ = some (.int .u32 t124) := (blk_cell BK125.out 3).trans rfl; have hfz124_0 := blk_frozen BK125.out 0; have hfz124_1 := blk_frozen BK125.out 1; have hfz124_2 := blk_frozen BK125.out 2; have hfz124_3 := blk_frozen BK125.out 3) | (go_at_call 14; (with_reducible refine (layout_Config_Next.calls t121 t122 t123 t124 ((t121 + 1) % 4294967296) t158 _ (by have z_ := A88.out; rwa [Int.emod_add_emod] at z_)).mono ?_); rintro e w125 ⟨rfl, hb⟩; have n0_ := Aside0.mk (Kd.R_below (by (with_reducible repeat (first | apply Kd.R_alloc | apply Kd.R_drewN | apply Kd.R_drew)); exact HO_9.out) hb); have n1_ := Aside0.mk (blk_below (g := gb125) (o := .cells #[.int .i64 t121, .int .i64 t122, .int .i64 t123, .int .u32 t124] 25 (0, 0)) (by (with_reducible repeat (first | refine blk_drewN ?_ _ | refine blk_drew ?_ | refine blk_alloc ?_ _)); exact BK125.out) hb); have n2_ := Aside0.mk (below_step (by repeat (first | (with_reducible first | exact HB.out | apply below_alloc | apply pw_below_drewN | apply below_drew1 | refine below_set ?_ GE125.out) | exact HB.out)) hb); clear HO_9; clear BK125; clear HB; have HO_9 := n0_; have BK125 := n1_; have HB := n2_; clear n0_ n1_ n2_; (try clear hb); (try clear hb2); (try clear hk); (try clear hi); have hcz126_0 : w125.cell? ⟨gb125, 0, none⟩ = some (.int .i64 t121) := (blk_cell BK125.out 0).trans rfl; have hcz126_1 : w125.cell? ⟨gb125, 1, none⟩ = some (.int .i64 t122) := (blk_cell BK125.out 1).trans rfl; have hcz126_2 : w125.cell? ⟨gb125, 2, none⟩ = some (.int .i64 t123) := (blk_cell BK125.out 2).trans rfl; have hcz126_3 : w125.cell? ⟨gb125, 3, none⟩ = some (.int .u32 t124) := (blk_cell BK125.out 3).trans rfl; have hfz126_0 := blk_frozen BK125.out 0; have hfz126_1 := blk_frozen BK125.out 1; have hfz126_2 := blk_frozen BK125.out 2; have hfz126_3 := blk_frozen BK125.out 3) | (go_at_call 16; (with_reducible refine (layout_Config_Slot.calls t121 t122 t123 t124 t122 t159 _ A90.out).mono ?_); rintro e w127 ⟨rfl, hb⟩; have n0_ := Aside0.mk (Kd.R_below (by (with_reducible repeat (first | apply Kd.R_alloc | apply Kd.R_drewN | apply Kd.R_drew)); exact HO_9.out) hb); have n1_ := Aside0.mk (blk_below (g := gb125) (o := .cells #[.int .i64 t121, .int .i64 t122, .int .i64 t123, .int .u32 t124] 25 (0, 0)) (by (with_reducible repeat (first | refine blk_drewN ?_ _ | refine blk_drew ?_ | refine blk_alloc ?_ _)); exact BK125.out) hb); have n2_ := Aside0.mk (below_step (by repeat (first | (with_reducible first | exact HB.out | apply below_alloc | apply pw_below_drewN | apply below_drew1 | refine below_set ?_ GE125.out) | exact HB.out)) hb); clear HO_9; clear BK125; clear HB; have HO_9 := n0_; have BK125 := n1_; have HB := n2_; clear n0_ n1_ n2_; (try clear hb); (try clear hb2); (try clear hk); (try clear hi)))
                                                    go_ret
                                                    exact ⟨by first | rfl | (simp [errW_none, errW_some] <;> rfl) | (simp only [← hji7]; first | rfl | (simp [errW_none, errW_some] <;> rfl)) | (simp [*, errW_none, errW_some] <;> rfl), by repeat (first | (with_reducible first | exact HB.out | apply below_alloc | apply pw_below_drewN | apply below_drew1 | refine below_set ?_ GE125.out) | exact HB.out)⟩
                                                · rw [if_neg c89] at H
                                                  have c89b0 : decide (t158 < 0) = false := decide_eq_false c89
                                                  clear c89
                                                  obtain rfl := Option.some.inj H
                                                  obtain ⟨Ao128, co128, eo128⟩ := Kd.R_slice HO_9.out
                                                  subst eo128
                                                  have hcz129_0 : wr.cell? ⟨gb125, 0, none⟩ = some (.int .i64 t121) := (blk_cell BK125.out 0).trans rfl
                                                  have hcz129_1 : wr.cell? ⟨gb125, 1, none⟩ = some (.int .i64 t122) := (blk_cell BK125.out 1).trans rfl
                                                  have hcz129_2 : wr.cell? ⟨gb125, 2, none⟩ = some (.int .i64 t123) := (blk_cell BK125.out 2).trans rfl
                                                  have hcz129_3 : wr.cell? ⟨gb125, 3, none⟩ = some (.int .u32 t124) := (blk_cell BK125.out 3).trans rfl
                                                  have hfz129_0 := blk_frozen BK125.out 0
                                                  have hfz129_1 := blk_frozen BK125.out 1
                                                  have hfz129_2 := blk_frozen BK125.out 2
                                                  have hfz129_3 := blk_frozen BK125.out 3
                                                  go_wp2_with (first | ((with_reducible refine gate_callee (f := 14) rfl ?_); refine goesL_ (some 133) rfl rfl Try.func14 (by kernel_rfl) rfl #[.agg #[.int .i64 t121, .int .i64 t122, .int .i64 t123, .int .u32 t124], .int .u32 0] rfl (by (try simp only [List.map_toArray, List.map_cons, List.map_nil]); first | done | rfl | (simp only [List.length_drop, List.length_take]; rfl)) ?_; (with_reducible refine (layout_Config_Next.calls t121 t122 t123 t124 0 t156 _ A84.out).mono ?_); rintro e w130 ⟨rfl, hb⟩; refine ⟨_, rfl, ?_⟩; have n0_ := Aside0.mk (Kd.R_below (by (with_reducible repeat (first | apply Kd.R_alloc | apply Kd.R_drewN | apply Kd.R_drew)); exact HO_9.out) hb); have n1_ := Aside0.mk (blk_below (g := gb125) (o := .cells #[.int .i64 t121, .int .i64 t122, .int .i64 t123, .int .u32 t124] 25 (0, 0)) (by (with_reducible repeat (first | refine blk_drewN ?_ _ | refine blk_drew ?_ | refine blk_alloc ?_ _)); exact BK125.out) hb); have n2_ := Aside0.mk (below_step (by repeat (first | (with_reducible first | exact HB.out | apply below_alloc | apply pw_below_drewN | apply below_drew1 | refine below_set ?_ GE125.out) | exact HB.out)) hb); clear HO_9; clear BK125; clear HB; have HO_9 := n0_; have BK125 := n1_; have HB := n2_; clear n0_ n1_ n2_; (try clear hb); (try clear hb2); (try clear hk); (try clear hi); have hcz131_0 : w130.cell? ⟨gb125, 0, none⟩ = some (.int .i64 t121) := (blk_cell BK125.out 0).trans rfl; have hcz131_1 : w130.cell? ⟨gb125, 1, none⟩ = some (.int .i64 t122) := (blk_cell BK125.out 1).trans rfl; have hcz131_2 : w130.cell? ⟨gb125, 2, none⟩ = some (.int .i64 t123) := (blk_cell BK125.out 2).trans rfl; have hcz131_3 : w130.cell? ⟨gb125, 3, none⟩ = some (.int .u32 t124) := (blk_cell BK125.out 3).trans rfl; have hfz131_0 := blk_frozen BK125.out 0; have hfz131_1 := blk_frozen BK125.out 1; have hfz131_2 := blk_frozen BK125.out 2; have hfz131_3 := blk_frozen BK125.out 3) | (go_at_call 15; (with_reducible refine (layout_Config_Value.calls t121 t122 t123 t124 0 t157 _ A86.out).mono ?_); rintro e w132 ⟨rfl, hb⟩; have n0_ := Aside0.mk (Kd.R_below (by (with_reducible repeat (first | apply Kd.R_alloc | apply Kd.R_drewN | apply Kd.R_drew)); exact HO_9.out) hb); have n1_ := Aside0.mk (blk_below (g := gb125) (o := .cells #[.int .i64 t121, .int .i64 t122, .int .i64 t123, .int .u32 t124] 25 (0, 0)) (by (with_reducible repeat (first | refine blk_drewN ?_ _ | refine blk_drew ?_ | refine blk_alloc ?_ _)); exact BK125.out) hb); have n2_ := Aside0.mk (below_step (by repeat (first | (with_reducible first | exact HB.out | apply below_alloc | apply pw_below_drewN | apply below_drew1 | refine below_set ?_ GE125.out) | exact HB.out)) hb); clear HO_9; clear BK125; clear HB; have HO_9 := n0_; have BK125 := n1_; have HB := n2_; clear n0_ n1_ n2_; (try clear hb); (try clear hb2); (try clear hk); (try clear hi); have hcz133_0 : w132.cell? ⟨gb125, 0, none⟩ = some (.int .i64 t121) := (blk_cell BK125.out 0).trans rfl; have hcz133_1 : w132.cell? ⟨gb125, 1, none⟩ = some (.int .i64 t122) := (blk_cell BK125.out 1).trans rfl; have hcz133_2 : w132.cell? ⟨gb125, 2, none⟩ = some (.int .i64 t123) := (blk_cell BK125.out 2).trans rfl; have hcz133_3 : w132.cell? ⟨gb125, 3, none⟩ = some (.int .u32 t124) := (blk_cell BK125.out 3).trans rfl; have hfz133_0 := blk_frozen BK125.out 0; have hfz133_1 := blk_frozen BK125.out 1; have hfz133_2 := blk_frozen BK125.out 2; have hfz133_3 := blk_frozen BK125.out 3) | (go_at_call 14; (with_reducible refine (layout_Config_Next.calls t121 t122 t123 t124 ((t121 + 1) % 4294967296) t158 _ (by have z_ := A88.out; rwa [Int.emod_add_emod] at z_)).mono ?_); rintro e w134 ⟨rfl, hb⟩; have n0_ := Aside0.mk (Kd.R_below (by (with_reducible repeat (first | apply Kd.R_alloc | apply Kd.R_drewN | apply Kd.R_drew)); exact HO_9.out) hb); have n1_ := Aside0.mk (blk_below (g := gb125) (o := .cells #[.int .i64 t121, .int .i64 t122, .int .i64 t123, .int .u32 t124] 25 (0, 0)) (by (with_reducible repeat (first | refine blk_drewN ?_ _ | refine blk_drew ?_ | refine blk_alloc ?_ _)); exact BK125.out) hb); have n2_ := Aside0.mk (below_step (by repeat (first | (with_reducible first | exact HB.out | apply below_alloc | apply pw_below_drewN | apply below_drew1 | refine below_set ?_ GE125.out) | exact HB.out)) hb); clear HO_9; clear BK125; clear HB; have HO_9 := n0_; have BK125 := n1_; have HB := n2_; clear n0_ n1_ n2_; (try clear hb); (try clear hb2); (try clear hk); (try clear hi)))
                                                  go_ret
                                                  exact ⟨by first | rfl | (simp [errW_none, errW_some] <;> rfl) | (simp only [← hji7]; first | rfl | (simp [errW_none, errW_some] <;> rfl)) | (simp [*, errW_none, errW_some] <;> rfl), by repeat (first | (with_reducible first | exact HB.out | apply below_alloc | apply pw_below_drewN | apply below_drew1 | refine below_set ?_ GE125.out) | exact HB.out)⟩
                                              · rw [if_neg c87] at H
                                                have c87b0 : decide (t157 < 0) = false := decide_eq_false c87
                                                clear c87
                                                obtain rfl := Option.some.inj H
                                                obtain ⟨Ao135, co135, eo135⟩ := Kd.R_slice HO_9.out
                                                subst eo135
                                                have hcz136_0 : wr.cell? ⟨gb125, 0, none⟩ = some (.int .i64 t121) := (blk_cell BK125.out 0).trans rfl
                                                have hcz136_1 : wr.cell? ⟨gb125, 1, none⟩ = some (.int .i64 t122) := (blk_cell BK125.out 1).trans rfl
                                                have hcz136_2 : wr.cell? ⟨gb125, 2, none⟩ = some (.int .i64 t123) := (blk_cell BK125.out 2).trans rfl
                                                have hcz136_3 : wr.cell? ⟨gb125, 3, none⟩ = some (.int .u32 t124) := (blk_cell BK125.out 3).trans rfl
                                                have hfz136_0 := blk_frozen BK125.out 0
                                                have hfz136_1 := blk_frozen BK125.out 1
                                                have hfz136_2 := blk_frozen BK125.out 2
                                                have hfz136_3 := blk_frozen BK125.out 3
                                                go_wp2_with (first | ((with_reducible refine gate_callee (f := 14) rfl ?_); refine goesL_ (some 133) rfl rfl Try.func14 (by kernel_rfl) rfl #[.agg #[.int .i64 t121, .int .i64 t122, .int .i64 t123, .int .u32 t124], .int .u32 0] rfl (by (try simp only [List.map_toArray, List.map_cons, List.map_nil]); first | done | rfl | (simp only [List.length_drop, List.length_take]; rfl)) ?_; (with_reducible refine (layout_Config_Next.calls t121 t122 t123 t124 0 t156 _ A84.out).mono ?_); rintro e w137 ⟨rfl, hb⟩; refine ⟨_, rfl, ?_⟩; have n0_ := Aside0.mk (Kd.R_below (by (with_reducible repeat (first | apply Kd.R_alloc | apply Kd.R_drewN | apply Kd.R_drew)); exact HO_9.out) hb); have n1_ := Aside0.mk (blk_below (g := gb125) (o := .cells #[.int .i64 t121, .int .i64 t122, .int .i64 t123, .int .u32 t124] 25 (0, 0)) (by (with_reducible repeat (first | refine blk_drewN ?_ _ | refine blk_drew ?_ | refine blk_alloc ?_ _)); exact BK125.out) hb); have n2_ := Aside0.mk (below_step (by repeat (first | (with_reducible first | exact HB.out | apply below_alloc | apply pw_below_drewN | apply below_drew1 | refine below_set ?_ GE125.out) | exact HB.out)) hb); clear HO_9; clear BK125; clear HB; have HO_9 := n0_; have BK125 := n1_; have HB := n2_; clear n0_ n1_ n2_; (try clear hb); (try clear hb2); (try clear hk); (try clear hi); have hcz138_0 : w137.cell? ⟨gb125, 0, none⟩ = some (.int .i64 t121) := (blk_cell BK125.out 0).trans rfl; have hcz138_1 : w137.cell? ⟨gb125, 1, none⟩ = some (.int .i64 t122) := (blk_cell BK125.out 1).trans rfl; have hcz138_2 : w137.cell? ⟨gb125, 2, none⟩ = some (.int .i64 t123) := (blk_cell BK125.out 2).trans rfl; have hcz138_3 : w137.cell? ⟨gb125, 3, none⟩ = some (.int .u32 t124) := (blk_cell BK125.out 3).trans rfl; have hfz138_0 := blk_frozen BK125.out 0; have hfz138_1 := blk_frozen BK125.out 1; have hfz138_2 := blk_frozen BK125.out 2; have hfz138_3 := blk_frozen BK125.out 3) | (go_at_call 15; (with_reducible refine (layout_Config_Value.calls t121 t122 t123 t124 0 t157 _ A86.out).mono ?_); rintro e w139 ⟨rfl, hb⟩; have n0_ := Aside0.mk (Kd.R_below (by (with_reducible repeat (first | apply Kd.R_alloc | apply Kd.R_drewN | apply Kd.R_drew)); exact HO_9.out) hb); have n1_ := Aside0.mk (blk_below (g := gb125) (o := .cells #[.int .i64 t121, .int .i64 t122, .int .i64 t123, .int .u32 t124] 25 (0, 0)) (by (with_reducible repeat (first | refine blk_drewN ?_ _ | refine blk_drew ?_ | refine blk_alloc ?_ _)); exact BK125.out) hb); have n2_ := Aside0.mk (below_step (by repeat (first | (with_reducible first | exact HB.out | apply below_alloc | apply pw_below_drewN | apply below_drew1 | refine below_set ?_ GE125.out) | exact HB.out)) hb); clear HO_9; clear BK125; clear HB; have HO_9 := n0_; have BK125 := n1_; have HB := n2_; clear n0_ n1_ n2_; (try clear hb); (try clear hb2); (try clear hk); (try clear hi)))
                                                go_ret
                                                exact ⟨by first | rfl | (simp [errW_none, errW_some] <;> rfl) | (simp only [← hji7]; first | rfl | (simp [errW_none, errW_some] <;> rfl)) | (simp [*, errW_none, errW_some] <;> rfl), by repeat (first | (with_reducible first | exact HB.out | apply below_alloc | apply pw_below_drewN | apply below_drew1 | refine below_set ?_ GE125.out) | exact HB.out)⟩
                                            · rw [if_neg c85] at H
                                              have c85b0 : decide (t156 < 0) = false := decide_eq_false c85
                                              clear c85
                                              obtain rfl := Option.some.inj H
                                              obtain ⟨Ao140, co140, eo140⟩ := Kd.R_slice HO_9.out
                                              subst eo140
                                              have hcz141_0 : wr.cell? ⟨gb125, 0, none⟩ = some (.int .i64 t121) := (blk_cell BK125.out 0).trans rfl
                                              have hcz141_1 : wr.cell? ⟨gb125, 1, none⟩ = some (.int .i64 t122) := (blk_cell BK125.out 1).trans rfl
                                              have hcz141_2 : wr.cell? ⟨gb125, 2, none⟩ = some (.int .i64 t123) := (blk_cell BK125.out 2).trans rfl
                                              have hcz141_3 : wr.cell? ⟨gb125, 3, none⟩ = some (.int .u32 t124) := (blk_cell BK125.out 3).trans rfl
                                              have hfz141_0 := blk_frozen BK125.out 0
                                              have hfz141_1 := blk_frozen BK125.out 1
                                              have hfz141_2 := blk_frozen BK125.out 2
                                              have hfz141_3 := blk_frozen BK125.out 3
                                              go_wp2_with (first | ((with_reducible refine gate_callee (f := 14) rfl ?_); refine goesL_ (some 133) rfl rfl Try.func14 (by kernel_rfl) rfl #[.agg #[.int .i64 t121, .int .i64 t122, .int .i64 t123, .int .u32 t124], .int .u32 0] rfl (by (try simp only [List.map_toArray, List.map_cons, List.map_nil]); first | done | rfl | (simp only [List.length_drop, List.length_take]; rfl)) ?_; (with_reducible refine (layout_Config_Next.calls t121 t122 t123 t124 0 t156 _ A84.out).mono ?_); rintro e w142 ⟨rfl, hb⟩; refine ⟨_, rfl, ?_⟩; have n0_ := Aside0.mk (Kd.R_below (by (with_reducible repeat (first | apply Kd.R_alloc | apply Kd.R_drewN | apply Kd.R_drew)); exact HO_9.out) hb); have n1_ := Aside0.mk (blk_below (g := gb125) (o := .cells #[.int .i64 t121, .int .i64 t122, .int .i64 t123, .int .u32 t124] 25 (0, 0)) (by (with_reducible repeat (first | refine blk_drewN ?_ _ | refine blk_drew ?_ | refine blk_alloc ?_ _)); exact BK125.out) hb); have n2_ := Aside0.mk (below_step (by repeat (first | (with_reducible first | exact HB.out | apply below_alloc | apply pw_below_drewN | apply below_drew1 | refine below_set ?_ GE125.out) | exact HB.out)) hb); clear HO_9; clear BK125; clear HB; have HO_9 := n0_; have BK125 := n1_; have HB := n2_; clear n0_ n1_ n2_; (try clear hb); (try clear hb2); (try clear hk); (try clear hi)))
                                              go_ret
                                              exact ⟨by first | rfl | (simp [errW_none, errW_some] <;> rfl) | (simp only [← hji7]; first | rfl | (simp [errW_none, errW_some] <;> rfl)) | (simp [*, errW_none, errW_some] <;> rfl), by repeat (first | (with_reducible first | exact HB.out | apply below_alloc | apply pw_below_drewN | apply below_drew1 | refine below_set ?_ GE125.out) | exact HB.out)⟩
      · rw [if_neg c9] at H
        exact absurd H (by simp)
    · rw [if_neg c8] at H
      exact absurd H (by simp)
  · replace c5 := Bool.eq_false_iff.mpr c5
    subst c5
    have H1 : (some false) = some r := by rw [if_neg (show ¬ (false = true) by decide)] at H; exact H
    clear H
    have H := H1
    clear H1
    obtain rfl := Option.some.inj H
    go_enter Try.func3, Try.ntmps3
    go_wp2_with (first | ((with_reducible refine gate_callee (f := 12) rfl ?_); refine goesL_ (some 16) rfl rfl Try.func12 (by kernel_rfl) rfl #[] rfl (by (try simp only [List.map_toArray, List.map_cons, List.map_nil]); first | done | rfl | (simp only [List.length_drop, List.length_take]; rfl)) ?_; (with_reducible refine (hatstandlaw6_shown.calls  false _ A4.out).mono ?_); rintro e w143 ⟨rfl, hb⟩; refine ⟨_, rfl, ?_⟩; have n0_ := Aside0.mk (below_step (by repeat (first | (with_reducible first | exact HB.out | apply below_alloc | apply pw_below_drewN | apply below_drew1) | exact HB.out)) hb); clear HB; have HB := n0_; clear n0_; (try clear hb); (try clear hb2); (try clear hk); (try clear hi)))
    go_ret
    exact ⟨by first | rfl | (simp [errW_none, errW_some] <;> rfl) | (simp [*, errW_none, errW_some] <;> rfl), by repeat (first | (with_reducible first | exact HB.out | apply below_alloc | apply pw_below_drewN | apply below_drew1) | exact HB.out)⟩

/-- THE ONE PURE STATEMENT of hatstandlaw6_LayoutApart: yours. -/
def hatstandlaw6_LayoutApart.Pure : Prop := ∀ (a0 : Int) (a1 : Int) (a2 : Int), (Lit.int .i64 a0).wf = true → (Lit.int .i64 a1).wf = true → (Lit.int .i64 a2).wf = true → ∃ k, hatstandlaw6_LayoutApart.f k a0 a1 a2 = some true
theorem hatstandlaw6_LayoutApart.walk (P : hatstandlaw6_LayoutApart.Pure) (a0 : Int) (a1 : Int) (a2 : Int) (w : World) (w0 : (Lit.int .i64 a0).wf = true) (w1 : (Lit.int .i64 a1).wf = true) (w2 : (Lit.int .i64 a2).wf = true) :
    Calls Try.prog 3 #[.int .i64 a0, .int .i64 a1, .int .i64 a2] w fun e w' => e = .returned (.bool true) ∧ Below w.heap.size w w' := by
  obtain ⟨k, h⟩ := P a0 a1 a2 w0 w1 w2
  refine (hatstandlaw6_LayoutApart.calls k a0 a1 a2 true w h).mono ?_
  rintro e w' ⟨rfl, hd⟩
  exact ⟨rfl, hd⟩

end Go.Proofs.Ytckmcphphnoilaa.PLayoutApart
