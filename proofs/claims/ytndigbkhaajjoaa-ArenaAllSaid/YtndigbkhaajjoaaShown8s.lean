/-
  hatstandref6.Same of equal rows; chapter 8's example.
-/
import Derived.Test.YtndigbkhaajjoaaMade8
import Derived.Test.YtndigbkhaajjoaaCommonA
namespace Go.Proofs.Ytndigbkhaajjoaa
open Go.RowKit
set_option linter.unusedVariables false
set_option linter.unusedSimpArgs false

set_option maxHeartbeats 4000000 in
theorem same6 (A B : Option Addr) (n c d : Nat) (l : List Int) (w : World) (hA : Rd32 w A l) (hB : Rd32 w B l) (hn : l.length = n) (hl : n ≤ 1000000000000) :
    Calls Try.prog 24 #[.slice A n c, .slice B n d] w fun e w' => e = .returned (.bool true) ∧ Below w.heap.size w w' := by
  have HA := Lib.hid hA
  have HB := Lib.hid hB
  clear hA hB
  go_enter Try.func24, Try.ntmps24
  go_wp2
  go_loopg [5] (n + 1) (fun kq y w' => ∃ i : Nat, y = .int .i64 i ∧ i ≤ n ∧ i + kq = n + 1 ∧ Below w.heap.size w w')
  case atStart => exact ⟨0, rfl, by omega, by omega, bl_refl w⟩
  case round =>
    obtain ⟨i, rfl, hi, hkq, hS⟩ := hrel
    have HS := Lib.hid hS
    cases gk with
    | zero => omega
    | succ kk =>
      by_cases c4 : i < n
      · have c4b : decide ((i : Int) < n) = true := decide_eq_true (by omega)
        have r0 : (0 : Int) ≤ (i : Int) := by omega
        have r1 : (i : Int) < (n : Int) := by omega
        obtain ⟨x, hx⟩ := getE (l := l) (k := i) (by omega)
        obtain ⟨ad, rfl, hc⟩ := HA.out.cell hx
        obtain ⟨bd, rfl, hd⟩ := HB.out.cell hx
        have f1 := (hS.cell (World.block_lt_of_cell? _ _ hc)).trans hc
        have f2 := (hS.cell (World.block_lt_of_cell? _ _ hd)).trans hd
        clear hS hc hd
        go_wp2
        go_quiet (fail)
        go_wp2
        go_roundg kk
        case measure => omega
        case rel => exact ⟨i + 1, rfl, by omega, by omega, bl_drewN HS.out _⟩
      · have c4b : decide ((i : Int) < n) = false := decide_eq_false (by omega)
        clear hS
        go_wp2
        go_ret
        exact ⟨rfl, HS.out⟩
theorem lit32_1 {w : World} {b : Nat} {x : Int} {e : TypeId} (h : w.heap[b]? = some (.cells #[.int .u32 x] e (0, 0))) : Rd32 w (some ⟨b, 0, none⟩) [x] :=
  ⟨fun e => (by simp at e), fun _ => ⟨_, rfl, fun j u hu => by
    cases j with
    | zero => rw [add_zero', cell_of h]; simpa [u32V] using hu
    | succ j => simp at hu⟩⟩
theorem lit32_2 {w : World} {b : Nat} {x y : Int} {e : TypeId} (h : w.heap[b]? = some (.cells #[.int .u32 x, .int .u32 y] e (0, 0))) : Rd32 w (some ⟨b, 0, none⟩) [x, y] :=
  ⟨fun e => (by simp at e), fun _ => ⟨_, rfl, fun j u hu => by
    match j with
    | 0 => rw [add_zero', cell_of h]; simpa [u32V] using hu
    | 1 => rw [add_zero', cell_of h]; simpa [u32V] using hu
    | j + 2 => simp at hu⟩⟩
set_option maxRecDepth 20000 in
set_option maxHeartbeats 8000000 in
theorem shown8 (w : World) : Calls Try.prog 42 #[] w fun e w' => e = .returned (.bool true) ∧ Below w.heap.size w w' := by
  have H := Lib.hid (St.nil w)
  go_enter Try.func42, Try.ntmps42
  go_wp2_with (first | ((have _h := H4); go_at_call 24; refine (same6 a5 (some ⟨_, 0, none⟩) 1 c5 1 [4] _ ((row32_rd (H4.out.rowOf 0 rfl)).1.kept (bl_alloc (bl_refl _) _)) (lit32_1 (heap_new rfl)) rfl (by decide)).mono ?_; rintro e w5 ⟨rfl, hb⟩; (have H5 := Lib.hid ((H4.out.below (bl_alloc (bl_refl _) _)).below hb)); clear hb; clear _h) | ((have _h := H3); go_at_call 72; refine (ar_shelf_t rfl H3.out (by decide)).mono ?_; rintro e w4 ⟨a5, c5, rfl, h⟩; (have H4 := Lib.hid (h)); clear h; clear _h) | ((have _h := H2); go_at_call 71; refine (ar_out_t (S := newAT 9 0 0 0 1 [4, 7]) (ws := []) (nt := []) (r := 1) (z := 7) rfl rfl rfl H2.out (newAT_ok _ (by decide) (by decide) (by decide)) (by decide)).mono ?_; rintro e w3 ⟨rfl, h⟩; (have H3 := Lib.hid (h)); clear h; clear _h) | ((have _h := H1); go_at_call 70; refine (atake_new 9 0 0 0 1 (some ⟨_, 0, none⟩) 2 2 [4, 7] (H1.out.alloc _ _) (lit32_2 (heap_new rfl)) rfl (by decide)).mono ?_; rintro e w2 ⟨p, rfl, h⟩; (have H2 := Lib.hid (h.re 3 [2, 0])); clear h; clear _h) | ((have _h := H); go_at_call 26; refine (new_st H.out none 0 0 [] (nil_rd _) (by decide) (by simp) rfl).mono ?_; rintro e w1 ⟨q, rfl, h⟩; (have H1 := Lib.hid (h)); clear h; clear _h))
  go_ret
  exact ⟨rfl, H5.out.bel⟩
end Go.Proofs.Ytndigbkhaajjoaa
