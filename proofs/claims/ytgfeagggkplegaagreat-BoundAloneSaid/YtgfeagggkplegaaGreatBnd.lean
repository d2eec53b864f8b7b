/-
  bound's numbers, of a config that is right; chapter 21's config, and its examples.
-/
import Derived.Test.YtgfeagggkplegaaGreatOpN
import Derived.Test.YtgfeagggkplegaaGreatCommonA
import Derived.Deep.DeepCutAuto
namespace Go.Proofs.YtgfeagggkplegaaGreat
open Go.RowKit
set_option linter.unusedVariables false
set_option linter.unusedSimpArgs false

def sumN (xs : List Int) : Nat → Int
  | 0 => 0
  | k + 1 => sumN xs k + xs.getD k 0
def bVis (s : Int) : Int := if s = 0 then 0 else 69
def bPush (s bud : Int) : Int := 9 * (bud + 1) + 1 + bud * bVis s
def bPop (s bud : Int) : Int := 6 * (bud + 1) + 1 + bud * bVis s
theorem bVis_rng (s : Int) : 0 ≤ bVis s ∧ bVis s ≤ 69 := by unfold bVis; split <;> omega
theorem bMul {s bud : Int} (b0 : 0 ≤ bud) (b1 : bud ≤ 16) : 0 ≤ bud * bVis s ∧ bud * bVis s ≤ 1104 := by
  have h := bVis_rng s
  refine ⟨Int.mul_nonneg b0 h.1, ?_⟩
  have := Int.mul_le_mul b1 h.2 h.1 (by decide)
  omega
theorem sumN_rng {xs : List Int} (h : ∀ j, 0 ≤ xs.getD j 0 ∧ xs.getD j 0 ≤ 1000000) : ∀ k, 0 ≤ sumN xs k ∧ sumN xs k ≤ 1000000 * k
  | 0 => ⟨Int.le_refl _, by simp [sumN]⟩
  | k + 1 => by
    have h1 := sumN_rng h k
    have h2 := h k
    unfold sumN
    omega
theorem chk_ok {n s h t bud base wait : Int} (hok : okE n s h bud base = true) (w : World) : Calls Tryz.prog 15 #[cfgE n s h t bud base wait] w fun e w' => e = .returned (.int .i64 0) ∧ Below w.heap.size w w' := by
  have h1 := e_check_any n s h t bud base wait w
  rw [if_pos hok] at h1
  exact h1
set_option maxHeartbeats 4000000 in
theorem bsum (xs : List Int) (m : Nat) (A : Option Addr) (c : Nat) (x : Int) (n s h t bud base wait : Int) (w : World) (hok : okE n s h bud base = true) (hm : m ≤ 20) (hA : ∀ j, j < m → ∃ ad, A = some ad ∧ w.cell? (ad.add j) = some (.int .i64 (xs.getD j 0))) (hx : sumN xs m = x) (hr : ∀ j, 0 ≤ xs.getD j 0 ∧ xs.getD j 0 ≤ 1000000) :
    Calls Tryz.prog 78 #[cfgE n s h t bud base wait, .slice A m c] w fun e w' => e = .returned (.int .i64 x) ∧ Below w.heap.size w w' := by
  have HCK := Lib.hid (fun w => chk_ok (t := t) (wait := wait) hok w)
  have H := Lib.hid ((St.nil w).alloc #[.int .i64 n, .int .i64 s, .int .i64 h, .int .u32 t, .int .i64 bud, .int .i64 base, .int .u64 wait] 27)
  have HA := Lib.hid hA
  have HX := Lib.hid hx
  have HR := Lib.hid hr
  obtain ⟨⟨d0, d1, d2, d3, d4, d5, d6⟩, ld⟩ := cells7 (H.out.cells 0 rfl)
  clear hA hx hr hok
  go_enter Tryz.func78, Tryz.ntmps78
  go_wp2
  generalize hW : w.alloc (.cells #[.int .i64 n, .int .i64 s, .int .i64 h, .int .u32 t, .int .i64 bud, .int .i64 base, .int .u64 wait] 27) = W at *
  have HBW : Hid (Below w.heap.size w W) := Lib.hid (by rw [← hW]; exact bl_alloc (bl_refl _) _)
  clear hW
  go_loopg [5, 10] m (fun kq y z w' => ∃ j : Nat, y = .int .i64 (sumN xs j) ∧ z = .int .i64 (j : Int) ∧ j + kq = m ∧ w' = W)
  case atStart => exact ⟨0, rfl, rfl, by omega, rfl⟩
  case round =>
    obtain ⟨j, rfl, rfl, hj, rfl⟩ := hrel
    cases gk with
    | zero =>
      obtain rfl : j = m := by omega
      have c1 : decide ((j : Int) < (j : Int)) = false := by simp
      rw [HX.out]
      go_wp2_with (go_at_call 15; refine (HCK.out _).mono ?_; rintro e w1 ⟨rfl, k⟩; (have HB1 := Lib.hid k); clear k)
      go_ret
      exact ⟨rfl, HBW.out.trans (HB1.out.mono HBW.out.size)⟩
    | succ kk =>
      have c1 : decide ((j : Int) < (m : Int)) = true := decide_eq_true (by omega)
      obtain ⟨ad, rfl, hc⟩ := HA.out j (by omega)
      have hc2 := (HBW.out.cell (World.block_lt_of_cell? _ _ hc)).trans hc
      have i0 : (0 : Int) ≤ (j : Int) := by omega
      have i1 : (j : Int) < (m : Int) := by omega
      have r1 := sumN_rng HR.out j
      have r2 := HR.out j
      have ew : IntKind.i64.wrap (sumN xs j + xs.getD j 0) = sumN xs (j + 1) := by
        show _ = sumN xs j + xs.getD j 0
        rw [IntKind.wrap_i64]
        omega
      generalize xs.getD j 0 = xj at *
      clear hc r1 r2
      go_wp2
      go_roundg kk
      case measure => omega
      case rel => exact ⟨j + 1, by rfl, by rfl, by omega, rfl⟩
set_option maxRecDepth 20000 in
set_option maxHeartbeats 8000000 in
theorem b_tries (n s h t bud base wait : Int) (w : World) (hok : okE n s h bud base = true) :
    Calls Tryz.prog 79 #[cfgE n s h t bud base wait] w fun e w' => e = .returned (.int .i64 (3 * (bud + 1))) ∧ Below w.heap.size w w' := by
  obtain ⟨_, b0, b1, _⟩ := okE_iff.1 hok
  have HOK := Lib.hid hok
  have HBW : Hid (Below w.heap.size w (w.alloc (.cells #[.int .i64 n, .int .i64 s, .int .i64 h, .int .u32 t, .int .i64 bud, .int .i64 base, .int .u64 wait] 27))) := Lib.hid (bl_alloc (bl_refl _) _)
  have HCS : Hid (∀ w', Below ((w.alloc (.cells #[.int .i64 n, .int .i64 s, .int .i64 h, .int .u32 t, .int .i64 bud, .int .i64 base, .int .u64 wait] 27))).heap.size ((w.alloc (.cells #[.int .i64 n, .int .i64 s, .int .i64 h, .int .u32 t, .int .i64 bud, .int .i64 base, .int .u64 wait] 27))) w' → w'.cell? ⟨w.heap.size, 0, none⟩ = some (.int .i64 n) ∧ w'.cell? ⟨w.heap.size, 1, none⟩ = some (.int .i64 s) ∧ w'.cell? ⟨w.heap.size, 2, none⟩ = some (.int .i64 h) ∧ w'.cell? ⟨w.heap.size, 3, none⟩ = some (.int .u32 t) ∧ w'.cell? ⟨w.heap.size, 4, none⟩ = some (.int .i64 bud) ∧ w'.cell? ⟨w.heap.size, 5, none⟩ = some (.int .i64 base) ∧ w'.cell? ⟨w.heap.size, 6, none⟩ = some (.int .u64 wait)) := Lib.hid fun w' hb => (cells7 ((hb.block w.heap.size (by simp)).trans (heap_new rfl))).1
  obtain ⟨d0, d1, d2, d3, d4, d5, d6⟩ := HCS.out (w.alloc (.cells #[.int .i64 n, .int .i64 s, .int .i64 h, .int .u32 t, .int .i64 bud, .int .i64 base, .int .u64 wait] 27)) (bl_refl _)
  have e1 : IntKind.i64.wrap (bud + 1) = bud + 1 := by rw [IntKind.wrap_i64]; omega
  have e2 : IntKind.i64.wrap (3 * (bud + 1)) = 3 * (bud + 1) := by rw [IntKind.wrap_i64]; omega
  clear hok
  go_enter Tryz.func79, Tryz.ntmps79
  go_wp2
  go_ret
  exact ⟨rfl, bl_alloc (bl_refl _) _⟩
theorem lit_cells {w : World} {b : Nat} {xs : List Int} {e : TypeId} (h : w.heap[b]? = some (.cells (xs.map fun x => Value.int .i64 x).toArray e (0, 0))) : ∀ j, j < xs.length → ∃ ad, (some ⟨b, 0, none⟩ : Option Addr) = some ad ∧ w.cell? (ad.add j) = some (.int .i64 (xs.getD j 0)) := fun j hj =>
  ⟨_, rfl, by rw [add_zero', cell_of h]; simp [hj]⟩
theorem lit_645 {w : World} {b : Nat} {e : TypeId} (h : w.heap[b]? = some (.cells #[.int .i64 64, .int .i64 5] e (0, 0))) : ∀ j, j < 2 → ∃ ad, (some ⟨b, 0, none⟩ : Option Addr) = some ad ∧ w.cell? (ad.add j) = some (.int .i64 (([64, 5] : List Int).getD j 0)) := fun j hj =>
  ⟨_, rfl, by
    rw [add_zero', cell_of h]
    match j, hj with
    | 0, _ => rfl
    | 1, _ => rfl⟩
set_option maxRecDepth 20000 in
set_option maxHeartbeats 8000000 in
theorem b_visit0 (n s h t bud base wait : Int) (w : World) (hok : okE n s h bud base = true) (hs : s = 0) :
    Calls Tryz.prog 104 #[cfgE n s h t bud base wait] w fun e w' => e = .returned (.int .i64 0) ∧ Below w.heap.size w w' := by
  obtain ⟨_, b0, b1, _⟩ := okE_iff.1 hok
  have HOK := Lib.hid hok
  have HBW : Hid (Below w.heap.size w (w.alloc (.cells #[.int .i64 n, .int .i64 s, .int .i64 h, .int .u32 t, .int .i64 bud, .int .i64 base, .int .u64 wait] 27))) := Lib.hid (bl_alloc (bl_refl _) _)
  have HCS : Hid (∀ w', Below ((w.alloc (.cells #[.int .i64 n, .int .i64 s, .int .i64 h, .int .u32 t, .int .i64 bud, .int .i64 base, .int .u64 wait] 27))).heap.size ((w.alloc (.cells #[.int .i64 n, .int .i64 s, .int .i64 h, .int .u32 t, .int .i64 bud, .int .i64 base, .int .u64 wait] 27))) w' → w'.cell? ⟨w.heap.size, 0, none⟩ = some (.int .i64 n) ∧ w'.cell? ⟨w.heap.size, 1, none⟩ = some (.int .i64 s) ∧ w'.cell? ⟨w.heap.size, 2, none⟩ = some (.int .i64 h) ∧ w'.cell? ⟨w.heap.size, 3, none⟩ = some (.int .u32 t) ∧ w'.cell? ⟨w.heap.size, 4, none⟩ = some (.int .i64 bud) ∧ w'.cell? ⟨w.heap.size, 5, none⟩ = some (.int .i64 base) ∧ w'.cell? ⟨w.heap.size, 6, none⟩ = some (.int .u64 wait)) := Lib.hid fun w' hb => (cells7 ((hb.block w.heap.size (by simp)).trans (heap_new rfl))).1
  obtain ⟨d0, d1, d2, d3, d4, d5, d6⟩ := HCS.out (w.alloc (.cells #[.int .i64 n, .int .i64 s, .int .i64 h, .int .u32 t, .int .i64 bud, .int .i64 base, .int .u64 wait] 27)) (bl_refl _)
  have z0 : (s == 0) = true := by simp; exact hs
  clear hok
  go_enter Tryz.func104, Tryz.ntmps104
  go_wp2
  go_ret
  exact ⟨rfl, bl_alloc (bl_refl _) _⟩
set_option maxRecDepth 20000 in
set_option maxHeartbeats 8000000 in
theorem b_visit1 (n s h t bud base wait : Int) (w : World) (hok : okE n s h bud base = true) (hs : s ≠ 0) (x : Int) (hx : x = 69) :
    Calls Tryz.prog 104 #[cfgE n s h t bud base wait] w fun e w' => e = .returned (.int .i64 x) ∧ Below w.heap.size w w' := by
  obtain ⟨_, b0, b1, _⟩ := okE_iff.1 hok
  have HOK := Lib.hid hok
  have HBW : Hid (Below w.heap.size w (w.alloc (.cells #[.int .i64 n, .int .i64 s, .int .i64 h, .int .u32 t, .int .i64 bud, .int .i64 base, .int .u64 wait] 27))) := Lib.hid (bl_alloc (bl_refl _) _)
  have HCS : Hid (∀ w', Below ((w.alloc (.cells #[.int .i64 n, .int .i64 s, .int .i64 h, .int .u32 t, .int .i64 bud, .int .i64 base, .int .u64 wait] 27))).heap.size ((w.alloc (.cells #[.int .i64 n, .int .i64 s, .int .i64 h, .int .u32 t, .int .i64 bud, .int .i64 base, .int .u64 wait] 27))) w' → w'.cell? ⟨w.heap.size, 0, none⟩ = some (.int .i64 n) ∧ w'.cell? ⟨w.heap.size, 1, none⟩ = some (.int .i64 s) ∧ w'.cell? ⟨w.heap.size, 2, none⟩ = some (.int .i64 h) ∧ w'.cell? ⟨w.heap.size, 3, none⟩ = some (.int .u32 t) ∧ w'.cell? ⟨w.heap.size, 4, none⟩ = some (.int .i64 bud) ∧ w'.cell? ⟨w.heap.size, 5, none⟩ = some (.int .i64 base) ∧ w'.cell? ⟨w.heap.size, 6, none⟩ = some (.int .u64 wait)) := Lib.hid fun w' hb => (cells7 ((hb.block w.heap.size (by simp)).trans (heap_new rfl))).1
  obtain ⟨d0, d1, d2, d3, d4, d5, d6⟩ := HCS.out (w.alloc (.cells #[.int .i64 n, .int .i64 s, .int .i64 h, .int .u32 t, .int .i64 bud, .int .i64 base, .int .u64 wait] 27)) (bl_refl _)
  have z0 : (s == 0) = false := by simp; exact hs
  have HSX : sumN [64, 5] 2 = x := by rw [hx]; simp [sumN]
  have HRR : ∀ j, 0 ≤ ([64, 5] : List Int).getD j 0 ∧ ([64, 5] : List Int).getD j 0 ≤ 1000000 := fun j => by match j with | 0 => exact ⟨by decide, by decide⟩ | 1 => exact ⟨by decide, by decide⟩ | j + 2 => exact ⟨by simp, by simp⟩
  have HS2 := Lib.hid HSX
  have HL := Lib.hid (lit_645 (w := ((w.alloc (.cells #[.int .i64 n, .int .i64 s, .int .i64 h, .int .u32 t, .int .i64 bud, .int .i64 base, .int .u64 wait] 27))).alloc (.cells #[.int .i64 64, .int .i64 5] 3)) (b := w.heap.size + 1) (e := 3) (by have h0 := ((St.nil w).alloc #[.int .i64 n, .int .i64 s, .int .i64 h, .int .u32 t, .int .i64 bud, .int .i64 base, .int .u64 wait] 27).alloc #[.int .i64 64, .int .i64 5] 3; rw [World.size_alloc] at h0; exact h0.cells 0 rfl))
  have HR2 := Lib.hid HRR
  clear HSX HRR hx
  clear hok
  go_enter Tryz.func104, Tryz.ntmps104
  go_wp2_with (go_at_call 78; refine (bsum [64, 5] 2 (some ⟨w.heap.size + 1, 0, none⟩) 2 x n s h t bud base wait _ HOK.out (by decide) HL.out HS2.out HR2.out).mono ?_; rintro e w1 ⟨rfl, k⟩; (have HB1 := Lib.hid k); clear k)
  go_ret
  exact ⟨rfl, HBW.out.trans (((bl_alloc (bl_refl (w.alloc (.cells #[.int .i64 n, .int .i64 s, .int .i64 h, .int .u32 t, .int .i64 bud, .int .i64 base, .int .u64 wait] 27))) _).trans (HB1.out.mono (by simp))).mono HBW.out.size)⟩
theorem b_visit (n s h t bud base wait : Int) (w : World) (hok : okE n s h bud base = true) :
    Calls Tryz.prog 104 #[cfgE n s h t bud base wait] w fun e w' => e = .returned (.int .i64 (bVis s)) ∧ Below w.heap.size w w' := by
  unfold bVis
  by_cases hs : s = 0
  · rw [if_pos hs]; exact b_visit0 n s h t bud base wait w hok hs
  · rw [if_neg hs]; exact b_visit1 n s h t bud base wait w hok hs _ rfl
set_option maxRecDepth 20000 in
set_option maxHeartbeats 8000000 in
theorem b_visits (n s h t bud base wait : Int) (w : World) (hok : okE n s h bud base = true) :
    Calls Tryz.prog 80 #[cfgE n s h t bud base wait] w fun e w' => e = .returned (.int .i64 (bud * bVis s)) ∧ Below w.heap.size w w' := by
  obtain ⟨_, b0, b1, _⟩ := okE_iff.1 hok
  have HOK := Lib.hid hok
  have HBW : Hid (Below w.heap.size w (w.alloc (.cells #[.int .i64 n, .int .i64 s, .int .i64 h, .int .u32 t, .int .i64 bud, .int .i64 base, .int .u64 wait] 27))) := Lib.hid (bl_alloc (bl_refl _) _)
  have HCS : Hid (∀ w', Below ((w.alloc (.cells #[.int .i64 n, .int .i64 s, .int .i64 h, .int .u32 t, .int .i64 bud, .int .i64 base, .int .u64 wait] 27))).heap.size ((w.alloc (.cells #[.int .i64 n, .int .i64 s, .int .i64 h, .int .u32 t, .int .i64 bud, .int .i64 base, .int .u64 wait] 27))) w' → w'.cell? ⟨w.heap.size, 0, none⟩ = some (.int .i64 n) ∧ w'.cell? ⟨w.heap.size, 1, none⟩ = some (.int .i64 s) ∧ w'.cell? ⟨w.heap.size, 2, none⟩ = some (.int .i64 h) ∧ w'.cell? ⟨w.heap.size, 3, none⟩ = some (.int .u32 t) ∧ w'.cell? ⟨w.heap.size, 4, none⟩ = some (.int .i64 bud) ∧ w'.cell? ⟨w.heap.size, 5, none⟩ = some (.int .i64 base) ∧ w'.cell? ⟨w.heap.size, 6, none⟩ = some (.int .u64 wait)) := Lib.hid fun w' hb => (cells7 ((hb.block w.heap.size (by simp)).trans (heap_new rfl))).1
  obtain ⟨d0, d1, d2, d3, d4, d5, d6⟩ := HCS.out (w.alloc (.cells #[.int .i64 n, .int .i64 s, .int .i64 h, .int .u32 t, .int .i64 bud, .int .i64 base, .int .u64 wait] 27)) (bl_refl _)
  have hm := bMul (s := s) b0 b1
  have e1 : IntKind.i64.wrap (bud * bVis s) = bud * bVis s := by rw [IntKind.wrap_i64]; omega
  have HV := Lib.hid (fun w => b_visit n s h t bud base wait w HOK.out)
  generalize bVis s = bv at *
  clear hok
  go_enter Tryz.func80, Tryz.ntmps80
  go_upto_region 1 with (fail)
  go_region_held3 (fun w' => w'.cell? ⟨w.heap.size, 0, none⟩ = some (.int .i64 n) ∧ w'.cell? ⟨w.heap.size, 1, none⟩ = some (.int .i64 s) ∧ w'.cell? ⟨w.heap.size, 2, none⟩ = some (.int .i64 h) ∧ w'.cell? ⟨w.heap.size, 3, none⟩ = some (.int .u32 t) ∧ w'.cell? ⟨w.heap.size, 4, none⟩ = some (.int .i64 bud) ∧ w'.cell? ⟨w.heap.size, 5, none⟩ = some (.int .i64 base) ∧ w'.cell? ⟨w.heap.size, 6, none⟩ = some (.int .u64 wait)) (first | exact HCS.out _ H1.out | exact HCS.out _ (bl_drew (bl_refl _)) | exact HCS.out _ (bl_refl _)) (first | (go_at_call 104; refine (HV.out _).mono ?_; rintro e w1 ⟨rfl, k⟩; (have H1 := Lib.hid ((bl_drew (bl_refl (w.alloc (.cells #[.int .i64 n, .int .i64 s, .int .i64 h, .int .u32 t, .int .i64 bud, .int .i64 base, .int .u64 wait] 27)))).trans k)); clear k))
  go_wp2
  go_ret
  exact ⟨rfl, HBW.out.trans (H1.out.mono HBW.out.size)⟩
set_option maxRecDepth 20000 in
set_option maxHeartbeats 8000000 in
theorem b_push (n s h t bud base wait : Int) (w : World) (hok : okE n s h bud base = true) :
    Calls Tryz.prog 46 #[cfgE n s h t bud base wait] w fun e w' => e = .returned (.int .i64 (bPush s bud)) ∧ Below w.heap.size w w' := by
  obtain ⟨_, b0, b1, _⟩ := okE_iff.1 hok
  have HOK := Lib.hid hok
  have HBW : Hid (Below w.heap.size w (w.alloc (.cells #[.int .i64 n, .int .i64 s, .int .i64 h, .int .u32 t, .int .i64 bud, .int .i64 base, .int .u64 wait] 27))) := Lib.hid (bl_alloc (bl_refl _) _)
  have HCS : Hid (∀ w', Below ((w.alloc (.cells #[.int .i64 n, .int .i64 s, .int .i64 h, .int .u32 t, .int .i64 bud, .int .i64 base, .int .u64 wait] 27))).heap.size ((w.alloc (.cells #[.int .i64 n, .int .i64 s, .int .i64 h, .int .u32 t, .int .i64 bud, .int .i64 base, .int .u64 wait] 27))) w' → w'.cell? ⟨w.heap.size, 0, none⟩ = some (.int .i64 n) ∧ w'.cell? ⟨w.heap.size, 1, none⟩ = some (.int .i64 s) ∧ w'.cell? ⟨w.heap.size, 2, none⟩ = some (.int .i64 h) ∧ w'.cell? ⟨w.heap.size, 3, none⟩ = some (.int .u32 t) ∧ w'.cell? ⟨w.heap.size, 4, none⟩ = some (.int .i64 bud) ∧ w'.cell? ⟨w.heap.size, 5, none⟩ = some (.int .i64 base) ∧ w'.cell? ⟨w.heap.size, 6, none⟩ = some (.int .u64 wait)) := Lib.hid fun w' hb => (cells7 ((hb.block w.heap.size (by simp)).trans (heap_new rfl))).1
  obtain ⟨d0, d1, d2, d3, d4, d5, d6⟩ := HCS.out (w.alloc (.cells #[.int .i64 n, .int .i64 s, .int .i64 h, .int .u32 t, .int .i64 bud, .int .i64 base, .int .u64 wait] 27)) (bl_refl _)
  have hm := bMul (s := s) b0 b1
  obtain ⟨tr, htr⟩ : ∃ tr, 3 * (bud + 1) = tr := ⟨_, rfl⟩
  obtain ⟨vi, hvi⟩ : ∃ vi, bud * bVis s = vi := ⟨_, rfl⟩
  obtain ⟨tot, htot⟩ : ∃ tot, (bPush s bud) = tot := ⟨_, rfl⟩
  have HTOT : Hid (sumN [tr, 1, tr, vi, tr] 5 = tot) := Lib.hid (by
    rw [← htot]
    unfold bPush
    rw [hvi]
    simp only [sumN, List.getD_cons_zero, List.getD_cons_succ]
    omega)
  rw [hvi] at hm
  have HT := Lib.hid (fun w => b_tries n s h t bud base wait w HOK.out)
  have HV := Lib.hid (fun w => b_visits n s h t bud base wait w HOK.out)
  rw [htr] at HT
  rw [hvi] at HV
  rw [htot]
  clear htot hvi
  clear hok
  go_enter Tryz.func46, Tryz.ntmps46
  go_upto_region 1 with (fail)
  go_region_held3 (fun w' => w'.cell? ⟨w.heap.size, 0, none⟩ = some (.int .i64 n) ∧ w'.cell? ⟨w.heap.size, 1, none⟩ = some (.int .i64 s) ∧ w'.cell? ⟨w.heap.size, 2, none⟩ = some (.int .i64 h) ∧ w'.cell? ⟨w.heap.size, 3, none⟩ = some (.int .u32 t) ∧ w'.cell? ⟨w.heap.size, 4, none⟩ = some (.int .i64 bud) ∧ w'.cell? ⟨w.heap.size, 5, none⟩ = some (.int .i64 base) ∧ w'.cell? ⟨w.heap.size, 6, none⟩ = some (.int .u64 wait)) (first | exact HCS.out _ H5.out | exact HCS.out _ (H4.out.trans ((bl_alloc (bl_refl w4) _).mono H4.out.size)) | exact HCS.out _ H4.out | exact HCS.out _ H3.out | exact HCS.out _ H2.out | exact HCS.out _ H1.out | exact HCS.out _ (bl_drew (bl_refl _)) | exact HCS.out _ (bl_refl _)) (first | ((have _h := H4); go_at_call 78; refine (bsum [tr, 1, tr, vi, tr] 5 (some ⟨_, 0, none⟩) 5 tot n s h t bud base wait _ HOK.out (by decide) (lit_cells (xs := [tr, 1, tr, vi, tr]) (heap_new rfl)) HTOT.out (fun j => by match j with | 0 => exact ⟨by show (0 : Int) ≤ tr; omega, by show tr ≤ 1000000; omega⟩ | 1 => exact ⟨by show (0 : Int) ≤ 1; omega, by show 1 ≤ 1000000; omega⟩ | 2 => exact ⟨by show (0 : Int) ≤ tr; omega, by show tr ≤ 1000000; omega⟩ | 3 => exact ⟨by show (0 : Int) ≤ vi; omega, by show vi ≤ 1000000; omega⟩ | 4 => exact ⟨by show (0 : Int) ≤ tr; omega, by show tr ≤ 1000000; omega⟩ | j + 5 => exact ⟨by simp, by simp⟩)).mono ?_; rintro e w5 ⟨rfl, kk⟩; (have H5 := Lib.hid (H4.out.trans (((bl_alloc (bl_refl w4) _).trans (kk.mono (by simp))).mono H4.out.size))); clear kk _h) | ((have _h := H3); go_at_call 79; refine (HT.out _).mono ?_; rintro e w4 ⟨rfl, kk⟩; (have H4 := Lib.hid (H3.out.trans (kk.mono H3.out.size))); clear kk _h) | ((have _h := H2); go_at_call 80; refine (HV.out _).mono ?_; rintro e w3 ⟨rfl, kk⟩; (have H3 := Lib.hid (H2.out.trans (kk.mono H2.out.size))); clear kk _h) | ((have _h := H1); go_at_call 79; refine (HT.out _).mono ?_; rintro e w2 ⟨rfl, kk⟩; (have H2 := Lib.hid (H1.out.trans (kk.mono H1.out.size))); clear kk _h) | (go_at_call 79; refine (HT.out _).mono ?_; rintro e w1 ⟨rfl, kk⟩; (have H1 := Lib.hid ((bl_drew (bl_refl (w.alloc (.cells #[.int .i64 n, .int .i64 s, .int .i64 h, .int .u32 t, .int .i64 bud, .int .i64 base, .int .u64 wait] 27)))).trans kk)); clear kk))
  go_wp2
  go_ret
  exact ⟨rfl, HBW.out.trans (H5.out.mono HBW.out.size)⟩
set_option maxRecDepth 20000 in
set_option maxHeartbeats 8000000 in
theorem b_pop (n s h t bud base wait : Int) (w : World) (hok : okE n s h bud base = true) :
    Calls Tryz.prog 45 #[cfgE n s h t bud base wait] w fun e w' => e = .returned (.int .i64 (bPop s bud)) ∧ Below w.heap.size w w' := by
  obtain ⟨_, b0, b1, _⟩ := okE_iff.1 hok
  have HOK := Lib.hid hok
  have HBW : Hid (Below w.heap.size w (w.alloc (.cells #[.int .i64 n, .int .i64 s, .int .i64 h, .int .u32 t, .int .i64 bud, .int .i64 base, .int .u64 wait] 27))) := Lib.hid (bl_alloc (bl_refl _) _)
  have HCS : Hid (∀ w', Below ((w.alloc (.cells #[.int .i64 n, .int .i64 s, .int .i64 h, .int .u32 t, .int .i64 bud, .int .i64 base, .int .u64 wait] 27))).heap.size ((w.alloc (.cells #[.int .i64 n, .int .i64 s, .int .i64 h, .int .u32 t, .int .i64 bud, .int .i64 base, .int .u64 wait] 27))) w' → w'.cell? ⟨w.heap.size, 0, none⟩ = some (.int .i64 n) ∧ w'.cell? ⟨w.heap.size, 1, none⟩ = some (.int .i64 s) ∧ w'.cell? ⟨w.heap.size, 2, none⟩ = some (.int .i64 h) ∧ w'.cell? ⟨w.heap.size, 3, none⟩ = some (.int .u32 t) ∧ w'.cell? ⟨w.heap.size, 4, none⟩ = some (.int .i64 bud) ∧ w'.cell? ⟨w.heap.size, 5, none⟩ = some (.int .i64 base) ∧ w'.cell? ⟨w.heap.size, 6, none⟩ = some (.int .u64 wait)) := Lib.hid fun w' hb => (cells7 ((hb.block w.heap.size (by simp)).trans (heap_new rfl))).1
  obtain ⟨d0, d1, d2, d3, d4, d5, d6⟩ := HCS.out (w.alloc (.cells #[.int .i64 n, .int .i64 s, .int .i64 h, .int .u32 t, .int .i64 bud, .int .i64 base, .int .u64 wait] 27)) (bl_refl _)
  have hm := bMul (s := s) b0 b1
  obtain ⟨tr, htr⟩ : ∃ tr, 3 * (bud + 1) = tr := ⟨_, rfl⟩
  obtain ⟨vi, hvi⟩ : ∃ vi, bud * bVis s = vi := ⟨_, rfl⟩
  obtain ⟨tot, htot⟩ : ∃ tot, (bPop s bud) = tot := ⟨_, rfl⟩
  have HTOT : Hid (sumN [tr, vi, 1, tr] 4 = tot) := Lib.hid (by
    rw [← htot]
    unfold bPop
    rw [hvi]
    simp only [sumN, List.getD_cons_zero, List.getD_cons_succ]
    omega)
  rw [hvi] at hm
  have HT := Lib.hid (fun w => b_tries n s h t bud base wait w HOK.out)
  have HV := Lib.hid (fun w => b_visits n s h t bud base wait w HOK.out)
  rw [htr] at HT
  rw [hvi] at HV
  rw [htot]
  clear htot hvi
  clear hok
  go_enter Tryz.func45, Tryz.ntmps45
  go_upto_region 1 with (fail)
  go_region_held3 (fun w' => w'.cell? ⟨w.heap.size, 0, none⟩ = some (.int .i64 n) ∧ w'.cell? ⟨w.heap.size, 1, none⟩ = some (.int .i64 s) ∧ w'.cell? ⟨w.heap.size, 2, none⟩ = some (.int .i64 h) ∧ w'.cell? ⟨w.heap.size, 3, none⟩ = some (.int .u32 t) ∧ w'.cell? ⟨w.heap.size, 4, none⟩ = some (.int .i64 bud) ∧ w'.cell? ⟨w.heap.size, 5, none⟩ = some (.int .i64 base) ∧ w'.cell? ⟨w.heap.size, 6, none⟩ = some (.int .u64 wait)) (first | exact HCS.out _ H4.out | exact HCS.out _ (H3.out.trans ((bl_alloc (bl_refl w3) _).mono H3.out.size)) | exact HCS.out _ H3.out | exact HCS.out _ H2.out | exact HCS.out _ H1.out | exact HCS.out _ (bl_drew (bl_refl _)) | exact HCS.out _ (bl_refl _)) (first | ((have _h := H3); go_at_call 78; refine (bsum [tr, vi, 1, tr] 4 (some ⟨_, 0, none⟩) 4 tot n s h t bud base wait _ HOK.out (by decide) (lit_cells (xs := [tr, vi, 1, tr]) (heap_new rfl)) HTOT.out (fun j => by match j with | 0 => exact ⟨by show (0 : Int) ≤ tr; omega, by show tr ≤ 1000000; omega⟩ | 1 => exact ⟨by show (0 : Int) ≤ vi; omega, by show vi ≤ 1000000; omega⟩ | 2 => exact ⟨by show (0 : Int) ≤ 1; omega, by show 1 ≤ 1000000; omega⟩ | 3 => exact ⟨by show (0 : Int) ≤ tr; omega, by show tr ≤ 1000000; omega⟩ | j + 4 => exact ⟨by simp, by simp⟩)).mono ?_; rintro e w4 ⟨rfl, kk⟩; (have H4 := Lib.hid (H3.out.trans (((bl_alloc (bl_refl w3) _).trans (kk.mono (by simp))).mono H3.out.size))); clear kk _h) | ((have _h := H2); go_at_call 79; refine (HT.out _).mono ?_; rintro e w3 ⟨rfl, kk⟩; (have H3 := Lib.hid (H2.out.trans (kk.mono H2.out.size))); clear kk _h) | ((have _h := H1); go_at_call 80; refine (HV.out _).mono ?_; rintro e w2 ⟨rfl, kk⟩; (have H2 := Lib.hid (H1.out.trans (kk.mono H1.out.size))); clear kk _h) | (go_at_call 79; refine (HT.out _).mono ?_; rintro e w1 ⟨rfl, kk⟩; (have H1 := Lib.hid ((bl_drew (bl_refl (w.alloc (.cells #[.int .i64 n, .int .i64 s, .int .i64 h, .int .u32 t, .int .i64 bud, .int .i64 base, .int .u64 wait] 27)))).trans kk)); clear kk))
  go_wp2
  go_ret
  exact ⟨rfl, HBW.out.trans (H4.out.mono HBW.out.size)⟩
theorem pick21_is (c n k : Int) (w : World) (hk : pickI c n = k) (h0 : 0 < n) (h1 : n < 9223372036854775808) (c0 : -9223372036854775808 ≤ c) (c1 : c < 9223372036854775808) :
    Calls Tryz.prog 47 #[.int .i64 c, .int .i64 n] w fun e w' => e = .returned (.int .i64 k) ∧ w = w' := by
  subst hk
  by_cases hc : c < 0
  · have e : pickI c n = (-(c + 1)) % n := by simp [pickI, hc]
    rw [e]
    have d0 : decide (c < 0) = true := decide_eq_true hc
    have b1 : 0 ≤ -(c + 1) := by omega
    have b2 : -(c + 1) < 9223372036854775808 := by omega
    have b3 : -9223372036854775808 ≤ c + 1 := by omega
    have b4 : (-(c + 1)).tmod n = (-(c + 1)) % n := Int.tmod_eq_emod_of_nonneg b1
    go_enter Tryz.func47, Tryz.ntmps47
    go_wp2
    go_ret
    exact ⟨rfl, rfl⟩
  · have e : pickI c n = c % n := by simp [pickI, hc]
    rw [e]
    have d0 : decide (c < 0) = false := decide_eq_false hc
    have b1 : 0 ≤ c := by omega
    go_enter Tryz.func47, Tryz.ntmps47
    go_wp2
    go_ret
    exact ⟨rfl, rfl⟩
theorem cfg21_is (a b c d n s bud base : Int) (w : World) (hn : 1 + pickI a 6 = n) (hs : pickI b 4 = s) (hb : pickI c 17 = bud) (hm : 1 + pickI d 64 = base) (a0 : -9223372036854775808 ≤ a) (a1 : a < 9223372036854775808) (b0 : -9223372036854775808 ≤ b) (b1 : b < 9223372036854775808) (c0 : -9223372036854775808 ≤ c) (c1 : c < 9223372036854775808) (d0 : -9223372036854775808 ≤ d) (d1 : d < 9223372036854775808) :
    Calls Tryz.prog 43 #[.int .i64 a, .int .i64 b, .int .i64 c, .int .i64 d] w fun e w' => e = .returned (cfgE n s 0 5 bud base 1152921504606846976) ∧ Below w.heap.size w w' := by
  have r1 := pickI_rng (c := a) (n := 6) (by decide)
  have r2 := pickI_rng (c := d) (n := 64) (by decide)
  obtain ⟨k, hk⟩ : ∃ k, pickI a 6 = k := ⟨_, rfl⟩
  obtain ⟨m, hm2⟩ : ∃ m, pickI d 64 = m := ⟨_, rfl⟩
  rw [hk] at hn r1
  rw [hm2] at hm r2
  obtain ⟨r0, r1⟩ := r1
  obtain ⟨r2, r4⟩ := r2
  have HK := Lib.hid hk
  have HS := Lib.hid hs
  have HB := Lib.hid hb
  have HM := Lib.hid hm2
  clear hk hs hb hm2
  subst hn hm
  have e1 : IntKind.i64.wrap (1 + k) = 1 + k := by rw [IntKind.wrap_i64]; omega
  have e2 : IntKind.i64.wrap (1 + m) = 1 + m := by rw [IntKind.wrap_i64]; omega
  go_enter Tryz.func43, Tryz.ntmps43
  go_wp2_with (first | ((have _h := A3); go_at_call 47; refine (pick21_is d 64 m _ HM.out (by decide) (by decide) d0 d1).mono ?_; rintro e w1 ⟨rfl, rfl⟩; (have A4 : True := trivial)) | ((have _h := A2); go_at_call 47; refine (pick21_is c 17 bud _ HB.out (by decide) (by decide) c0 c1).mono ?_; rintro e w1 ⟨rfl, rfl⟩; (have A3 : True := trivial)) | ((have _h := A1); go_at_call 47; refine (pick21_is b 4 s _ HS.out (by decide) (by decide) b0 b1).mono ?_; rintro e w1 ⟨rfl, rfl⟩; (have A2 : True := trivial)) | (go_at_call 47; refine (pick21_is a 6 k _ HK.out (by decide) (by decide) a0 a1).mono ?_; rintro e w1 ⟨rfl, rfl⟩; (have A1 : True := trivial)))
  go_returns
  exact ⟨rfl, by go_grown⟩
theorem b_window (th x : Int) (n s h t bud base wait : Int) (w : World) (hok : okE n s h bud base = true) (hh : h = 0) (h0 : 0 ≤ th) (h1 : th ≤ 1073741824) (hx : th * bPush s bud = x) :
    Calls Tryz.prog 74 #[cfgE n s h t bud base wait, .int .i64 th] w fun e w' => e = .returned (.int .i64 x) ∧ Below w.heap.size w w' := by
  obtain ⟨_, b0, b1, _⟩ := okE_iff.1 hok
  have hm := bMul (s := s) b0 b1
  have HP := Lib.hid (fun w => b_push n s h t bud base wait w hok)
  have hb : 0 ≤ bPush s bud ∧ bPush s bud ≤ 10000 := by unfold bPush; omega
  generalize bPush s bud = bp at *
  have hxr : 0 ≤ x ∧ x ≤ 1073741824 * 10000 := by
    rw [← hx]
    exact ⟨Int.mul_nonneg h0 hb.1, Int.le_trans (Int.mul_le_mul h1 hb.2 hb.1 (by decide)) (Int.le_refl _)⟩
  have e1 : IntKind.i64.wrap (th * bp) = x := by rw [hx, IntKind.wrap_i64]; omega
  have e2 : max th 0 = th := by omega
  subst hh
  clear hx hok hm
  go_enter Tryz.func74, Tryz.ntmps74
  go_wp2_with (go_at_call 46; refine (HP.out _).mono ?_; rintro e w1 ⟨rfl, k⟩; (have HB1 := Lib.hid k); clear k)
  go_ret
  exact ⟨rfl, (bl_alloc (bl_refl _) _).trans (HB1.out.mono (by simp))⟩
set_option maxRecDepth 20000 in
set_option maxHeartbeats 8000000 in
theorem shown21 (w : World) : Calls Tryz.prog 42 #[] w fun e w' => e = .returned (.bool true) ∧ Below w.heap.size w w' := by
  have H := Lib.hid (St.nil w)
  go_enter Tryz.func42, Tryz.ntmps42
  go_wp2_with (first | ((have _h := H6); go_at_call 74; refine (b_window 3 30 2 0 0 5 0 1 1152921504606846976 _ (by decide) rfl (by decide) (by decide) (by decide)).mono ?_; rintro e w7 ⟨rfl, hb⟩; (have H7 := Lib.hid (H6.out.below hb)); clear hb; clear _h) | ((have _h := H5); go_at_call 45; refine (b_pop 2 1 0 5 2 1 1152921504606846976 _ (by decide)).mono ?_; rintro e w6 ⟨rfl, hb⟩; (have H6 := Lib.hid (H5.out.below hb)); clear hb; clear d0 d1 d2 d3 d4 d5 d6 ld f0 f1 f2 f3 f4 f5 f6 lf; (obtain ⟨⟨d0, d1, d2, d3, d4, d5, d6⟩, ld⟩ := cells7 (H6.out.cells 1 rfl)); (obtain ⟨⟨f0, f1, f2, f3, f4, f5, f6⟩, lf⟩ := cells7 (H6.out.cells 0 rfl)); clear _h) | ((have _h := H4); go_at_call 46; refine (b_push 2 1 0 5 2 1 1152921504606846976 _ (by decide)).mono ?_; rintro e w5 ⟨rfl, hb⟩; (have H5 := Lib.hid (H4.out.below hb)); clear hb; clear d0 d1 d2 d3 d4 d5 d6 ld f0 f1 f2 f3 f4 f5 f6 lf; (obtain ⟨⟨d0, d1, d2, d3, d4, d5, d6⟩, ld⟩ := cells7 (H5.out.cells 1 rfl)); (obtain ⟨⟨f0, f1, f2, f3, f4, f5, f6⟩, lf⟩ := cells7 (H5.out.cells 0 rfl)); clear _h) | ((have _h := H3); go_at_call 45; refine (b_pop 2 0 0 5 0 1 1152921504606846976 _ (by decide)).mono ?_; rintro e w4 ⟨rfl, hb⟩; (have H4 := Lib.hid (H3.out.below hb)); clear hb; clear d0 d1 d2 d3 d4 d5 d6 ld f0 f1 f2 f3 f4 f5 f6 lf; (obtain ⟨⟨d0, d1, d2, d3, d4, d5, d6⟩, ld⟩ := cells7 (H4.out.cells 1 rfl)); (obtain ⟨⟨f0, f1, f2, f3, f4, f5, f6⟩, lf⟩ := cells7 (H4.out.cells 0 rfl)); clear _h) | ((have _h := H2); go_at_call 46; refine (b_push 2 0 0 5 0 1 1152921504606846976 _ (by decide)).mono ?_; rintro e w3 ⟨rfl, hb⟩; (have H3 := Lib.hid (H2.out.below hb)); clear hb; clear d0 d1 d2 d3 d4 d5 d6 ld f0 f1 f2 f3 f4 f5 f6 lf; (obtain ⟨⟨d0, d1, d2, d3, d4, d5, d6⟩, ld⟩ := cells7 (H3.out.cells 1 rfl)); (obtain ⟨⟨f0, f1, f2, f3, f4, f5, f6⟩, lf⟩ := cells7 (H3.out.cells 0 rfl)); clear _h) | ((have _h := H1); go_at_call 43; refine (cfg21_is 1 1 2 0 2 1 2 1 _ rfl rfl rfl rfl (by decide) (by decide) (by decide) (by decide) (by decide) (by decide) (by decide) (by decide)).mono ?_; rintro e w2 ⟨rfl, hb⟩; (have H2 := Lib.hid ((H1.out.below hb).alloc #[.int .i64 2, .int .i64 1, .int .i64 0, .int .u32 5, .int .i64 2, .int .i64 1, .int .u64 1152921504606846976] 27)); clear hb; clear d0 d1 d2 d3 d4 d5 d6 ld; (obtain ⟨⟨d0, d1, d2, d3, d4, d5, d6⟩, ld⟩ := cells7 (H2.out.cells 1 rfl)); (obtain ⟨⟨f0, f1, f2, f3, f4, f5, f6⟩, lf⟩ := cells7 (H2.out.cells 0 rfl)); clear _h) | ((have _h := H); go_at_call 43; refine (cfg21_is 1 0 0 0 2 0 0 1 _ rfl rfl rfl rfl (by decide) (by decide) (by decide) (by decide) (by decide) (by decide) (by decide) (by decide)).mono ?_; rintro e w1 ⟨rfl, hb⟩; (have H1 := Lib.hid ((H.out.below hb).alloc #[.int .i64 2, .int .i64 0, .int .i64 0, .int .u32 5, .int .i64 0, .int .i64 1, .int .u64 1152921504606846976] 27)); clear hb; (obtain ⟨⟨d0, d1, d2, d3, d4, d5, d6⟩, ld⟩ := cells7 (H1.out.cells 0 rfl)); clear _h))
  go_ret
  exact ⟨rfl, H7.out.bel⟩
end Go.Proofs.YtgfeagggkplegaaGreat
