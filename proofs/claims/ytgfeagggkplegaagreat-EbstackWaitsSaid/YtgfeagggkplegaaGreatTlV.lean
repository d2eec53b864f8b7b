/-
  taglist's machines as they lie in the heap, and what each of their functions does.
-/
import Derived.Test.YtgfeagggkplegaaGreatRow2
import Derived.Test.YtgfeagggkplegaaGreatLayout
import Derived.Deep.QuietTactic
import Derived.Laws.EntriesVeiled
namespace Go.Proofs.YtgfeagggkplegaaGreat
open Go.RowKit
set_option linter.unusedVariables false
set_option linter.unusedSimpArgs false

theorem index_is (x y : Int) (w : World) (h : x % 4294967296 = y) :
    Calls Tryz.prog 101 #[.int .u64 x] w fun e w' => e = .returned (.int .u32 y) ∧ Below w.heap.size w w' := by
  subst h
  exact index_any x w
theorem lnext_is (n s h t i v : Int) (w : World) (hv : atI n s h 0 (2 * (i - 1)) = v) (i0 : 0 ≤ i) (i1 : i < 4294967296) :
    Calls Tryz.prog 77 #[.agg #[.int .i64 n, .int .i64 s, .int .i64 h, .int .u32 t], .int .u32 i] w fun e w' => e = .returned (.int .i64 v) ∧ Below w.heap.size w w' := by
  subst hv
  exact lnext_any n s h t i w i0 i1
theorem pnext_is (x i v : Int) (w : World) (hv : nextW x i = v) (h0 : 0 ≤ x) (h1 : x < 18446744073709551616) (i0 : 0 ≤ i) (i1 : i < 4294967296) :
    Calls Tryz.prog 158 #[.int .u64 x, .int .u32 i] w fun e w' => e = .returned (.int .u64 v) ∧ Below w.heap.size w w' := by
  subst hv
  exact pnext_any x i w h0 h1 i0 i1
theorem nextW_rng {x f : Int} (f0 : 0 ≤ f) (f1 : f < 4294967296) : 0 ≤ nextW x f ∧ nextW x f < 18446744073709551616 := by unfold nextW; omega
theorem cellsT {w : World} {b : Nat} {a0 a1 a2 a3 a4 a5 a6 a7 a8 : Value} {e : TypeId} (h : w.heap[b]? = some (.cells #[a0, a1, a2, a3, a4, a5, a6, a7, a8] e (0, 0))) :
    (w.cell? ⟨b, 0, none⟩ = some a0 ∧ w.cell? ⟨b, 1, none⟩ = some a1 ∧ w.cell? ⟨b, 2, none⟩ = some a2 ∧ w.cell? ⟨b, 3, none⟩ = some a3 ∧ w.cell? ⟨b, 4, none⟩ = some a4 ∧ w.cell? ⟨b, 5, none⟩ = some a5 ∧ w.cell? ⟨b, 6, none⟩ = some a6 ∧ w.cell? ⟨b, 7, none⟩ = some a7 ∧ w.cell? ⟨b, 8, none⟩ = some a8) ∧
    (w.frozen? ⟨b, 5, none⟩ = false ∧ w.frozen? ⟨b, 6, none⟩ = false ∧ w.frozen? ⟨b, 7, none⟩ = false ∧ w.frozen? ⟨b, 8, none⟩ = false) ∧ b < w.heap.size :=
  ⟨⟨cell_of h 0, cell_of h 1, cell_of h 2, cell_of h 3, cell_of h 4, cell_of h 5, cell_of h 6, cell_of h 7, cell_of h 8⟩, ⟨free_of h 5, free_of h 6, free_of h 7, free_of h 8⟩, lt_of_heap h⟩
abbrev tlB (T : TypeId) (p : Nat) (n s h t a i x : Int) (nx : Value) (st : Int) : Asn := boxA p #[.int .i64 n, .int .i64 s, .int .i64 h, .int .u32 t, .int .i64 a, .int .u32 i, .int .u64 x, nx, .int .i64 st] T
abbrev bxTk (b p : Nat) : Asn := boxA b #[.pointer (some ⟨p, 0, none⟩)] 121
abbrev bxGv (b p : Nat) : Asn := boxA b #[.pointer (some ⟨p, 0, none⟩)] 230
abbrev bxW (b : Nat) (x : Int) : Asn := boxA b #[.int .u64 x] 25
/-- The cells that a second step reads. -/
theorem tlF {T U : TypeId} {w0 w : World} {l : List Asn} (hS : St w0 l w) (j k : Nat) {p b : Nat} {n s h t a i x st : Int} {nx : Value} (he : l[j]? = some (tlB T p n s h t a i x nx st)) (hk : l[k]? = some (boxA b #[.pointer (some ⟨p, 0, none⟩)] U)) :
    w.cell? ⟨b, 0, none⟩ = some (.pointer (some ⟨p, 0, none⟩)) ∧ w.cell? ⟨p, 0, none⟩ = some (.int .i64 n) ∧ w.cell? ⟨p, 1, none⟩ = some (.int .i64 s) ∧ w.cell? ⟨p, 2, none⟩ = some (.int .i64 h) ∧ w.cell? ⟨p, 3, none⟩ = some (.int .u32 t) ∧ w.cell? ⟨p, 5, none⟩ = some (.int .u32 i) ∧ w.cell? ⟨p, 6, none⟩ = some (.int .u64 x) := by
  obtain ⟨⟨c0, c1, c2, c3, c4, c5, c6, c7, c8⟩, _, _⟩ := cellsT (hS.cells j he)
  exact ⟨cell_of (hS.cells k hk) 0, c0, c1, c2, c3, c5, c6⟩

set_option maxHeartbeats 4000000 in
theorem tl_swap_hit {w0 w : World} {q p : Nat} {ws : List Int} {ns : List Note} {L : List Asn} (T : TypeId) (n s h t i x st : Int) (nx : Value) (a : Nat) (f v : Int) (hS : St w0 (memA q ws ns :: tlB T p n s h t a i x nx st :: L) w) (hk : ns.length ≤ 1000000000000) (hx0 : 0 ≤ x) (hx1 : x < 18446744073709551616) (f0 : 0 ≤ f) (f1 : f < 4294967296) (hv : nextW x f = v) (ha : a < ws.length) (hy : rdW ws a = x) :
    Calls Tryz.prog 134 #[.pointer (some ⟨p, 0, none⟩), .pointer (some ⟨q, 0, none⟩), .int .u32 f] w fun e w' => e = .returned (.int .i64 1) ∧ St w0 (memA q (ws.set a v) (ns ++ [⟨99, a, x, v, true⟩]) :: tlB T p n s h t a i x nx st :: L) w' := by
  have hvr : 0 ≤ v ∧ v < 18446744073709551616 := by subst hv; exact nextW_rng f0 f1
  obtain ⟨v0, v1⟩ := hvr
  have H := Lib.hid hS
  have HV := Lib.hid hv
  have HY := Lib.hid hy
  obtain ⟨⟨c0, c1, c2, c3, c4, c5, c6, c7, c8⟩, ⟨z5, z6, z7, z8⟩, lt0⟩ := cellsT (hS.cells 1 rfl)
  clear hS hv hy
  go_enter Tryz.func134, Tryz.ntmps134
  go_wp2
  go_region_held3 (fun w' => w'.cell? ⟨p, 4, none⟩ = some (.int .i64 a) ∧ w'.cell? ⟨p, 6, none⟩ = some (.int .u64 x)) (first | exact ⟨c4, c6⟩) (first | ((have _h := H2); go_at_call 157; refine (swap_st H2.out a x v HY.out ha hk v0 v1).mono ?_; rintro e w3 ⟨rfl, h3⟩; (have H3 := Lib.hid h3); clear c0 c1 c2 c3 c4 c5 c6 c7 c8 z5 z6 z7 z8 lt0; obtain ⟨⟨c0, c1, c2, c3, c4, c5, c6, c7, c8⟩, ⟨z5, z6, z7, z8⟩, lt0⟩ := cellsT (h3.cells 1 rfl); clear h3 _h) | (go_at_call 158; refine (pnext_is x f v _ HV.out hx0 hx1 f0 f1).mono ?_; rintro e w2 ⟨rfl, hb⟩; (have h2 := H.out.drew.below hb); (have H2 := Lib.hid h2); clear c0 c1 c2 c3 c4 c5 c6 c7 c8 z5 z6 z7 z8 lt0; obtain ⟨⟨c0, c1, c2, c3, c4, c5, c6, c7, c8⟩, ⟨z5, z6, z7, z8⟩, lt0⟩ := cellsT (h2.cells 1 rfl); clear h2 hb))
  go_wp2
  go_ret
  exact ⟨rfl, H3.out⟩

set_option maxHeartbeats 4000000 in
theorem tl_swap_lost {w0 w : World} {q p : Nat} {ws : List Int} {ns : List Note} {L : List Asn} (T : TypeId) (n s h t i x st : Int) (nx : Value) (a : Nat) (y : Int) (f v : Int) (hS : St w0 (memA q ws ns :: tlB T p n s h t a i x nx st :: L) w) (hk : ns.length ≤ 1000000000000) (hx0 : 0 ≤ x) (hx1 : x < 18446744073709551616) (f0 : 0 ≤ f) (f1 : f < 4294967296) (hv : nextW x f = v) (ha : a < ws.length) (hy : rdW ws a = y) (hne : (y == x) = false) :
    Calls Tryz.prog 134 #[.pointer (some ⟨p, 0, none⟩), .pointer (some ⟨q, 0, none⟩), .int .u32 f] w fun e w' => e = .returned (.int .i64 3) ∧ St w0 (memA q ws (ns ++ [⟨99, a, y, y, false⟩]) :: tlB T p n s h t a i x nx st :: L) w' := by
  have hvr : 0 ≤ v ∧ v < 18446744073709551616 := by subst hv; exact nextW_rng f0 f1
  obtain ⟨v0, v1⟩ := hvr
  have H := Lib.hid hS
  have HV := Lib.hid hv
  have HY := Lib.hid hy
  obtain ⟨⟨c0, c1, c2, c3, c4, c5, c6, c7, c8⟩, ⟨z5, z6, z7, z8⟩, lt0⟩ := cellsT (hS.cells 1 rfl)
  clear hS hv hy
  go_enter Tryz.func134, Tryz.ntmps134
  go_wp2
  go_region_held3 (fun w' => w'.cell? ⟨p, 4, none⟩ = some (.int .i64 a) ∧ w'.cell? ⟨p, 6, none⟩ = some (.int .u64 x)) (first | exact ⟨c4, c6⟩) (first | ((have _h := H2); go_at_call 157; refine (swap_lost H2.out a y x v HY.out ha hk hne).mono ?_; rintro e w3 ⟨rfl, h3⟩; (have H3 := Lib.hid h3); clear c0 c1 c2 c3 c4 c5 c6 c7 c8 z5 z6 z7 z8 lt0; obtain ⟨⟨c0, c1, c2, c3, c4, c5, c6, c7, c8⟩, ⟨z5, z6, z7, z8⟩, lt0⟩ := cellsT (h3.cells 1 rfl); clear h3 _h) | (go_at_call 158; refine (pnext_is x f v _ HV.out hx0 hx1 f0 f1).mono ?_; rintro e w2 ⟨rfl, hb⟩; (have h2 := H.out.drew.below hb); (have H2 := Lib.hid h2); clear c0 c1 c2 c3 c4 c5 c6 c7 c8 z5 z6 z7 z8 lt0; obtain ⟨⟨c0, c1, c2, c3, c4, c5, c6, c7, c8⟩, ⟨z5, z6, z7, z8⟩, lt0⟩ := cellsT (h2.cells 1 rfl); clear h2 hb))
  go_wp2
  go_ret
  exact ⟨rfl, H3.out⟩

set_option maxHeartbeats 4000000 in
theorem tk_head_none {w0 w : World} {q p : Nat} {ws : List Int} {ns : List Note} {L : List Asn} (n s h t i x st : Int) (nx : Value) (a : Nat) (y : Int) (hS : St w0 (memA q ws ns :: tlB 180 p n s h t a i x nx st :: L) w) (hk : ns.length ≤ 1000000000000) (ha : a < ws.length) (hy : rdW ws a = y) (hz : y % 4294967296 = 0) :
    Calls Tryz.prog 87 #[.pointer (some ⟨p, 0, none⟩), .pointer (some ⟨q, 0, none⟩)] w fun e w' => e = .returned (.int .i64 2) ∧ St w0 (memA q ws (ns ++ [⟨108, a, y, y, true⟩]) :: tlB 180 p n s h t a 0 y nx st :: L) w' := by
  have hmf : ∀ (fn : Fn) (first cap : Array Value) (w : World), (Instr.makeFunc fn first cap).run Tryz.prog w = .ok (.func fn first cap) w := fun _ _ _ _ => rfl
  have H := Lib.hid hS
  have HY := Lib.hid hy
  have HZ := Lib.hid hz
  obtain ⟨⟨c0, c1, c2, c3, c4, c5, c6, c7, c8⟩, ⟨z5, z6, z7, z8⟩, lt0⟩ := cellsT (hS.cells 1 rfl)
  clear hS hy hz
  go_enter Tryz.func87, Tryz.ntmps87
  go_wp2_with (first | (go_at_call 106; refine (load_st H.out a y HY.out ha hk).mono ?_; rintro e w2 ⟨rfl, h2⟩; (have H2 := Lib.hid h2); clear c0 c1 c2 c3 c4 c5 c6 c7 c8 z5 z6 z7 z8 lt0; obtain ⟨⟨c0, c1, c2, c3, c4, c5, c6, c7, c8⟩, ⟨z5, z6, z7, z8⟩, lt0⟩ := cellsT (h2.cells 1 rfl); clear h2) | (go_at_call 101; refine (index_is y 0 _ HZ.out).mono ?_; rintro e w3 ⟨rfl, hb⟩; (have h3 := H2.out.below hb); (have H3 := Lib.hid h3); clear c0 c1 c2 c3 c4 c5 c6 c7 c8 z5 z6 z7 z8 lt0; obtain ⟨⟨c0, c1, c2, c3, c4, c5, c6, c7, c8⟩, ⟨z5, z6, z7, z8⟩, lt0⟩ := cellsT (h3.cells 1 rfl); clear h3 hb))
  go_ret
  exact ⟨rfl, (H3.out.setAt 1 rfl 6 (.int .u64 y)).setAt 1 rfl 5 (.int .u32 0)⟩

set_option maxHeartbeats 4000000 in
theorem tk_head_bad {w0 w : World} {q p : Nat} {ws : List Int} {ns : List Note} {L : List Asn} (n s h t i x st : Int) (nx : Value) (a : Nat) (y z v : Int) (hS : St w0 (memA q ws ns :: tlB 180 p n s h t a i x nx st :: L) w) (hk : ns.length ≤ 1000000000000) (ha : a < ws.length) (hy : rdW ws a = y) (hz : y % 4294967296 = z) (hz0 : z ≠ 0) (hv : atI n s h 0 (2 * (z - 1)) = v) (hlt : v < 0) :
    Calls Tryz.prog 87 #[.pointer (some ⟨p, 0, none⟩), .pointer (some ⟨q, 0, none⟩)] w fun e w' => e = .returned (.int .i64 5) ∧ St w0 (memA q ws (ns ++ [⟨108, a, y, y, true⟩]) :: tlB 180 p n s h t a z y nx st :: L) w' := by
  have hmf : ∀ (fn : Fn) (first cap : Array Value) (w : World), (Instr.makeFunc fn first cap).run Tryz.prog w = .ok (.func fn first cap) w := fun _ _ _ _ => rfl
  have H := Lib.hid hS
  have HY := Lib.hid hy
  have HZ := Lib.hid hz
  have HV := Lib.hid hv
  have zz0 : 0 ≤ z := by omega
  have zz1 : z < 4294967296 := by omega
  have e0 : (z == 0) = false := by simpa using hz0
  have e1 : decide (v < 0) = true := decide_eq_true hlt
  clear hv hz0
  obtain ⟨⟨c0, c1, c2, c3, c4, c5, c6, c7, c8⟩, ⟨z5, z6, z7, z8⟩, lt0⟩ := cellsT (hS.cells 1 rfl)
  clear hS hy hz
  go_enter Tryz.func87, Tryz.ntmps87
  go_wp2_with (first | (go_at_call 106; refine (load_st H.out a y HY.out ha hk).mono ?_; rintro e w2 ⟨rfl, h2⟩; (have H2 := Lib.hid h2); clear c0 c1 c2 c3 c4 c5 c6 c7 c8 z5 z6 z7 z8 lt0; obtain ⟨⟨c0, c1, c2, c3, c4, c5, c6, c7, c8⟩, ⟨z5, z6, z7, z8⟩, lt0⟩ := cellsT (h2.cells 1 rfl); clear h2) | (go_at_call 101; refine (index_is y z _ HZ.out).mono ?_; rintro e w3 ⟨rfl, hb⟩; (have h3 := H2.out.below hb); (have H3 := Lib.hid h3); clear c0 c1 c2 c3 c4 c5 c6 c7 c8 z5 z6 z7 z8 lt0; obtain ⟨⟨c0, c1, c2, c3, c4, c5, c6, c7, c8⟩, ⟨z5, z6, z7, z8⟩, lt0⟩ := cellsT (h3.cells 1 rfl); clear h3 hb))
  have h4 := (H3.out.setAt 1 rfl 6 (.int .u64 y)).setAt 1 rfl 5 (.int .u32 z)
  generalize (w3.setCell ⟨p, 6, none⟩ (.int .u64 y)).setCell ⟨p, 5, none⟩ (.int .u32 z) = W at *
  have H4 := Lib.hid (show St w0 (memA q ws (ns ++ [⟨108, a, y, y, true⟩]) :: tlB 180 p n s h t a z y nx st :: L) W from h4)
  clear c0 c1 c2 c3 c4 c5 c6 c7 c8 z5 z6 z7 z8 lt0
  obtain ⟨⟨c0, c1, c2, c3, c4, c5, c6, c7, c8⟩, ⟨z5, z6, z7, z8⟩, lt0⟩ := cellsT (h4.cells 1 rfl)
  clear h4
  go_region_held3 (fun w' => w'.cell? ⟨p, 0, none⟩ = some (.int .i64 n) ∧ w'.cell? ⟨p, 1, none⟩ = some (.int .i64 s) ∧ w'.cell? ⟨p, 2, none⟩ = some (.int .i64 h) ∧ w'.cell? ⟨p, 3, none⟩ = some (.int .u32 t) ∧ w'.cell? ⟨p, 5, none⟩ = some (.int .u32 z)) (first | exact ⟨c0, c1, c2, c3, c5⟩) ((go_at_call 77; refine (lnext_is n s h t z v _ HV.out zz0 zz1).mono ?_; rintro e w5 ⟨rfl, hb⟩; (have h5 := H4.out.drew.below hb); (have H5 := Lib.hid h5); clear c0 c1 c2 c3 c4 c5 c6 c7 c8 z5 z6 z7 z8 lt0; obtain ⟨⟨c0, c1, c2, c3, c4, c5, c6, c7, c8⟩, ⟨z5, z6, z7, z8⟩, lt0⟩ := cellsT (h5.cells 1 rfl); clear h5 hb))
  go_wp2
  go_ret
  exact ⟨rfl, H5.out⟩

set_option maxHeartbeats 4000000 in
theorem tk_head_ok {w0 w : World} {q p : Nat} {ws : List Int} {ns : List Note} {L : List Asn} (n s h t i x st : Int) (nx : Value) (a : Nat) (y z v : Int) (hS : St w0 (memA q ws ns :: tlB 180 p n s h t a i x nx st :: L) w) (hk : ns.length ≤ 1000000000000) (ha : a < ws.length) (hy : rdW ws a = y) (hz : y % 4294967296 = z) (hz0 : z ≠ 0) (hv : atI n s h 0 (2 * (z - 1)) = v) (hlt : 0 ≤ v) :
    Calls Tryz.prog 87 #[.pointer (some ⟨p, 0, none⟩), .pointer (some ⟨q, 0, none⟩)] w fun e w' => e = .returned (.int .i64 0) ∧ St w0 (memA q ws (ns ++ [⟨108, a, y, y, true⟩]) :: tlB 180 p n s h t a z y (.func (.func 107) #[.pointer (some ⟨p, 0, none⟩)] #[]) st :: L) w' := by
  have hmf : ∀ (fn : Fn) (first cap : Array Value) (w : World), (Instr.makeFunc fn first cap).run Tryz.prog w = .ok (.func fn first cap) w := fun _ _ _ _ => rfl
  have H := Lib.hid hS
  have HY := Lib.hid hy
  have HZ := Lib.hid hz
  have HV := Lib.hid hv
  have zz0 : 0 ≤ z := by omega
  have zz1 : z < 4294967296 := by omega
  have e0 : (z == 0) = false := by simpa using hz0
  have e1 : decide (v < 0) = false := decide_eq_false (by omega)
  clear hv hz0
  obtain ⟨⟨c0, c1, c2, c3, c4, c5, c6, c7, c8⟩, ⟨z5, z6, z7, z8⟩, lt0⟩ := cellsT (hS.cells 1 rfl)
  clear hS hy hz
  go_enter Tryz.func87, Tryz.ntmps87
  go_wp2_with (first | (go_at_call 106; refine (load_st H.out a y HY.out ha hk).mono ?_; rintro e w2 ⟨rfl, h2⟩; (have H2 := Lib.hid h2); clear c0 c1 c2 c3 c4 c5 c6 c7 c8 z5 z6 z7 z8 lt0; obtain ⟨⟨c0, c1, c2, c3, c4, c5, c6, c7, c8⟩, ⟨z5, z6, z7, z8⟩, lt0⟩ := cellsT (h2.cells 1 rfl); clear h2) | (go_at_call 101; refine (index_is y z _ HZ.out).mono ?_; rintro e w3 ⟨rfl, hb⟩; (have h3 := H2.out.below hb); (have H3 := Lib.hid h3); clear c0 c1 c2 c3 c4 c5 c6 c7 c8 z5 z6 z7 z8 lt0; obtain ⟨⟨c0, c1, c2, c3, c4, c5, c6, c7, c8⟩, ⟨z5, z6, z7, z8⟩, lt0⟩ := cellsT (h3.cells 1 rfl); clear h3 hb))
  have h4 := (H3.out.setAt 1 rfl 6 (.int .u64 y)).setAt 1 rfl 5 (.int .u32 z)
  generalize (w3.setCell ⟨p, 6, none⟩ (.int .u64 y)).setCell ⟨p, 5, none⟩ (.int .u32 z) = W at *
  have H4 := Lib.hid (show St w0 (memA q ws (ns ++ [⟨108, a, y, y, true⟩]) :: tlB 180 p n s h t a z y nx st :: L) W from h4)
  clear c0 c1 c2 c3 c4 c5 c6 c7 c8 z5 z6 z7 z8 lt0
  obtain ⟨⟨c0, c1, c2, c3, c4, c5, c6, c7, c8⟩, ⟨z5, z6, z7, z8⟩, lt0⟩ := cellsT (h4.cells 1 rfl)
  clear h4
  go_region_held3 (fun w' => w'.cell? ⟨p, 0, none⟩ = some (.int .i64 n) ∧ w'.cell? ⟨p, 1, none⟩ = some (.int .i64 s) ∧ w'.cell? ⟨p, 2, none⟩ = some (.int .i64 h) ∧ w'.cell? ⟨p, 3, none⟩ = some (.int .u32 t) ∧ w'.cell? ⟨p, 5, none⟩ = some (.int .u32 z)) (first | exact ⟨c0, c1, c2, c3, c5⟩) ((go_at_call 77; refine (lnext_is n s h t z v _ HV.out zz0 zz1).mono ?_; rintro e w5 ⟨rfl, hb⟩; (have h5 := H4.out.drew.below hb); (have H5 := Lib.hid h5); clear c0 c1 c2 c3 c4 c5 c6 c7 c8 z5 z6 z7 z8 lt0; obtain ⟨⟨c0, c1, c2, c3, c4, c5, c6, c7, c8⟩, ⟨z5, z6, z7, z8⟩, lt0⟩ := cellsT (h5.cells 1 rfl); clear h5 hb))
  go_wp2
  go_ret
  exact ⟨rfl, H5.out.setAt 1 rfl 7 _⟩

set_option maxHeartbeats 4000000 in
theorem tk_head_out {w0 w : World} {q p : Nat} {ws : List Int} {ns : List Note} {L : List Asn} (n s h t a i x st : Int) (nx : Value) (hS : St w0 (memA q ws ns :: tlB 180 p n s h t a i x nx st :: L) w) (ha : a < 0 ∨ (ws.length : Int) ≤ a) :
    Calls Tryz.prog 87 #[.pointer (some ⟨p, 0, none⟩), .pointer (some ⟨q, 0, none⟩)] w fun e w' => e = .returned (.int .i64 5) ∧ St w0 (memA q ws ns :: tlB 180 p n s h t a 0 0 nx st :: L) w' := by
  have hy0 : (0 : Int) % 4294967296 = 0 := rfl
  have H := Lib.hid hS
  have HA := Lib.hid ha
  obtain ⟨⟨c0, c1, c2, c3, c4, c5, c6, c7, c8⟩, ⟨z5, z6, z7, z8⟩, lt0⟩ := cellsT (hS.cells 1 rfl)
  clear hS ha
  go_enter Tryz.func87, Tryz.ntmps87
  go_wp2_with (first | (go_at_call 106; refine (load_no H.out a HA.out).mono ?_; rintro e w2 ⟨rfl, h2⟩; (have H2 := Lib.hid h2); clear c0 c1 c2 c3 c4 c5 c6 c7 c8 z5 z6 z7 z8 lt0; obtain ⟨⟨c0, c1, c2, c3, c4, c5, c6, c7, c8⟩, ⟨z5, z6, z7, z8⟩, lt0⟩ := cellsT (h2.cells 1 rfl); clear h2) | (go_at_call 101; refine (index_is 0 0 _ hy0).mono ?_; rintro e w3 ⟨rfl, hb⟩; (have h3 := H2.out.below hb); (have H3 := Lib.hid h3); clear c0 c1 c2 c3 c4 c5 c6 c7 c8 z5 z6 z7 z8 lt0; obtain ⟨⟨c0, c1, c2, c3, c4, c5, c6, c7, c8⟩, ⟨z5, z6, z7, z8⟩, lt0⟩ := cellsT (h3.cells 1 rfl); clear h3 hb))
  go_ret
  exact ⟨rfl, (H3.out.setAt 1 rfl 6 (.int .u64 0)).setAt 1 rfl 5 (.int .u32 0)⟩

set_option maxHeartbeats 4000000 in
theorem tk_second_ok {w0 w : World} {q p : Nat} {ws : List Int} {ns : List Note} {L : List Asn} (n s h t a i x st : Int) (nx : Value) (j : Nat) (y : Int) (hS : St w0 (memA q ws ns :: tlB 180 p n s h t a i x nx st :: L) w) (hk : ns.length ≤ 1000000000000) (hi0 : 0 ≤ i) (hi1 : i < 4294967296) (hv : atI n s h 0 (2 * (i - 1)) = (j : Int)) (hj : j < ws.length) (hy : rdW ws j = y) :
    Calls Tryz.prog 107 #[.pointer (some ⟨p, 0, none⟩), .pointer (some ⟨q, 0, none⟩)] w fun e w' => e = .returned (.int .i64 0) ∧ (fun w' => ∃ b1 b2, St w0 (memA q ws (ns ++ [⟨108, j, y, y, true⟩]) :: tlB 180 p n s h t a i x (.func (.func 133) #[] #[.pointer (some ⟨b1, 0, none⟩), .pointer (some ⟨b2, 0, none⟩)]) st :: bxTk b1 p :: bxW b2 y :: L) w') w' := by
  have hmf : ∀ (fn : Fn) (first cap : Array Value) (w : World), (Instr.makeFunc fn first cap).run Tryz.prog w = .ok (.func fn first cap) w := fun _ _ _ _ => rfl
  have HS := Lib.hid (show St w0 (memA q ws ns :: tlB 180 p n s h t a i x nx st :: bxTk w.heap.size p :: L) (w.alloc (.cells #[.pointer (some ⟨p, 0, none⟩)] 121)) from ((hS.alloc #[.pointer (some ⟨p, 0, none⟩)] 121).front 2 rfl).front 2 rfl)
  obtain ⟨k1, c0, c1, c2, c3, c5, c6⟩ := tlF HS.out 1 2 rfl rfl
  have HV := Lib.hid hv
  have HY := Lib.hid hy
  clear hy
  clear hS hv
  go_enter Tryz.func107, Tryz.ntmps107
  go_wp2
  generalize w.alloc (.cells #[.pointer (some ⟨p, 0, none⟩)] 121) = w1 at *
  go_region_held3 (fun w' => w'.cell? ⟨w.heap.size, 0, none⟩ = some (.pointer (some ⟨p, 0, none⟩)) ∧ w'.cell? ⟨p, 0, none⟩ = some (.int .i64 n) ∧ w'.cell? ⟨p, 1, none⟩ = some (.int .i64 s) ∧ w'.cell? ⟨p, 2, none⟩ = some (.int .i64 h) ∧ w'.cell? ⟨p, 3, none⟩ = some (.int .u32 t) ∧ w'.cell? ⟨p, 5, none⟩ = some (.int .u32 i) ∧ w'.cell? ⟨p, 6, none⟩ = some (.int .u64 x)) (first | exact ⟨k1, c0, c1, c2, c3, c5, c6⟩ | exact tlF (K3.out.setAt 3 rfl 0 (.int .u64 y)) 1 2 rfl rfl | exact F4 | exact F5 | go_keep) (first | (go_at_call 77; refine (lnext_is n s h t i j _ HV.out hi0 hi1).mono ?_; rintro e w2 ⟨rfl, hb⟩; first | ((have K2 := Lib.hid ((HS.out.drew.alloc #[.int .u64 0] 25).below hb)); clear k1 c0 c1 c2 c3 c5 c6; obtain ⟨k1, c0, c1, c2, c3, c5, c6⟩ := tlF K2.out 2 3 rfl rfl; clear hb) | ((have H2 := Lib.hid (HS.out.drew.below hb)); clear k1 c0 c1 c2 c3 c5 c6; obtain ⟨k1, c0, c1, c2, c3, c5, c6⟩ := tlF H2.out 1 2 rfl rfl; clear hb)) | (go_at_call 106; first | ((have _h := K2); refine (load_st (K2.out.rot4') j y HY.out hj hk).mono ?_; rintro e w3 ⟨rfl, h⟩; (have K3 := Lib.hid h); (have B3 : w3.cell? ⟨w1.heap.size, 0, none⟩ = some (.int .u64 0) := cell_of (K3.out.cells 3 rfl) 0); (have Z3 : w3.frozen? ⟨w1.heap.size, 0, none⟩ = false := free_of (K3.out.cells 3 rfl) 0); clear k1 c0 c1 c2 c3 c5 c6; obtain ⟨k1, c0, c1, c2, c3, c5, c6⟩ := tlF K3.out 1 2 rfl rfl; clear h _h) | (refine (load_st H2.out j y HY.out hj hk).mono ?_; rintro e w3 ⟨rfl, h⟩; (have H3 := Lib.hid h); (have K4 := Lib.hid (h.alloc #[.int .u64 0] 25)); (have B4 := cell_of (K4.out.cells 0 rfl) 0); (have Z4 := free_of (K4.out.cells 0 rfl) 0); (have F4 := tlF K4.out 2 3 rfl rfl); (have F5 := tlF (K4.out.setAt 0 rfl 0 (.int .u64 y)) 2 3 rfl rfl); clear k1 c0 c1 c2 c3 c5 c6; obtain ⟨k1, c0, c1, c2, c3, c5, c6⟩ := tlF H3.out 1 2 rfl rfl; clear h) | ((have hK2 := (H2.out.alloc #[.int .u64 0] 25)); refine (load_st hK2.rot4' j y HY.out hj hk).mono ?_; rintro e w3 ⟨rfl, h⟩; (have K3 := Lib.hid h); (have B3 := cell_of (K3.out.cells 3 rfl) 0); (have Z3 := free_of (K3.out.cells 3 rfl) 0); clear k1 c0 c1 c2 c3 c5 c6; obtain ⟨k1, c0, c1, c2, c3, c5, c6⟩ := tlF K3.out 1 2 rfl rfl; clear h hK2)))
  · have hk5 : St w0 (memA q ws (ns ++ [⟨108, j, y, y, true⟩]) :: tlB 180 p n s h t a i x nx st :: bxTk w.heap.size p :: bxW (w3.heap.size) y :: L) (w3.alloc (.cells #[.int .u64 y] 25)) := (((H3.out.alloc #[.int .u64 y] 25).front 3 rfl).front 3 rfl).front 3 rfl
    generalize w3.alloc (.cells #[.int .u64 y] 25) = W at *
    have HK := Lib.hid hk5
    obtain ⟨f0, f1, f2, f3, f4, f5, f6⟩ := tlF hk5 1 2 rfl rfl
    have e7 : W.cell? ⟨p, 7, none⟩ = some nx := cell_of (hk5.cells 1 rfl) 7
    have g7 : W.frozen? ⟨p, 7, none⟩ = false := free_of (hk5.cells 1 rfl) 7
    clear hk5
    go_wp2
    go_ret
    exact ⟨rfl, _, _, HK.out.setAt 1 rfl 7 _⟩
  · have hk5 : St w0 (memA q ws (ns ++ [⟨108, j, y, y, true⟩]) :: tlB 180 p n s h t a i x nx st :: bxTk w.heap.size p :: bxW (w2.heap.size) y :: L) (w3.setCell ⟨w2.heap.size, 0, none⟩ (.int .u64 y)) := K3.out.setAt 3 rfl 0 (.int .u64 y)
    generalize w3.setCell ⟨w2.heap.size, 0, none⟩ (.int .u64 y) = W at *
    have HK := Lib.hid hk5
    obtain ⟨f0, f1, f2, f3, f4, f5, f6⟩ := tlF hk5 1 2 rfl rfl
    have e7 : W.cell? ⟨p, 7, none⟩ = some nx := cell_of (hk5.cells 1 rfl) 7
    have g7 : W.frozen? ⟨p, 7, none⟩ = false := free_of (hk5.cells 1 rfl) 7
    clear hk5
    go_wp2
    go_ret
    exact ⟨rfl, _, _, HK.out.setAt 1 rfl 7 _⟩
  · have hk5 : St w0 (memA q ws (ns ++ [⟨108, j, y, y, true⟩]) :: tlB 180 p n s h t a i x nx st :: bxTk w.heap.size p :: bxW (w1.heap.size) y :: L) (w3.setCell ⟨w1.heap.size, 0, none⟩ (.int .u64 y)) := K3.out.setAt 3 rfl 0 (.int .u64 y)
    generalize w3.setCell ⟨w1.heap.size, 0, none⟩ (.int .u64 y) = W at *
    have HK := Lib.hid hk5
    obtain ⟨f0, f1, f2, f3, f4, f5, f6⟩ := tlF hk5 1 2 rfl rfl
    have e7 : W.cell? ⟨p, 7, none⟩ = some nx := cell_of (hk5.cells 1 rfl) 7
    have g7 : W.frozen? ⟨p, 7, none⟩ = false := free_of (hk5.cells 1 rfl) 7
    clear hk5
    go_wp2
    go_ret
    exact ⟨rfl, _, _, HK.out.setAt 1 rfl 7 _⟩

set_option maxHeartbeats 4000000 in
theorem tk_second_out {w0 w : World} {q p : Nat} {ws : List Int} {ns : List Note} {L : List Asn} (n s h t a i x st : Int) (nx : Value) (v : Int) (hS : St w0 (memA q ws ns :: tlB 180 p n s h t a i x nx st :: L) w) (hk : ns.length ≤ 1000000000000) (hi0 : 0 ≤ i) (hi1 : i < 4294967296) (hv : atI n s h 0 (2 * (i - 1)) = v) (hj : (ws.length : Int) ≤ v) :
    Calls Tryz.prog 107 #[.pointer (some ⟨p, 0, none⟩), .pointer (some ⟨q, 0, none⟩)] w fun e w' => e = .returned (.int .i64 5) ∧ St w0 (memA q ws ns :: tlB 180 p n s h t a i x nx st :: L) w' := by
  have hmf : ∀ (fn : Fn) (first cap : Array Value) (w : World), (Instr.makeFunc fn first cap).run Tryz.prog w = .ok (.func fn first cap) w := fun _ _ _ _ => rfl
  have HS := Lib.hid (show St w0 (memA q ws ns :: tlB 180 p n s h t a i x nx st :: bxTk w.heap.size p :: L) (w.alloc (.cells #[.pointer (some ⟨p, 0, none⟩)] 121)) from ((hS.alloc #[.pointer (some ⟨p, 0, none⟩)] 121).front 2 rfl).front 2 rfl)
  obtain ⟨k1, c0, c1, c2, c3, c5, c6⟩ := tlF HS.out 1 2 rfl rfl
  have HV := Lib.hid hv
  have HJ := Lib.hid (show v < 0 ∨ (ws.length : Int) ≤ v from .inr hj)
  clear hj
  clear hS hv
  go_enter Tryz.func107, Tryz.ntmps107
  go_wp2
  generalize w.alloc (.cells #[.pointer (some ⟨p, 0, none⟩)] 121) = w1 at *
  go_region_held3 (fun w' => w'.cell? ⟨w.heap.size, 0, none⟩ = some (.pointer (some ⟨p, 0, none⟩)) ∧ w'.cell? ⟨p, 0, none⟩ = some (.int .i64 n) ∧ w'.cell? ⟨p, 1, none⟩ = some (.int .i64 s) ∧ w'.cell? ⟨p, 2, none⟩ = some (.int .i64 h) ∧ w'.cell? ⟨p, 3, none⟩ = some (.int .u32 t) ∧ w'.cell? ⟨p, 5, none⟩ = some (.int .u32 i) ∧ w'.cell? ⟨p, 6, none⟩ = some (.int .u64 x)) (first | exact ⟨k1, c0, c1, c2, c3, c5, c6⟩ | exact tlF (K3.out.setAt 3 rfl 0 (.int .u64 0)) 1 2 rfl rfl | exact F4 | exact F5 | go_keep) (first | (go_at_call 77; refine (lnext_is n s h t i v _ HV.out hi0 hi1).mono ?_; rintro e w2 ⟨rfl, hb⟩; first | ((have K2 := Lib.hid ((HS.out.drew.alloc #[.int .u64 0] 25).below hb)); clear k1 c0 c1 c2 c3 c5 c6; obtain ⟨k1, c0, c1, c2, c3, c5, c6⟩ := tlF K2.out 2 3 rfl rfl; clear hb) | ((have H2 := Lib.hid (HS.out.drew.below hb)); clear k1 c0 c1 c2 c3 c5 c6; obtain ⟨k1, c0, c1, c2, c3, c5, c6⟩ := tlF H2.out 1 2 rfl rfl; clear hb)) | (go_at_call 106; first | ((have _h := K2); refine (load_no (K2.out.rot4') v HJ.out).mono ?_; rintro e w3 ⟨rfl, h⟩; (have K3 := Lib.hid h); (have B3 : w3.cell? ⟨w1.heap.size, 0, none⟩ = some (.int .u64 0) := cell_of (K3.out.cells 3 rfl) 0); (have Z3 : w3.frozen? ⟨w1.heap.size, 0, none⟩ = false := free_of (K3.out.cells 3 rfl) 0); clear k1 c0 c1 c2 c3 c5 c6; obtain ⟨k1, c0, c1, c2, c3, c5, c6⟩ := tlF K3.out 1 2 rfl rfl; clear h _h) | (refine (load_no H2.out v HJ.out).mono ?_; rintro e w3 ⟨rfl, h⟩; (have H3 := Lib.hid h); (have K4 := Lib.hid (h.alloc #[.int .u64 0] 25)); (have B4 := cell_of (K4.out.cells 0 rfl) 0); (have Z4 := free_of (K4.out.cells 0 rfl) 0); (have F4 := tlF K4.out 2 3 rfl rfl); (have F5 := tlF (K4.out.setAt 0 rfl 0 (.int .u64 0)) 2 3 rfl rfl); clear k1 c0 c1 c2 c3 c5 c6; obtain ⟨k1, c0, c1, c2, c3, c5, c6⟩ := tlF H3.out 1 2 rfl rfl; clear h) | ((have hK2 := (H2.out.alloc #[.int .u64 0] 25)); refine (load_no hK2.rot4' v HJ.out).mono ?_; rintro e w3 ⟨rfl, h⟩; (have K3 := Lib.hid h); (have B3 := cell_of (K3.out.cells 3 rfl) 0); (have Z3 := free_of (K3.out.cells 3 rfl) 0); clear k1 c0 c1 c2 c3 c5 c6; obtain ⟨k1, c0, c1, c2, c3, c5, c6⟩ := tlF K3.out 1 2 rfl rfl; clear h hK2)))
  · have hk5 : St w0 (memA q ws ns :: tlB 180 p n s h t a i x nx st :: bxTk w.heap.size p :: bxW (w3.heap.size) 0 :: L) (w3.alloc (.cells #[.int .u64 0] 25)) := (((H3.out.alloc #[.int .u64 0] 25).front 3 rfl).front 3 rfl).front 3 rfl
    generalize w3.alloc (.cells #[.int .u64 0] 25) = W at *
    have HK := Lib.hid hk5
    obtain ⟨f0, f1, f2, f3, f4, f5, f6⟩ := tlF hk5 1 2 rfl rfl
    have e7 : W.cell? ⟨p, 7, none⟩ = some nx := cell_of (hk5.cells 1 rfl) 7
    have g7 : W.frozen? ⟨p, 7, none⟩ = false := free_of (hk5.cells 1 rfl) 7
    clear hk5
    go_wp2
    go_ret
    exact ⟨rfl, HK.out.drop2'⟩
  · have hk5 : St w0 (memA q ws ns :: tlB 180 p n s h t a i x nx st :: bxTk w.heap.size p :: bxW (w2.heap.size) 0 :: L) (w3.setCell ⟨w2.heap.size, 0, none⟩ (.int .u64 0)) := K3.out.setAt 3 rfl 0 (.int .u64 0)
    generalize w3.setCell ⟨w2.heap.size, 0, none⟩ (.int .u64 0) = W at *
    have HK := Lib.hid hk5
    obtain ⟨f0, f1, f2, f3, f4, f5, f6⟩ := tlF hk5 1 2 rfl rfl
    have e7 : W.cell? ⟨p, 7, none⟩ = some nx := cell_of (hk5.cells 1 rfl) 7
    have g7 : W.frozen? ⟨p, 7, none⟩ = false := free_of (hk5.cells 1 rfl) 7
    clear hk5
    go_wp2
    go_ret
    exact ⟨rfl, HK.out.drop2'⟩
  · have hk5 : St w0 (memA q ws ns :: tlB 180 p n s h t a i x nx st :: bxTk w.heap.size p :: bxW (w1.heap.size) 0 :: L) (w3.setCell ⟨w1.heap.size, 0, none⟩ (.int .u64 0)) := K3.out.setAt 3 rfl 0 (.int .u64 0)
    generalize w3.setCell ⟨w1.heap.size, 0, none⟩ (.int .u64 0) = W at *
    have HK := Lib.hid hk5
    obtain ⟨f0, f1, f2, f3, f4, f5, f6⟩ := tlF hk5 1 2 rfl rfl
    have e7 : W.cell? ⟨p, 7, none⟩ = some nx := cell_of (hk5.cells 1 rfl) 7
    have g7 : W.frozen? ⟨p, 7, none⟩ = false := free_of (hk5.cells 1 rfl) 7
    clear hk5
    go_wp2
    go_ret
    exact ⟨rfl, HK.out.drop2'⟩

set_option maxHeartbeats 4000000 in
theorem gv_head_bad {w0 w : World} {q p : Nat} {ws : List Int} {ns : List Note} {L : List Asn} (n s h t a i x st : Int) (nx : Value) (v : Int) (hS : St w0 (memA q ws ns :: tlB 250 p n s h t a i x nx st :: L) w) (hi0 : 0 ≤ i) (hi1 : i < 4294967296) (hv : atI n s h 0 (2 * (i - 1)) = v) (hlt : v < 0) :
    Calls Tryz.prog 159 #[.pointer (some ⟨p, 0, none⟩), .pointer (some ⟨q, 0, none⟩)] w fun e w' => e = .returned (.int .i64 5) ∧ St w0 (memA q ws ns :: tlB 250 p n s h t a i x nx st :: L) w' := by
  have hmf : ∀ (fn : Fn) (first cap : Array Value) (w : World), (Instr.makeFunc fn first cap).run Tryz.prog w = .ok (.func fn first cap) w := fun _ _ _ _ => rfl
  have H := Lib.hid hS
  have HV := Lib.hid hv
  have e1 : decide (v < 0) = true := decide_eq_true hlt
  obtain ⟨⟨c0, c1, c2, c3, c4, c5, c6, c7, c8⟩, ⟨z5, z6, z7, z8⟩, lt0⟩ := cellsT (hS.cells 1 rfl)
  clear hS hv
  go_enter Tryz.func159, Tryz.ntmps159
  go_wp2
  go_region_held3 (fun w' => w'.cell? ⟨p, 0, none⟩ = some (.int .i64 n) ∧ w'.cell? ⟨p, 1, none⟩ = some (.int .i64 s) ∧ w'.cell? ⟨p, 2, none⟩ = some (.int .i64 h) ∧ w'.cell? ⟨p, 3, none⟩ = some (.int .u32 t) ∧ w'.cell? ⟨p, 5, none⟩ = some (.int .u32 i)) (first | exact ⟨c0, c1, c2, c3, c5⟩) ((go_at_call 77; refine (lnext_is n s h t i v _ HV.out hi0 hi1).mono ?_; rintro e w5 ⟨rfl, hb⟩; (have h5 := H.out.drew.below hb); (have H5 := Lib.hid h5); clear c0 c1 c2 c3 c4 c5 c6 c7 c8 z5 z6 z7 z8 lt0; obtain ⟨⟨c0, c1, c2, c3, c4, c5, c6, c7, c8⟩, ⟨z5, z6, z7, z8⟩, lt0⟩ := cellsT (h5.cells 1 rfl); clear h5 hb))
  go_wp2
  go_ret
  exact ⟨rfl, H5.out⟩

set_option maxHeartbeats 4000000 in
theorem gv_head_out {w0 w : World} {q p : Nat} {ws : List Int} {ns : List Note} {L : List Asn} (n s h t a i x st : Int) (nx : Value) (v : Int) (hS : St w0 (memA q ws ns :: tlB 250 p n s h t a i x nx st :: L) w) (hi0 : 0 ≤ i) (hi1 : i < 4294967296) (hv : atI n s h 0 (2 * (i - 1)) = v) (hlt : 0 ≤ v) (ha : a < 0 ∨ (ws.length : Int) ≤ a) :
    Calls Tryz.prog 159 #[.pointer (some ⟨p, 0, none⟩), .pointer (some ⟨q, 0, none⟩)] w fun e w' => e = .returned (.int .i64 5) ∧ St w0 (memA q ws ns :: tlB 250 p n s h t a i x nx st :: L) w' := by
  have hmf : ∀ (fn : Fn) (first cap : Array Value) (w : World), (Instr.makeFunc fn first cap).run Tryz.prog w = .ok (.func fn first cap) w := fun _ _ _ _ => rfl
  have H := Lib.hid hS
  have HV := Lib.hid hv
  have e1 : decide (v < 0) = false := decide_eq_false (by omega)
  obtain ⟨⟨c0, c1, c2, c3, c4, c5, c6, c7, c8⟩, ⟨z5, z6, z7, z8⟩, lt0⟩ := cellsT (hS.cells 1 rfl)
  have HA := Lib.hid ha
  clear ha
  clear hS hv
  go_enter Tryz.func159, Tryz.ntmps159
  go_wp2
  go_region_held3 (fun w' => w'.cell? ⟨p, 0, none⟩ = some (.int .i64 n) ∧ w'.cell? ⟨p, 1, none⟩ = some (.int .i64 s) ∧ w'.cell? ⟨p, 2, none⟩ = some (.int .i64 h) ∧ w'.cell? ⟨p, 3, none⟩ = some (.int .u32 t) ∧ w'.cell? ⟨p, 5, none⟩ = some (.int .u32 i)) (first | exact ⟨c0, c1, c2, c3, c5⟩) ((go_at_call 77; refine (lnext_is n s h t i v _ HV.out hi0 hi1).mono ?_; rintro e w5 ⟨rfl, hb⟩; (have h5 := H.out.drew.below hb); (have H5 := Lib.hid h5); clear c0 c1 c2 c3 c4 c5 c6 c7 c8 z5 z6 z7 z8 lt0; obtain ⟨⟨c0, c1, c2, c3, c4, c5, c6, c7, c8⟩, ⟨z5, z6, z7, z8⟩, lt0⟩ := cellsT (h5.cells 1 rfl); clear h5 hb))
  go_wp2_with (go_at_call 106; refine (load_no H5.out a HA.out).mono ?_; rintro e w2 ⟨rfl, h2⟩; (have H2 := Lib.hid h2); clear c0 c1 c2 c3 c4 c5 c6 c7 c8 z5 z6 z7 z8 lt0; obtain ⟨⟨c0, c1, c2, c3, c4, c5, c6, c7, c8⟩, ⟨z5, z6, z7, z8⟩, lt0⟩ := cellsT (h2.cells 1 rfl); clear h2)
  go_ret
  exact ⟨rfl, H2.out⟩

set_option maxHeartbeats 4000000 in
theorem gv_head_ok {w0 w : World} {q p : Nat} {ws : List Int} {ns : List Note} {L : List Asn} (n s h t i x st : Int) (nx : Value) (a : Nat) (y v : Int) (hS : St w0 (memA q ws ns :: tlB 250 p n s h t a i x nx st :: L) w) (hi0 : 0 ≤ i) (hi1 : i < 4294967296) (hk : ns.length ≤ 1000000000000) (hv : atI n s h 0 (2 * (i - 1)) = v) (hlt : 0 ≤ v) (ha : a < ws.length) (hy : rdW ws a = y) :
    Calls Tryz.prog 159 #[.pointer (some ⟨p, 0, none⟩), .pointer (some ⟨q, 0, none⟩)] w fun e w' => e = .returned (.int .i64 0) ∧ St w0 (memA q ws (ns ++ [⟨108, a, y, y, true⟩]) :: tlB 250 p n s h t a i y (.func (.func 176) #[.pointer (some ⟨p, 0, none⟩)] #[]) st :: L) w' := by
  have hmf : ∀ (fn : Fn) (first cap : Array Value) (w : World), (Instr.makeFunc fn first cap).run Tryz.prog w = .ok (.func fn first cap) w := fun _ _ _ _ => rfl
  have H := Lib.hid hS
  have HV := Lib.hid hv
  have e1 : decide (v < 0) = false := decide_eq_false (by omega)
  obtain ⟨⟨c0, c1, c2, c3, c4, c5, c6, c7, c8⟩, ⟨z5, z6, z7, z8⟩, lt0⟩ := cellsT (hS.cells 1 rfl)
  have HY := Lib.hid hy
  clear hy
  clear hS hv
  go_enter Tryz.func159, Tryz.ntmps159
  go_wp2
  go_region_held3 (fun w' => w'.cell? ⟨p, 0, none⟩ = some (.int .i64 n) ∧ w'.cell? ⟨p, 1, none⟩ = some (.int .i64 s) ∧ w'.cell? ⟨p, 2, none⟩ = some (.int .i64 h) ∧ w'.cell? ⟨p, 3, none⟩ = some (.int .u32 t) ∧ w'.cell? ⟨p, 5, none⟩ = some (.int .u32 i)) (first | exact ⟨c0, c1, c2, c3, c5⟩) ((go_at_call 77; refine (lnext_is n s h t i v _ HV.out hi0 hi1).mono ?_; rintro e w5 ⟨rfl, hb⟩; (have h5 := H.out.drew.below hb); (have H5 := Lib.hid h5); clear c0 c1 c2 c3 c4 c5 c6 c7 c8 z5 z6 z7 z8 lt0; obtain ⟨⟨c0, c1, c2, c3, c4, c5, c6, c7, c8⟩, ⟨z5, z6, z7, z8⟩, lt0⟩ := cellsT (h5.cells 1 rfl); clear h5 hb))
  go_wp2_with (go_at_call 106; refine (load_st H5.out a y HY.out ha hk).mono ?_; rintro e w2 ⟨rfl, h2⟩; (have H2 := Lib.hid h2); clear c0 c1 c2 c3 c4 c5 c6 c7 c8 z5 z6 z7 z8 lt0; obtain ⟨⟨c0, c1, c2, c3, c4, c5, c6, c7, c8⟩, ⟨z5, z6, z7, z8⟩, lt0⟩ := cellsT (h2.cells 1 rfl); clear h2)
  go_ret
  exact ⟨rfl, (H2.out.setAt 1 rfl 6 _).setAt 1 rfl 7 _⟩

set_option maxHeartbeats 4000000 in
theorem gv_second_ok {w0 w : World} {q p : Nat} {ws : List Int} {ns : List Note} {L : List Asn} (n s h t a i x st : Int) (nx : Value) (j : Nat) (f y : Int) (hS : St w0 (memA q ws ns :: tlB 250 p n s h t a i x nx st :: L) w) (hk : ns.length ≤ 1000000000000) (hi0 : 0 ≤ i) (hi1 : i < 4294967296) (hf : x % 4294967296 = f) (hv : atI n s h 0 (2 * (i - 1)) = (j : Int)) (hj : j < ws.length) (hy : rdW ws j = y) :
    Calls Tryz.prog 176 #[.pointer (some ⟨p, 0, none⟩), .pointer (some ⟨q, 0, none⟩)] w fun e w' => e = .returned (.int .i64 0) ∧ (fun w' => ∃ b1, St w0 (memA q (ws.set j f) (ns ++ [⟨115, j, y, f, true⟩]) :: tlB 250 p n s h t a i x (.func (.func 180) #[] #[.pointer (some ⟨b1, 0, none⟩)]) st :: bxGv b1 p :: L) w') w' := by
  have hmf : ∀ (fn : Fn) (first cap : Array Value) (w : World), (Instr.makeFunc fn first cap).run Tryz.prog w = .ok (.func fn first cap) w := fun _ _ _ _ => rfl
  have HS := Lib.hid (show St w0 (memA q ws ns :: tlB 250 p n s h t a i x nx st :: bxGv w.heap.size p :: L) (w.alloc (.cells #[.pointer (some ⟨p, 0, none⟩)] 230)) from ((hS.alloc #[.pointer (some ⟨p, 0, none⟩)] 230).front 2 rfl).front 2 rfl)
  obtain ⟨k1, c0, c1, c2, c3, c5, c6⟩ := tlF HS.out 1 2 rfl rfl
  have HV := Lib.hid hv
  have f0 : 0 ≤ f := by omega
  have f1 : f < 18446744073709551616 := by omega
  have HF := Lib.hid hf
  have hWf : IntKind.u64.wrap f = f := by rw [IntKind.wrap_u64]; omega
  have HY := Lib.hid hy
  clear hy
  clear hS hv hf
  go_enter Tryz.func176, Tryz.ntmps176
  go_wp2
  generalize w.alloc (.cells #[.pointer (some ⟨p, 0, none⟩)] 230) = w1 at *
  go_region_held3 (fun w' => w'.cell? ⟨w.heap.size, 0, none⟩ = some (.pointer (some ⟨p, 0, none⟩)) ∧ w'.cell? ⟨p, 0, none⟩ = some (.int .i64 n) ∧ w'.cell? ⟨p, 1, none⟩ = some (.int .i64 s) ∧ w'.cell? ⟨p, 2, none⟩ = some (.int .i64 h) ∧ w'.cell? ⟨p, 3, none⟩ = some (.int .u32 t) ∧ w'.cell? ⟨p, 5, none⟩ = some (.int .u32 i) ∧ w'.cell? ⟨p, 6, none⟩ = some (.int .u64 x)) (first | exact ⟨k1, c0, c1, c2, c3, c5, c6⟩ | exact F2 | exact F3 | exact F4) (first | ((have _h := HNI); go_at_call 32; refine (store_st HNI.out j y f HY.out hj hk f0 f1).mono ?_; rintro e w4 ⟨rfl, h⟩; (have H4 := Lib.hid h); (have F4 := tlF h 1 2 rfl rfl); (have c7 := cell_of (h.cells 1 rfl) 7); (have z7 := free_of (h.cells 1 rfl) 7); clear h _h) | (go_at_call 77; refine (lnext_is n s h t i j _ HV.out hi0 hi1).mono ?_; rintro e w2 ⟨rfl, hb⟩; first | ((have _h := HI); (have HNI := Lib.hid (HI.out.below hb)); (have F3 := tlF HNI.out 1 2 rfl rfl); clear hb _h) | ((have HN := Lib.hid (HS.out.drew.below hb)); (have F2 := tlF HN.out 1 2 rfl rfl); clear hb)) | (go_at_call 101; refine (index_is x f _ HF.out).mono ?_; rintro e w3 ⟨rfl, hb⟩; first | ((have _h := HN); (have HNI := Lib.hid (HN.out.below hb)); (have F3 := tlF HNI.out 1 2 rfl rfl); clear hb _h) | ((have HI := Lib.hid (HS.out.drew.below hb)); (have F2 := tlF HI.out 1 2 rfl rfl); clear hb)))
  all_goals obtain ⟨u0, u1, u2, u3, u4, u5, u6⟩ := F4
  all_goals go_wp2
  all_goals go_ret
  all_goals exact ⟨rfl, w.heap.size, H4.out.setAt 1 rfl 7 _⟩

set_option maxHeartbeats 4000000 in
theorem gv_second_out {w0 w : World} {q p : Nat} {ws : List Int} {ns : List Note} {L : List Asn} (n s h t a i x st : Int) (nx : Value) (f v : Int) (hS : St w0 (memA q ws ns :: tlB 250 p n s h t a i x nx st :: L) w) (hk : ns.length ≤ 1000000000000) (hi0 : 0 ≤ i) (hi1 : i < 4294967296) (hf : x % 4294967296 = f) (hv : atI n s h 0 (2 * (i - 1)) = v) (hj : (ws.length : Int) ≤ v) :
    Calls Tryz.prog 176 #[.pointer (some ⟨p, 0, none⟩), .pointer (some ⟨q, 0, none⟩)] w fun e w' => e = .returned (.int .i64 5) ∧ St w0 (memA q ws ns :: tlB 250 p n s h t a i x nx st :: L) w' := by
  have hmf : ∀ (fn : Fn) (first cap : Array Value) (w : World), (Instr.makeFunc fn first cap).run Tryz.prog w = .ok (.func fn first cap) w := fun _ _ _ _ => rfl
  have HS := Lib.hid (show St w0 (memA q ws ns :: tlB 250 p n s h t a i x nx st :: bxGv w.heap.size p :: L) (w.alloc (.cells #[.pointer (some ⟨p, 0, none⟩)] 230)) from ((hS.alloc #[.pointer (some ⟨p, 0, none⟩)] 230).front 2 rfl).front 2 rfl)
  obtain ⟨k1, c0, c1, c2, c3, c5, c6⟩ := tlF HS.out 1 2 rfl rfl
  have HV := Lib.hid hv
  have f0 : 0 ≤ f := by omega
  have f1 : f < 18446744073709551616 := by omega
  have HF := Lib.hid hf
  have hWf : IntKind.u64.wrap f = f := by rw [IntKind.wrap_u64]; omega
  have HJ := Lib.hid (show v < 0 ∨ (ws.length : Int) ≤ v from .inr hj)
  clear hj
  clear hS hv hf
  go_enter Tryz.func176, Tryz.ntmps176
  go_wp2
  generalize w.alloc (.cells #[.pointer (some ⟨p, 0, none⟩)] 230) = w1 at *
  go_region_held3 (fun w' => w'.cell? ⟨w.heap.size, 0, none⟩ = some (.pointer (some ⟨p, 0, none⟩)) ∧ w'.cell? ⟨p, 0, none⟩ = some (.int .i64 n) ∧ w'.cell? ⟨p, 1, none⟩ = some (.int .i64 s) ∧ w'.cell? ⟨p, 2, none⟩ = some (.int .i64 h) ∧ w'.cell? ⟨p, 3, none⟩ = some (.int .u32 t) ∧ w'.cell? ⟨p, 5, none⟩ = some (.int .u32 i) ∧ w'.cell? ⟨p, 6, none⟩ = some (.int .u64 x)) (first | exact ⟨k1, c0, c1, c2, c3, c5, c6⟩ | exact F2 | exact F3 | exact F4) (first | ((have _h := HNI); go_at_call 32; refine (store_no HNI.out v f HJ.out).mono ?_; rintro e w4 ⟨rfl, h⟩; (have H4 := Lib.hid h); (have F4 := tlF h 1 2 rfl rfl); (have c7 := cell_of (h.cells 1 rfl) 7); (have z7 := free_of (h.cells 1 rfl) 7); clear h _h) | (go_at_call 77; refine (lnext_is n s h t i v _ HV.out hi0 hi1).mono ?_; rintro e w2 ⟨rfl, hb⟩; first | ((have _h := HI); (have HNI := Lib.hid (HI.out.below hb)); (have F3 := tlF HNI.out 1 2 rfl rfl); clear hb _h) | ((have HN := Lib.hid (HS.out.drew.below hb)); (have F2 := tlF HN.out 1 2 rfl rfl); clear hb)) | (go_at_call 101; refine (index_is x f _ HF.out).mono ?_; rintro e w3 ⟨rfl, hb⟩; first | ((have _h := HN); (have HNI := Lib.hid (HN.out.below hb)); (have F3 := tlF HNI.out 1 2 rfl rfl); clear hb _h) | ((have HI := Lib.hid (HS.out.drew.below hb)); (have F2 := tlF HI.out 1 2 rfl rfl); clear hb)))
  all_goals obtain ⟨u0, u1, u2, u3, u4, u5, u6⟩ := F4
  all_goals go_wp2
  all_goals go_ret
  all_goals exact ⟨rfl, ((H4.out.front 2 rfl).tail)⟩
end Go.Proofs.YtgfeagggkplegaaGreat
