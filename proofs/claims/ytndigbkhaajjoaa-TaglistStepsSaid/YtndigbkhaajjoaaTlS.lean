/-
  taglist's machines: their last steps, what a step does, machines that are made.
-/
import Derived.Test.YtndigbkhaajjoaaTlV
namespace Go.Proofs.Ytndigbkhaajjoaa
open Go.RowKit
set_option linter.unusedVariables false
set_option linter.unusedSimpArgs false

set_option maxHeartbeats 4000000 in
theorem tk_last_hit {w0 w : World} {q p : Nat} {ws : List Int} {ns : List Note} {L : List Asn} (n s h t i x st : Int) (nx : Value) (a : Nat) (b1 b2 : Nat) (z f v : Int) (hS : St w0 (memA q ws ns :: tlB 124 p n s h t a i x nx st :: bxTk b1 p :: bxW b2 z :: L) w) (hk : ns.length ≤ 1000000000000) (hx0 : 0 ≤ x) (hx1 : x < 18446744073709551616) (hz : z % 4294967296 = f) (hv : nextW x f = v) (ha : a < ws.length) (hy : rdW ws a = x) :
    Calls Try.prog 90 #[.pointer (some ⟨q, 0, none⟩), .pointer (some ⟨b1, 0, none⟩), .pointer (some ⟨b2, 0, none⟩)] w fun e w' => e = .returned (.int .i64 1) ∧ St w0 (memA q (ws.set a v) (ns ++ [⟨99, a, x, v, true⟩]) :: tlB 124 p n s h t a i x nx st :: bxTk b1 p :: bxW b2 z :: L) w' := by
  have f0 : 0 ≤ f := by omega
  have f1 : f < 4294967296 := by omega
  have H := Lib.hid hS
  have HZ := Lib.hid hz
  have HV := Lib.hid hv
  have HY := Lib.hid hy
  have k1 := cell_of (hS.cells 2 rfl) 0
  have k2 := cell_of (hS.cells 3 rfl) 0
  clear hS hz hv hy
  go_enter Try.func90, Try.ntmps90
  go_wp2
  go_region_held3 (fun w' => w'.cell? ⟨b1, 0, none⟩ = some (.pointer (some ⟨p, 0, none⟩)) ∧ w'.cell? ⟨b2, 0, none⟩ = some (.int .u64 z)) (first | exact ⟨k1, k2⟩) (first | ((have _h := H2); go_at_call 91; refine (tl_swap_hit 124 n s h t i x st nx a f v H2.out hk hx0 hx1 f0 f1 HV.out ha HY.out).mono ?_; rintro e w3 ⟨rfl, h3⟩; (have H3 := Lib.hid h3); clear k1 k2; (have k1 := cell_of (h3.cells 2 rfl) 0); (have k2 := cell_of (h3.cells 3 rfl) 0); clear h3 _h) | (go_at_call 55; refine (index_is z f _ HZ.out).mono ?_; rintro e w2 ⟨rfl, hb⟩; (have h2 := H.out.drew.below hb); (have H2 := Lib.hid h2); clear k1 k2; (have k1 := cell_of (h2.cells 2 rfl) 0); (have k2 := cell_of (h2.cells 3 rfl) 0); clear h2 hb))
  go_wp2
  go_ret
  exact ⟨rfl, H3.out⟩

set_option maxHeartbeats 4000000 in
theorem tk_last_lost {w0 w : World} {q p : Nat} {ws : List Int} {ns : List Note} {L : List Asn} (n s h t i x st : Int) (nx : Value) (a : Nat) (b1 b2 : Nat) (z f v : Int) (hS : St w0 (memA q ws ns :: tlB 124 p n s h t a i x nx st :: bxTk b1 p :: bxW b2 z :: L) w) (hk : ns.length ≤ 1000000000000) (hx0 : 0 ≤ x) (hx1 : x < 18446744073709551616) (hz : z % 4294967296 = f) (hv : nextW x f = v) (ha : a < ws.length) (y : Int) (hy : rdW ws a = y) (hne : (y == x) = false) :
    Calls Try.prog 90 #[.pointer (some ⟨q, 0, none⟩), .pointer (some ⟨b1, 0, none⟩), .pointer (some ⟨b2, 0, none⟩)] w fun e w' => e = .returned (.int .i64 3) ∧ St w0 (memA q ws (ns ++ [⟨99, a, y, y, false⟩]) :: tlB 124 p n s h t a i x nx st :: bxTk b1 p :: bxW b2 z :: L) w' := by
  have f0 : 0 ≤ f := by omega
  have f1 : f < 4294967296 := by omega
  have H := Lib.hid hS
  have HZ := Lib.hid hz
  have HV := Lib.hid hv
  have HY := Lib.hid hy
  have k1 := cell_of (hS.cells 2 rfl) 0
  have k2 := cell_of (hS.cells 3 rfl) 0
  clear hS hz hv hy
  go_enter Try.func90, Try.ntmps90
  go_wp2
  go_region_held3 (fun w' => w'.cell? ⟨b1, 0, none⟩ = some (.pointer (some ⟨p, 0, none⟩)) ∧ w'.cell? ⟨b2, 0, none⟩ = some (.int .u64 z)) (first | exact ⟨k1, k2⟩) (first | ((have _h := H2); go_at_call 91; refine (tl_swap_lost 124 n s h t i x st nx a y f v H2.out hk hx0 hx1 f0 f1 HV.out ha HY.out hne).mono ?_; rintro e w3 ⟨rfl, h3⟩; (have H3 := Lib.hid h3); clear k1 k2; (have k1 := cell_of (h3.cells 2 rfl) 0); (have k2 := cell_of (h3.cells 3 rfl) 0); clear h3 _h) | (go_at_call 55; refine (index_is z f _ HZ.out).mono ?_; rintro e w2 ⟨rfl, hb⟩; (have h2 := H.out.drew.below hb); (have H2 := Lib.hid h2); clear k1 k2; (have k1 := cell_of (h2.cells 2 rfl) 0); (have k2 := cell_of (h2.cells 3 rfl) 0); clear h2 hb))
  go_wp2
  go_ret
  exact ⟨rfl, H3.out⟩

set_option maxHeartbeats 4000000 in
theorem tk_step_head {w0 w : World} {q p : Nat} {ws : List Int} {ns : List Note} {L : List Asn} {ws' : List Int} {ns' : List Note} (n s h t a i x i' x' r z : Int) (G : Value → List Asn → Prop) (hS : St w0 (memA q ws ns :: tlB 124 p n s h t a i x (.func (.func 66) #[.pointer (some ⟨p, 0, none⟩)] #[]) 0 :: L) w) (hz : z = if r = 1 then i' else 0)
    (hc : Calls Try.prog 66 #[.pointer (some ⟨p, 0, none⟩), .pointer (some ⟨q, 0, none⟩)] w fun e w' => e = .returned (.int .i64 r) ∧ (fun w' => ∃ (nx' : Value) (L' : List Asn), G nx' L' ∧ St w0 (memA q ws' ns' :: tlB 124 p n s h t a i' x' nx' 0 :: L') w') w') :
    Calls Try.prog 68 #[.pointer (some ⟨p, 0, none⟩), .pointer (some ⟨q, 0, none⟩)] w fun e w' => e = .returned (.tuple #[.int .i64 r, .int .u32 z]) ∧ (fun w' => ∃ (nx' : Value) (L' : List Asn), G nx' L' ∧ St w0 (memA q ws' ns' :: tlB 124 p n s h t a i' x' nx' r :: L') w') w' := by
  have HC := Lib.hid hc
  obtain ⟨⟨c0, c1, c2, c3, c4, c5, c6, c7, c8⟩, ⟨z5, z6, z7, z8⟩, lt0⟩ := cellsT (hS.cells 1 rfl)
  clear hS hc
  by_cases hr : r = 1
  · subst hr
    obtain rfl : z = i' := by rw [hz]; simp
    clear hz
    go_enter Try.func68, Try.ntmps68
    go_wp2_with (go_at_call 66; refine HC.out.mono ?_; rintro e w2 ⟨rfl, nx', L', hG, h2⟩; (have HG := Lib.hid hG); (have H2 := Lib.hid h2); clear c0 c1 c2 c3 c4 c5 c6 c7 c8 z5 z6 z7 z8 lt0; obtain ⟨⟨c0, c1, c2, c3, c4, c5, c6, c7, c8⟩, ⟨z5, z6, z7, z8⟩, lt0⟩ := cellsT (h2.cells 1 rfl); clear h2 hG)
    go_quiet (fail)
    go_wp2
    go_ret2
    exact ⟨rfl, nx', L', HG.out, (H2.out.setAt 1 rfl 8 _).drewN nq⟩
  · have e1 : (r != 1) = true := by simpa using hr
    obtain rfl : z = 0 := by rw [hz]; simp [hr]
    clear hz hr
    go_enter Try.func68, Try.ntmps68
    go_wp2_with (go_at_call 66; refine HC.out.mono ?_; rintro e w2 ⟨rfl, nx', L', hG, h2⟩; (have HG := Lib.hid hG); (have H2 := Lib.hid h2); clear c0 c1 c2 c3 c4 c5 c6 c7 c8 z5 z6 z7 z8 lt0; obtain ⟨⟨c0, c1, c2, c3, c4, c5, c6, c7, c8⟩, ⟨z5, z6, z7, z8⟩, lt0⟩ := cellsT (h2.cells 1 rfl); clear h2 hG)
    go_ret2
    exact ⟨rfl, nx', L', HG.out, H2.out.setAt 1 rfl 8 _⟩

set_option maxHeartbeats 4000000 in
theorem tk_step_second {w0 w : World} {q p : Nat} {ws : List Int} {ns : List Note} {L : List Asn} {ws' : List Int} {ns' : List Note} (n s h t a i x i' x' r z : Int) (G : Value → List Asn → Prop) (hS : St w0 (memA q ws ns :: tlB 124 p n s h t a i x (.func (.func 82) #[.pointer (some ⟨p, 0, none⟩)] #[]) 0 :: L) w) (hz : z = if r = 1 then i' else 0)
    (hc : Calls Try.prog 82 #[.pointer (some ⟨p, 0, none⟩), .pointer (some ⟨q, 0, none⟩)] w fun e w' => e = .returned (.int .i64 r) ∧ (fun w' => ∃ (nx' : Value) (L' : List Asn), G nx' L' ∧ St w0 (memA q ws' ns' :: tlB 124 p n s h t a i' x' nx' 0 :: L') w') w') :
    Calls Try.prog 68 #[.pointer (some ⟨p, 0, none⟩), .pointer (some ⟨q, 0, none⟩)] w fun e w' => e = .returned (.tuple #[.int .i64 r, .int .u32 z]) ∧ (fun w' => ∃ (nx' : Value) (L' : List Asn), G nx' L' ∧ St w0 (memA q ws' ns' :: tlB 124 p n s h t a i' x' nx' r :: L') w') w' := by
  have HC := Lib.hid hc
  obtain ⟨⟨c0, c1, c2, c3, c4, c5, c6, c7, c8⟩, ⟨z5, z6, z7, z8⟩, lt0⟩ := cellsT (hS.cells 1 rfl)
  clear hS hc
  by_cases hr : r = 1
  · subst hr
    obtain rfl : z = i' := by rw [hz]; simp
    clear hz
    go_enter Try.func68, Try.ntmps68
    go_wp2_with (go_at_call 82; refine HC.out.mono ?_; rintro e w2 ⟨rfl, nx', L', hG, h2⟩; (have HG := Lib.hid hG); (have H2 := Lib.hid h2); clear c0 c1 c2 c3 c4 c5 c6 c7 c8 z5 z6 z7 z8 lt0; obtain ⟨⟨c0, c1, c2, c3, c4, c5, c6, c7, c8⟩, ⟨z5, z6, z7, z8⟩, lt0⟩ := cellsT (h2.cells 1 rfl); clear h2 hG)
    go_quiet (fail)
    go_wp2
    go_ret2
    exact ⟨rfl, nx', L', HG.out, (H2.out.setAt 1 rfl 8 _).drewN nq⟩
  · have e1 : (r != 1) = true := by simpa using hr
    obtain rfl : z = 0 := by rw [hz]; simp [hr]
    clear hz hr
    go_enter Try.func68, Try.ntmps68
    go_wp2_with (go_at_call 82; refine HC.out.mono ?_; rintro e w2 ⟨rfl, nx', L', hG, h2⟩; (have HG := Lib.hid hG); (have H2 := Lib.hid h2); clear c0 c1 c2 c3 c4 c5 c6 c7 c8 z5 z6 z7 z8 lt0; obtain ⟨⟨c0, c1, c2, c3, c4, c5, c6, c7, c8⟩, ⟨z5, z6, z7, z8⟩, lt0⟩ := cellsT (h2.cells 1 rfl); clear h2 hG)
    go_ret2
    exact ⟨rfl, nx', L', HG.out, H2.out.setAt 1 rfl 8 _⟩

set_option maxHeartbeats 4000000 in
theorem tk_step_last {w0 w : World} {q p : Nat} {ws : List Int} {ns : List Note} {L : List Asn} {ws' : List Int} {ns' : List Note} (n s h t a i x i' x' r z : Int) (G : Value → List Asn → Prop) (b1 b2 : Nat) (hS : St w0 (memA q ws ns :: tlB 124 p n s h t a i x (.func (.func 90) #[] #[.pointer (some ⟨b1, 0, none⟩), .pointer (some ⟨b2, 0, none⟩)]) 0 :: L) w) (hz : z = if r = 1 then i' else 0)
    (hc : Calls Try.prog 90 #[.pointer (some ⟨q, 0, none⟩), .pointer (some ⟨b1, 0, none⟩), .pointer (some ⟨b2, 0, none⟩)] w fun e w' => e = .returned (.int .i64 r) ∧ (fun w' => ∃ (nx' : Value) (L' : List Asn), G nx' L' ∧ St w0 (memA q ws' ns' :: tlB 124 p n s h t a i' x' nx' 0 :: L') w') w') :
    Calls Try.prog 68 #[.pointer (some ⟨p, 0, none⟩), .pointer (some ⟨q, 0, none⟩)] w fun e w' => e = .returned (.tuple #[.int .i64 r, .int .u32 z]) ∧ (fun w' => ∃ (nx' : Value) (L' : List Asn), G nx' L' ∧ St w0 (memA q ws' ns' :: tlB 124 p n s h t a i' x' nx' r :: L') w') w' := by
  have HC := Lib.hid hc
  obtain ⟨⟨c0, c1, c2, c3, c4, c5, c6, c7, c8⟩, ⟨z5, z6, z7, z8⟩, lt0⟩ := cellsT (hS.cells 1 rfl)
  clear hS hc
  by_cases hr : r = 1
  · subst hr
    obtain rfl : z = i' := by rw [hz]; simp
    clear hz
    go_enter Try.func68, Try.ntmps68
    go_wp2_with (go_at_call 90; refine HC.out.mono ?_; rintro e w2 ⟨rfl, nx', L', hG, h2⟩; (have HG := Lib.hid hG); (have H2 := Lib.hid h2); clear c0 c1 c2 c3 c4 c5 c6 c7 c8 z5 z6 z7 z8 lt0; obtain ⟨⟨c0, c1, c2, c3, c4, c5, c6, c7, c8⟩, ⟨z5, z6, z7, z8⟩, lt0⟩ := cellsT (h2.cells 1 rfl); clear h2 hG)
    go_quiet (fail)
    go_wp2
    go_ret2
    exact ⟨rfl, nx', L', HG.out, (H2.out.setAt 1 rfl 8 _).drewN nq⟩
  · have e1 : (r != 1) = true := by simpa using hr
    obtain rfl : z = 0 := by rw [hz]; simp [hr]
    clear hz hr
    go_enter Try.func68, Try.ntmps68
    go_wp2_with (go_at_call 90; refine HC.out.mono ?_; rintro e w2 ⟨rfl, nx', L', hG, h2⟩; (have HG := Lib.hid hG); (have H2 := Lib.hid h2); clear c0 c1 c2 c3 c4 c5 c6 c7 c8 z5 z6 z7 z8 lt0; obtain ⟨⟨c0, c1, c2, c3, c4, c5, c6, c7, c8⟩, ⟨z5, z6, z7, z8⟩, lt0⟩ := cellsT (h2.cells 1 rfl); clear h2 hG)
    go_ret2
    exact ⟨rfl, nx', L', HG.out, H2.out.setAt 1 rfl 8 _⟩

set_option maxHeartbeats 4000000 in
theorem tk_step_over {w0 w : World} {q p : Nat} {ws : List Int} {ns : List Note} {L : List Asn} (n s h t a i x st : Int) (nx : Value) (z : Int) (hS : St w0 (memA q ws ns :: tlB 124 p n s h t a i x nx st :: L) w) (hs : st ≠ 0) (hz : z = if st = 1 then i else 0) :
    Calls Try.prog 68 #[.pointer (some ⟨p, 0, none⟩), .pointer (some ⟨q, 0, none⟩)] w fun e w' => e = .returned (.tuple #[.int .i64 st, .int .u32 z]) ∧ St w0 (memA q ws ns :: tlB 124 p n s h t a i x nx st :: L) w' := by
  have H := Lib.hid hS
  obtain ⟨⟨c0, c1, c2, c3, c4, c5, c6, c7, c8⟩, ⟨z5, z6, z7, z8⟩, lt0⟩ := cellsT (hS.cells 1 rfl)
  clear hS
  by_cases hr : st = 1
  · subst hr
    obtain rfl : z = i := by rw [hz]; simp
    clear hz
    go_enter Try.func68, Try.ntmps68
    go_wp2
    go_quiet (fail)
    go_wp2
    go_ret2
    exact ⟨rfl, H.out.drewN nq⟩
  · have e1 : (st != 1) = true := by simpa using hr
    have e2 : (st == 0) = false := by simpa using hs
    obtain rfl : z = 0 := by rw [hz]; simp [hr]
    clear hz hr hs
    go_enter Try.func68, Try.ntmps68
    go_wp2
    go_ret2
    exact ⟨rfl, H.out⟩

set_option maxHeartbeats 2000000 in
theorem tk_wrap (p q : Nat) (r i : Int) (R : World → Prop) (w : World) (hc : Calls Try.prog 68 #[.pointer (some ⟨p, 0, none⟩), .pointer (some ⟨q, 0, none⟩)] w fun e w' => e = .returned (.tuple #[.int .i64 r, .int .u32 i]) ∧ R w') :
    Calls Try.prog 39 #[.pointer (some ⟨p, 0, none⟩), .pointer (some ⟨q, 0, none⟩)] w fun e w' => e = .returned (.tuple #[.int .i64 r, .int .u32 i]) ∧ R w' := by
  have HC := Lib.hid hc
  clear hc
  go_enter Try.func39, Try.ntmps39
  go_wp2_with (go_at_call 68; refine HC.out.mono ?_; rintro e w1 ⟨rfl, hr⟩; (have HR1 := Lib.hid hr); clear hr)
  go_ret2
  exact ⟨rfl, HR1.out⟩

set_option maxHeartbeats 2000000 in
theorem tk_make {w0 w : World} {L : List Asn} (n s h t a : Int) (hS : St w0 L w) :
    Calls Try.prog 36 #[.agg #[.int .i64 n, .int .i64 s, .int .i64 h, .int .u32 t], .int .i64 a] w fun e w' => ∃ p, e = .returned (.pointer (some ⟨p, 0, none⟩)) ∧ St w0 (tlB 124 p n s h t a 0 0 (.func (.func 66) #[.pointer (some ⟨p, 0, none⟩)] #[]) 0 :: L) w' := by
  have hmf : ∀ (fn : Fn) (first cap : Array Value) (w : World), (Instr.makeFunc fn first cap).run Try.prog w = .ok (.func fn first cap) w := fun _ _ _ _ => rfl
  have H := Lib.hid hS
  clear hS
  go_enter Try.func36, Try.ntmps36
  go_wp2
  go_ret
  have h := (H.out.alloc #[.int .i64 n, .int .i64 s, .int .i64 h, .int .u32 t] 26).alloc #[.int .i64 n, .int .i64 s, .int .i64 h, .int .u32 t, .int .i64 a, .int .u32 0, .int .u64 0, (.func (.func 66) #[.pointer (some ⟨w.heap.size + 1, 0, none⟩)] #[]), .int .i64 0] 124
  simp only [World.size_alloc] at h
  exact ⟨w.heap.size + 1, rfl, h.drop1⟩

set_option maxHeartbeats 4000000 in
theorem gv_last_hit {w0 w : World} {q p : Nat} {ws : List Int} {ns : List Note} {L : List Asn} (n s h t i x st : Int) (nx : Value) (a : Nat) (b1 : Nat) (v : Int) (hS : St w0 (memA q ws ns :: tlB 125 p n s h t a i x nx st :: bxGv b1 p :: L) w) (hk : ns.length ≤ 1000000000000) (hx0 : 0 ≤ x) (hx1 : x < 18446744073709551616) (hi0 : 0 ≤ i) (hi1 : i < 4294967296) (hv : nextW x i = v) (ha : a < ws.length) (hy : rdW ws a = x) :
    Calls Try.prog 92 #[.pointer (some ⟨q, 0, none⟩), .pointer (some ⟨b1, 0, none⟩)] w fun e w' => e = .returned (.int .i64 1) ∧ St w0 (memA q (ws.set a v) (ns ++ [⟨99, a, x, v, true⟩]) :: tlB 125 p n s h t a i x nx st :: bxGv b1 p :: L) w' := by
  have H := Lib.hid hS
  have HV := Lib.hid hv
  have HY := Lib.hid hy
  have k1 := cell_of (hS.cells 2 rfl) 0
  have k2 := cell_of (hS.cells 1 rfl) 5
  clear hS hv hy
  go_enter Try.func92, Try.ntmps92
  go_wp2
  go_region_held3 (fun w' => w'.cell? ⟨b1, 0, none⟩ = some (.pointer (some ⟨p, 0, none⟩)) ∧ w'.cell? ⟨p, 5, none⟩ = some (.int .u32 i)) (first | exact ⟨k1, k2⟩) ((go_at_call 91; refine (tl_swap_hit 125 n s h t i x st nx a i v H.out.drew hk hx0 hx1 hi0 hi1 HV.out ha HY.out).mono ?_; rintro e w3 ⟨rfl, h3⟩; (have H3 := Lib.hid h3); clear k1 k2; (have k1 := cell_of (h3.cells 2 rfl) 0); (have k2 := cell_of (h3.cells 1 rfl) 5); clear h3))
  go_wp2
  go_ret
  exact ⟨rfl, H3.out⟩

set_option maxHeartbeats 4000000 in
theorem gv_last_lost {w0 w : World} {q p : Nat} {ws : List Int} {ns : List Note} {L : List Asn} (n s h t i x st : Int) (nx : Value) (a : Nat) (b1 : Nat) (v : Int) (hS : St w0 (memA q ws ns :: tlB 125 p n s h t a i x nx st :: bxGv b1 p :: L) w) (hk : ns.length ≤ 1000000000000) (hx0 : 0 ≤ x) (hx1 : x < 18446744073709551616) (hi0 : 0 ≤ i) (hi1 : i < 4294967296) (hv : nextW x i = v) (ha : a < ws.length) (y : Int) (hy : rdW ws a = y) (hne : (y == x) = false) :
    Calls Try.prog 92 #[.pointer (some ⟨q, 0, none⟩), .pointer (some ⟨b1, 0, none⟩)] w fun e w' => e = .returned (.int .i64 3) ∧ St w0 (memA q ws (ns ++ [⟨99, a, y, y, false⟩]) :: tlB 125 p n s h t a i x nx st :: bxGv b1 p :: L) w' := by
  have H := Lib.hid hS
  have HV := Lib.hid hv
  have HY := Lib.hid hy
  have k1 := cell_of (hS.cells 2 rfl) 0
  have k2 := cell_of (hS.cells 1 rfl) 5
  clear hS hv hy
  go_enter Try.func92, Try.ntmps92
  go_wp2
  go_region_held3 (fun w' => w'.cell? ⟨b1, 0, none⟩ = some (.pointer (some ⟨p, 0, none⟩)) ∧ w'.cell? ⟨p, 5, none⟩ = some (.int .u32 i)) (first | exact ⟨k1, k2⟩) ((go_at_call 91; refine (tl_swap_lost 125 n s h t i x st nx a y i v H.out.drew hk hx0 hx1 hi0 hi1 HV.out ha HY.out hne).mono ?_; rintro e w3 ⟨rfl, h3⟩; (have H3 := Lib.hid h3); clear k1 k2; (have k1 := cell_of (h3.cells 2 rfl) 0); (have k2 := cell_of (h3.cells 1 rfl) 5); clear h3))
  go_wp2
  go_ret
  exact ⟨rfl, H3.out⟩

set_option maxHeartbeats 4000000 in
theorem gv_step_head {w0 w : World} {q p : Nat} {ws : List Int} {ns : List Note} {L : List Asn} {ws' : List Int} {ns' : List Note} (n s h t a i x i' x' r z : Int) (G : Value → List Asn → Prop) (hS : St w0 (memA q ws ns :: tlB 125 p n s h t a i x (.func (.func 67) #[.pointer (some ⟨p, 0, none⟩)] #[]) 0 :: L) w) (hz : z = if r = 1 then i' else 0)
    (hc : Calls Try.prog 67 #[.pointer (some ⟨p, 0, none⟩), .pointer (some ⟨q, 0, none⟩)] w fun e w' => e = .returned (.int .i64 r) ∧ (fun w' => ∃ (nx' : Value) (L' : List Asn), G nx' L' ∧ St w0 (memA q ws' ns' :: tlB 125 p n s h t a i' x' nx' 0 :: L') w') w') :
    Calls Try.prog 68 #[.pointer (some ⟨p, 0, none⟩), .pointer (some ⟨q, 0, none⟩)] w fun e w' => e = .returned (.tuple #[.int .i64 r, .int .u32 z]) ∧ (fun w' => ∃ (nx' : Value) (L' : List Asn), G nx' L' ∧ St w0 (memA q ws' ns' :: tlB 125 p n s h t a i' x' nx' r :: L') w') w' := by
  have HC := Lib.hid hc
  obtain ⟨⟨c0, c1, c2, c3, c4, c5, c6, c7, c8⟩, ⟨z5, z6, z7, z8⟩, lt0⟩ := cellsT (hS.cells 1 rfl)
  clear hS hc
  by_cases hr : r = 1
  · subst hr
    obtain rfl : z = i' := by rw [hz]; simp
    clear hz
    go_enter Try.func68, Try.ntmps68
    go_wp2_with (go_at_call 67; refine HC.out.mono ?_; rintro e w2 ⟨rfl, nx', L', hG, h2⟩; (have HG := Lib.hid hG); (have H2 := Lib.hid h2); clear c0 c1 c2 c3 c4 c5 c6 c7 c8 z5 z6 z7 z8 lt0; obtain ⟨⟨c0, c1, c2, c3, c4, c5, c6, c7, c8⟩, ⟨z5, z6, z7, z8⟩, lt0⟩ := cellsT (h2.cells 1 rfl); clear h2 hG)
    go_quiet (fail)
    go_wp2
    go_ret2
    exact ⟨rfl, nx', L', HG.out, (H2.out.setAt 1 rfl 8 _).drewN nq⟩
  · have e1 : (r != 1) = true := by simpa using hr
    obtain rfl : z = 0 := by rw [hz]; simp [hr]
    clear hz hr
    go_enter Try.func68, Try.ntmps68
    go_wp2_with (go_at_call 67; refine HC.out.mono ?_; rintro e w2 ⟨rfl, nx', L', hG, h2⟩; (have HG := Lib.hid hG); (have H2 := Lib.hid h2); clear c0 c1 c2 c3 c4 c5 c6 c7 c8 z5 z6 z7 z8 lt0; obtain ⟨⟨c0, c1, c2, c3, c4, c5, c6, c7, c8⟩, ⟨z5, z6, z7, z8⟩, lt0⟩ := cellsT (h2.cells 1 rfl); clear h2 hG)
    go_ret2
    exact ⟨rfl, nx', L', HG.out, H2.out.setAt 1 rfl 8 _⟩

set_option maxHeartbeats 4000000 in
theorem gv_step_second {w0 w : World} {q p : Nat} {ws : List Int} {ns : List Note} {L : List Asn} {ws' : List Int} {ns' : List Note} (n s h t a i x i' x' r z : Int) (G : Value → List Asn → Prop) (hS : St w0 (memA q ws ns :: tlB 125 p n s h t a i x (.func (.func 83) #[.pointer (some ⟨p, 0, none⟩)] #[]) 0 :: L) w) (hz : z = if r = 1 then i' else 0)
    (hc : Calls Try.prog 83 #[.pointer (some ⟨p, 0, none⟩), .pointer (some ⟨q, 0, none⟩)] w fun e w' => e = .returned (.int .i64 r) ∧ (fun w' => ∃ (nx' : Value) (L' : List Asn), G nx' L' ∧ St w0 (memA q ws' ns' :: tlB 125 p n s h t a i' x' nx' 0 :: L') w') w') :
    Calls Try.prog 68 #[.pointer (some ⟨p, 0, none⟩), .pointer (some ⟨q, 0, none⟩)] w fun e w' => e = .returned (.tuple #[.int .i64 r, .int .u32 z]) ∧ (fun w' => ∃ (nx' : Value) (L' : List Asn), G nx' L' ∧ St w0 (memA q ws' ns' :: tlB 125 p n s h t a i' x' nx' r :: L') w') w' := by
  have HC := Lib.hid hc
  obtain ⟨⟨c0, c1, c2, c3, c4, c5, c6, c7, c8⟩, ⟨z5, z6, z7, z8⟩, lt0⟩ := cellsT (hS.cells 1 rfl)
  clear hS hc
  by_cases hr : r = 1
  · subst hr
    obtain rfl : z = i' := by rw [hz]; simp
    clear hz
    go_enter Try.func68, Try.ntmps68
    go_wp2_with (go_at_call 83; refine HC.out.mono ?_; rintro e w2 ⟨rfl, nx', L', hG, h2⟩; (have HG := Lib.hid hG); (have H2 := Lib.hid h2); clear c0 c1 c2 c3 c4 c5 c6 c7 c8 z5 z6 z7 z8 lt0; obtain ⟨⟨c0, c1, c2, c3, c4, c5, c6, c7, c8⟩, ⟨z5, z6, z7, z8⟩, lt0⟩ := cellsT (h2.cells 1 rfl); clear h2 hG)
    go_quiet (fail)
    go_wp2
    go_ret2
    exact ⟨rfl, nx', L', HG.out, (H2.out.setAt 1 rfl 8 _).drewN nq⟩
  · have e1 : (r != 1) = true := by simpa using hr
    obtain rfl : z = 0 := by rw [hz]; simp [hr]
    clear hz hr
    go_enter Try.func68, Try.ntmps68
    go_wp2_with (go_at_call 83; refine HC.out.mono ?_; rintro e w2 ⟨rfl, nx', L', hG, h2⟩; (have HG := Lib.hid hG); (have H2 := Lib.hid h2); clear c0 c1 c2 c3 c4 c5 c6 c7 c8 z5 z6 z7 z8 lt0; obtain ⟨⟨c0, c1, c2, c3, c4, c5, c6, c7, c8⟩, ⟨z5, z6, z7, z8⟩, lt0⟩ := cellsT (h2.cells 1 rfl); clear h2 hG)
    go_ret2
    exact ⟨rfl, nx', L', HG.out, H2.out.setAt 1 rfl 8 _⟩

set_option maxHeartbeats 4000000 in
theorem gv_step_last {w0 w : World} {q p : Nat} {ws : List Int} {ns : List Note} {L : List Asn} {ws' : List Int} {ns' : List Note} (n s h t a i x i' x' r z : Int) (G : Value → List Asn → Prop) (b1 : Nat) (hS : St w0 (memA q ws ns :: tlB 125 p n s h t a i x (.func (.func 92) #[] #[.pointer (some ⟨b1, 0, none⟩)]) 0 :: L) w) (hz : z = if r = 1 then i' else 0)
    (hc : Calls Try.prog 92 #[.pointer (some ⟨q, 0, none⟩), .pointer (some ⟨b1, 0, none⟩)] w fun e w' => e = .returned (.int .i64 r) ∧ (fun w' => ∃ (nx' : Value) (L' : List Asn), G nx' L' ∧ St w0 (memA q ws' ns' :: tlB 125 p n s h t a i' x' nx' 0 :: L') w') w') :
    Calls Try.prog 68 #[.pointer (some ⟨p, 0, none⟩), .pointer (some ⟨q, 0, none⟩)] w fun e w' => e = .returned (.tuple #[.int .i64 r, .int .u32 z]) ∧ (fun w' => ∃ (nx' : Value) (L' : List Asn), G nx' L' ∧ St w0 (memA q ws' ns' :: tlB 125 p n s h t a i' x' nx' r :: L') w') w' := by
  have HC := Lib.hid hc
  obtain ⟨⟨c0, c1, c2, c3, c4, c5, c6, c7, c8⟩, ⟨z5, z6, z7, z8⟩, lt0⟩ := cellsT (hS.cells 1 rfl)
  clear hS hc
  by_cases hr : r = 1
  · subst hr
    obtain rfl : z = i' := by rw [hz]; simp
    clear hz
    go_enter Try.func68, Try.ntmps68
    go_wp2_with (go_at_call 92; refine HC.out.mono ?_; rintro e w2 ⟨rfl, nx', L', hG, h2⟩; (have HG := Lib.hid hG); (have H2 := Lib.hid h2); clear c0 c1 c2 c3 c4 c5 c6 c7 c8 z5 z6 z7 z8 lt0; obtain ⟨⟨c0, c1, c2, c3, c4, c5, c6, c7, c8⟩, ⟨z5, z6, z7, z8⟩, lt0⟩ := cellsT (h2.cells 1 rfl); clear h2 hG)
    go_quiet (fail)
    go_wp2
    go_ret2
    exact ⟨rfl, nx', L', HG.out, (H2.out.setAt 1 rfl 8 _).drewN nq⟩
  · have e1 : (r != 1) = true := by simpa using hr
    obtain rfl : z = 0 := by rw [hz]; simp [hr]
    clear hz hr
    go_enter Try.func68, Try.ntmps68
    go_wp2_with (go_at_call 92; refine HC.out.mono ?_; rintro e w2 ⟨rfl, nx', L', hG, h2⟩; (have HG := Lib.hid hG); (have H2 := Lib.hid h2); clear c0 c1 c2 c3 c4 c5 c6 c7 c8 z5 z6 z7 z8 lt0; obtain ⟨⟨c0, c1, c2, c3, c4, c5, c6, c7, c8⟩, ⟨z5, z6, z7, z8⟩, lt0⟩ := cellsT (h2.cells 1 rfl); clear h2 hG)
    go_ret2
    exact ⟨rfl, nx', L', HG.out, H2.out.setAt 1 rfl 8 _⟩

set_option maxHeartbeats 4000000 in
theorem gv_step_over {w0 w : World} {q p : Nat} {ws : List Int} {ns : List Note} {L : List Asn} (n s h t a i x st : Int) (nx : Value) (z : Int) (hS : St w0 (memA q ws ns :: tlB 125 p n s h t a i x nx st :: L) w) (hs : st ≠ 0) (hz : z = if st = 1 then i else 0) :
    Calls Try.prog 68 #[.pointer (some ⟨p, 0, none⟩), .pointer (some ⟨q, 0, none⟩)] w fun e w' => e = .returned (.tuple #[.int .i64 st, .int .u32 z]) ∧ St w0 (memA q ws ns :: tlB 125 p n s h t a i x nx st :: L) w' := by
  have H := Lib.hid hS
  obtain ⟨⟨c0, c1, c2, c3, c4, c5, c6, c7, c8⟩, ⟨z5, z6, z7, z8⟩, lt0⟩ := cellsT (hS.cells 1 rfl)
  clear hS
  by_cases hr : st = 1
  · subst hr
    obtain rfl : z = i := by rw [hz]; simp
    clear hz
    go_enter Try.func68, Try.ntmps68
    go_wp2
    go_quiet (fail)
    go_wp2
    go_ret2
    exact ⟨rfl, H.out.drewN nq⟩
  · have e1 : (st != 1) = true := by simpa using hr
    have e2 : (st == 0) = false := by simpa using hs
    obtain rfl : z = 0 := by rw [hz]; simp [hr]
    clear hz hr hs
    go_enter Try.func68, Try.ntmps68
    go_wp2
    go_ret2
    exact ⟨rfl, H.out⟩

set_option maxHeartbeats 2000000 in
theorem gv_wrap (p q : Nat) (r i : Int) (R : World → Prop) (w : World) (hc : Calls Try.prog 68 #[.pointer (some ⟨p, 0, none⟩), .pointer (some ⟨q, 0, none⟩)] w fun e w' => e = .returned (.tuple #[.int .i64 r, .int .u32 i]) ∧ R w') :
    Calls Try.prog 57 #[.pointer (some ⟨p, 0, none⟩), .pointer (some ⟨q, 0, none⟩)] w fun e w' => e = .returned (.tuple #[.int .i64 r, .int .u32 i]) ∧ R w' := by
  have HC := Lib.hid hc
  clear hc
  go_enter Try.func57, Try.ntmps57
  go_wp2_with (go_at_call 68; refine HC.out.mono ?_; rintro e w1 ⟨rfl, hr⟩; (have HR1 := Lib.hid hr); clear hr)
  go_ret2
  exact ⟨rfl, HR1.out⟩

set_option maxHeartbeats 2000000 in
theorem gv_make {w0 w : World} {L : List Asn} (n s h t a i : Int) (hS : St w0 L w) :
    Calls Try.prog 38 #[.agg #[.int .i64 n, .int .i64 s, .int .i64 h, .int .u32 t], .int .i64 a, .int .u32 i] w fun e w' => ∃ p, e = .returned (.pointer (some ⟨p, 0, none⟩)) ∧ St w0 (tlB 125 p n s h t a i 0 (.func (.func 67) #[.pointer (some ⟨p, 0, none⟩)] #[]) 0 :: L) w' := by
  have hmf : ∀ (fn : Fn) (first cap : Array Value) (w : World), (Instr.makeFunc fn first cap).run Try.prog w = .ok (.func fn first cap) w := fun _ _ _ _ => rfl
  have H := Lib.hid hS
  clear hS
  go_enter Try.func38, Try.ntmps38
  go_wp2
  go_ret
  have h := (H.out.alloc #[.int .i64 n, .int .i64 s, .int .i64 h, .int .u32 t] 26).alloc #[.int .i64 n, .int .i64 s, .int .i64 h, .int .u32 t, .int .i64 a, .int .u32 i, .int .u64 0, (.func (.func 67) #[.pointer (some ⟨w.heap.size + 1, 0, none⟩)] #[]), .int .i64 0] 125
  simp only [World.size_alloc] at h
  exact ⟨w.heap.size + 1, rfl, h.drop1⟩
end Go.Proofs.Ytndigbkhaajjoaa
