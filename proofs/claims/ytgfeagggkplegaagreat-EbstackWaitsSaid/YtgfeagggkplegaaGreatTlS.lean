/-
  taglist's machines: their last steps, what a step does, machines that are made.
-/
import Derived.Test.YtgfeagggkplegaaGreatTlV
namespace Go.Proofs.YtgfeagggkplegaaGreat
open Go.RowKit
set_option linter.unusedVariables false
set_option linter.unusedSimpArgs false

set_option maxHeartbeats 4000000 in
theorem tk_last_hit {w0 w : World} {q p : Nat} {ws : List Int} {ns : List Note} {L : List Asn} (n s h t i x st : Int) (nx : Value) (a : Nat) (b1 b2 : Nat) (z f v : Int) (hS : St w0 (memA q ws ns :: tlB 180 p n s h t a i x nx st :: bxTk b1 p :: bxW b2 z :: L) w) (hk : ns.length ≤ 1000000000000) (hx0 : 0 ≤ x) (hx1 : x < 18446744073709551616) (hz : z % 4294967296 = f) (hv : nextW x f = v) (ha : a < ws.length) (hy : rdW ws a = x) :
    Calls Tryz.prog 133 #[.pointer (some ⟨q, 0, none⟩), .pointer (some ⟨b1, 0, none⟩), .pointer (some ⟨b2, 0, none⟩)] w fun e w' => e = .returned (.int .i64 1) ∧ St w0 (memA q (ws.set a v) (ns ++ [⟨99, a, x, v, true⟩]) :: tlB 180 p n s h t a i x nx st :: bxTk b1 p :: bxW b2 z :: L) w' := by
  have f0 : 0 ≤ f := by omega
  have f1 : f < 4294967296 := by omega
  have H := Lib.hid hS
  have HZ := Lib.hid hz
  have HV := Lib.hid hv
  have HY := Lib.hid hy
  have k1 := cell_of (hS.cells 2 rfl) 0
  have k2 := cell_of (hS.cells 3 rfl) 0
  clear hS hz hv hy
  go_enter Tryz.func133, Tryz.ntmps133
  go_wp2
  go_region_held3 (fun w' => w'.cell? ⟨b1, 0, none⟩ = some (.pointer (some ⟨p, 0, none⟩)) ∧ w'.cell? ⟨b2, 0, none⟩ = some (.int .u64 z)) (first | exact ⟨k1, k2⟩) (first | ((have _h := H2); go_at_call 134; refine (tl_swap_hit 180 n s h t i x st nx a f v H2.out hk hx0 hx1 f0 f1 HV.out ha HY.out).mono ?_; rintro e w3 ⟨rfl, h3⟩; (have H3 := Lib.hid h3); clear k1 k2; (have k1 := cell_of (h3.cells 2 rfl) 0); (have k2 := cell_of (h3.cells 3 rfl) 0); clear h3 _h) | (go_at_call 101; refine (index_is z f _ HZ.out).mono ?_; rintro e w2 ⟨rfl, hb⟩; (have h2 := H.out.drew.below hb); (have H2 := Lib.hid h2); clear k1 k2; (have k1 := cell_of (h2.cells 2 rfl) 0); (have k2 := cell_of (h2.cells 3 rfl) 0); clear h2 hb))
  go_wp2
  go_ret
  exact ⟨rfl, H3.out⟩

set_option maxHeartbeats 4000000 in
theorem tk_last_lost {w0 w : World} {q p : Nat} {ws : List Int} {ns : List Note} {L : List Asn} (n s h t i x st : Int) (nx : Value) (a : Nat) (b1 b2 : Nat) (z f v : Int) (hS : St w0 (memA q ws ns :: tlB 180 p n s h t a i x nx st :: bxTk b1 p :: bxW b2 z :: L) w) (hk : ns.length ≤ 1000000000000) (hx0 : 0 ≤ x) (hx1 : x < 18446744073709551616) (hz : z % 4294967296 = f) (hv : nextW x f = v) (ha : a < ws.length) (y : Int) (hy : rdW ws a = y) (hne : (y == x) = false) :
    Calls Tryz.prog 133 #[.pointer (some ⟨q, 0, none⟩), .pointer (some ⟨b1, 0, none⟩), .pointer (some ⟨b2, 0, none⟩)] w fun e w' => e = .returned (.int .i64 3) ∧ St w0 (memA q ws (ns ++ [⟨99, a, y, y, false⟩]) :: tlB 180 p n s h t a i x nx st :: bxTk b1 p :: bxW b2 z :: L) w' := by
  have f0 : 0 ≤ f := by omega
  have f1 : f < 4294967296 := by omega
  have H := Lib.hid hS
  have HZ := Lib.hid hz
  have HV := Lib.hid hv
  have HY := Lib.hid hy
  have k1 := cell_of (hS.cells 2 rfl) 0
  have k2 := cell_of (hS.cells 3 rfl) 0
  clear hS hz hv hy
  go_enter Tryz.func133, Tryz.ntmps133
  go_wp2
  go_region_held3 (fun w' => w'.cell? ⟨b1, 0, none⟩ = some (.pointer (some ⟨p, 0, none⟩)) ∧ w'.cell? ⟨b2, 0, none⟩ = some (.int .u64 z)) (first | exact ⟨k1, k2⟩) (first | ((have _h := H2); go_at_call 134; refine (tl_swap_lost 180 n s h t i x st nx a y f v H2.out hk hx0 hx1 f0 f1 HV.out ha HY.out hne).mono ?_; rintro e w3 ⟨rfl, h3⟩; (have H3 := Lib.hid h3); clear k1 k2; (have k1 := cell_of (h3.cells 2 rfl) 0); (have k2 := cell_of (h3.cells 3 rfl) 0); clear h3 _h) | (go_at_call 101; refine (index_is z f _ HZ.out).mono ?_; rintro e w2 ⟨rfl, hb⟩; (have h2 := H.out.drew.below hb); (have H2 := Lib.hid h2); clear k1 k2; (have k1 := cell_of (h2.cells 2 rfl) 0); (have k2 := cell_of (h2.cells 3 rfl) 0); clear h2 hb))
  go_wp2
  go_ret
  exact ⟨rfl, H3.out⟩

set_option maxHeartbeats 4000000 in
theorem tk_step_head {w0 w : World} {q p : Nat} {ws : List Int} {ns : List Note} {L : List Asn} {ws' : List Int} {ns' : List Note} (n s h t a i x i' x' r z : Int) (G : Value → List Asn → Prop) (hS : St w0 (memA q ws ns :: tlB 180 p n s h t a i x (.func (.func 87) #[.pointer (some ⟨p, 0, none⟩)] #[]) 0 :: L) w) (hz : z = if r = 1 then i' else 0)
    (hc : Calls Tryz.prog 87 #[.pointer (some ⟨p, 0, none⟩), .pointer (some ⟨q, 0, none⟩)] w fun e w' => e = .returned (.int .i64 r) ∧ (fun w' => ∃ (nx' : Value) (L' : List Asn), G nx' L' ∧ St w0 (memA q ws' ns' :: tlB 180 p n s h t a i' x' nx' 0 :: L') w') w') :
    Calls Tryz.prog 216 #[.pointer (some ⟨p, 0, none⟩), .pointer (some ⟨q, 0, none⟩)] w fun e w' => e = .returned (.tuple #[.int .i64 r, .int .u32 z]) ∧ (fun w' => ∃ (nx' : Value) (L' : List Asn), G nx' L' ∧ St w0 (memA q ws' ns' :: tlB 180 p n s h t a i' x' nx' r :: L') w') w' := by
  have HC := Lib.hid hc
  obtain ⟨⟨c0, c1, c2, c3, c4, c5, c6, c7, c8⟩, ⟨z5, z6, z7, z8⟩, lt0⟩ := cellsT (hS.cells 1 rfl)
  clear hS hc
  by_cases hr : r = 1
  · subst hr
    obtain rfl : z = i' := by rw [hz]; simp
    clear hz
    go_enter Tryz.func216, Tryz.ntmps216
    go_wp2_with (go_at_call 87; refine HC.out.mono ?_; rintro e w2 ⟨rfl, nx', L', hG, h2⟩; (have HG := Lib.hid hG); (have H2 := Lib.hid h2); clear c0 c1 c2 c3 c4 c5 c6 c7 c8 z5 z6 z7 z8 lt0; obtain ⟨⟨c0, c1, c2, c3, c4, c5, c6, c7, c8⟩, ⟨z5, z6, z7, z8⟩, lt0⟩ := cellsT (h2.cells 1 rfl); clear h2 hG)
    go_quiet (fail)
    go_wp2
    go_ret2
    exact ⟨rfl, nx', L', HG.out, (H2.out.setAt 1 rfl 8 _).drewN nq⟩
  · have e1 : (r != 1) = true := by simpa using hr
    obtain rfl : z = 0 := by rw [hz]; simp [hr]
    clear hz hr
    go_enter Tryz.func216, Tryz.ntmps216
    go_wp2_with (go_at_call 87; refine HC.out.mono ?_; rintro e w2 ⟨rfl, nx', L', hG, h2⟩; (have HG := Lib.hid hG); (have H2 := Lib.hid h2); clear c0 c1 c2 c3 c4 c5 c6 c7 c8 z5 z6 z7 z8 lt0; obtain ⟨⟨c0, c1, c2, c3, c4, c5, c6, c7, c8⟩, ⟨z5, z6, z7, z8⟩, lt0⟩ := cellsT (h2.cells 1 rfl); clear h2 hG)
    go_ret2
    exact ⟨rfl, nx', L', HG.out, H2.out.setAt 1 rfl 8 _⟩

set_option maxHeartbeats 4000000 in
theorem tk_step_second {w0 w : World} {q p : Nat} {ws : List Int} {ns : List Note} {L : List Asn} {ws' : List Int} {ns' : List Note} (n s h t a i x i' x' r z : Int) (G : Value → List Asn → Prop) (hS : St w0 (memA q ws ns :: tlB 180 p n s h t a i x (.func (.func 107) #[.pointer (some ⟨p, 0, none⟩)] #[]) 0 :: L) w) (hz : z = if r = 1 then i' else 0)
    (hc : Calls Tryz.prog 107 #[.pointer (some ⟨p, 0, none⟩), .pointer (some ⟨q, 0, none⟩)] w fun e w' => e = .returned (.int .i64 r) ∧ (fun w' => ∃ (nx' : Value) (L' : List Asn), G nx' L' ∧ St w0 (memA q ws' ns' :: tlB 180 p n s h t a i' x' nx' 0 :: L') w') w') :
    Calls Tryz.prog 216 #[.pointer (some ⟨p, 0, none⟩), .pointer (some ⟨q, 0, none⟩)] w fun e w' => e = .returned (.tuple #[.int .i64 r, .int .u32 z]) ∧ (fun w' => ∃ (nx' : Value) (L' : List Asn), G nx' L' ∧ St w0 (memA q ws' ns' :: tlB 180 p n s h t a i' x' nx' r :: L') w') w' := by
  have HC := Lib.hid hc
  obtain ⟨⟨c0, c1, c2, c3, c4, c5, c6, c7, c8⟩, ⟨z5, z6, z7, z8⟩, lt0⟩ := cellsT (hS.cells 1 rfl)
  clear hS hc
  by_cases hr : r = 1
  · subst hr
    obtain rfl : z = i' := by rw [hz]; simp
    clear hz
    go_enter Tryz.func216, Tryz.ntmps216
    go_wp2_with (go_at_call 107; refine HC.out.mono ?_; rintro e w2 ⟨rfl, nx', L', hG, h2⟩; (have HG := Lib.hid hG); (have H2 := Lib.hid h2); clear c0 c1 c2 c3 c4 c5 c6 c7 c8 z5 z6 z7 z8 lt0; obtain ⟨⟨c0, c1, c2, c3, c4, c5, c6, c7, c8⟩, ⟨z5, z6, z7, z8⟩, lt0⟩ := cellsT (h2.cells 1 rfl); clear h2 hG)
    go_quiet (fail)
    go_wp2
    go_ret2
    exact ⟨rfl, nx', L', HG.out, (H2.out.setAt 1 rfl 8 _).drewN nq⟩
  · have e1 : (r != 1) = true := by simpa using hr
    obtain rfl : z = 0 := by rw [hz]; simp [hr]
    clear hz hr
    go_enter Tryz.func216, Tryz.ntmps216
    go_wp2_with (go_at_call 107; refine HC.out.mono ?_; rintro e w2 ⟨rfl, nx', L', hG, h2⟩; (have HG := Lib.hid hG); (have H2 := Lib.hid h2); clear c0 c1 c2 c3 c4 c5 c6 c7 c8 z5 z6 z7 z8 lt0; obtain ⟨⟨c0, c1, c2, c3, c4, c5, c6, c7, c8⟩, ⟨z5, z6, z7, z8⟩, lt0⟩ := cellsT (h2.cells 1 rfl); clear h2 hG)
    go_ret2
    exact ⟨rfl, nx', L', HG.out, H2.out.setAt 1 rfl 8 _⟩

set_option maxHeartbeats 4000000 in
theorem tk_step_last {w0 w : World} {q p : Nat} {ws : List Int} {ns : List Note} {L : List Asn} {ws' : List Int} {ns' : List Note} (n s h t a i x i' x' r z : Int) (G : Value → List Asn → Prop) (b1 b2 : Nat) (hS : St w0 (memA q ws ns :: tlB 180 p n s h t a i x (.func (.func 133) #[] #[.pointer (some ⟨b1, 0, none⟩), .pointer (some ⟨b2, 0, none⟩)]) 0 :: L) w) (hz : z = if r = 1 then i' else 0)
    (hc : Calls Tryz.prog 133 #[.pointer (some ⟨q, 0, none⟩), .pointer (some ⟨b1, 0, none⟩), .pointer (some ⟨b2, 0, none⟩)] w fun e w' => e = .returned (.int .i64 r) ∧ (fun w' => ∃ (nx' : Value) (L' : List Asn), G nx' L' ∧ St w0 (memA q ws' ns' :: tlB 180 p n s h t a i' x' nx' 0 :: L') w') w') :
    Calls Tryz.prog 216 #[.pointer (some ⟨p, 0, none⟩), .pointer (some ⟨q, 0, none⟩)] w fun e w' => e = .returned (.tuple #[.int .i64 r, .int .u32 z]) ∧ (fun w' => ∃ (nx' : Value) (L' : List Asn), G nx' L' ∧ St w0 (memA q ws' ns' :: tlB 180 p n s h t a i' x' nx' r :: L') w') w' := by
  have HC := Lib.hid hc
  obtain ⟨⟨c0, c1, c2, c3, c4, c5, c6, c7, c8⟩, ⟨z5, z6, z7, z8⟩, lt0⟩ := cellsT (hS.cells 1 rfl)
  clear hS hc
  by_cases hr : r = 1
  · subst hr
    obtain rfl : z = i' := by rw [hz]; simp
    clear hz
    go_enter Tryz.func216, Tryz.ntmps216
    go_wp2_with (go_at_call 133; refine HC.out.mono ?_; rintro e w2 ⟨rfl, nx', L', hG, h2⟩; (have HG := Lib.hid hG); (have H2 := Lib.hid h2); clear c0 c1 c2 c3 c4 c5 c6 c7 c8 z5 z6 z7 z8 lt0; obtain ⟨⟨c0, c1, c2, c3, c4, c5, c6, c7, c8⟩, ⟨z5, z6, z7, z8⟩, lt0⟩ := cellsT (h2.cells 1 rfl); clear h2 hG)
    go_quiet (fail)
    go_wp2
    go_ret2
    exact ⟨rfl, nx', L', HG.out, (H2.out.setAt 1 rfl 8 _).drewN nq⟩
  · have e1 : (r != 1) = true := by simpa using hr
    obtain rfl : z = 0 := by rw [hz]; simp [hr]
    clear hz hr
    go_enter Tryz.func216, Tryz.ntmps216
    go_wp2_with (go_at_call 133; refine HC.out.mono ?_; rintro e w2 ⟨rfl, nx', L', hG, h2⟩; (have HG := Lib.hid hG); (have H2 := Lib.hid h2); clear c0 c1 c2 c3 c4 c5 c6 c7 c8 z5 z6 z7 z8 lt0; obtain ⟨⟨c0, c1, c2, c3, c4, c5, c6, c7, c8⟩, ⟨z5, z6, z7, z8⟩, lt0⟩ := cellsT (h2.cells 1 rfl); clear h2 hG)
    go_ret2
    exact ⟨rfl, nx', L', HG.out, H2.out.setAt 1 rfl 8 _⟩

set_option maxHeartbeats 4000000 in
theorem tk_step_over {w0 w : World} {q p : Nat} {ws : List Int} {ns : List Note} {L : List Asn} (n s h t a i x st : Int) (nx : Value) (z : Int) (hS : St w0 (memA q ws ns :: tlB 180 p n s h t a i x nx st :: L) w) (hs : st ≠ 0) (hz : z = if st = 1 then i else 0) :
    Calls Tryz.prog 216 #[.pointer (some ⟨p, 0, none⟩), .pointer (some ⟨q, 0, none⟩)] w fun e w' => e = .returned (.tuple #[.int .i64 st, .int .u32 z]) ∧ St w0 (memA q ws ns :: tlB 180 p n s h t a i x nx st :: L) w' := by
  have H := Lib.hid hS
  obtain ⟨⟨c0, c1, c2, c3, c4, c5, c6, c7, c8⟩, ⟨z5, z6, z7, z8⟩, lt0⟩ := cellsT (hS.cells 1 rfl)
  clear hS
  by_cases hr : st = 1
  · subst hr
    obtain rfl : z = i := by rw [hz]; simp
    clear hz
    go_enter Tryz.func216, Tryz.ntmps216
    go_wp2
    go_quiet (fail)
    go_wp2
    go_ret2
    exact ⟨rfl, H.out.drewN nq⟩
  · have e1 : (st != 1) = true := by simpa using hr
    have e2 : (st == 0) = false := by simpa using hs
    obtain rfl : z = 0 := by rw [hz]; simp [hr]
    clear hz hr hs
    go_enter Tryz.func216, Tryz.ntmps216
    go_wp2
    go_ret2
    exact ⟨rfl, H.out⟩

set_option maxHeartbeats 2000000 in
theorem tk_wrap (p q : Nat) (r i : Int) (R : World → Prop) (w : World) (hc : Calls Tryz.prog 216 #[.pointer (some ⟨p, 0, none⟩), .pointer (some ⟨q, 0, none⟩)] w fun e w' => e = .returned (.tuple #[.int .i64 r, .int .u32 i]) ∧ R w') :
    Calls Tryz.prog 215 #[.pointer (some ⟨p, 0, none⟩), .pointer (some ⟨q, 0, none⟩)] w fun e w' => e = .returned (.tuple #[.int .i64 r, .int .u32 i]) ∧ R w' := by
  have HC := Lib.hid hc
  clear hc
  go_enter Tryz.func215, Tryz.ntmps215
  go_wp2_with (go_at_call 216; refine HC.out.mono ?_; rintro e w1 ⟨rfl, hr⟩; (have HR1 := Lib.hid hr); clear hr)
  go_ret2
  exact ⟨rfl, HR1.out⟩

set_option maxHeartbeats 2000000 in
theorem tk_make {w0 w : World} {L : List Asn} (n s h t a : Int) (hS : St w0 L w) :
    Calls Tryz.prog 57 #[.agg #[.int .i64 n, .int .i64 s, .int .i64 h, .int .u32 t], .int .i64 a] w fun e w' => ∃ p, e = .returned (.pointer (some ⟨p, 0, none⟩)) ∧ St w0 (tlB 180 p n s h t a 0 0 (.func (.func 87) #[.pointer (some ⟨p, 0, none⟩)] #[]) 0 :: L) w' := by
  have hmf : ∀ (fn : Fn) (first cap : Array Value) (w : World), (Instr.makeFunc fn first cap).run Tryz.prog w = .ok (.func fn first cap) w := fun _ _ _ _ => rfl
  have H := Lib.hid hS
  clear hS
  go_enter Tryz.func57, Tryz.ntmps57
  go_wp2
  go_ret
  have h := (H.out.alloc #[.int .i64 n, .int .i64 s, .int .i64 h, .int .u32 t] 24).alloc #[.int .i64 n, .int .i64 s, .int .i64 h, .int .u32 t, .int .i64 a, .int .u32 0, .int .u64 0, (.func (.func 87) #[.pointer (some ⟨w.heap.size + 1, 0, none⟩)] #[]), .int .i64 0] 180
  simp only [World.size_alloc] at h
  exact ⟨w.heap.size + 1, rfl, h.drop1⟩

set_option maxHeartbeats 4000000 in
theorem gv_last_hit {w0 w : World} {q p : Nat} {ws : List Int} {ns : List Note} {L : List Asn} (n s h t i x st : Int) (nx : Value) (a : Nat) (b1 : Nat) (v : Int) (hS : St w0 (memA q ws ns :: tlB 250 p n s h t a i x nx st :: bxGv b1 p :: L) w) (hk : ns.length ≤ 1000000000000) (hx0 : 0 ≤ x) (hx1 : x < 18446744073709551616) (hi0 : 0 ≤ i) (hi1 : i < 4294967296) (hv : nextW x i = v) (ha : a < ws.length) (hy : rdW ws a = x) :
    Calls Tryz.prog 180 #[.pointer (some ⟨q, 0, none⟩), .pointer (some ⟨b1, 0, none⟩)] w fun e w' => e = .returned (.int .i64 1) ∧ St w0 (memA q (ws.set a v) (ns ++ [⟨99, a, x, v, true⟩]) :: tlB 250 p n s h t a i x nx st :: bxGv b1 p :: L) w' := by
  have H := Lib.hid hS
  have HV := Lib.hid hv
  have HY := Lib.hid hy
  have k1 := cell_of (hS.cells 2 rfl) 0
  have k2 := cell_of (hS.cells 1 rfl) 5
  clear hS hv hy
  go_enter Tryz.func180, Tryz.ntmps180
  go_wp2
  go_region_held3 (fun w' => w'.cell? ⟨b1, 0, none⟩ = some (.pointer (some ⟨p, 0, none⟩)) ∧ w'.cell? ⟨p, 5, none⟩ = some (.int .u32 i)) (first | exact ⟨k1, k2⟩) ((go_at_call 134; refine (tl_swap_hit 250 n s h t i x st nx a i v H.out.drew hk hx0 hx1 hi0 hi1 HV.out ha HY.out).mono ?_; rintro e w3 ⟨rfl, h3⟩; (have H3 := Lib.hid h3); clear k1 k2; (have k1 := cell_of (h3.cells 2 rfl) 0); (have k2 := cell_of (h3.cells 1 rfl) 5); clear h3))
  go_wp2
  go_ret
  exact ⟨rfl, H3.out⟩

set_option maxHeartbeats 4000000 in
theorem gv_last_lost {w0 w : World} {q p : Nat} {ws : List Int} {ns : List Note} {L : List Asn} (n s h t i x st : Int) (nx : Value) (a : Nat) (b1 : Nat) (v : Int) (hS : St w0 (memA q ws ns :: tlB 250 p n s h t a i x nx st :: bxGv b1 p :: L) w) (hk : ns.length ≤ 1000000000000) (hx0 : 0 ≤ x) (hx1 : x < 18446744073709551616) (hi0 : 0 ≤ i) (hi1 : i < 4294967296) (hv : nextW x i = v) (ha : a < ws.length) (y : Int) (hy : rdW ws a = y) (hne : (y == x) = false) :
    Calls Tryz.prog 180 #[.pointer (some ⟨q, 0, none⟩), .pointer (some ⟨b1, 0, none⟩)] w fun e w' => e = .returned (.int .i64 3) ∧ St w0 (memA q ws (ns ++ [⟨99, a, y, y, false⟩]) :: tlB 250 p n s h t a i x nx st :: bxGv b1 p :: L) w' := by
  have H := Lib.hid hS
  have HV := Lib.hid hv
  have HY := Lib.hid hy
  have k1 := cell_of (hS.cells 2 rfl) 0
  have k2 := cell_of (hS.cells 1 rfl) 5
  clear hS hv hy
  go_enter Tryz.func180, Tryz.ntmps180
  go_wp2
  go_region_held3 (fun w' => w'.cell? ⟨b1, 0, none⟩ = some (.pointer (some ⟨p, 0, none⟩)) ∧ w'.cell? ⟨p, 5, none⟩ = some (.int .u32 i)) (first | exact ⟨k1, k2⟩) ((go_at_call 134; refine (tl_swap_lost 250 n s h t i x st nx a y i v H.out.drew hk hx0 hx1 hi0 hi1 HV.out ha HY.out hne).mono ?_; rintro e w3 ⟨rfl, h3⟩; (have H3 := Lib.hid h3); clear k1 k2; (have k1 := cell_of (h3.cells 2 rfl) 0); (have k2 := cell_of (h3.cells 1 rfl) 5); clear h3))
  go_wp2
  go_ret
  exact ⟨rfl, H3.out⟩

set_option maxHeartbeats 4000000 in
theorem gv_step_head {w0 w : World} {q p : Nat} {ws : List Int} {ns : List Note} {L : List Asn} {ws' : List Int} {ns' : List Note} (n s h t a i x i' x' r z : Int) (G : Value → List Asn → Prop) (hS : St w0 (memA q ws ns :: tlB 250 p n s h t a i x (.func (.func 159) #[.pointer (some ⟨p, 0, none⟩)] #[]) 0 :: L) w) (hz : z = if r = 1 then i' else 0)
    (hc : Calls Tryz.prog 159 #[.pointer (some ⟨p, 0, none⟩), .pointer (some ⟨q, 0, none⟩)] w fun e w' => e = .returned (.int .i64 r) ∧ (fun w' => ∃ (nx' : Value) (L' : List Asn), G nx' L' ∧ St w0 (memA q ws' ns' :: tlB 250 p n s h t a i' x' nx' 0 :: L') w') w') :
    Calls Tryz.prog 216 #[.pointer (some ⟨p, 0, none⟩), .pointer (some ⟨q, 0, none⟩)] w fun e w' => e = .returned (.tuple #[.int .i64 r, .int .u32 z]) ∧ (fun w' => ∃ (nx' : Value) (L' : List Asn), G nx' L' ∧ St w0 (memA q ws' ns' :: tlB 250 p n s h t a i' x' nx' r :: L') w') w' := by
  have HC := Lib.hid hc
  obtain ⟨⟨c0, c1, c2, c3, c4, c5, c6, c7, c8⟩, ⟨z5, z6, z7, z8⟩, lt0⟩ := cellsT (hS.cells 1 rfl)
  clear hS hc
  by_cases hr : r = 1
  · subst hr
    obtain rfl : z = i' := by rw [hz]; simp
    clear hz
    go_enter Tryz.func216, Tryz.ntmps216
    go_wp2_with (go_at_call 159; refine HC.out.mono ?_; rintro e w2 ⟨rfl, nx', L', hG, h2⟩; (have HG := Lib.hid hG); (have H2 := Lib.hid h2); clear c0 c1 c2 c3 c4 c5 c6 c7 c8 z5 z6 z7 z8 lt0; obtain ⟨⟨c0, c1, c2, c3, c4, c5, c6, c7, c8⟩, ⟨z5, z6, z7, z8⟩, lt0⟩ := cellsT (h2.cells 1 rfl); clear h2 hG)
    go_quiet (fail)
    go_wp2
    go_ret2
    exact ⟨rfl, nx', L', HG.out, (H2.out.setAt 1 rfl 8 _).drewN nq⟩
  · have e1 : (r != 1) = true := by simpa using hr
    obtain rfl : z = 0 := by rw [hz]; simp [hr]
    clear hz hr
    go_enter Tryz.func216, Tryz.ntmps216
    go_wp2_with (go_at_call 159; refine HC.out.mono ?_; rintro e w2 ⟨rfl, nx', L', hG, h2⟩; (have HG := Lib.hid hG); (have H2 := Lib.hid h2); clear c0 c1 c2 c3 c4 c5 c6 c7 c8 z5 z6 z7 z8 lt0; obtain ⟨⟨c0, c1, c2, c3, c4, c5, c6, c7, c8⟩, ⟨z5, z6, z7, z8⟩, lt0⟩ := cellsT (h2.cells 1 rfl); clear h2 hG)
    go_ret2
    exact ⟨rfl, nx', L', HG.out, H2.out.setAt 1 rfl 8 _⟩

set_option maxHeartbeats 4000000 in
theorem gv_step_second {w0 w : World} {q p : Nat} {ws : List Int} {ns : List Note} {L : List Asn} {ws' : List Int} {ns' : List Note} (n s h t a i x i' x' r z : Int) (G : Value → List Asn → Prop) (hS : St w0 (memA q ws ns :: tlB 250 p n s h t a i x (.func (.func 176) #[.pointer (some ⟨p, 0, none⟩)] #[]) 0 :: L) w) (hz : z = if r = 1 then i' else 0)
    (hc : Calls Tryz.prog 176 #[.pointer (some ⟨p, 0, none⟩), .pointer (some ⟨q, 0, none⟩)] w fun e w' => e = .returned (.int .i64 r) ∧ (fun w' => ∃ (nx' : Value) (L' : List Asn), G nx' L' ∧ St w0 (memA q ws' ns' :: tlB 250 p n s h t a i' x' nx' 0 :: L') w') w') :
    Calls Tryz.prog 216 #[.pointer (some ⟨p, 0, none⟩), .pointer (some ⟨q, 0, none⟩)] w fun e w' => e = .returned (.tuple #[.int .i64 r, .int .u32 z]) ∧ (fun w' => ∃ (nx' : Value) (L' : List Asn), G nx' L' ∧ St w0 (memA q ws' ns' :: tlB 250 p n s h t a i' x' nx' r :: L') w') w' := by
  have HC := Lib.hid hc
  obtain ⟨⟨c0, c1, c2, c3, c4, c5, c6, c7, c8⟩, ⟨z5, z6, z7, z8⟩, lt0⟩ := cellsT (hS.cells 1 rfl)
  clear hS hc
  by_cases hr : r = 1
  · subst hr
    obtain rfl : z = i' := by rw [hz]; simp
    clear hz
    go_enter Tryz.func216, Tryz.ntmps216
    go_wp2_with (go_at_call 176; refine HC.out.mono ?_; rintro e w2 ⟨rfl, nx', L', hG, h2⟩; (have HG := Lib.hid hG); (have H2 := Lib.hid h2); clear c0 c1 c2 c3 c4 c5 c6 c7 c8 z5 z6 z7 z8 lt0; obtain ⟨⟨c0, c1, c2, c3, c4, c5, c6, c7, c8⟩, ⟨z5, z6, z7, z8⟩, lt0⟩ := cellsT (h2.cells 1 rfl); clear h2 hG)
    go_quiet (fail)
    go_wp2
    go_ret2
    exact ⟨rfl, nx', L', HG.out, (H2.out.setAt 1 rfl 8 _).drewN nq⟩
  · have e1 : (r != 1) = true := by simpa using hr
    obtain rfl : z = 0 := by rw [hz]; simp [hr]
    clear hz hr
    go_enter Tryz.func216, Tryz.ntmps216
    go_wp2_with (go_at_call 176; refine HC.out.mono ?_; rintro e w2 ⟨rfl, nx', L', hG, h2⟩; (have HG := Lib.hid hG); (have H2 := Lib.hid h2); clear c0 c1 c2 c3 c4 c5 c6 c7 c8 z5 z6 z7 z8 lt0; obtain ⟨⟨c0, c1, c2, c3, c4, c5, c6, c7, c8⟩, ⟨z5, z6, z7, z8⟩, lt0⟩ := cellsT (h2.cells 1 rfl); clear h2 hG)
    go_ret2
    exact ⟨rfl, nx', L', HG.out, H2.out.setAt 1 rfl 8 _⟩

set_option maxHeartbeats 4000000 in
theorem gv_step_last {w0 w : World} {q p : Nat} {ws : List Int} {ns : List Note} {L : List Asn} {ws' : List Int} {ns' : List Note} (n s h t a i x i' x' r z : Int) (G : Value → List Asn → Prop) (b1 : Nat) (hS : St w0 (memA q ws ns :: tlB 250 p n s h t a i x (.func (.func 180) #[] #[.pointer (some ⟨b1, 0, none⟩)]) 0 :: L) w) (hz : z = if r = 1 then i' else 0)
    (hc : Calls Tryz.prog 180 #[.pointer (some ⟨q, 0, none⟩), .pointer (some ⟨b1, 0, none⟩)] w fun e w' => e = .returned (.int .i64 r) ∧ (fun w' => ∃ (nx' : Value) (L' : List Asn), G nx' L' ∧ St w0 (memA q ws' ns' :: tlB 250 p n s h t a i' x' nx' 0 :: L') w') w') :
    Calls Tryz.prog 216 #[.pointer (some ⟨p, 0, none⟩), .pointer (some ⟨q, 0, none⟩)] w fun e w' => e = .returned (.tuple #[.int .i64 r, .int .u32 z]) ∧ (fun w' => ∃ (nx' : Value) (L' : List Asn), G nx' L' ∧ St w0 (memA q ws' ns' :: tlB 250 p n s h t a i' x' nx' r :: L') w') w' := by
  have HC := Lib.hid hc
  obtain ⟨⟨c0, c1, c2, c3, c4, c5, c6, c7, c8⟩, ⟨z5, z6, z7, z8⟩, lt0⟩ := cellsT (hS.cells 1 rfl)
  clear hS hc
  by_cases hr : r = 1
  · subst hr
    obtain rfl : z = i' := by rw [hz]; simp
    clear hz
    go_enter Tryz.func216, Tryz.ntmps216
    go_wp2_with (go_at_call 180; refine HC.out.mono ?_; rintro e w2 ⟨rfl, nx', L', hG, h2⟩; (have HG := Lib.hid hG); (have H2 := Lib.hid h2); clear c0 c1 c2 c3 c4 c5 c6 c7 c8 z5 z6 z7 z8 lt0; obtain ⟨⟨c0, c1, c2, c3, c4, c5, c6, c7, c8⟩, ⟨z5, z6, z7, z8⟩, lt0⟩ := cellsT (h2.cells 1 rfl); clear h2 hG)
    go_quiet (fail)
    go_wp2
    go_ret2
    exact ⟨rfl, nx', L', HG.out, (H2.out.setAt 1 rfl 8 _).drewN nq⟩
  · have e1 : (r != 1) = true := by simpa using hr
    obtain rfl : z = 0 := by rw [hz]; simp [hr]
    clear hz hr
    go_enter Tryz.func216, Tryz.ntmps216
    go_wp2_with (go_at_call 180; refine HC.out.mono ?_; rintro e w2 ⟨rfl, nx', L', hG, h2⟩; (have HG := Lib.hid hG); (have H2 := Lib.hid h2); clear c0 c1 c2 c3 c4 c5 c6 c7 c8 z5 z6 z7 z8 lt0; obtain ⟨⟨c0, c1, c2, c3, c4, c5, c6, c7, c8⟩, ⟨z5, z6, z7, z8⟩, lt0⟩ := cellsT (h2.cells 1 rfl); clear h2 hG)
    go_ret2
    exact ⟨rfl, nx', L', HG.out, H2.out.setAt 1 rfl 8 _⟩

set_option maxHeartbeats 4000000 in
theorem gv_step_over {w0 w : World} {q p : Nat} {ws : List Int} {ns : List Note} {L : List Asn} (n s h t a i x st : Int) (nx : Value) (z : Int) (hS : St w0 (memA q ws ns :: tlB 250 p n s h t a i x nx st :: L) w) (hs : st ≠ 0) (hz : z = if st = 1 then i else 0) :
    Calls Tryz.prog 216 #[.pointer (some ⟨p, 0, none⟩), .pointer (some ⟨q, 0, none⟩)] w fun e w' => e = .returned (.tuple #[.int .i64 st, .int .u32 z]) ∧ St w0 (memA q ws ns :: tlB 250 p n s h t a i x nx st :: L) w' := by
  have H := Lib.hid hS
  obtain ⟨⟨c0, c1, c2, c3, c4, c5, c6, c7, c8⟩, ⟨z5, z6, z7, z8⟩, lt0⟩ := cellsT (hS.cells 1 rfl)
  clear hS
  by_cases hr : st = 1
  · subst hr
    obtain rfl : z = i := by rw [hz]; simp
    clear hz
    go_enter Tryz.func216, Tryz.ntmps216
    go_wp2
    go_quiet (fail)
    go_wp2
    go_ret2
    exact ⟨rfl, H.out.drewN nq⟩
  · have e1 : (st != 1) = true := by simpa using hr
    have e2 : (st == 0) = false := by simpa using hs
    obtain rfl : z = 0 := by rw [hz]; simp [hr]
    clear hz hr hs
    go_enter Tryz.func216, Tryz.ntmps216
    go_wp2
    go_ret2
    exact ⟨rfl, H.out⟩

set_option maxHeartbeats 2000000 in
theorem gv_wrap (p q : Nat) (r i : Int) (R : World → Prop) (w : World) (hc : Calls Tryz.prog 216 #[.pointer (some ⟨p, 0, none⟩), .pointer (some ⟨q, 0, none⟩)] w fun e w' => e = .returned (.tuple #[.int .i64 r, .int .u32 i]) ∧ R w') :
    Calls Tryz.prog 218 #[.pointer (some ⟨p, 0, none⟩), .pointer (some ⟨q, 0, none⟩)] w fun e w' => e = .returned (.tuple #[.int .i64 r, .int .u32 i]) ∧ R w' := by
  have HC := Lib.hid hc
  clear hc
  go_enter Tryz.func218, Tryz.ntmps218
  go_wp2_with (go_at_call 216; refine HC.out.mono ?_; rintro e w1 ⟨rfl, hr⟩; (have HR1 := Lib.hid hr); clear hr)
  go_ret2
  exact ⟨rfl, HR1.out⟩

set_option maxHeartbeats 2000000 in
theorem gv_make {w0 w : World} {L : List Asn} (n s h t a i : Int) (hS : St w0 L w) :
    Calls Tryz.prog 141 #[.agg #[.int .i64 n, .int .i64 s, .int .i64 h, .int .u32 t], .int .i64 a, .int .u32 i] w fun e w' => ∃ p, e = .returned (.pointer (some ⟨p, 0, none⟩)) ∧ St w0 (tlB 250 p n s h t a i 0 (.func (.func 159) #[.pointer (some ⟨p, 0, none⟩)] #[]) 0 :: L) w' := by
  have hmf : ∀ (fn : Fn) (first cap : Array Value) (w : World), (Instr.makeFunc fn first cap).run Tryz.prog w = .ok (.func fn first cap) w := fun _ _ _ _ => rfl
  have H := Lib.hid hS
  clear hS
  go_enter Tryz.func141, Tryz.ntmps141
  go_wp2
  go_ret
  have h := (H.out.alloc #[.int .i64 n, .int .i64 s, .int .i64 h, .int .u32 t] 24).alloc #[.int .i64 n, .int .i64 s, .int .i64 h, .int .u32 t, .int .i64 a, .int .u32 i, .int .u64 0, (.func (.func 159) #[.pointer (some ⟨w.heap.size + 1, 0, none⟩)] #[]), .int .i64 0] 250
  simp only [World.size_alloc] at h
  exact ⟨w.heap.size + 1, rfl, h.drop1⟩
end Go.Proofs.YtgfeagggkplegaaGreat
