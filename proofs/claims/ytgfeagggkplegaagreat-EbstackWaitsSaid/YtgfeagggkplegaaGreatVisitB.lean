/-
  A visit that found somebody, or looks.
-/
import Derived.Test.YtgfeagggkplegaaGreatVisit
namespace Go.Proofs.YtgfeagggkplegaaGreat
open Go.RowKit
set_option linter.unusedVariables false
set_option linter.unusedSimpArgs false

set_option maxHeartbeats 4000000 in
theorem v_found_not {w0 w : World} {q p : Nat} {ws : List Int} {ns : List Note} {L : List Asn} (push : Bool) (a i d l x st : Int) (nx : Value) (off : Bool) (y : Int) (h : St w0 (memA q ws ns :: vB p a push i d l x nx st off :: L) w) (y0 : 0 ≤ y) (y1 : y < 18446744073709551616) (x0 : 0 ≤ x) (x1 : x < 18446744073709551616) (hs : (sSt y != 3) = true) :
    Calls Tryz.prog 195 #[.pointer (some ⟨p, 0, none⟩), .int .u64 y] w fun e w' => e = .returned (.int .i64 5) ∧ St w0 (memA q ws ns :: vB p a push i d l x nx st off :: L) w' := by
  have hmf : ∀ (fn : Fn) (first cap : Array Value) (w : World), (Instr.makeFunc fn first cap).run Tryz.prog w = .ok (.func fn first cap) w := fun _ _ _ _ => rfl
  have h2 := ((h.alloc #[.pointer (some ⟨p, 0, none⟩)] 184).alloc #[.int .u64 y] 25)
  have HE : Hid (St w0 (memA q ws ns :: vB p a push i d l x nx st off :: bxP w.heap.size p :: bxU (w.heap.size + 1) y :: L) ((w.alloc (.cells #[.pointer (some ⟨p, 0, none⟩)] 184)).alloc (.cells #[.int .u64 y] 25))) := Lib.hid (by have h3 := h2.rot4; simp only [World.size_alloc] at h3; exact h3)
  have hE := HE.out
  obtain ⟨⟨c0, c1, c2, c3, c4, c5, c6, c7, c8⟩, ⟨z1, z2, z4, z5, z6, z7, z8⟩, lt0⟩ := cellsV (hE.cells 1 rfl)
  have k1 := cell_of (hE.cells 2 rfl) 0
  have k2 := cell_of (hE.cells 3 rfl) 0
  clear h h2 hE
  go_enter Tryz.func195, Tryz.ntmps195
  go_wp2
  generalize (w.alloc (.cells #[.pointer (some ⟨p, 0, none⟩)] 184)).alloc (.cells #[.int .u64 y] 25) = W at *
  go_quiet (first | (go_at_call 185; exact Calls.quiet_of_same (slot_state_q _ _ y0 y1)) | (go_at_call 193; exact Calls.quiet_of_same (slot_stamp_q _ _ (by assumption) (by assumption))))
  go_wp2
  go_ret
  exact ⟨rfl, (HE.out.drop2').drewN _⟩

set_option maxHeartbeats 4000000 in
theorem v_found_stamp {w0 w : World} {q p : Nat} {ws : List Int} {ns : List Note} {L : List Asn} (push : Bool) (a i d l x st : Int) (nx : Value) (off : Bool) (y : Int) (h : St w0 (memA q ws ns :: vB p a push i d l x nx st off :: L) w) (y0 : 0 ≤ y) (y1 : y < 18446744073709551616) (x0 : 0 ≤ x) (x1 : x < 18446744073709551616) (hs : (sSt y != 3) = false) (ht : (sTp y != sTp x) = true) :
    Calls Tryz.prog 195 #[.pointer (some ⟨p, 0, none⟩), .int .u64 y] w fun e w' => e = .returned (.int .i64 5) ∧ St w0 (memA q ws ns :: vB p a push i d l x nx st off :: L) w' := by
  have hmf : ∀ (fn : Fn) (first cap : Array Value) (w : World), (Instr.makeFunc fn first cap).run Tryz.prog w = .ok (.func fn first cap) w := fun _ _ _ _ => rfl
  have h2 := ((h.alloc #[.pointer (some ⟨p, 0, none⟩)] 184).alloc #[.int .u64 y] 25)
  have HE : Hid (St w0 (memA q ws ns :: vB p a push i d l x nx st off :: bxP w.heap.size p :: bxU (w.heap.size + 1) y :: L) ((w.alloc (.cells #[.pointer (some ⟨p, 0, none⟩)] 184)).alloc (.cells #[.int .u64 y] 25))) := Lib.hid (by have h3 := h2.rot4; simp only [World.size_alloc] at h3; exact h3)
  have hE := HE.out
  obtain ⟨⟨c0, c1, c2, c3, c4, c5, c6, c7, c8⟩, ⟨z1, z2, z4, z5, z6, z7, z8⟩, lt0⟩ := cellsV (hE.cells 1 rfl)
  have k1 := cell_of (hE.cells 2 rfl) 0
  have k2 := cell_of (hE.cells 3 rfl) 0
  clear h h2 hE
  go_enter Tryz.func195, Tryz.ntmps195
  go_wp2
  generalize (w.alloc (.cells #[.pointer (some ⟨p, 0, none⟩)] 184)).alloc (.cells #[.int .u64 y] 25) = W at *
  go_quiet (first | (go_at_call 185; exact Calls.quiet_of_same (slot_state_q _ _ y0 y1)) | (go_at_call 193; exact Calls.quiet_of_same (slot_stamp_q _ _ (by assumption) (by assumption))))
  go_wp2
  go_ret
  exact ⟨rfl, (HE.out.drop2').drewN _⟩

set_option maxHeartbeats 4000000 in
theorem v_found_ok {w0 w : World} {q p : Nat} {ws : List Int} {ns : List Note} {L : List Asn} (push : Bool) (a i d l x st : Int) (nx : Value) (off : Bool) (y : Int) (h : St w0 (memA q ws ns :: vB p a push i d l x nx st off :: L) w) (y0 : 0 ≤ y) (y1 : y < 18446744073709551616) (x0 : 0 ≤ x) (x1 : x < 18446744073709551616) (hs : (sSt y != 3) = false) (ht : (sTp y != sTp x) = false) :
    Calls Tryz.prog 195 #[.pointer (some ⟨p, 0, none⟩), .int .u64 y] w fun e w' => e = .returned (.int .i64 0) ∧ (fun w' => ∃ b3 b4, St w0 (memA q ws ns :: vB p a push (sIx y) d l x (.func (.func 197) #[] #[.pointer (some ⟨b3, 0, none⟩), .pointer (some ⟨b4, 0, none⟩)]) st off :: bxP b3 p :: bxU b4 y :: L) w') w' := by
  have hmf : ∀ (fn : Fn) (first cap : Array Value) (w : World), (Instr.makeFunc fn first cap).run Tryz.prog w = .ok (.func fn first cap) w := fun _ _ _ _ => rfl
  have h2 := ((h.alloc #[.pointer (some ⟨p, 0, none⟩)] 184).alloc #[.int .u64 y] 25)
  have HE : Hid (St w0 (memA q ws ns :: vB p a push i d l x nx st off :: bxP w.heap.size p :: bxU (w.heap.size + 1) y :: L) ((w.alloc (.cells #[.pointer (some ⟨p, 0, none⟩)] 184)).alloc (.cells #[.int .u64 y] 25))) := Lib.hid (by have h3 := h2.rot4; simp only [World.size_alloc] at h3; exact h3)
  have hE := HE.out
  obtain ⟨⟨c0, c1, c2, c3, c4, c5, c6, c7, c8⟩, ⟨z1, z2, z4, z5, z6, z7, z8⟩, lt0⟩ := cellsV (hE.cells 1 rfl)
  have k1 := cell_of (hE.cells 2 rfl) 0
  have k2 := cell_of (hE.cells 3 rfl) 0
  clear h h2 hE
  go_enter Tryz.func195, Tryz.ntmps195
  go_wp2
  generalize (w.alloc (.cells #[.pointer (some ⟨p, 0, none⟩)] 184)).alloc (.cells #[.int .u64 y] 25) = W at *
  go_quiet (first | (go_at_call 185; exact Calls.quiet_of_same (slot_state_q _ _ y0 y1)) | (go_at_call 193; exact Calls.quiet_of_same (slot_stamp_q _ _ (by assumption) (by assumption))))
  have h5 := HE.out.drewN nq
  generalize W.drewN nq = W2 at *
  have H5 := Lib.hid h5
  clear k1 k2
  clear c0 c1 c2 c3 c4 c5 c6 c7 c8 z1 z2 z4 z5 z6 z7 z8 lt0; obtain ⟨⟨c0, c1, c2, c3, c4, c5, c6, c7, c8⟩, ⟨z1, z2, z4, z5, z6, z7, z8⟩, lt0⟩ := cellsV (h5.cells 1 rfl)
  have k1 := cell_of (h5.cells 2 rfl) 0
  have k2 := cell_of (h5.cells 3 rfl) 0
  clear h5
  go_wp2
  go_region_held3 (fun w' => w'.cell? ⟨w.heap.size, 0, none⟩ = some (.pointer (some ⟨p, 0, none⟩)) ∧ w'.cell? ⟨w.heap.size + 1, 0, none⟩ = some (.int .u64 y)) (first | exact ⟨k1, k2⟩ | exact ⟨cell_of ((H6.out.setAt 1 rfl 2 _).cells 2 rfl) 0, cell_of ((H6.out.setAt 1 rfl 2 _).cells 3 rfl) 0⟩) ((go_at_call 60; refine (slot_index y (sIx y) _ rfl y0 y1).mono ?_; rintro e w6 ⟨rfl, hb⟩; (have h6 := H5.out.drew.below hb); (have H6 := Lib.hid h6); clear k1 k2; clear c0 c1 c2 c3 c4 c5 c6 c7 c8 z1 z2 z4 z5 z6 z7 z8 lt0; obtain ⟨⟨c0, c1, c2, c3, c4, c5, c6, c7, c8⟩, ⟨z1, z2, z4, z5, z6, z7, z8⟩, lt0⟩ := cellsV (h6.cells 1 rfl); (have k1 := cell_of (h6.cells 2 rfl) 0); (have k2 := cell_of (h6.cells 3 rfl) 0); clear h6 hb))
  go_wp2
  go_ret
  exact ⟨rfl, _, _, (H6.out.setAt 1 rfl 2 _).setAt 1 rfl 6 _⟩

set_option maxHeartbeats 4000000 in
theorem v_clear {w0 w : World} {q p : Nat} {ws : List Int} {ns : List Note} {L : List Asn} (push : Bool) (i d l x st : Int) (nx : Value) (off : Bool) (a : Nat) (b3 b4 : Nat) (y z v now : Int) (h : St w0 (memA q ws ns :: vB p a push i d l x nx st off :: bxP b3 p :: bxU b4 y :: L) w) (y0 : 0 ≤ y) (y1 : y < 18446744073709551616) (ha : a < ws.length) (hk : ns.length ≤ 1000000000000) (hz : rdW ws a = z) (hv : sClear y = v) :
    Calls Tryz.prog 197 #[.pointer (some ⟨q, 0, none⟩), .int .u64 now, .pointer (some ⟨b3, 0, none⟩), .pointer (some ⟨b4, 0, none⟩)] w fun e w' => e = .returned (.int .i64 1) ∧ St w0 (memA q (ws.set a v) (ns ++ [⟨115, a, z, v, true⟩]) :: vB p a push i d l x nx st off :: bxP b3 p :: bxU b4 y :: L) w' := by
  have hvr : 0 ≤ v ∧ v < 18446744073709551616 := by subst hv; exact sClear_rng y
  obtain ⟨v0, v1⟩ := hvr
  have H := Lib.hid h
  have HZ := Lib.hid hz
  have HV := Lib.hid hv
  obtain ⟨⟨c0, c1, c2, c3, c4, c5, c6, c7, c8⟩, ⟨z1, z2, z4, z5, z6, z7, z8⟩, lt0⟩ := cellsV (h.cells 1 rfl)
  have k1 := cell_of (h.cells 2 rfl) 0
  have k2 := cell_of (h.cells 3 rfl) 0
  clear h hz hv
  go_enter Tryz.func197, Tryz.ntmps197
  go_wp2
  go_region_held3 (fun w' => w'.cell? ⟨b3, 0, none⟩ = some (.pointer (some ⟨p, 0, none⟩)) ∧ w'.cell? ⟨p, 0, none⟩ = some (.int .i64 a) ∧ w'.cell? ⟨b4, 0, none⟩ = some (.int .u64 y)) (first | exact ⟨k1, c0, k2⟩) (first | ((have _h := H2); go_at_call 32; refine (store_st H2.out a z v HZ.out ha hk v0 v1).mono ?_; rintro e w3 ⟨rfl, h3⟩; (have H3 := Lib.hid h3); clear k1 k2; clear c0 c1 c2 c3 c4 c5 c6 c7 c8 z1 z2 z4 z5 z6 z7 z8 lt0; obtain ⟨⟨c0, c1, c2, c3, c4, c5, c6, c7, c8⟩, ⟨z1, z2, z4, z5, z6, z7, z8⟩, lt0⟩ := cellsV (h3.cells 1 rfl); (have k1 := cell_of (h3.cells 2 rfl) 0); (have k2 := cell_of (h3.cells 3 rfl) 0); clear h3 _h) | (go_at_call 198; refine (slot_clear y v _ HV.out y0 y1).mono ?_; rintro e w2 ⟨rfl, hb⟩; (have h2 := H.out.drew.below hb); (have H2 := Lib.hid h2); clear k1 k2; clear c0 c1 c2 c3 c4 c5 c6 c7 c8 z1 z2 z4 z5 z6 z7 z8 lt0; obtain ⟨⟨c0, c1, c2, c3, c4, c5, c6, c7, c8⟩, ⟨z1, z2, z4, z5, z6, z7, z8⟩, lt0⟩ := cellsV (h2.cells 1 rfl); (have k1 := cell_of (h2.cells 2 rfl) 0); (have k2 := cell_of (h2.cells 3 rfl) 0); clear h2 hb))
  go_wp2
  go_ret
  exact ⟨rfl, H3.out⟩

set_option maxHeartbeats 4000000 in
theorem v_look1_end {w0 w : World} {q p : Nat} {ws : List Int} {ns : List Note} {L : List Asn} (push : Bool) (a i d l x st : Int) (nx : Value) (off : Bool) (b1 b2 : Nat) (now : Int) (h : St w0 (memA q ws ns :: vB p a push i d l x nx st off :: bxP b1 p :: bxU b2 now :: L) w) (x0 : 0 ≤ x) (x1 : x < 18446744073709551616) (l0 : -9223372036854775807 ≤ l) (l1 : l ≤ 9223372036854775807) (hl : decide (l - 1 ≤ 0) = true) :
    Calls Tryz.prog 194 #[.int .u64 x, .pointer (some ⟨b1, 0, none⟩), .pointer (some ⟨b2, 0, none⟩)] w fun e w' => e = .returned (.int .i64 0) ∧ St w0 (memA q ws ns :: vB p a push i d (l - 1) x (.func (.func 196) #[.pointer (some ⟨p, 0, none⟩)] #[]) st off :: bxP b1 p :: bxU b2 now :: L) w' := by
  have hmf : ∀ (fn : Fn) (first cap : Array Value) (w : World), (Instr.makeFunc fn first cap).run Tryz.prog w = .ok (.func fn first cap) w := fun _ _ _ _ => rfl
  have H := Lib.hid h
  obtain ⟨⟨c0, c1, c2, c3, c4, c5, c6, c7, c8⟩, ⟨z1, z2, z4, z5, z6, z7, z8⟩, lt0⟩ := cellsV (h.cells 1 rfl)
  have k1 := cell_of (h.cells 2 rfl) 0
  have k2 := cell_of (h.cells 3 rfl) 0
  clear h
  go_enter Tryz.func194, Tryz.ntmps194
  go_wp2
  have h5 := (H.out.setAt 1 rfl 4 (.int .i64 (l - 1)))
  generalize w.setCell ⟨p, 4, none⟩ (.int .i64 (l - 1)) = W2 at *
  have H5 := Lib.hid h5
  clear k1 k2; clear c0 c1 c2 c3 c4 c5 c6 c7 c8 z1 z2 z4 z5 z6 z7 z8 lt0; obtain ⟨⟨c0, c1, c2, c3, c4, c5, c6, c7, c8⟩, ⟨z1, z2, z4, z5, z6, z7, z8⟩, lt0⟩ := cellsV (h5.cells 1 rfl); (have k1 := cell_of (h5.cells 2 rfl) 0); (have k2 := cell_of (h5.cells 3 rfl) 0)
  clear h5
  go_quiet (fail)
  go_wp2
  go_ret
  exact ⟨rfl, (H5.out.drewN nq).setAt 1 rfl 6 _⟩

set_option maxHeartbeats 4000000 in
theorem v_look1_late {w0 w : World} {q p : Nat} {ws : List Int} {ns : List Note} {L : List Asn} (push : Bool) (a i d l x st : Int) (nx : Value) (off : Bool) (b1 b2 : Nat) (now : Int) (h : St w0 (memA q ws ns :: vB p a push i d l x nx st off :: bxP b1 p :: bxU b2 now :: L) w) (x0 : 0 ≤ x) (x1 : x < 18446744073709551616) (l0 : -9223372036854775807 ≤ l) (l1 : l ≤ 9223372036854775807) (hl : decide (l - 1 ≤ 0) = false) (hd : decide (d ≤ now) = true) :
    Calls Tryz.prog 194 #[.int .u64 x, .pointer (some ⟨b1, 0, none⟩), .pointer (some ⟨b2, 0, none⟩)] w fun e w' => e = .returned (.int .i64 0) ∧ St w0 (memA q ws ns :: vB p a push i d (l - 1) x (.func (.func 196) #[.pointer (some ⟨p, 0, none⟩)] #[]) st off :: bxP b1 p :: bxU b2 now :: L) w' := by
  have hmf : ∀ (fn : Fn) (first cap : Array Value) (w : World), (Instr.makeFunc fn first cap).run Tryz.prog w = .ok (.func fn first cap) w := fun _ _ _ _ => rfl
  have H := Lib.hid h
  obtain ⟨⟨c0, c1, c2, c3, c4, c5, c6, c7, c8⟩, ⟨z1, z2, z4, z5, z6, z7, z8⟩, lt0⟩ := cellsV (h.cells 1 rfl)
  have k1 := cell_of (h.cells 2 rfl) 0
  have k2 := cell_of (h.cells 3 rfl) 0
  clear h
  go_enter Tryz.func194, Tryz.ntmps194
  go_wp2
  have h5 := (H.out.setAt 1 rfl 4 (.int .i64 (l - 1)))
  generalize w.setCell ⟨p, 4, none⟩ (.int .i64 (l - 1)) = W2 at *
  have H5 := Lib.hid h5
  clear k1 k2; clear c0 c1 c2 c3 c4 c5 c6 c7 c8 z1 z2 z4 z5 z6 z7 z8 lt0; obtain ⟨⟨c0, c1, c2, c3, c4, c5, c6, c7, c8⟩, ⟨z1, z2, z4, z5, z6, z7, z8⟩, lt0⟩ := cellsV (h5.cells 1 rfl); (have k1 := cell_of (h5.cells 2 rfl) 0); (have k2 := cell_of (h5.cells 3 rfl) 0)
  clear h5
  go_quiet (fail)
  go_wp2
  go_ret
  exact ⟨rfl, (H5.out.drewN nq).setAt 1 rfl 6 _⟩

set_option maxHeartbeats 4000000 in
theorem v_look1_on {w0 w : World} {q p : Nat} {ws : List Int} {ns : List Note} {L : List Asn} (push : Bool) (a i d l x st : Int) (nx : Value) (off : Bool) (b1 b2 : Nat) (now : Int) (h : St w0 (memA q ws ns :: vB p a push i d l x nx st off :: bxP b1 p :: bxU b2 now :: L) w) (x0 : 0 ≤ x) (x1 : x < 18446744073709551616) (l0 : -9223372036854775807 ≤ l) (l1 : l ≤ 9223372036854775807) (hl : decide (l - 1 ≤ 0) = false) (hd : decide (d ≤ now) = false) :
    Calls Tryz.prog 194 #[.int .u64 x, .pointer (some ⟨b1, 0, none⟩), .pointer (some ⟨b2, 0, none⟩)] w fun e w' => e = .returned (.int .i64 0) ∧ St w0 (memA q ws ns :: vB p a push i d (l - 1) x nx st off :: bxP b1 p :: bxU b2 now :: L) w' := by
  have hmf : ∀ (fn : Fn) (first cap : Array Value) (w : World), (Instr.makeFunc fn first cap).run Tryz.prog w = .ok (.func fn first cap) w := fun _ _ _ _ => rfl
  have H := Lib.hid h
  obtain ⟨⟨c0, c1, c2, c3, c4, c5, c6, c7, c8⟩, ⟨z1, z2, z4, z5, z6, z7, z8⟩, lt0⟩ := cellsV (h.cells 1 rfl)
  have k1 := cell_of (h.cells 2 rfl) 0
  have k2 := cell_of (h.cells 3 rfl) 0
  clear h
  go_enter Tryz.func194, Tryz.ntmps194
  go_wp2
  have h5 := (H.out.setAt 1 rfl 4 (.int .i64 (l - 1)))
  generalize w.setCell ⟨p, 4, none⟩ (.int .i64 (l - 1)) = W2 at *
  have H5 := Lib.hid h5
  clear k1 k2; clear c0 c1 c2 c3 c4 c5 c6 c7 c8 z1 z2 z4 z5 z6 z7 z8 lt0; obtain ⟨⟨c0, c1, c2, c3, c4, c5, c6, c7, c8⟩, ⟨z1, z2, z4, z5, z6, z7, z8⟩, lt0⟩ := cellsV (h5.cells 1 rfl); (have k1 := cell_of (h5.cells 2 rfl) 0); (have k2 := cell_of (h5.cells 3 rfl) 0)
  clear h5
  go_quiet (fail)
  go_wp2
  go_ret
  exact ⟨rfl, H5.out.drewN nq⟩

set_option maxHeartbeats 4000000 in
theorem v_look1_not {w0 w : World} {q p : Nat} {ws : List Int} {ns : List Note} {L : List Asn} (push : Bool) (a i d l x st : Int) (nx : Value) (off : Bool) (b1 b2 : Nat) (y now : Int) (h : St w0 (memA q ws ns :: vB p a push i d l x nx st off :: bxP b1 p :: bxU b2 now :: L) w) (y0 : 0 ≤ y) (y1 : y < 18446744073709551616) (x0 : 0 ≤ x) (x1 : x < 18446744073709551616) (hne : (y != x) = true) (hs : (sSt y != 3) = true) :
    Calls Tryz.prog 194 #[.int .u64 y, .pointer (some ⟨b1, 0, none⟩), .pointer (some ⟨b2, 0, none⟩)] w fun e w' => e = .returned (.int .i64 5) ∧ St w0 (memA q ws ns :: vB p a push i d l x nx st off :: bxP b1 p :: bxU b2 now :: L) w' := by
  have HC := Lib.hid (v_found_not push a i d l x st nx off y h y0 y1 x0 x1 hs)
  obtain ⟨⟨c0, c1, c2, c3, c4, c5, c6, c7, c8⟩, ⟨z1, z2, z4, z5, z6, z7, z8⟩, lt0⟩ := cellsV (h.cells 1 rfl)
  have k1 := cell_of (h.cells 2 rfl) 0
  have k2 := cell_of (h.cells 3 rfl) 0
  clear h hs
  go_enter Tryz.func194, Tryz.ntmps194
  go_wp2_with (go_at_call 195; refine HC.out.mono ?_; rintro e w2 ⟨rfl, h2⟩; (have H2 := Lib.hid h2); clear h2 k1 k2 c0 c1 c2 c3 c4 c5 c6 c7 c8 z1 z2 z4 z5 z6 z7 z8)
  go_ret
  exact ⟨rfl, H2.out⟩

set_option maxHeartbeats 4000000 in
theorem v_look1_stamp {w0 w : World} {q p : Nat} {ws : List Int} {ns : List Note} {L : List Asn} (push : Bool) (a i d l x st : Int) (nx : Value) (off : Bool) (b1 b2 : Nat) (y now : Int) (h : St w0 (memA q ws ns :: vB p a push i d l x nx st off :: bxP b1 p :: bxU b2 now :: L) w) (y0 : 0 ≤ y) (y1 : y < 18446744073709551616) (x0 : 0 ≤ x) (x1 : x < 18446744073709551616) (hne : (y != x) = true) (hs : (sSt y != 3) = false) (ht : (sTp y != sTp x) = true) :
    Calls Tryz.prog 194 #[.int .u64 y, .pointer (some ⟨b1, 0, none⟩), .pointer (some ⟨b2, 0, none⟩)] w fun e w' => e = .returned (.int .i64 5) ∧ St w0 (memA q ws ns :: vB p a push i d l x nx st off :: bxP b1 p :: bxU b2 now :: L) w' := by
  have HC := Lib.hid (v_found_stamp push a i d l x st nx off y h y0 y1 x0 x1 hs ht)
  obtain ⟨⟨c0, c1, c2, c3, c4, c5, c6, c7, c8⟩, ⟨z1, z2, z4, z5, z6, z7, z8⟩, lt0⟩ := cellsV (h.cells 1 rfl)
  have k1 := cell_of (h.cells 2 rfl) 0
  have k2 := cell_of (h.cells 3 rfl) 0
  clear h hs ht
  go_enter Tryz.func194, Tryz.ntmps194
  go_wp2_with (go_at_call 195; refine HC.out.mono ?_; rintro e w2 ⟨rfl, h2⟩; (have H2 := Lib.hid h2); clear h2 k1 k2 c0 c1 c2 c3 c4 c5 c6 c7 c8 z1 z2 z4 z5 z6 z7 z8)
  go_ret
  exact ⟨rfl, H2.out⟩

set_option maxHeartbeats 4000000 in
theorem v_look1_ok {w0 w : World} {q p : Nat} {ws : List Int} {ns : List Note} {L : List Asn} (push : Bool) (a i d l x st : Int) (nx : Value) (off : Bool) (b1 b2 : Nat) (y now : Int) (h : St w0 (memA q ws ns :: vB p a push i d l x nx st off :: bxP b1 p :: bxU b2 now :: L) w) (y0 : 0 ≤ y) (y1 : y < 18446744073709551616) (x0 : 0 ≤ x) (x1 : x < 18446744073709551616) (hne : (y != x) = true) (hs : (sSt y != 3) = false) (ht : (sTp y != sTp x) = false) :
    Calls Tryz.prog 194 #[.int .u64 y, .pointer (some ⟨b1, 0, none⟩), .pointer (some ⟨b2, 0, none⟩)] w fun e w' => e = .returned (.int .i64 0) ∧ (fun w' => ∃ b3 b4, St w0 (memA q ws ns :: vB p a push (sIx y) d l x (.func (.func 197) #[] #[.pointer (some ⟨b3, 0, none⟩), .pointer (some ⟨b4, 0, none⟩)]) st off :: bxP b3 p :: bxU b4 y :: bxP b1 p :: bxU b2 now :: L) w') w' := by
  have HC := Lib.hid (v_found_ok push a i d l x st nx off y h y0 y1 x0 x1 hs ht)
  obtain ⟨⟨c0, c1, c2, c3, c4, c5, c6, c7, c8⟩, ⟨z1, z2, z4, z5, z6, z7, z8⟩, lt0⟩ := cellsV (h.cells 1 rfl)
  have k1 := cell_of (h.cells 2 rfl) 0
  have k2 := cell_of (h.cells 3 rfl) 0
  clear h hs ht
  go_enter Tryz.func194, Tryz.ntmps194
  go_wp2_with (go_at_call 195; refine HC.out.mono ?_; rintro e w2 ⟨rfl, h2⟩; (have H2 := Lib.hid h2); clear h2 k1 k2 c0 c1 c2 c3 c4 c5 c6 c7 c8 z1 z2 z4 z5 z6 z7 z8)
  go_ret
  exact ⟨rfl, H2.out⟩

set_option maxHeartbeats 4000000 in
theorem v_look_end {w0 w : World} {q p : Nat} {ws : List Int} {ns : List Note} {L : List Asn} (push : Bool) (i d l x st : Int) (nx : Value) (off : Bool) (a : Nat) (now : Int) (h : St w0 (memA q ws ns :: vB p a push i d l x nx st off :: L) w) (x0 : 0 ≤ x) (x1 : x < 18446744073709551616) (ha : a < ws.length) (hy : rdW ws a = x) (hk : ns.length ≤ 1000000000000) (l0 : -9223372036854775807 ≤ l) (l1 : l ≤ 9223372036854775807) (hl : decide (l - 1 ≤ 0) = true) :
    Calls Tryz.prog 191 #[.pointer (some ⟨p, 0, none⟩), .pointer (some ⟨q, 0, none⟩), .int .u64 now] w fun e w' => e = .returned (.int .i64 0) ∧ St w0 (memA q ws (ns ++ [⟨108, a, x, x, true⟩]) :: vB p a push i d (l - 1) x (.func (.func 196) #[.pointer (some ⟨p, 0, none⟩)] #[]) st off :: L) w' := by
  have h2 := ((h.alloc #[.pointer (some ⟨p, 0, none⟩)] 184).alloc #[.int .u64 now] 25)
  have HE : Hid (St w0 (memA q ws ns :: vB p a push i d l x nx st off :: bxP w.heap.size p :: bxU (w.heap.size + 1) now :: L) ((w.alloc (.cells #[.pointer (some ⟨p, 0, none⟩)] 184)).alloc (.cells #[.int .u64 now] 25))) := Lib.hid (by have h3 := h2.rot4; simp only [World.size_alloc] at h3; exact h3)
  have HQ := Lib.hid (fun w1 h1 => v_look1_end push a i d l x st nx off w.heap.size (w.heap.size + 1) now h1 x0 x1 l0 l1 hl : ∀ w1, St w0 (memA q ws (ns ++ [⟨108, a, x, x, true⟩]) :: vB p a push i d l x nx st off :: bxP w.heap.size p :: bxU (w.heap.size + 1) now :: L) w1 → _)
  have HY := Lib.hid hy
  obtain ⟨⟨c0, c1, c2, c3, c4, c5, c6, c7, c8⟩, ⟨z1, z2, z4, z5, z6, z7, z8⟩, lt0⟩ := cellsV (h.cells 1 rfl)
  clear h h2 hy hl
  go_enter Tryz.func191, Tryz.ntmps191
  go_wp2_with (go_at_call 181; refine (v_load_look push i d l x st nx off a x 0 (St w0 (memA q ws (ns ++ [⟨108, a, x, x, true⟩]) :: vB p a push i d (l - 1) x (.func (.func 196) #[.pointer (some ⟨p, 0, none⟩)] #[]) st off :: bxP w.heap.size p :: bxU (w.heap.size + 1) now :: L)) _ _ now HE.out ha HY.out hk HQ.out).mono ?_; rintro e w2 ⟨rfl, h2⟩; (have H2 := Lib.hid h2); clear h2 c0 c1 c2 c3 c4 c5 c6 c7 c8 z1 z2 z4 z5 z6 z7 z8)
  go_ret
  exact ⟨rfl, H2.out.drop2'⟩

set_option maxHeartbeats 4000000 in
theorem v_look_late {w0 w : World} {q p : Nat} {ws : List Int} {ns : List Note} {L : List Asn} (push : Bool) (i d l x st : Int) (nx : Value) (off : Bool) (a : Nat) (now : Int) (h : St w0 (memA q ws ns :: vB p a push i d l x nx st off :: L) w) (x0 : 0 ≤ x) (x1 : x < 18446744073709551616) (ha : a < ws.length) (hy : rdW ws a = x) (hk : ns.length ≤ 1000000000000) (l0 : -9223372036854775807 ≤ l) (l1 : l ≤ 9223372036854775807) (hl : decide (l - 1 ≤ 0) = false) (hd : decide (d ≤ now) = true) :
    Calls Tryz.prog 191 #[.pointer (some ⟨p, 0, none⟩), .pointer (some ⟨q, 0, none⟩), .int .u64 now] w fun e w' => e = .returned (.int .i64 0) ∧ St w0 (memA q ws (ns ++ [⟨108, a, x, x, true⟩]) :: vB p a push i d (l - 1) x (.func (.func 196) #[.pointer (some ⟨p, 0, none⟩)] #[]) st off :: L) w' := by
  have h2 := ((h.alloc #[.pointer (some ⟨p, 0, none⟩)] 184).alloc #[.int .u64 now] 25)
  have HE : Hid (St w0 (memA q ws ns :: vB p a push i d l x nx st off :: bxP w.heap.size p :: bxU (w.heap.size + 1) now :: L) ((w.alloc (.cells #[.pointer (some ⟨p, 0, none⟩)] 184)).alloc (.cells #[.int .u64 now] 25))) := Lib.hid (by have h3 := h2.rot4; simp only [World.size_alloc] at h3; exact h3)
  have HQ := Lib.hid (fun w1 h1 => v_look1_late push a i d l x st nx off w.heap.size (w.heap.size + 1) now h1 x0 x1 l0 l1 hl hd : ∀ w1, St w0 (memA q ws (ns ++ [⟨108, a, x, x, true⟩]) :: vB p a push i d l x nx st off :: bxP w.heap.size p :: bxU (w.heap.size + 1) now :: L) w1 → _)
  have HY := Lib.hid hy
  obtain ⟨⟨c0, c1, c2, c3, c4, c5, c6, c7, c8⟩, ⟨z1, z2, z4, z5, z6, z7, z8⟩, lt0⟩ := cellsV (h.cells 1 rfl)
  clear h h2 hy hl hd
  go_enter Tryz.func191, Tryz.ntmps191
  go_wp2_with (go_at_call 181; refine (v_load_look push i d l x st nx off a x 0 (St w0 (memA q ws (ns ++ [⟨108, a, x, x, true⟩]) :: vB p a push i d (l - 1) x (.func (.func 196) #[.pointer (some ⟨p, 0, none⟩)] #[]) st off :: bxP w.heap.size p :: bxU (w.heap.size + 1) now :: L)) _ _ now HE.out ha HY.out hk HQ.out).mono ?_; rintro e w2 ⟨rfl, h2⟩; (have H2 := Lib.hid h2); clear h2 c0 c1 c2 c3 c4 c5 c6 c7 c8 z1 z2 z4 z5 z6 z7 z8)
  go_ret
  exact ⟨rfl, H2.out.drop2'⟩

set_option maxHeartbeats 4000000 in
theorem v_look_on {w0 w : World} {q p : Nat} {ws : List Int} {ns : List Note} {L : List Asn} (push : Bool) (i d l x st : Int) (nx : Value) (off : Bool) (a : Nat) (now : Int) (h : St w0 (memA q ws ns :: vB p a push i d l x nx st off :: L) w) (x0 : 0 ≤ x) (x1 : x < 18446744073709551616) (ha : a < ws.length) (hy : rdW ws a = x) (hk : ns.length ≤ 1000000000000) (l0 : -9223372036854775807 ≤ l) (l1 : l ≤ 9223372036854775807) (hl : decide (l - 1 ≤ 0) = false) (hd : decide (d ≤ now) = false) :
    Calls Tryz.prog 191 #[.pointer (some ⟨p, 0, none⟩), .pointer (some ⟨q, 0, none⟩), .int .u64 now] w fun e w' => e = .returned (.int .i64 0) ∧ St w0 (memA q ws (ns ++ [⟨108, a, x, x, true⟩]) :: vB p a push i d (l - 1) x nx st off :: L) w' := by
  have h2 := ((h.alloc #[.pointer (some ⟨p, 0, none⟩)] 184).alloc #[.int .u64 now] 25)
  have HE : Hid (St w0 (memA q ws ns :: vB p a push i d l x nx st off :: bxP w.heap.size p :: bxU (w.heap.size + 1) now :: L) ((w.alloc (.cells #[.pointer (some ⟨p, 0, none⟩)] 184)).alloc (.cells #[.int .u64 now] 25))) := Lib.hid (by have h3 := h2.rot4; simp only [World.size_alloc] at h3; exact h3)
  have HQ := Lib.hid (fun w1 h1 => v_look1_on push a i d l x st nx off w.heap.size (w.heap.size + 1) now h1 x0 x1 l0 l1 hl hd : ∀ w1, St w0 (memA q ws (ns ++ [⟨108, a, x, x, true⟩]) :: vB p a push i d l x nx st off :: bxP w.heap.size p :: bxU (w.heap.size + 1) now :: L) w1 → _)
  have HY := Lib.hid hy
  obtain ⟨⟨c0, c1, c2, c3, c4, c5, c6, c7, c8⟩, ⟨z1, z2, z4, z5, z6, z7, z8⟩, lt0⟩ := cellsV (h.cells 1 rfl)
  clear h h2 hy hl hd
  go_enter Tryz.func191, Tryz.ntmps191
  go_wp2_with (go_at_call 181; refine (v_load_look push i d l x st nx off a x 0 (St w0 (memA q ws (ns ++ [⟨108, a, x, x, true⟩]) :: vB p a push i d (l - 1) x nx st off :: bxP w.heap.size p :: bxU (w.heap.size + 1) now :: L)) _ _ now HE.out ha HY.out hk HQ.out).mono ?_; rintro e w2 ⟨rfl, h2⟩; (have H2 := Lib.hid h2); clear h2 c0 c1 c2 c3 c4 c5 c6 c7 c8 z1 z2 z4 z5 z6 z7 z8)
  go_ret
  exact ⟨rfl, H2.out.drop2'⟩

set_option maxHeartbeats 4000000 in
theorem v_look_not {w0 w : World} {q p : Nat} {ws : List Int} {ns : List Note} {L : List Asn} (push : Bool) (i d l x st : Int) (nx : Value) (off : Bool) (a : Nat) (y now : Int) (h : St w0 (memA q ws ns :: vB p a push i d l x nx st off :: L) w) (x0 : 0 ≤ x) (x1 : x < 18446744073709551616) (ha : a < ws.length) (hy : rdW ws a = y) (hk : ns.length ≤ 1000000000000) (hne : (y != x) = true) (hs : (sSt y != 3) = true) :
    Calls Tryz.prog 191 #[.pointer (some ⟨p, 0, none⟩), .pointer (some ⟨q, 0, none⟩), .int .u64 now] w fun e w' => e = .returned (.int .i64 5) ∧ St w0 (memA q ws (ns ++ [⟨108, a, y, y, true⟩]) :: vB p a push i d l x nx st off :: L) w' := by
  have hyr := h.rng ha
  rw [hy] at hyr
  obtain ⟨y0, y1⟩ := hyr
  have h2 := ((h.alloc #[.pointer (some ⟨p, 0, none⟩)] 184).alloc #[.int .u64 now] 25)
  have HE : Hid (St w0 (memA q ws ns :: vB p a push i d l x nx st off :: bxP w.heap.size p :: bxU (w.heap.size + 1) now :: L) ((w.alloc (.cells #[.pointer (some ⟨p, 0, none⟩)] 184)).alloc (.cells #[.int .u64 now] 25))) := Lib.hid (by have h3 := h2.rot4; simp only [World.size_alloc] at h3; exact h3)
  have HQ := Lib.hid (fun w1 h1 => v_look1_not push a i d l x st nx off w.heap.size (w.heap.size + 1) y now h1 y0 y1 x0 x1 hne hs : ∀ w1, St w0 (memA q ws (ns ++ [⟨108, a, y, y, true⟩]) :: vB p a push i d l x nx st off :: bxP w.heap.size p :: bxU (w.heap.size + 1) now :: L) w1 → _)
  have HY := Lib.hid hy
  obtain ⟨⟨c0, c1, c2, c3, c4, c5, c6, c7, c8⟩, ⟨z1, z2, z4, z5, z6, z7, z8⟩, lt0⟩ := cellsV (h.cells 1 rfl)
  clear h h2 hy hne hs
  go_enter Tryz.func191, Tryz.ntmps191
  go_wp2_with (go_at_call 181; refine (v_load_look push i d l x st nx off a y 5 (St w0 (memA q ws (ns ++ [⟨108, a, y, y, true⟩]) :: vB p a push i d l x nx st off :: bxP w.heap.size p :: bxU (w.heap.size + 1) now :: L)) _ _ now HE.out ha HY.out hk HQ.out).mono ?_; rintro e w2 ⟨rfl, h2⟩; (have H2 := Lib.hid h2); clear h2 c0 c1 c2 c3 c4 c5 c6 c7 c8 z1 z2 z4 z5 z6 z7 z8)
  go_ret
  exact ⟨rfl, H2.out.drop2'⟩

set_option maxHeartbeats 4000000 in
theorem v_look_stamp {w0 w : World} {q p : Nat} {ws : List Int} {ns : List Note} {L : List Asn} (push : Bool) (i d l x st : Int) (nx : Value) (off : Bool) (a : Nat) (y now : Int) (h : St w0 (memA q ws ns :: vB p a push i d l x nx st off :: L) w) (x0 : 0 ≤ x) (x1 : x < 18446744073709551616) (ha : a < ws.length) (hy : rdW ws a = y) (hk : ns.length ≤ 1000000000000) (hne : (y != x) = true) (hs : (sSt y != 3) = false) (ht : (sTp y != sTp x) = true) :
    Calls Tryz.prog 191 #[.pointer (some ⟨p, 0, none⟩), .pointer (some ⟨q, 0, none⟩), .int .u64 now] w fun e w' => e = .returned (.int .i64 5) ∧ St w0 (memA q ws (ns ++ [⟨108, a, y, y, true⟩]) :: vB p a push i d l x nx st off :: L) w' := by
  have hyr := h.rng ha
  rw [hy] at hyr
  obtain ⟨y0, y1⟩ := hyr
  have h2 := ((h.alloc #[.pointer (some ⟨p, 0, none⟩)] 184).alloc #[.int .u64 now] 25)
  have HE : Hid (St w0 (memA q ws ns :: vB p a push i d l x nx st off :: bxP w.heap.size p :: bxU (w.heap.size + 1) now :: L) ((w.alloc (.cells #[.pointer (some ⟨p, 0, none⟩)] 184)).alloc (.cells #[.int .u64 now] 25))) := Lib.hid (by have h3 := h2.rot4; simp only [World.size_alloc] at h3; exact h3)
  have HQ := Lib.hid (fun w1 h1 => v_look1_stamp push a i d l x st nx off w.heap.size (w.heap.size + 1) y now h1 y0 y1 x0 x1 hne hs ht : ∀ w1, St w0 (memA q ws (ns ++ [⟨108, a, y, y, true⟩]) :: vB p a push i d l x nx st off :: bxP w.heap.size p :: bxU (w.heap.size + 1) now :: L) w1 → _)
  have HY := Lib.hid hy
  obtain ⟨⟨c0, c1, c2, c3, c4, c5, c6, c7, c8⟩, ⟨z1, z2, z4, z5, z6, z7, z8⟩, lt0⟩ := cellsV (h.cells 1 rfl)
  clear h h2 hy hne hs ht
  go_enter Tryz.func191, Tryz.ntmps191
  go_wp2_with (go_at_call 181; refine (v_load_look push i d l x st nx off a y 5 (St w0 (memA q ws (ns ++ [⟨108, a, y, y, true⟩]) :: vB p a push i d l x nx st off :: bxP w.heap.size p :: bxU (w.heap.size + 1) now :: L)) _ _ now HE.out ha HY.out hk HQ.out).mono ?_; rintro e w2 ⟨rfl, h2⟩; (have H2 := Lib.hid h2); clear h2 c0 c1 c2 c3 c4 c5 c6 c7 c8 z1 z2 z4 z5 z6 z7 z8)
  go_ret
  exact ⟨rfl, H2.out.drop2'⟩

set_option maxHeartbeats 4000000 in
theorem v_look_ok {w0 w : World} {q p : Nat} {ws : List Int} {ns : List Note} {L : List Asn} (push : Bool) (i d l x st : Int) (nx : Value) (off : Bool) (a : Nat) (y now : Int) (h : St w0 (memA q ws ns :: vB p a push i d l x nx st off :: L) w) (x0 : 0 ≤ x) (x1 : x < 18446744073709551616) (ha : a < ws.length) (hy : rdW ws a = y) (hk : ns.length ≤ 1000000000000) (hne : (y != x) = true) (hs : (sSt y != 3) = false) (ht : (sTp y != sTp x) = false) :
    Calls Tryz.prog 191 #[.pointer (some ⟨p, 0, none⟩), .pointer (some ⟨q, 0, none⟩), .int .u64 now] w fun e w' => e = .returned (.int .i64 0) ∧ (fun w' => ∃ b3 b4, St w0 (memA q ws (ns ++ [⟨108, a, y, y, true⟩]) :: vB p a push (sIx y) d l x (.func (.func 197) #[] #[.pointer (some ⟨b3, 0, none⟩), .pointer (some ⟨b4, 0, none⟩)]) st off :: bxP b3 p :: bxU b4 y :: L) w') w' := by
  have hyr := h.rng ha
  rw [hy] at hyr
  obtain ⟨y0, y1⟩ := hyr
  have h2 := ((h.alloc #[.pointer (some ⟨p, 0, none⟩)] 184).alloc #[.int .u64 now] 25)
  have HE : Hid (St w0 (memA q ws ns :: vB p a push i d l x nx st off :: bxP w.heap.size p :: bxU (w.heap.size + 1) now :: L) ((w.alloc (.cells #[.pointer (some ⟨p, 0, none⟩)] 184)).alloc (.cells #[.int .u64 now] 25))) := Lib.hid (by have h3 := h2.rot4; simp only [World.size_alloc] at h3; exact h3)
  have HQ := Lib.hid (fun w1 h1 => v_look1_ok push a i d l x st nx off w.heap.size (w.heap.size + 1) y now h1 y0 y1 x0 x1 hne hs ht : ∀ w1, St w0 (memA q ws (ns ++ [⟨108, a, y, y, true⟩]) :: vB p a push i d l x nx st off :: bxP w.heap.size p :: bxU (w.heap.size + 1) now :: L) w1 → _)
  have HY := Lib.hid hy
  obtain ⟨⟨c0, c1, c2, c3, c4, c5, c6, c7, c8⟩, ⟨z1, z2, z4, z5, z6, z7, z8⟩, lt0⟩ := cellsV (h.cells 1 rfl)
  clear h h2 hy hne hs ht
  go_enter Tryz.func191, Tryz.ntmps191
  go_wp2_with (go_at_call 181; refine (v_load_look push i d l x st nx off a y 0 ((fun w' => ∃ b3 b4, St w0 (memA q ws (ns ++ [⟨108, a, y, y, true⟩]) :: vB p a push (sIx y) d l x (.func (.func 197) #[] #[.pointer (some ⟨b3, 0, none⟩), .pointer (some ⟨b4, 0, none⟩)]) st off :: bxP b3 p :: bxU b4 y :: bxP w.heap.size p :: bxU (w.heap.size + 1) now :: L) w')) _ _ now HE.out ha HY.out hk HQ.out).mono ?_; rintro e w2 ⟨rfl, h2⟩; (have H2 := Lib.hid h2); clear h2 c0 c1 c2 c3 c4 c5 c6 c7 c8 z1 z2 z4 z5 z6 z7 z8)
  go_ret
  obtain ⟨b3, b4, h3⟩ := H2.out
  exact ⟨rfl, b3, b4, h3.drop45⟩
end Go.Proofs.YtgfeagggkplegaaGreat
