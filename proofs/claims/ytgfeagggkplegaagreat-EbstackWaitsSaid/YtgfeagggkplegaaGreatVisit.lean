/-
  exchange.Visit: the machine as it lies in the heap, and what each of its functions does.
-/
import Derived.Test.YtgfeagggkplegaaGreatSt
import Derived.Test.YtgfeagggkplegaaGreatSlot
import Derived.Deep.QuietTactic
import Derived.Laws.EntriesVeiled
namespace Go.Proofs.YtgfeagggkplegaaGreat
open Go.RowKit
set_option linter.unusedVariables false
set_option linter.unusedSimpArgs false

abbrev vCells (a : Int) (push : Bool) (i d l x : Int) (nx : Value) (st : Int) (off : Bool) : Array Value := #[.int .i64 a, .bool push, .int .u32 i, .int .u64 d, .int .i64 l, .int .u64 x, nx, .int .i64 st, .bool off]
/-- A visit's own block; a box of its pointer; a box of a word. -/
abbrev vB (p : Nat) (a : Int) (push : Bool) (i d l x : Int) (nx : Value) (st : Int) (off : Bool) : Asn := boxA p (vCells a push i d l x nx st off) 210
abbrev bxP (b p : Nat) : Asn := boxA b #[.pointer (some ⟨p, 0, none⟩)] 184
abbrev bxU (b : Nat) (x : Int) : Asn := boxA b #[.int .u64 x] 25
theorem cellsV {w : World} {b : Nat} {a0 a1 a2 a3 a4 a5 a6 a7 a8 : Value} {e : TypeId} (h : w.heap[b]? = some (.cells #[a0, a1, a2, a3, a4, a5, a6, a7, a8] e (0, 0))) :
    (w.cell? ⟨b, 0, none⟩ = some a0 ∧ w.cell? ⟨b, 1, none⟩ = some a1 ∧ w.cell? ⟨b, 2, none⟩ = some a2 ∧ w.cell? ⟨b, 3, none⟩ = some a3 ∧ w.cell? ⟨b, 4, none⟩ = some a4 ∧ w.cell? ⟨b, 5, none⟩ = some a5 ∧ w.cell? ⟨b, 6, none⟩ = some a6 ∧ w.cell? ⟨b, 7, none⟩ = some a7 ∧ w.cell? ⟨b, 8, none⟩ = some a8) ∧
    (w.frozen? ⟨b, 1, none⟩ = false ∧ w.frozen? ⟨b, 2, none⟩ = false ∧ w.frozen? ⟨b, 4, none⟩ = false ∧ w.frozen? ⟨b, 5, none⟩ = false ∧ w.frozen? ⟨b, 6, none⟩ = false ∧ w.frozen? ⟨b, 7, none⟩ = false ∧ w.frozen? ⟨b, 8, none⟩ = false) ∧ b < w.heap.size :=
  ⟨⟨cell_of h 0, cell_of h 1, cell_of h 2, cell_of h 3, cell_of h 4, cell_of h 5, cell_of h 6, cell_of h 7, cell_of h 8⟩, ⟨free_of h 1, free_of h 2, free_of h 4, free_of h 5, free_of h 6, free_of h 7, free_of h 8⟩, lt_of_heap h⟩

set_option maxHeartbeats 4000000 in
theorem v_first1_meets {w0 w : World} {q p : Nat} {ws : List Int} {ns : List Note} {L : List Asn} (push : Bool) (a i d l x st : Int) (nx : Value) (off : Bool) (b1 : Nat) (y : Int) (h : St w0 (memA q ws ns :: vB p a push i d l x nx st off :: bxP b1 p :: L) w) (y0 : 0 ≤ y) (y1 : y < 18446744073709551616) (hm : sMeets y push = true) :
    Calls Tryz.prog 182 #[.int .u64 y, .pointer (some ⟨b1, 0, none⟩)] w fun e w' => e = .returned (.int .i64 0) ∧ St w0 (memA q ws ns :: vB p a push i d l y (.func (.func 184) #[.pointer (some ⟨p, 0, none⟩)] #[]) st off :: bxP b1 p :: L) w' := by
  have hmf : ∀ (fn : Fn) (first cap : Array Value) (w : World), (Instr.makeFunc fn first cap).run Tryz.prog w = .ok (.func fn first cap) w := fun _ _ _ _ => rfl
  have H := Lib.hid h
  have HM := Lib.hid hm
  obtain ⟨⟨c0, c1, c2, c3, c4, c5, c6, c7, c8⟩, ⟨z1, z2, z4, z5, z6, z7, z8⟩, lt0⟩ := cellsV (h.cells 1 rfl)
  have k1 := cell_of (h.cells 2 rfl) 0
  clear h hm
  go_enter Tryz.func182, Tryz.ntmps182
  go_wp2_with (first | (go_at_call 183; refine (slot_meets y push true _ HM.out y0 y1).mono ?_; rintro e w2 ⟨rfl, hb⟩; (have h2 : St w0 (memA q ws ns :: vB p a push i d l y nx st off :: bxP b1 p :: L) w2 := (H.out.setAt 1 rfl 5 (.int .u64 y)).below hb); (have H2 := Lib.hid h2); clear k1 c0 c1 c2 c3 c4 c5 c6 c7 c8 z1 z2 z4 z5 z6 z7 z8 lt0; obtain ⟨⟨c0, c1, c2, c3, c4, c5, c6, c7, c8⟩, ⟨z1, z2, z4, z5, z6, z7, z8⟩, lt0⟩ := cellsV (h2.cells 1 rfl); (have k1 := cell_of (h2.cells 2 rfl) 0); clear h2 hb))
  go_ret
  exact ⟨rfl, H2.out.setAt 1 rfl 6 _⟩

set_option maxHeartbeats 4000000 in
theorem v_first1_empty {w0 w : World} {q p : Nat} {ws : List Int} {ns : List Note} {L : List Asn} (push : Bool) (a i d l x st : Int) (nx : Value) (off : Bool) (b1 : Nat) (y : Int) (h : St w0 (memA q ws ns :: vB p a push i d l x nx st off :: bxP b1 p :: L) w) (y0 : 0 ≤ y) (y1 : y < 18446744073709551616) (hm : sMeets y push = false) (hs : sSt y = 0) :
    Calls Tryz.prog 182 #[.int .u64 y, .pointer (some ⟨b1, 0, none⟩)] w fun e w' => e = .returned (.int .i64 0) ∧ St w0 (memA q ws ns :: vB p a push i d l y (.func (.func 186) #[.pointer (some ⟨p, 0, none⟩)] #[]) st off :: bxP b1 p :: L) w' := by
  have hmf : ∀ (fn : Fn) (first cap : Array Value) (w : World), (Instr.makeFunc fn first cap).run Tryz.prog w = .ok (.func fn first cap) w := fun _ _ _ _ => rfl
  have H := Lib.hid h
  have HM := Lib.hid hm
  have HS := Lib.hid hs
  obtain ⟨⟨c0, c1, c2, c3, c4, c5, c6, c7, c8⟩, ⟨z1, z2, z4, z5, z6, z7, z8⟩, lt0⟩ := cellsV (h.cells 1 rfl)
  have k1 := cell_of (h.cells 2 rfl) 0
  clear h hm hs
  go_enter Tryz.func182, Tryz.ntmps182
  go_wp2_with (first | (go_at_call 183; refine (slot_meets y push false _ HM.out y0 y1).mono ?_; rintro e w2 ⟨rfl, hb⟩; (have h2 : St w0 (memA q ws ns :: vB p a push i d l y nx st off :: bxP b1 p :: L) w2 := (H.out.setAt 1 rfl 5 (.int .u64 y)).below hb); (have H2 := Lib.hid h2); clear k1 c0 c1 c2 c3 c4 c5 c6 c7 c8 z1 z2 z4 z5 z6 z7 z8 lt0; obtain ⟨⟨c0, c1, c2, c3, c4, c5, c6, c7, c8⟩, ⟨z1, z2, z4, z5, z6, z7, z8⟩, lt0⟩ := cellsV (h2.cells 1 rfl); (have k1 := cell_of (h2.cells 2 rfl) 0); clear h2 hb) | (go_at_call 185; refine (slot_state y 0 _ HS.out y0 y1).mono ?_; rintro e w3 ⟨rfl, hb⟩; (have h3 := H2.out.below hb); (have H3 := Lib.hid h3); clear k1 c0 c1 c2 c3 c4 c5 c6 c7 c8 z1 z2 z4 z5 z6 z7 z8 lt0; obtain ⟨⟨c0, c1, c2, c3, c4, c5, c6, c7, c8⟩, ⟨z1, z2, z4, z5, z6, z7, z8⟩, lt0⟩ := cellsV (h3.cells 1 rfl); (have k1 := cell_of (h3.cells 2 rfl) 0); clear h3 hb))
  go_ret
  exact ⟨rfl, H3.out.setAt 1 rfl 6 _⟩

set_option maxHeartbeats 4000000 in
theorem v_first1_other {w0 w : World} {q p : Nat} {ws : List Int} {ns : List Note} {L : List Asn} (push : Bool) (a i d l x st : Int) (nx : Value) (off : Bool) (b1 : Nat) (y : Int) (h : St w0 (memA q ws ns :: vB p a push i d l x nx st off :: bxP b1 p :: L) w) (y0 : 0 ≤ y) (y1 : y < 18446744073709551616) (hm : sMeets y push = false) (s : Int) (hs : sSt y = s) (hne : (s == 0) = false) :
    Calls Tryz.prog 182 #[.int .u64 y, .pointer (some ⟨b1, 0, none⟩)] w fun e w' => e = .returned (.int .i64 3) ∧ St w0 (memA q ws ns :: vB p a push i d l y nx st off :: bxP b1 p :: L) w' := by
  have hmf : ∀ (fn : Fn) (first cap : Array Value) (w : World), (Instr.makeFunc fn first cap).run Tryz.prog w = .ok (.func fn first cap) w := fun _ _ _ _ => rfl
  have H := Lib.hid h
  have HM := Lib.hid hm
  have HS := Lib.hid hs
  obtain ⟨⟨c0, c1, c2, c3, c4, c5, c6, c7, c8⟩, ⟨z1, z2, z4, z5, z6, z7, z8⟩, lt0⟩ := cellsV (h.cells 1 rfl)
  have k1 := cell_of (h.cells 2 rfl) 0
  clear h hm hs
  go_enter Tryz.func182, Tryz.ntmps182
  go_wp2_with (first | (go_at_call 183; refine (slot_meets y push false _ HM.out y0 y1).mono ?_; rintro e w2 ⟨rfl, hb⟩; (have h2 : St w0 (memA q ws ns :: vB p a push i d l y nx st off :: bxP b1 p :: L) w2 := (H.out.setAt 1 rfl 5 (.int .u64 y)).below hb); (have H2 := Lib.hid h2); clear k1 c0 c1 c2 c3 c4 c5 c6 c7 c8 z1 z2 z4 z5 z6 z7 z8 lt0; obtain ⟨⟨c0, c1, c2, c3, c4, c5, c6, c7, c8⟩, ⟨z1, z2, z4, z5, z6, z7, z8⟩, lt0⟩ := cellsV (h2.cells 1 rfl); (have k1 := cell_of (h2.cells 2 rfl) 0); clear h2 hb) | (go_at_call 185; refine (slot_state y s _ HS.out y0 y1).mono ?_; rintro e w3 ⟨rfl, hb⟩; (have h3 := H2.out.below hb); (have H3 := Lib.hid h3); clear k1 c0 c1 c2 c3 c4 c5 c6 c7 c8 z1 z2 z4 z5 z6 z7 z8 lt0; obtain ⟨⟨c0, c1, c2, c3, c4, c5, c6, c7, c8⟩, ⟨z1, z2, z4, z5, z6, z7, z8⟩, lt0⟩ := cellsV (h3.cells 1 rfl); (have k1 := cell_of (h3.cells 2 rfl) 0); clear h3 hb))
  go_ret
  exact ⟨rfl, H3.out⟩

set_option maxHeartbeats 4000000 in
theorem v_load_first {w0 w : World} {q p : Nat} {ws : List Int} {ns : List Note} {L : List Asn} (push : Bool) (i d l x st : Int) (nx : Value) (off : Bool) (a : Nat) (y r : Int) (R : World → Prop) (b1 : Nat) (h : St w0 (memA q ws ns :: vB p a push i d l x nx st off :: bxP b1 p :: L) w) (ha : a < ws.length) (hy : rdW ws a = y) (hk : ns.length ≤ 1000000000000)
    (hR : ∀ w1, St w0 (memA q ws (ns ++ [⟨108, a, y, y, true⟩]) :: vB p a push i d l x nx st off :: bxP b1 p :: L) w1 → Calls Tryz.prog 182 #[.int .u64 y, .pointer (some ⟨b1, 0, none⟩)] w1 fun e w' => e = .returned (.int .i64 r) ∧ R w') :
    Calls Tryz.prog 181 #[.pointer (some ⟨p, 0, none⟩), .pointer (some ⟨q, 0, none⟩), .func (.func 182) #[] #[.pointer (some ⟨b1, 0, none⟩)]] w fun e w' => e = .returned (.int .i64 r) ∧ R w' := by
  have H := Lib.hid h
  have HY := Lib.hid hy
  have HR := Lib.hid hR
  obtain ⟨⟨c0, c1, c2, c3, c4, c5, c6, c7, c8⟩, ⟨z1, z2, z4, z5, z6, z7, z8⟩, lt0⟩ := cellsV (h.cells 1 rfl)
  clear h hy hR
  go_enter Tryz.func181, Tryz.ntmps181
  go_wp2_with (first | (go_at_call 106; refine (load_st H.out a y HY.out ha hk).mono ?_; rintro e w2 ⟨rfl, h2⟩; (have H2 := Lib.hid h2); clear c0 c1 c2 c3 c4 c5 c6 c7 c8 z1 z2 z4 z5 z6 z7 z8 lt0; obtain ⟨⟨c0, c1, c2, c3, c4, c5, c6, c7, c8⟩, ⟨z1, z2, z4, z5, z6, z7, z8⟩, lt0⟩ := cellsV (h2.cells 1 rfl); clear h2) | (go_at_call 182; refine (HR.out _ H2.out).mono ?_; rintro e w3 ⟨rfl, hr⟩; (have HQ := Lib.hid hr); clear hr))
  go_ret
  exact ⟨rfl, HQ.out⟩

set_option maxHeartbeats 4000000 in
theorem v_load_look {w0 w : World} {q p : Nat} {ws : List Int} {ns : List Note} {L : List Asn} (push : Bool) (i d l x st : Int) (nx : Value) (off : Bool) (a : Nat) (y r : Int) (R : World → Prop) (b1 : Nat) (b2 : Nat) (now : Int) (h : St w0 (memA q ws ns :: vB p a push i d l x nx st off :: bxP b1 p :: bxU b2 now :: L) w) (ha : a < ws.length) (hy : rdW ws a = y) (hk : ns.length ≤ 1000000000000)
    (hR : ∀ w1, St w0 (memA q ws (ns ++ [⟨108, a, y, y, true⟩]) :: vB p a push i d l x nx st off :: bxP b1 p :: bxU b2 now :: L) w1 → Calls Tryz.prog 194 #[.int .u64 y, .pointer (some ⟨b1, 0, none⟩), .pointer (some ⟨b2, 0, none⟩)] w1 fun e w' => e = .returned (.int .i64 r) ∧ R w') :
    Calls Tryz.prog 181 #[.pointer (some ⟨p, 0, none⟩), .pointer (some ⟨q, 0, none⟩), .func (.func 194) #[] #[.pointer (some ⟨b1, 0, none⟩), .pointer (some ⟨b2, 0, none⟩)]] w fun e w' => e = .returned (.int .i64 r) ∧ R w' := by
  have H := Lib.hid h
  have HY := Lib.hid hy
  have HR := Lib.hid hR
  obtain ⟨⟨c0, c1, c2, c3, c4, c5, c6, c7, c8⟩, ⟨z1, z2, z4, z5, z6, z7, z8⟩, lt0⟩ := cellsV (h.cells 1 rfl)
  clear h hy hR
  go_enter Tryz.func181, Tryz.ntmps181
  go_wp2_with (first | (go_at_call 106; refine (load_st H.out a y HY.out ha hk).mono ?_; rintro e w2 ⟨rfl, h2⟩; (have H2 := Lib.hid h2); clear c0 c1 c2 c3 c4 c5 c6 c7 c8 z1 z2 z4 z5 z6 z7 z8 lt0; obtain ⟨⟨c0, c1, c2, c3, c4, c5, c6, c7, c8⟩, ⟨z1, z2, z4, z5, z6, z7, z8⟩, lt0⟩ := cellsV (h2.cells 1 rfl); clear h2) | (go_at_call 194; refine (HR.out _ H2.out).mono ?_; rintro e w3 ⟨rfl, hr⟩; (have HQ := Lib.hid hr); clear hr))
  go_ret
  exact ⟨rfl, HQ.out⟩

set_option maxHeartbeats 4000000 in
theorem v_load_out {w0 w : World} {q p : Nat} {ws : List Int} {ns : List Note} {L : List Asn} (push : Bool) (a i d l x st : Int) (nx : Value) (off : Bool) (b1 : Nat) (h : St w0 (memA q ws ns :: vB p a push i d l x nx st off :: bxP b1 p :: L) w) (ha : a < 0 ∨ (ws.length : Int) ≤ a) :
    Calls Tryz.prog 181 #[.pointer (some ⟨p, 0, none⟩), .pointer (some ⟨q, 0, none⟩), .func (.func 182) #[] #[.pointer (some ⟨b1, 0, none⟩)]] w fun e w' => e = .returned (.int .i64 5) ∧ St w0 (memA q ws ns :: vB p a push i d l x nx st off :: bxP b1 p :: L) w' := by
  have H := Lib.hid h
  have HA := Lib.hid ha
  obtain ⟨⟨c0, c1, c2, c3, c4, c5, c6, c7, c8⟩, ⟨z1, z2, z4, z5, z6, z7, z8⟩, lt0⟩ := cellsV (h.cells 1 rfl)
  clear h ha
  go_enter Tryz.func181, Tryz.ntmps181
  go_wp2_with (go_at_call 106; refine (load_no H.out a HA.out).mono ?_; rintro e w2 ⟨rfl, h2⟩; (have H2 := Lib.hid h2); clear c0 c1 c2 c3 c4 c5 c6 c7 c8 z1 z2 z4 z5 z6 z7 z8 lt0; obtain ⟨⟨c0, c1, c2, c3, c4, c5, c6, c7, c8⟩, ⟨z1, z2, z4, z5, z6, z7, z8⟩, lt0⟩ := cellsV (h2.cells 1 rfl); clear h2)
  go_ret
  exact ⟨rfl, H2.out⟩

set_option maxHeartbeats 4000000 in
theorem v_first_meets {w0 w : World} {q p : Nat} {ws : List Int} {ns : List Note} {L : List Asn} (push : Bool) (i d l x st : Int) (nx : Value) (off : Bool) (a : Nat) (y now : Int) (h : St w0 (memA q ws ns :: vB p a push i d l x nx st off :: L) w) (ha : a < ws.length) (hy : rdW ws a = y) (hk : ns.length ≤ 1000000000000) (hm : sMeets y push = true) :
    Calls Tryz.prog 177 #[.pointer (some ⟨p, 0, none⟩), .pointer (some ⟨q, 0, none⟩), .int .u64 now] w fun e w' => e = .returned (.int .i64 0) ∧ St w0 (memA q ws (ns ++ [⟨108, a, y, y, true⟩]) :: vB p a push i d l y (.func (.func 184) #[.pointer (some ⟨p, 0, none⟩)] #[]) st off :: L) w' := by
  have hmf : ∀ (fn : Fn) (first cap : Array Value) (w : World), (Instr.makeFunc fn first cap).run Tryz.prog w = .ok (.func fn first cap) w := fun _ _ _ _ => rfl
  have hyr := h.rng ha
  rw [hy] at hyr
  obtain ⟨y0, y1⟩ := hyr
  have H := Lib.hid ((h.alloc #[.pointer (some ⟨p, 0, none⟩)] 184).rot3)
  have HQ := Lib.hid (fun w1 h1 => v_first1_meets push a i d l x st nx off w.heap.size y h1 y0 y1 hm : ∀ w1, St w0 (memA q ws (ns ++ [⟨108, a, y, y, true⟩]) :: vB p a push i d l x nx st off :: bxP w.heap.size p :: L) w1 → _)
  have HY := Lib.hid hy
  obtain ⟨⟨c0, c1, c2, c3, c4, c5, c6, c7, c8⟩, ⟨z1, z2, z4, z5, z6, z7, z8⟩, lt0⟩ := cellsV (h.cells 1 rfl)
  clear h hy hm
  go_enter Tryz.func177, Tryz.ntmps177
  go_wp2_with (go_at_call 181; refine (v_load_first push i d l x st nx off a y 0 _ _ H.out ha HY.out hk HQ.out).mono ?_; rintro e w2 ⟨rfl, h2⟩; (have H2 := Lib.hid h2); clear h2 c0 c1 c2 c3 c4 c5 c6 c7 c8 z1 z2 z4 z5 z6 z7 z8)
  go_ret
  exact ⟨rfl, H2.out.drop1'⟩

set_option maxHeartbeats 4000000 in
theorem v_first_empty {w0 w : World} {q p : Nat} {ws : List Int} {ns : List Note} {L : List Asn} (push : Bool) (i d l x st : Int) (nx : Value) (off : Bool) (a : Nat) (y now : Int) (h : St w0 (memA q ws ns :: vB p a push i d l x nx st off :: L) w) (ha : a < ws.length) (hy : rdW ws a = y) (hk : ns.length ≤ 1000000000000) (hm : sMeets y push = false) (hs : sSt y = 0) :
    Calls Tryz.prog 177 #[.pointer (some ⟨p, 0, none⟩), .pointer (some ⟨q, 0, none⟩), .int .u64 now] w fun e w' => e = .returned (.int .i64 0) ∧ St w0 (memA q ws (ns ++ [⟨108, a, y, y, true⟩]) :: vB p a push i d l y (.func (.func 186) #[.pointer (some ⟨p, 0, none⟩)] #[]) st off :: L) w' := by
  have hmf : ∀ (fn : Fn) (first cap : Array Value) (w : World), (Instr.makeFunc fn first cap).run Tryz.prog w = .ok (.func fn first cap) w := fun _ _ _ _ => rfl
  have hyr := h.rng ha
  rw [hy] at hyr
  obtain ⟨y0, y1⟩ := hyr
  have H := Lib.hid ((h.alloc #[.pointer (some ⟨p, 0, none⟩)] 184).rot3)
  have HQ := Lib.hid (fun w1 h1 => v_first1_empty push a i d l x st nx off w.heap.size y h1 y0 y1 hm hs : ∀ w1, St w0 (memA q ws (ns ++ [⟨108, a, y, y, true⟩]) :: vB p a push i d l x nx st off :: bxP w.heap.size p :: L) w1 → _)
  have HY := Lib.hid hy
  obtain ⟨⟨c0, c1, c2, c3, c4, c5, c6, c7, c8⟩, ⟨z1, z2, z4, z5, z6, z7, z8⟩, lt0⟩ := cellsV (h.cells 1 rfl)
  clear h hy hm hs
  go_enter Tryz.func177, Tryz.ntmps177
  go_wp2_with (go_at_call 181; refine (v_load_first push i d l x st nx off a y 0 _ _ H.out ha HY.out hk HQ.out).mono ?_; rintro e w2 ⟨rfl, h2⟩; (have H2 := Lib.hid h2); clear h2 c0 c1 c2 c3 c4 c5 c6 c7 c8 z1 z2 z4 z5 z6 z7 z8)
  go_ret
  exact ⟨rfl, H2.out.drop1'⟩

set_option maxHeartbeats 4000000 in
theorem v_first_other {w0 w : World} {q p : Nat} {ws : List Int} {ns : List Note} {L : List Asn} (push : Bool) (i d l x st : Int) (nx : Value) (off : Bool) (a : Nat) (y now : Int) (h : St w0 (memA q ws ns :: vB p a push i d l x nx st off :: L) w) (ha : a < ws.length) (hy : rdW ws a = y) (hk : ns.length ≤ 1000000000000) (hm : sMeets y push = false) (s : Int) (hs : sSt y = s) (hne : (s == 0) = false) :
    Calls Tryz.prog 177 #[.pointer (some ⟨p, 0, none⟩), .pointer (some ⟨q, 0, none⟩), .int .u64 now] w fun e w' => e = .returned (.int .i64 3) ∧ St w0 (memA q ws (ns ++ [⟨108, a, y, y, true⟩]) :: vB p a push i d l y nx st off :: L) w' := by
  have hmf : ∀ (fn : Fn) (first cap : Array Value) (w : World), (Instr.makeFunc fn first cap).run Tryz.prog w = .ok (.func fn first cap) w := fun _ _ _ _ => rfl
  have hyr := h.rng ha
  rw [hy] at hyr
  obtain ⟨y0, y1⟩ := hyr
  have H := Lib.hid ((h.alloc #[.pointer (some ⟨p, 0, none⟩)] 184).rot3)
  have HQ := Lib.hid (fun w1 h1 => v_first1_other push a i d l x st nx off w.heap.size y h1 y0 y1 hm s hs hne : ∀ w1, St w0 (memA q ws (ns ++ [⟨108, a, y, y, true⟩]) :: vB p a push i d l x nx st off :: bxP w.heap.size p :: L) w1 → _)
  have HY := Lib.hid hy
  obtain ⟨⟨c0, c1, c2, c3, c4, c5, c6, c7, c8⟩, ⟨z1, z2, z4, z5, z6, z7, z8⟩, lt0⟩ := cellsV (h.cells 1 rfl)
  clear h hy hm hs
  go_enter Tryz.func177, Tryz.ntmps177
  go_wp2_with (go_at_call 181; refine (v_load_first push i d l x st nx off a y 3 _ _ H.out ha HY.out hk HQ.out).mono ?_; rintro e w2 ⟨rfl, h2⟩; (have H2 := Lib.hid h2); clear h2 c0 c1 c2 c3 c4 c5 c6 c7 c8 z1 z2 z4 z5 z6 z7 z8)
  go_ret
  exact ⟨rfl, H2.out.drop1'⟩

set_option maxHeartbeats 4000000 in
theorem v_first_out {w0 w : World} {q p : Nat} {ws : List Int} {ns : List Note} {L : List Asn} (push : Bool) (a i d l x st : Int) (nx : Value) (off : Bool) (now : Int) (h : St w0 (memA q ws ns :: vB p a push i d l x nx st off :: L) w) (ha : a < 0 ∨ (ws.length : Int) ≤ a) :
    Calls Tryz.prog 177 #[.pointer (some ⟨p, 0, none⟩), .pointer (some ⟨q, 0, none⟩), .int .u64 now] w fun e w' => e = .returned (.int .i64 5) ∧ St w0 (memA q ws ns :: vB p a push i d l x nx st off :: L) w' := by
  have H := Lib.hid ((h.alloc #[.pointer (some ⟨p, 0, none⟩)] 184).rot3)
  have HA := Lib.hid ha
  obtain ⟨⟨c0, c1, c2, c3, c4, c5, c6, c7, c8⟩, ⟨z1, z2, z4, z5, z6, z7, z8⟩, lt0⟩ := cellsV (h.cells 1 rfl)
  clear h ha
  go_enter Tryz.func177, Tryz.ntmps177
  go_wp2_with (go_at_call 181; refine (v_load_out push a i d l x st nx off _ H.out HA.out).mono ?_; rintro e w2 ⟨rfl, h2⟩; (have H2 := Lib.hid h2); clear h2 c0 c1 c2 c3 c4 c5 c6 c7 c8 z1 z2 z4 z5 z6 z7 z8)
  go_ret
  exact ⟨rfl, H2.out.drop1'⟩

set_option maxHeartbeats 4000000 in
theorem v_swap_hit {w0 w : World} {q p : Nat} {ws : List Int} {ns : List Note} {L : List Asn} (push : Bool) (i d l x st : Int) (nx : Value) (off : Bool) (a : Nat) (v yes no : Int) (h : St w0 (memA q ws ns :: vB p a push i d l x nx st off :: L) w) (ha : a < ws.length) (hk : ns.length ≤ 1000000000000) (v0 : 0 ≤ v) (v1 : v < 18446744073709551616) (hx : rdW ws a = x) :
    Calls Tryz.prog 189 #[.pointer (some ⟨p, 0, none⟩), .pointer (some ⟨q, 0, none⟩), .int .u64 v, .int .i64 yes, .int .i64 no] w fun e w' => e = .returned (.int .i64 yes) ∧ St w0 (memA q (ws.set a v) (ns ++ [⟨99, a, x, v, true⟩]) :: vB p a push i d l x nx st off :: L) w' := by
  have H := Lib.hid h
  have HX := Lib.hid hx
  obtain ⟨⟨c0, c1, c2, c3, c4, c5, c6, c7, c8⟩, ⟨z1, z2, z4, z5, z6, z7, z8⟩, lt0⟩ := cellsV (h.cells 1 rfl)
  clear h hx
  go_enter Tryz.func189, Tryz.ntmps189
  go_wp2
  go_region_held3 (fun w' => w'.cell? ⟨p, 0, none⟩ = some (.int .i64 a) ∧ w'.cell? ⟨p, 5, none⟩ = some (.int .u64 x)) (first | exact ⟨c0, c5⟩) ((go_at_call 157; refine (swap_st H.out.drew a x v HX.out ha hk v0 v1).mono ?_; rintro e w2 ⟨rfl, h2⟩; (have H2 := Lib.hid h2); clear c0 c1 c2 c3 c4 c5 c6 c7 c8 z1 z2 z4 z5 z6 z7 z8 lt0; obtain ⟨⟨c0, c1, c2, c3, c4, c5, c6, c7, c8⟩, ⟨z1, z2, z4, z5, z6, z7, z8⟩, lt0⟩ := cellsV (h2.cells 1 rfl); clear h2))
  go_wp2
  go_ret
  exact ⟨rfl, H2.out⟩

set_option maxHeartbeats 4000000 in
theorem v_swap_lost {w0 w : World} {q p : Nat} {ws : List Int} {ns : List Note} {L : List Asn} (push : Bool) (i d l x st : Int) (nx : Value) (off : Bool) (a : Nat) (v yes no : Int) (h : St w0 (memA q ws ns :: vB p a push i d l x nx st off :: L) w) (ha : a < ws.length) (hk : ns.length ≤ 1000000000000) (v0 : 0 ≤ v) (v1 : v < 18446744073709551616) (y : Int) (hx : rdW ws a = y) (hne : (y == x) = false) :
    Calls Tryz.prog 189 #[.pointer (some ⟨p, 0, none⟩), .pointer (some ⟨q, 0, none⟩), .int .u64 v, .int .i64 yes, .int .i64 no] w fun e w' => e = .returned (.int .i64 no) ∧ St w0 (memA q ws (ns ++ [⟨99, a, y, y, false⟩]) :: vB p a push i d l x nx st off :: L) w' := by
  have H := Lib.hid h
  have HX := Lib.hid hx
  obtain ⟨⟨c0, c1, c2, c3, c4, c5, c6, c7, c8⟩, ⟨z1, z2, z4, z5, z6, z7, z8⟩, lt0⟩ := cellsV (h.cells 1 rfl)
  clear h hx
  go_enter Tryz.func189, Tryz.ntmps189
  go_wp2
  go_region_held3 (fun w' => w'.cell? ⟨p, 0, none⟩ = some (.int .i64 a) ∧ w'.cell? ⟨p, 5, none⟩ = some (.int .u64 x)) (first | exact ⟨c0, c5⟩) ((go_at_call 157; refine (swap_lost H.out.drew a y x v HX.out ha hk hne).mono ?_; rintro e w2 ⟨rfl, h2⟩; (have H2 := Lib.hid h2); clear c0 c1 c2 c3 c4 c5 c6 c7 c8 z1 z2 z4 z5 z6 z7 z8 lt0; obtain ⟨⟨c0, c1, c2, c3, c4, c5, c6, c7, c8⟩, ⟨z1, z2, z4, z5, z6, z7, z8⟩, lt0⟩ := cellsV (h2.cells 1 rfl); clear h2))
  go_wp2
  go_ret
  exact ⟨rfl, H2.out⟩

set_option maxHeartbeats 4000000 in
theorem v_claim_hit {w0 w : World} {q p : Nat} {ws : List Int} {ns : List Note} {L : List Asn} (push : Bool) (i d l x st : Int) (nx : Value) (off : Bool) (a : Nat) (v now : Int) (h : St w0 (memA q ws ns :: vB p a push i d l x nx st off :: L) w) (ha : a < ws.length) (hk : ns.length ≤ 1000000000000) (x0 : 0 ≤ x) (x1 : x < 18446744073709551616) (i0 : 0 ≤ i) (i1 : i < 4294967296) (hm : sMeets x push = true) (hv : sClaim x push i = v) (hx : rdW ws a = x) :
    Calls Tryz.prog 184 #[.pointer (some ⟨p, 0, none⟩), .pointer (some ⟨q, 0, none⟩), .int .u64 now] w fun e w' => e = .returned (.int .i64 1) ∧ St w0 (memA q (ws.set a v) (ns ++ [⟨99, a, x, v, true⟩]) :: vB p a push (sIx v) d l x nx st off :: L) w' := by
  have hmf : ∀ (fn : Fn) (first cap : Array Value) (w : World), (Instr.makeFunc fn first cap).run Tryz.prog w = .ok (.func fn first cap) w := fun _ _ _ _ => rfl
  have hvr : 0 ≤ v ∧ v < 18446744073709551616 := by subst hv; exact sClaim_rng x0 x1
  obtain ⟨v0, v1⟩ := hvr
  have H := Lib.hid h
  have HX := Lib.hid hx
  have HV := Lib.hid hv
  have HM := Lib.hid hm
  obtain ⟨⟨c0, c1, c2, c3, c4, c5, c6, c7, c8⟩, ⟨z1, z2, z4, z5, z6, z7, z8⟩, lt0⟩ := cellsV (h.cells 1 rfl)
  clear h hx hv hm
  go_enter Tryz.func184, Tryz.ntmps184
  go_wp2
  go_region_held3 (fun w' => w'.cell? ⟨p, 5, none⟩ = some (.int .u64 x) ∧ w'.cell? ⟨p, 1, none⟩ = some (.bool push) ∧ w'.cell? ⟨p, 2, none⟩ = some (.int .u32 i)) (first | exact ⟨c5, c1, c2⟩) ((go_at_call 188; refine (slot_claim x i v push _ HV.out HM.out x0 x1 i0 i1).mono ?_; rintro e w2 ⟨rfl, hb⟩; (have h2 := H.out.drew.below hb); (have H2 := Lib.hid h2); clear c0 c1 c2 c3 c4 c5 c6 c7 c8 z1 z2 z4 z5 z6 z7 z8 lt0; obtain ⟨⟨c0, c1, c2, c3, c4, c5, c6, c7, c8⟩, ⟨z1, z2, z4, z5, z6, z7, z8⟩, lt0⟩ := cellsV (h2.cells 1 rfl); clear h2 hb))
  go_wp2_with (first | (go_at_call 189; refine (v_swap_hit push i d l x st nx off a v 1 3 H2.out ha hk v0 v1 HX.out).mono ?_; rintro e w3 ⟨rfl, h3⟩; (have H3 := Lib.hid h3); clear c0 c1 c2 c3 c4 c5 c6 c7 c8 z1 z2 z4 z5 z6 z7 z8 lt0; obtain ⟨⟨c0, c1, c2, c3, c4, c5, c6, c7, c8⟩, ⟨z1, z2, z4, z5, z6, z7, z8⟩, lt0⟩ := cellsV (h3.cells 1 rfl); clear h3) | (go_at_call 60; refine (slot_index v (sIx v) _ rfl v0 v1).mono ?_; rintro e w4 ⟨rfl, hb⟩; (have h4 := H3.out.below hb); (have H4 := Lib.hid h4); clear c0 c1 c2 c3 c4 c5 c6 c7 c8 z1 z2 z4 z5 z6 z7 z8 lt0; obtain ⟨⟨c0, c1, c2, c3, c4, c5, c6, c7, c8⟩, ⟨z1, z2, z4, z5, z6, z7, z8⟩, lt0⟩ := cellsV (h4.cells 1 rfl); clear h4 hb))
  go_ret
  exact ⟨rfl, H4.out.setAt 1 rfl 2 _⟩

set_option maxHeartbeats 4000000 in
theorem v_claim_lost {w0 w : World} {q p : Nat} {ws : List Int} {ns : List Note} {L : List Asn} (push : Bool) (i d l x st : Int) (nx : Value) (off : Bool) (a : Nat) (v now : Int) (h : St w0 (memA q ws ns :: vB p a push i d l x nx st off :: L) w) (ha : a < ws.length) (hk : ns.length ≤ 1000000000000) (x0 : 0 ≤ x) (x1 : x < 18446744073709551616) (i0 : 0 ≤ i) (i1 : i < 4294967296) (hm : sMeets x push = true) (hv : sClaim x push i = v) (y : Int) (hx : rdW ws a = y) (hne : (y == x) = false) :
    Calls Tryz.prog 184 #[.pointer (some ⟨p, 0, none⟩), .pointer (some ⟨q, 0, none⟩), .int .u64 now] w fun e w' => e = .returned (.int .i64 3) ∧ St w0 (memA q ws (ns ++ [⟨99, a, y, y, false⟩]) :: vB p a push i d l x nx st off :: L) w' := by
  have hmf : ∀ (fn : Fn) (first cap : Array Value) (w : World), (Instr.makeFunc fn first cap).run Tryz.prog w = .ok (.func fn first cap) w := fun _ _ _ _ => rfl
  have hvr : 0 ≤ v ∧ v < 18446744073709551616 := by subst hv; exact sClaim_rng x0 x1
  obtain ⟨v0, v1⟩ := hvr
  have H := Lib.hid h
  have HX := Lib.hid hx
  have HV := Lib.hid hv
  have HM := Lib.hid hm
  obtain ⟨⟨c0, c1, c2, c3, c4, c5, c6, c7, c8⟩, ⟨z1, z2, z4, z5, z6, z7, z8⟩, lt0⟩ := cellsV (h.cells 1 rfl)
  clear h hx hv hm
  go_enter Tryz.func184, Tryz.ntmps184
  go_wp2
  go_region_held3 (fun w' => w'.cell? ⟨p, 5, none⟩ = some (.int .u64 x) ∧ w'.cell? ⟨p, 1, none⟩ = some (.bool push) ∧ w'.cell? ⟨p, 2, none⟩ = some (.int .u32 i)) (first | exact ⟨c5, c1, c2⟩) ((go_at_call 188; refine (slot_claim x i v push _ HV.out HM.out x0 x1 i0 i1).mono ?_; rintro e w2 ⟨rfl, hb⟩; (have h2 := H.out.drew.below hb); (have H2 := Lib.hid h2); clear c0 c1 c2 c3 c4 c5 c6 c7 c8 z1 z2 z4 z5 z6 z7 z8 lt0; obtain ⟨⟨c0, c1, c2, c3, c4, c5, c6, c7, c8⟩, ⟨z1, z2, z4, z5, z6, z7, z8⟩, lt0⟩ := cellsV (h2.cells 1 rfl); clear h2 hb))
  go_wp2_with (first | (go_at_call 189; refine (v_swap_lost push i d l x st nx off a v 1 3 H2.out ha hk v0 v1 y HX.out hne).mono ?_; rintro e w3 ⟨rfl, h3⟩; (have H3 := Lib.hid h3); clear c0 c1 c2 c3 c4 c5 c6 c7 c8 z1 z2 z4 z5 z6 z7 z8 lt0; obtain ⟨⟨c0, c1, c2, c3, c4, c5, c6, c7, c8⟩, ⟨z1, z2, z4, z5, z6, z7, z8⟩, lt0⟩ := cellsV (h3.cells 1 rfl); clear h3))
  go_ret
  exact ⟨rfl, H3.out⟩

set_option maxHeartbeats 4000000 in
theorem v_offer_hit {w0 w : World} {q p : Nat} {ws : List Int} {ns : List Note} {L : List Asn} (push : Bool) (i d l x st : Int) (nx : Value) (off : Bool) (a : Nat) (v now : Int) (h : St w0 (memA q ws ns :: vB p a push i d l x nx st off :: L) w) (ha : a < ws.length) (hk : ns.length ≤ 1000000000000) (x0 : 0 ≤ x) (x1 : x < 18446744073709551616) (i0 : 0 ≤ i) (i1 : i < 4294967296) (hm : sSt x = 0) (hv : sOffer x push i = v) (hx : rdW ws a = x) :
    Calls Tryz.prog 186 #[.pointer (some ⟨p, 0, none⟩), .pointer (some ⟨q, 0, none⟩), .int .u64 now] w fun e w' => e = .returned (.int .i64 0) ∧ St w0 (memA q (ws.set a v) (ns ++ [⟨99, a, x, v, true⟩]) :: vB p a push i d l v (.func (.func 191) #[.pointer (some ⟨p, 0, none⟩)] #[]) st true :: L) w' := by
  have hmf : ∀ (fn : Fn) (first cap : Array Value) (w : World), (Instr.makeFunc fn first cap).run Tryz.prog w = .ok (.func fn first cap) w := fun _ _ _ _ => rfl
  have hvr : 0 ≤ v ∧ v < 18446744073709551616 := by subst hv; exact sOffer_rng x0 x1
  obtain ⟨v0, v1⟩ := hvr
  have H := Lib.hid h
  have HX := Lib.hid hx
  have HV := Lib.hid hv
  have HM := Lib.hid hm
  obtain ⟨⟨c0, c1, c2, c3, c4, c5, c6, c7, c8⟩, ⟨z1, z2, z4, z5, z6, z7, z8⟩, lt0⟩ := cellsV (h.cells 1 rfl)
  clear h hx hv hm
  go_enter Tryz.func186, Tryz.ntmps186
  go_wp2
  go_region_held3 (fun w' => w'.cell? ⟨p, 5, none⟩ = some (.int .u64 x) ∧ w'.cell? ⟨p, 1, none⟩ = some (.bool push) ∧ w'.cell? ⟨p, 2, none⟩ = some (.int .u32 i)) (first | exact ⟨c5, c1, c2⟩) ((go_at_call 190; refine (slot_offer x i v push _ HV.out HM.out x0 x1 i0 i1).mono ?_; rintro e w2 ⟨rfl, hb⟩; (have h2 := H.out.drew.below hb); (have H2 := Lib.hid h2); clear c0 c1 c2 c3 c4 c5 c6 c7 c8 z1 z2 z4 z5 z6 z7 z8 lt0; obtain ⟨⟨c0, c1, c2, c3, c4, c5, c6, c7, c8⟩, ⟨z1, z2, z4, z5, z6, z7, z8⟩, lt0⟩ := cellsV (h2.cells 1 rfl); clear h2 hb))
  go_wp2_with (first | (go_at_call 189; refine (v_swap_hit push i d l x st nx off a v 0 3 H2.out ha hk v0 v1 HX.out).mono ?_; rintro e w3 ⟨rfl, h3⟩; (have H3 := Lib.hid h3); clear c0 c1 c2 c3 c4 c5 c6 c7 c8 z1 z2 z4 z5 z6 z7 z8 lt0; obtain ⟨⟨c0, c1, c2, c3, c4, c5, c6, c7, c8⟩, ⟨z1, z2, z4, z5, z6, z7, z8⟩, lt0⟩ := cellsV (h3.cells 1 rfl); clear h3))
  go_ret
  exact ⟨rfl, ((H3.out.setAt 1 rfl 5 _).setAt 1 rfl 8 _).setAt 1 rfl 6 _⟩

set_option maxHeartbeats 4000000 in
theorem v_offer_lost {w0 w : World} {q p : Nat} {ws : List Int} {ns : List Note} {L : List Asn} (push : Bool) (i d l x st : Int) (nx : Value) (off : Bool) (a : Nat) (v now : Int) (h : St w0 (memA q ws ns :: vB p a push i d l x nx st off :: L) w) (ha : a < ws.length) (hk : ns.length ≤ 1000000000000) (x0 : 0 ≤ x) (x1 : x < 18446744073709551616) (i0 : 0 ≤ i) (i1 : i < 4294967296) (hm : sSt x = 0) (hv : sOffer x push i = v) (y : Int) (hx : rdW ws a = y) (hne : (y == x) = false) :
    Calls Tryz.prog 186 #[.pointer (some ⟨p, 0, none⟩), .pointer (some ⟨q, 0, none⟩), .int .u64 now] w fun e w' => e = .returned (.int .i64 3) ∧ St w0 (memA q ws (ns ++ [⟨99, a, y, y, false⟩]) :: vB p a push i d l x nx st off :: L) w' := by
  have hmf : ∀ (fn : Fn) (first cap : Array Value) (w : World), (Instr.makeFunc fn first cap).run Tryz.prog w = .ok (.func fn first cap) w := fun _ _ _ _ => rfl
  have hvr : 0 ≤ v ∧ v < 18446744073709551616 := by subst hv; exact sOffer_rng x0 x1
  obtain ⟨v0, v1⟩ := hvr
  have H := Lib.hid h
  have HX := Lib.hid hx
  have HV := Lib.hid hv
  have HM := Lib.hid hm
  obtain ⟨⟨c0, c1, c2, c3, c4, c5, c6, c7, c8⟩, ⟨z1, z2, z4, z5, z6, z7, z8⟩, lt0⟩ := cellsV (h.cells 1 rfl)
  clear h hx hv hm
  go_enter Tryz.func186, Tryz.ntmps186
  go_wp2
  go_region_held3 (fun w' => w'.cell? ⟨p, 5, none⟩ = some (.int .u64 x) ∧ w'.cell? ⟨p, 1, none⟩ = some (.bool push) ∧ w'.cell? ⟨p, 2, none⟩ = some (.int .u32 i)) (first | exact ⟨c5, c1, c2⟩) ((go_at_call 190; refine (slot_offer x i v push _ HV.out HM.out x0 x1 i0 i1).mono ?_; rintro e w2 ⟨rfl, hb⟩; (have h2 := H.out.drew.below hb); (have H2 := Lib.hid h2); clear c0 c1 c2 c3 c4 c5 c6 c7 c8 z1 z2 z4 z5 z6 z7 z8 lt0; obtain ⟨⟨c0, c1, c2, c3, c4, c5, c6, c7, c8⟩, ⟨z1, z2, z4, z5, z6, z7, z8⟩, lt0⟩ := cellsV (h2.cells 1 rfl); clear h2 hb))
  go_wp2_with (first | (go_at_call 189; refine (v_swap_lost push i d l x st nx off a v 0 3 H2.out ha hk v0 v1 y HX.out hne).mono ?_; rintro e w3 ⟨rfl, h3⟩; (have H3 := Lib.hid h3); clear c0 c1 c2 c3 c4 c5 c6 c7 c8 z1 z2 z4 z5 z6 z7 z8 lt0; obtain ⟨⟨c0, c1, c2, c3, c4, c5, c6, c7, c8⟩, ⟨z1, z2, z4, z5, z6, z7, z8⟩, lt0⟩ := cellsV (h3.cells 1 rfl); clear h3))
  go_ret
  exact ⟨rfl, H3.out⟩
end Go.Proofs.YtgfeagggkplegaaGreat
