/-
  A visit that withdraws; a step of it.
-/
import Derived.Test.YtgfeagggkplegaaGreatVisitB
namespace Go.Proofs.YtgfeagggkplegaaGreat
open Go.RowKit
set_option linter.unusedVariables false
set_option linter.unusedSimpArgs false

set_option maxHeartbeats 4000000 in
theorem v_withdraw_hit {w0 w : World} {q p : Nat} {ws : List Int} {ns : List Note} {L : List Asn} (push : Bool) (i d l x st : Int) (nx : Value) (off : Bool) (a : Nat) (v now : Int) (h : St w0 (memA q ws ns :: vB p a push i d l x nx st off :: L) w) (ha : a < ws.length) (hk : ns.length ≤ 1000000000000) (x0 : 0 ≤ x) (x1 : x < 18446744073709551616) (hv : sClear x = v) (hx : rdW ws a = x) :
    Calls Tryz.prog 196 #[.pointer (some ⟨p, 0, none⟩), .pointer (some ⟨q, 0, none⟩), .int .u64 now] w fun e w' => e = .returned (.int .i64 4) ∧ St w0 (memA q (ws.set a v) (ns ++ [⟨99, a, x, v, true⟩]) :: vB p a push i d l x (.func (.func 191) #[.pointer (some ⟨p, 0, none⟩)] #[]) st off :: L) w' := by
  have hmf : ∀ (fn : Fn) (first cap : Array Value) (w : World), (Instr.makeFunc fn first cap).run Tryz.prog w = .ok (.func fn first cap) w := fun _ _ _ _ => rfl
  have hvr : 0 ≤ v ∧ v < 18446744073709551616 := by subst hv; exact sClear_rng x
  obtain ⟨v0, v1⟩ := hvr
  have H := Lib.hid h
  have HX := Lib.hid hx
  have HV := Lib.hid hv
  obtain ⟨⟨c0, c1, c2, c3, c4, c5, c6, c7, c8⟩, ⟨z1, z2, z4, z5, z6, z7, z8⟩, lt0⟩ := cellsV (h.cells 1 rfl)
  clear h hx hv
  go_enter Tryz.func196, Tryz.ntmps196
  go_wp2_with (first | (go_at_call 198; refine (slot_clear x v _ HV.out x0 x1).mono ?_; rintro e w2 ⟨rfl, hb⟩; (have h2 := H.out.below hb); (have H2 := Lib.hid h2); clear c0 c1 c2 c3 c4 c5 c6 c7 c8 z1 z2 z4 z5 z6 z7 z8 lt0; obtain ⟨⟨c0, c1, c2, c3, c4, c5, c6, c7, c8⟩, ⟨z1, z2, z4, z5, z6, z7, z8⟩, lt0⟩ := cellsV (h2.cells 1 rfl); clear h2 hb) | (go_at_call 189; refine (v_swap_hit push i d l x st nx off a v 4 0 H2.out ha hk v0 v1 HX.out).mono ?_; rintro e w3 ⟨rfl, h3⟩; (have H3 := Lib.hid h3); clear c0 c1 c2 c3 c4 c5 c6 c7 c8 z1 z2 z4 z5 z6 z7 z8 lt0; obtain ⟨⟨c0, c1, c2, c3, c4, c5, c6, c7, c8⟩, ⟨z1, z2, z4, z5, z6, z7, z8⟩, lt0⟩ := cellsV (h3.cells 1 rfl); clear h3))
  go_ret
  exact ⟨rfl, H3.out.setAt 1 rfl 6 _⟩

set_option maxHeartbeats 4000000 in
theorem v_withdraw_lost {w0 w : World} {q p : Nat} {ws : List Int} {ns : List Note} {L : List Asn} (push : Bool) (i d l x st : Int) (nx : Value) (off : Bool) (a : Nat) (v now : Int) (h : St w0 (memA q ws ns :: vB p a push i d l x nx st off :: L) w) (ha : a < ws.length) (hk : ns.length ≤ 1000000000000) (x0 : 0 ≤ x) (x1 : x < 18446744073709551616) (hv : sClear x = v) (y : Int) (hx : rdW ws a = y) (hne : (y == x) = false) :
    Calls Tryz.prog 196 #[.pointer (some ⟨p, 0, none⟩), .pointer (some ⟨q, 0, none⟩), .int .u64 now] w fun e w' => e = .returned (.int .i64 0) ∧ St w0 (memA q ws (ns ++ [⟨99, a, y, y, false⟩]) :: vB p a push i d l x (.func (.func 191) #[.pointer (some ⟨p, 0, none⟩)] #[]) st off :: L) w' := by
  have hmf : ∀ (fn : Fn) (first cap : Array Value) (w : World), (Instr.makeFunc fn first cap).run Tryz.prog w = .ok (.func fn first cap) w := fun _ _ _ _ => rfl
  have hvr : 0 ≤ v ∧ v < 18446744073709551616 := by subst hv; exact sClear_rng x
  obtain ⟨v0, v1⟩ := hvr
  have H := Lib.hid h
  have HX := Lib.hid hx
  have HV := Lib.hid hv
  obtain ⟨⟨c0, c1, c2, c3, c4, c5, c6, c7, c8⟩, ⟨z1, z2, z4, z5, z6, z7, z8⟩, lt0⟩ := cellsV (h.cells 1 rfl)
  clear h hx hv
  go_enter Tryz.func196, Tryz.ntmps196
  go_wp2_with (first | (go_at_call 198; refine (slot_clear x v _ HV.out x0 x1).mono ?_; rintro e w2 ⟨rfl, hb⟩; (have h2 := H.out.below hb); (have H2 := Lib.hid h2); clear c0 c1 c2 c3 c4 c5 c6 c7 c8 z1 z2 z4 z5 z6 z7 z8 lt0; obtain ⟨⟨c0, c1, c2, c3, c4, c5, c6, c7, c8⟩, ⟨z1, z2, z4, z5, z6, z7, z8⟩, lt0⟩ := cellsV (h2.cells 1 rfl); clear h2 hb) | (go_at_call 189; refine (v_swap_lost push i d l x st nx off a v 4 0 H2.out ha hk v0 v1 y HX.out hne).mono ?_; rintro e w3 ⟨rfl, h3⟩; (have H3 := Lib.hid h3); clear c0 c1 c2 c3 c4 c5 c6 c7 c8 z1 z2 z4 z5 z6 z7 z8 lt0; obtain ⟨⟨c0, c1, c2, c3, c4, c5, c6, c7, c8⟩, ⟨z1, z2, z4, z5, z6, z7, z8⟩, lt0⟩ := cellsV (h3.cells 1 rfl); clear h3))
  go_ret
  exact ⟨rfl, H3.out.setAt 1 rfl 6 _⟩

set_option maxHeartbeats 4000000 in
theorem v_step_first {w0 w : World} {q p : Nat} {ws : List Int} {ns : List Note} {L : List Asn} {ws' : List Int} {ns' : List Note} {L' : List Asn} (push push' : Bool) (a i d l x a' i' d' l' x' r z : Int) (nx' : Value) (off off' : Bool) (now : Int) (h : St w0 (memA q ws ns :: vB p a push i d l x (.func (.func 177) #[.pointer (some ⟨p, 0, none⟩)] #[]) 0 off :: L) w) (hp : push' = push) (hz : z = if r = 1 ∧ push = false then i' else 0)
    (hc : Calls Tryz.prog 177 #[.pointer (some ⟨p, 0, none⟩), .pointer (some ⟨q, 0, none⟩), .int .u64 now] w fun e w' => e = .returned (.int .i64 r) ∧ St w0 (memA q ws' ns' :: vB p a' push' i' d' l' x' nx' 0 off' :: L') w') :
    Calls Tryz.prog 138 #[.pointer (some ⟨p, 0, none⟩), .pointer (some ⟨q, 0, none⟩), .int .u64 now] w fun e w' => e = .returned (.tuple #[.int .i64 r, .int .u32 z]) ∧ St w0 (memA q ws' ns' :: vB p a' push' i' d' l' x' nx' r off' :: L') w' := by
  subst hp
  have HC := Lib.hid hc
  obtain ⟨⟨c0, c1, c2, c3, c4, c5, c6, c7, c8⟩, ⟨z1, z2, z4, z5, z6, z7, z8⟩, lt0⟩ := cellsV (h.cells 1 rfl)
  clear h hc
  by_cases hr : r = 1
  · subst hr
    cases push'
    · obtain rfl : z = i' := by rw [hz]; simp
      clear hz
      go_enter Tryz.func138, Tryz.ntmps138
      go_wp2_with (go_at_call 177; refine HC.out.mono ?_; rintro e w2 ⟨rfl, h2⟩; (have H2 := Lib.hid h2); clear c0 c1 c2 c3 c4 c5 c6 c7 c8 z1 z2 z4 z5 z6 z7 z8 lt0; obtain ⟨⟨c0, c1, c2, c3, c4, c5, c6, c7, c8⟩, ⟨z1, z2, z4, z5, z6, z7, z8⟩, lt0⟩ := cellsV (h2.cells 1 rfl); clear h2)
      go_quiet (fail)
      go_wp2
      go_ret2
      exact ⟨rfl, (H2.out.setAt 1 rfl 7 _).drewN nq⟩
    · obtain rfl : z = 0 := by rw [hz]; simp
      clear hz
      go_enter Tryz.func138, Tryz.ntmps138
      go_wp2_with (go_at_call 177; refine HC.out.mono ?_; rintro e w2 ⟨rfl, h2⟩; (have H2 := Lib.hid h2); clear c0 c1 c2 c3 c4 c5 c6 c7 c8 z1 z2 z4 z5 z6 z7 z8 lt0; obtain ⟨⟨c0, c1, c2, c3, c4, c5, c6, c7, c8⟩, ⟨z1, z2, z4, z5, z6, z7, z8⟩, lt0⟩ := cellsV (h2.cells 1 rfl); clear h2)
      go_ret2
      exact ⟨rfl, H2.out.setAt 1 rfl 7 _⟩
  · have e1 : (r != 1) = true := by simpa using hr
    obtain rfl : z = 0 := by rw [hz]; simp [hr]
    clear hz hr
    go_enter Tryz.func138, Tryz.ntmps138
    go_wp2_with (go_at_call 177; refine HC.out.mono ?_; rintro e w2 ⟨rfl, h2⟩; (have H2 := Lib.hid h2); clear c0 c1 c2 c3 c4 c5 c6 c7 c8 z1 z2 z4 z5 z6 z7 z8 lt0; obtain ⟨⟨c0, c1, c2, c3, c4, c5, c6, c7, c8⟩, ⟨z1, z2, z4, z5, z6, z7, z8⟩, lt0⟩ := cellsV (h2.cells 1 rfl); clear h2)
    go_ret2
    exact ⟨rfl, H2.out.setAt 1 rfl 7 _⟩

set_option maxHeartbeats 4000000 in
theorem v_step_claim {w0 w : World} {q p : Nat} {ws : List Int} {ns : List Note} {L : List Asn} {ws' : List Int} {ns' : List Note} {L' : List Asn} (push push' : Bool) (a i d l x a' i' d' l' x' r z : Int) (nx' : Value) (off off' : Bool) (now : Int) (h : St w0 (memA q ws ns :: vB p a push i d l x (.func (.func 184) #[.pointer (some ⟨p, 0, none⟩)] #[]) 0 off :: L) w) (hp : push' = push) (hz : z = if r = 1 ∧ push = false then i' else 0)
    (hc : Calls Tryz.prog 184 #[.pointer (some ⟨p, 0, none⟩), .pointer (some ⟨q, 0, none⟩), .int .u64 now] w fun e w' => e = .returned (.int .i64 r) ∧ St w0 (memA q ws' ns' :: vB p a' push' i' d' l' x' nx' 0 off' :: L') w') :
    Calls Tryz.prog 138 #[.pointer (some ⟨p, 0, none⟩), .pointer (some ⟨q, 0, none⟩), .int .u64 now] w fun e w' => e = .returned (.tuple #[.int .i64 r, .int .u32 z]) ∧ St w0 (memA q ws' ns' :: vB p a' push' i' d' l' x' nx' r off' :: L') w' := by
  subst hp
  have HC := Lib.hid hc
  obtain ⟨⟨c0, c1, c2, c3, c4, c5, c6, c7, c8⟩, ⟨z1, z2, z4, z5, z6, z7, z8⟩, lt0⟩ := cellsV (h.cells 1 rfl)
  clear h hc
  by_cases hr : r = 1
  · subst hr
    cases push'
    · obtain rfl : z = i' := by rw [hz]; simp
      clear hz
      go_enter Tryz.func138, Tryz.ntmps138
      go_wp2_with (go_at_call 184; refine HC.out.mono ?_; rintro e w2 ⟨rfl, h2⟩; (have H2 := Lib.hid h2); clear c0 c1 c2 c3 c4 c5 c6 c7 c8 z1 z2 z4 z5 z6 z7 z8 lt0; obtain ⟨⟨c0, c1, c2, c3, c4, c5, c6, c7, c8⟩, ⟨z1, z2, z4, z5, z6, z7, z8⟩, lt0⟩ := cellsV (h2.cells 1 rfl); clear h2)
      go_quiet (fail)
      go_wp2
      go_ret2
      exact ⟨rfl, (H2.out.setAt 1 rfl 7 _).drewN nq⟩
    · obtain rfl : z = 0 := by rw [hz]; simp
      clear hz
      go_enter Tryz.func138, Tryz.ntmps138
      go_wp2_with (go_at_call 184; refine HC.out.mono ?_; rintro e w2 ⟨rfl, h2⟩; (have H2 := Lib.hid h2); clear c0 c1 c2 c3 c4 c5 c6 c7 c8 z1 z2 z4 z5 z6 z7 z8 lt0; obtain ⟨⟨c0, c1, c2, c3, c4, c5, c6, c7, c8⟩, ⟨z1, z2, z4, z5, z6, z7, z8⟩, lt0⟩ := cellsV (h2.cells 1 rfl); clear h2)
      go_ret2
      exact ⟨rfl, H2.out.setAt 1 rfl 7 _⟩
  · have e1 : (r != 1) = true := by simpa using hr
    obtain rfl : z = 0 := by rw [hz]; simp [hr]
    clear hz hr
    go_enter Tryz.func138, Tryz.ntmps138
    go_wp2_with (go_at_call 184; refine HC.out.mono ?_; rintro e w2 ⟨rfl, h2⟩; (have H2 := Lib.hid h2); clear c0 c1 c2 c3 c4 c5 c6 c7 c8 z1 z2 z4 z5 z6 z7 z8 lt0; obtain ⟨⟨c0, c1, c2, c3, c4, c5, c6, c7, c8⟩, ⟨z1, z2, z4, z5, z6, z7, z8⟩, lt0⟩ := cellsV (h2.cells 1 rfl); clear h2)
    go_ret2
    exact ⟨rfl, H2.out.setAt 1 rfl 7 _⟩

set_option maxHeartbeats 4000000 in
theorem v_step_offer {w0 w : World} {q p : Nat} {ws : List Int} {ns : List Note} {L : List Asn} {ws' : List Int} {ns' : List Note} {L' : List Asn} (push push' : Bool) (a i d l x a' i' d' l' x' r z : Int) (nx' : Value) (off off' : Bool) (now : Int) (h : St w0 (memA q ws ns :: vB p a push i d l x (.func (.func 186) #[.pointer (some ⟨p, 0, none⟩)] #[]) 0 off :: L) w) (hp : push' = push) (hz : z = if r = 1 ∧ push = false then i' else 0)
    (hc : Calls Tryz.prog 186 #[.pointer (some ⟨p, 0, none⟩), .pointer (some ⟨q, 0, none⟩), .int .u64 now] w fun e w' => e = .returned (.int .i64 r) ∧ St w0 (memA q ws' ns' :: vB p a' push' i' d' l' x' nx' 0 off' :: L') w') :
    Calls Tryz.prog 138 #[.pointer (some ⟨p, 0, none⟩), .pointer (some ⟨q, 0, none⟩), .int .u64 now] w fun e w' => e = .returned (.tuple #[.int .i64 r, .int .u32 z]) ∧ St w0 (memA q ws' ns' :: vB p a' push' i' d' l' x' nx' r off' :: L') w' := by
  subst hp
  have HC := Lib.hid hc
  obtain ⟨⟨c0, c1, c2, c3, c4, c5, c6, c7, c8⟩, ⟨z1, z2, z4, z5, z6, z7, z8⟩, lt0⟩ := cellsV (h.cells 1 rfl)
  clear h hc
  by_cases hr : r = 1
  · subst hr
    cases push'
    · obtain rfl : z = i' := by rw [hz]; simp
      clear hz
      go_enter Tryz.func138, Tryz.ntmps138
      go_wp2_with (go_at_call 186; refine HC.out.mono ?_; rintro e w2 ⟨rfl, h2⟩; (have H2 := Lib.hid h2); clear c0 c1 c2 c3 c4 c5 c6 c7 c8 z1 z2 z4 z5 z6 z7 z8 lt0; obtain ⟨⟨c0, c1, c2, c3, c4, c5, c6, c7, c8⟩, ⟨z1, z2, z4, z5, z6, z7, z8⟩, lt0⟩ := cellsV (h2.cells 1 rfl); clear h2)
      go_quiet (fail)
      go_wp2
      go_ret2
      exact ⟨rfl, (H2.out.setAt 1 rfl 7 _).drewN nq⟩
    · obtain rfl : z = 0 := by rw [hz]; simp
      clear hz
      go_enter Tryz.func138, Tryz.ntmps138
      go_wp2_with (go_at_call 186; refine HC.out.mono ?_; rintro e w2 ⟨rfl, h2⟩; (have H2 := Lib.hid h2); clear c0 c1 c2 c3 c4 c5 c6 c7 c8 z1 z2 z4 z5 z6 z7 z8 lt0; obtain ⟨⟨c0, c1, c2, c3, c4, c5, c6, c7, c8⟩, ⟨z1, z2, z4, z5, z6, z7, z8⟩, lt0⟩ := cellsV (h2.cells 1 rfl); clear h2)
      go_ret2
      exact ⟨rfl, H2.out.setAt 1 rfl 7 _⟩
  · have e1 : (r != 1) = true := by simpa using hr
    obtain rfl : z = 0 := by rw [hz]; simp [hr]
    clear hz hr
    go_enter Tryz.func138, Tryz.ntmps138
    go_wp2_with (go_at_call 186; refine HC.out.mono ?_; rintro e w2 ⟨rfl, h2⟩; (have H2 := Lib.hid h2); clear c0 c1 c2 c3 c4 c5 c6 c7 c8 z1 z2 z4 z5 z6 z7 z8 lt0; obtain ⟨⟨c0, c1, c2, c3, c4, c5, c6, c7, c8⟩, ⟨z1, z2, z4, z5, z6, z7, z8⟩, lt0⟩ := cellsV (h2.cells 1 rfl); clear h2)
    go_ret2
    exact ⟨rfl, H2.out.setAt 1 rfl 7 _⟩

set_option maxHeartbeats 4000000 in
theorem v_step_look {w0 w : World} {q p : Nat} {ws : List Int} {ns : List Note} {L : List Asn} {ws' : List Int} {ns' : List Note} {L' : List Asn} (push push' : Bool) (a i d l x a' i' d' l' x' r z : Int) (nx' : Value) (off off' : Bool) (now : Int) (h : St w0 (memA q ws ns :: vB p a push i d l x (.func (.func 191) #[.pointer (some ⟨p, 0, none⟩)] #[]) 0 off :: L) w) (hp : push' = push) (hz : z = if r = 1 ∧ push = false then i' else 0)
    (hc : Calls Tryz.prog 191 #[.pointer (some ⟨p, 0, none⟩), .pointer (some ⟨q, 0, none⟩), .int .u64 now] w fun e w' => e = .returned (.int .i64 r) ∧ St w0 (memA q ws' ns' :: vB p a' push' i' d' l' x' nx' 0 off' :: L') w') :
    Calls Tryz.prog 138 #[.pointer (some ⟨p, 0, none⟩), .pointer (some ⟨q, 0, none⟩), .int .u64 now] w fun e w' => e = .returned (.tuple #[.int .i64 r, .int .u32 z]) ∧ St w0 (memA q ws' ns' :: vB p a' push' i' d' l' x' nx' r off' :: L') w' := by
  subst hp
  have HC := Lib.hid hc
  obtain ⟨⟨c0, c1, c2, c3, c4, c5, c6, c7, c8⟩, ⟨z1, z2, z4, z5, z6, z7, z8⟩, lt0⟩ := cellsV (h.cells 1 rfl)
  clear h hc
  by_cases hr : r = 1
  · subst hr
    cases push'
    · obtain rfl : z = i' := by rw [hz]; simp
      clear hz
      go_enter Tryz.func138, Tryz.ntmps138
      go_wp2_with (go_at_call 191; refine HC.out.mono ?_; rintro e w2 ⟨rfl, h2⟩; (have H2 := Lib.hid h2); clear c0 c1 c2 c3 c4 c5 c6 c7 c8 z1 z2 z4 z5 z6 z7 z8 lt0; obtain ⟨⟨c0, c1, c2, c3, c4, c5, c6, c7, c8⟩, ⟨z1, z2, z4, z5, z6, z7, z8⟩, lt0⟩ := cellsV (h2.cells 1 rfl); clear h2)
      go_quiet (fail)
      go_wp2
      go_ret2
      exact ⟨rfl, (H2.out.setAt 1 rfl 7 _).drewN nq⟩
    · obtain rfl : z = 0 := by rw [hz]; simp
      clear hz
      go_enter Tryz.func138, Tryz.ntmps138
      go_wp2_with (go_at_call 191; refine HC.out.mono ?_; rintro e w2 ⟨rfl, h2⟩; (have H2 := Lib.hid h2); clear c0 c1 c2 c3 c4 c5 c6 c7 c8 z1 z2 z4 z5 z6 z7 z8 lt0; obtain ⟨⟨c0, c1, c2, c3, c4, c5, c6, c7, c8⟩, ⟨z1, z2, z4, z5, z6, z7, z8⟩, lt0⟩ := cellsV (h2.cells 1 rfl); clear h2)
      go_ret2
      exact ⟨rfl, H2.out.setAt 1 rfl 7 _⟩
  · have e1 : (r != 1) = true := by simpa using hr
    obtain rfl : z = 0 := by rw [hz]; simp [hr]
    clear hz hr
    go_enter Tryz.func138, Tryz.ntmps138
    go_wp2_with (go_at_call 191; refine HC.out.mono ?_; rintro e w2 ⟨rfl, h2⟩; (have H2 := Lib.hid h2); clear c0 c1 c2 c3 c4 c5 c6 c7 c8 z1 z2 z4 z5 z6 z7 z8 lt0; obtain ⟨⟨c0, c1, c2, c3, c4, c5, c6, c7, c8⟩, ⟨z1, z2, z4, z5, z6, z7, z8⟩, lt0⟩ := cellsV (h2.cells 1 rfl); clear h2)
    go_ret2
    exact ⟨rfl, H2.out.setAt 1 rfl 7 _⟩

set_option maxHeartbeats 4000000 in
theorem v_step_withdraw {w0 w : World} {q p : Nat} {ws : List Int} {ns : List Note} {L : List Asn} {ws' : List Int} {ns' : List Note} {L' : List Asn} (push push' : Bool) (a i d l x a' i' d' l' x' r z : Int) (nx' : Value) (off off' : Bool) (now : Int) (h : St w0 (memA q ws ns :: vB p a push i d l x (.func (.func 196) #[.pointer (some ⟨p, 0, none⟩)] #[]) 0 off :: L) w) (hp : push' = push) (hz : z = if r = 1 ∧ push = false then i' else 0)
    (hc : Calls Tryz.prog 196 #[.pointer (some ⟨p, 0, none⟩), .pointer (some ⟨q, 0, none⟩), .int .u64 now] w fun e w' => e = .returned (.int .i64 r) ∧ St w0 (memA q ws' ns' :: vB p a' push' i' d' l' x' nx' 0 off' :: L') w') :
    Calls Tryz.prog 138 #[.pointer (some ⟨p, 0, none⟩), .pointer (some ⟨q, 0, none⟩), .int .u64 now] w fun e w' => e = .returned (.tuple #[.int .i64 r, .int .u32 z]) ∧ St w0 (memA q ws' ns' :: vB p a' push' i' d' l' x' nx' r off' :: L') w' := by
  subst hp
  have HC := Lib.hid hc
  obtain ⟨⟨c0, c1, c2, c3, c4, c5, c6, c7, c8⟩, ⟨z1, z2, z4, z5, z6, z7, z8⟩, lt0⟩ := cellsV (h.cells 1 rfl)
  clear h hc
  by_cases hr : r = 1
  · subst hr
    cases push'
    · obtain rfl : z = i' := by rw [hz]; simp
      clear hz
      go_enter Tryz.func138, Tryz.ntmps138
      go_wp2_with (go_at_call 196; refine HC.out.mono ?_; rintro e w2 ⟨rfl, h2⟩; (have H2 := Lib.hid h2); clear c0 c1 c2 c3 c4 c5 c6 c7 c8 z1 z2 z4 z5 z6 z7 z8 lt0; obtain ⟨⟨c0, c1, c2, c3, c4, c5, c6, c7, c8⟩, ⟨z1, z2, z4, z5, z6, z7, z8⟩, lt0⟩ := cellsV (h2.cells 1 rfl); clear h2)
      go_quiet (fail)
      go_wp2
      go_ret2
      exact ⟨rfl, (H2.out.setAt 1 rfl 7 _).drewN nq⟩
    · obtain rfl : z = 0 := by rw [hz]; simp
      clear hz
      go_enter Tryz.func138, Tryz.ntmps138
      go_wp2_with (go_at_call 196; refine HC.out.mono ?_; rintro e w2 ⟨rfl, h2⟩; (have H2 := Lib.hid h2); clear c0 c1 c2 c3 c4 c5 c6 c7 c8 z1 z2 z4 z5 z6 z7 z8 lt0; obtain ⟨⟨c0, c1, c2, c3, c4, c5, c6, c7, c8⟩, ⟨z1, z2, z4, z5, z6, z7, z8⟩, lt0⟩ := cellsV (h2.cells 1 rfl); clear h2)
      go_ret2
      exact ⟨rfl, H2.out.setAt 1 rfl 7 _⟩
  · have e1 : (r != 1) = true := by simpa using hr
    obtain rfl : z = 0 := by rw [hz]; simp [hr]
    clear hz hr
    go_enter Tryz.func138, Tryz.ntmps138
    go_wp2_with (go_at_call 196; refine HC.out.mono ?_; rintro e w2 ⟨rfl, h2⟩; (have H2 := Lib.hid h2); clear c0 c1 c2 c3 c4 c5 c6 c7 c8 z1 z2 z4 z5 z6 z7 z8 lt0; obtain ⟨⟨c0, c1, c2, c3, c4, c5, c6, c7, c8⟩, ⟨z1, z2, z4, z5, z6, z7, z8⟩, lt0⟩ := cellsV (h2.cells 1 rfl); clear h2)
    go_ret2
    exact ⟨rfl, H2.out.setAt 1 rfl 7 _⟩

set_option maxHeartbeats 4000000 in
theorem v_step_found {w0 w : World} {q p : Nat} {ws : List Int} {ns : List Note} {L : List Asn} {ws' : List Int} {ns' : List Note} {L' : List Asn} (push push' : Bool) (a i d l x a' i' d' l' x' r z : Int) (nx' : Value) (off off' : Bool) (now : Int) (b3 b4 : Nat) (h : St w0 (memA q ws ns :: vB p a push i d l x (.func (.func 197) #[] #[.pointer (some ⟨b3, 0, none⟩), .pointer (some ⟨b4, 0, none⟩)]) 0 off :: L) w) (hp : push' = push) (hz : z = if r = 1 ∧ push = false then i' else 0)
    (hc : Calls Tryz.prog 197 #[.pointer (some ⟨q, 0, none⟩), .int .u64 now, .pointer (some ⟨b3, 0, none⟩), .pointer (some ⟨b4, 0, none⟩)] w fun e w' => e = .returned (.int .i64 r) ∧ St w0 (memA q ws' ns' :: vB p a' push' i' d' l' x' nx' 0 off' :: L') w') :
    Calls Tryz.prog 138 #[.pointer (some ⟨p, 0, none⟩), .pointer (some ⟨q, 0, none⟩), .int .u64 now] w fun e w' => e = .returned (.tuple #[.int .i64 r, .int .u32 z]) ∧ St w0 (memA q ws' ns' :: vB p a' push' i' d' l' x' nx' r off' :: L') w' := by
  subst hp
  have HC := Lib.hid hc
  obtain ⟨⟨c0, c1, c2, c3, c4, c5, c6, c7, c8⟩, ⟨z1, z2, z4, z5, z6, z7, z8⟩, lt0⟩ := cellsV (h.cells 1 rfl)
  clear h hc
  by_cases hr : r = 1
  · subst hr
    cases push'
    · obtain rfl : z = i' := by rw [hz]; simp
      clear hz
      go_enter Tryz.func138, Tryz.ntmps138
      go_wp2_with (go_at_call 197; refine HC.out.mono ?_; rintro e w2 ⟨rfl, h2⟩; (have H2 := Lib.hid h2); clear c0 c1 c2 c3 c4 c5 c6 c7 c8 z1 z2 z4 z5 z6 z7 z8 lt0; obtain ⟨⟨c0, c1, c2, c3, c4, c5, c6, c7, c8⟩, ⟨z1, z2, z4, z5, z6, z7, z8⟩, lt0⟩ := cellsV (h2.cells 1 rfl); clear h2)
      go_quiet (fail)
      go_wp2
      go_ret2
      exact ⟨rfl, (H2.out.setAt 1 rfl 7 _).drewN nq⟩
    · obtain rfl : z = 0 := by rw [hz]; simp
      clear hz
      go_enter Tryz.func138, Tryz.ntmps138
      go_wp2_with (go_at_call 197; refine HC.out.mono ?_; rintro e w2 ⟨rfl, h2⟩; (have H2 := Lib.hid h2); clear c0 c1 c2 c3 c4 c5 c6 c7 c8 z1 z2 z4 z5 z6 z7 z8 lt0; obtain ⟨⟨c0, c1, c2, c3, c4, c5, c6, c7, c8⟩, ⟨z1, z2, z4, z5, z6, z7, z8⟩, lt0⟩ := cellsV (h2.cells 1 rfl); clear h2)
      go_ret2
      exact ⟨rfl, H2.out.setAt 1 rfl 7 _⟩
  · have e1 : (r != 1) = true := by simpa using hr
    obtain rfl : z = 0 := by rw [hz]; simp [hr]
    clear hz hr
    go_enter Tryz.func138, Tryz.ntmps138
    go_wp2_with (go_at_call 197; refine HC.out.mono ?_; rintro e w2 ⟨rfl, h2⟩; (have H2 := Lib.hid h2); clear c0 c1 c2 c3 c4 c5 c6 c7 c8 z1 z2 z4 z5 z6 z7 z8 lt0; obtain ⟨⟨c0, c1, c2, c3, c4, c5, c6, c7, c8⟩, ⟨z1, z2, z4, z5, z6, z7, z8⟩, lt0⟩ := cellsV (h2.cells 1 rfl); clear h2)
    go_ret2
    exact ⟨rfl, H2.out.setAt 1 rfl 7 _⟩

set_option maxHeartbeats 4000000 in
theorem v_step_over {w0 w : World} {q p : Nat} {ws : List Int} {ns : List Note} {L : List Asn} (push : Bool) (a i d l x st z : Int) (nx : Value) (off : Bool) (now : Int) (h : St w0 (memA q ws ns :: vB p a push i d l x nx st off :: L) w) (hs : st ≠ 0) (hz : z = if st = 1 ∧ push = false then i else 0) :
    Calls Tryz.prog 138 #[.pointer (some ⟨p, 0, none⟩), .pointer (some ⟨q, 0, none⟩), .int .u64 now] w fun e w' => e = .returned (.tuple #[.int .i64 st, .int .u32 z]) ∧ St w0 (memA q ws ns :: vB p a push i d l x nx st off :: L) w' := by
  have H := Lib.hid h
  obtain ⟨⟨c0, c1, c2, c3, c4, c5, c6, c7, c8⟩, ⟨z1, z2, z4, z5, z6, z7, z8⟩, lt0⟩ := cellsV (h.cells 1 rfl)
  clear h
  by_cases hr : st = 1
  · subst hr
    cases push
    · obtain rfl : z = i := by rw [hz]; simp
      clear hz
      go_enter Tryz.func138, Tryz.ntmps138
      go_wp2
      go_quiet (fail)
      go_wp2
      go_ret2
      exact ⟨rfl, H.out.drewN nq⟩
    · obtain rfl : z = 0 := by rw [hz]; simp
      clear hz
      go_enter Tryz.func138, Tryz.ntmps138
      go_wp2
      go_ret2
      exact ⟨rfl, H.out⟩
  · have e1 : (st != 1) = true := by simpa using hr
    have e2 : (st == 0) = false := by simpa using hs
    obtain rfl : z = 0 := by rw [hz]; simp [hr]
    clear hz hr hs
    go_enter Tryz.func138, Tryz.ntmps138
    go_wp2
    go_ret2
    exact ⟨rfl, H.out⟩

set_option maxHeartbeats 4000000 in
theorem v_step_look_ok {w0 w : World} {q p : Nat} {ws : List Int} {ns : List Note} {L : List Asn} (push : Bool) (i d l x : Int) (off : Bool) (a : Nat) (y now : Int) (h : St w0 (memA q ws ns :: vB p a push i d l x (.func (.func 191) #[.pointer (some ⟨p, 0, none⟩)] #[]) 0 off :: L) w) (x0 : 0 ≤ x) (x1 : x < 18446744073709551616) (ha : a < ws.length) (hy : rdW ws a = y) (hk : ns.length ≤ 1000000000000) (hne : (y != x) = true) (hs : (sSt y != 3) = false) (ht : (sTp y != sTp x) = false) :
    Calls Tryz.prog 138 #[.pointer (some ⟨p, 0, none⟩), .pointer (some ⟨q, 0, none⟩), .int .u64 now] w fun e w' => e = .returned (.tuple #[.int .i64 0, .int .u32 0]) ∧ (fun w' => ∃ b3 b4, St w0 (memA q ws (ns ++ [⟨108, a, y, y, true⟩]) :: vB p a push (sIx y) d l x (.func (.func 197) #[] #[.pointer (some ⟨b3, 0, none⟩), .pointer (some ⟨b4, 0, none⟩)]) 0 off :: bxP b3 p :: bxU b4 y :: L) w') w' := by
  have HC := Lib.hid (v_look_ok push i d l x 0 _ off a y now h x0 x1 ha hy hk hne hs ht)
  obtain ⟨⟨c0, c1, c2, c3, c4, c5, c6, c7, c8⟩, ⟨z1, z2, z4, z5, z6, z7, z8⟩, lt0⟩ := cellsV (h.cells 1 rfl)
  clear h hy hne hs ht
  go_enter Tryz.func138, Tryz.ntmps138
  go_wp2_with (go_at_call 191; refine HC.out.mono ?_; rintro e w2 ⟨rfl, b3, b4, h2⟩; (have H2 := Lib.hid h2); clear c0 c1 c2 c3 c4 c5 c6 c7 c8 z1 z2 z4 z5 z6 z7 z8 lt0; obtain ⟨⟨c0, c1, c2, c3, c4, c5, c6, c7, c8⟩, ⟨z1, z2, z4, z5, z6, z7, z8⟩, lt0⟩ := cellsV (h2.cells 1 rfl); clear h2)
  go_ret2
  exact ⟨rfl, b3, b4, H2.out.setAt 1 rfl 7 _⟩
end Go.Proofs.YtgfeagggkplegaaGreat
