/-
  The steps of a visit of the document: a look, a withdrawal, a clearing, the end.
-/
import Derived.Test.YthnjeiandfdpgaaSV
namespace Go.Proofs.Ythnjeiandfdpgaa
open Go.RowKit
set_option linter.unusedVariables false
set_option linter.unusedSimpArgs false
variable {Y : Nat → Value}

set_option maxRecDepth 20000 in
set_option maxHeartbeats 4000000 in
theorem sv_step_look {w0 w : World} {q p : Nat} {ws : List Int} {ns : List Note} {L : List Asn} (push : Bool) (a i d pl lk x fd st : Int) (off : Bool) (r z now : Int) (R : World → Prop) (h : St w0 (refA q ws ns :: svB Y p a push i d pl 3 lk x fd st off :: L) w) (hc : Calls Try.prog 72 #[.pointer (some ⟨p, 12, none⟩), .pointer (some ⟨q, 0, none⟩), .int .u64 now] w fun e w' => e = .returned (.tuple #[.int .i64 r, .int .u32 z]) ∧ R w') :
    Calls Try.prog 56 #[.pointer (some ⟨p, 12, none⟩), .pointer (some ⟨q, 0, none⟩), .int .u64 now] w fun e w' => e = .returned (.tuple #[.int .i64 r, .int .u32 z]) ∧ R w' := by
  have HC := Lib.hid hc
  obtain ⟨⟨c0, c1, c2, c3, c4, c5, c6, c7, c8, c9, c10⟩, ⟨z2, z5, z6, z7, z8, z9, z10⟩, lt0⟩ := cellsS (h.cells 1 rfl)
  clear h hc
  go_enter Try.func56, Try.ntmps56
  go_wp2_with (go_at_call 72; refine HC.out.mono ?_; rintro e w2 ⟨rfl, h2⟩; (have H2 := Lib.hid h2); clear h2)
  go_ret2
  exact ⟨rfl, H2.out⟩

set_option maxRecDepth 20000 in
set_option maxHeartbeats 4000000 in
theorem sv_withdraw_hit {w0 w : World} {q p : Nat} {ws : List Int} {ns : List Note} {L : List Asn} (push : Bool) (i d pl lk x fd st : Int) (off : Bool) (a : Nat) (v now : Int) (h : St w0 (refA q ws ns :: svB Y p a push i d pl 4 lk x fd st off :: L) w) (ha : a < ws.length) (hk : ns.length ≤ 1000000000000) (x0 : 0 ≤ x) (x1 : x < 18446744073709551616) (hv : sClear x = v) (hx : rdW ws a = x) :
    Calls Try.prog 56 #[.pointer (some ⟨p, 12, none⟩), .pointer (some ⟨q, 0, none⟩), .int .u64 now] w fun e w' => e = .returned (.tuple #[.int .i64 4, .int .u32 0]) ∧ St w0 (refA q (ws.set a v) (ns ++ [⟨99, a, x, v, true⟩]) :: svB Y p a push i d pl 6 lk x fd 4 off :: L) w' := by
  have hvr : 0 ≤ v ∧ v < 18446744073709551616 := by subst hv; exact sClear_rng x
  obtain ⟨v0, v1⟩ := hvr
  have H := Lib.hid h
  have HX := Lib.hid hx
  have HV := Lib.hid hv
  obtain ⟨⟨c0, c1, c2, c3, c4, c5, c6, c7, c8, c9, c10⟩, ⟨z2, z5, z6, z7, z8, z9, z10⟩, lt0⟩ := cellsS (h.cells 1 rfl)
  clear h hx hv
  go_enter Try.func56, Try.ntmps56
  go_wp2
  go_region_held3 (fun w' => w'.cell? ⟨p, 12, none⟩ = some (.int .i64 a) ∧ w'.cell? ⟨p, 19, none⟩ = some (.int .u64 x)) (first | exact ⟨c0, c7⟩) (first | (go_at_call 69; refine (rswap_st H.out.drew a x v HX.out ha hk v0 v1).mono ?_; rintro e w3 ⟨rfl, h3⟩; (have H3 := Lib.hid h3); clear c0 c1 c2 c3 c4 c5 c6 c7 c8 c9 c10 z2 z5 z6 z7 z8 z9 z10 lt0; obtain ⟨⟨c0, c1, c2, c3, c4, c5, c6, c7, c8, c9, c10⟩, ⟨z2, z5, z6, z7, z8, z9, z10⟩, lt0⟩ := cellsS (h3.cells 1 rfl); clear h3) | (go_at_call 73; refine (r9_clear x v _ HV.out x0 x1).mono ?_; rintro e w2 ⟨rfl, rfl⟩))
  go_wp2_with (go_at_call 65; refine (sv_end push a i d pl 4 lk x fd st off 4 0 H3.out (by simp)).mono ?_; rintro e w9 ⟨rfl, h9⟩; (have H9 := Lib.hid h9); clear c0 c1 c2 c3 c4 c5 c6 c7 c8 c9 c10 z2 z5 z6 z7 z8 z9 z10 lt0; obtain ⟨⟨c0, c1, c2, c3, c4, c5, c6, c7, c8, c9, c10⟩, ⟨z2, z5, z6, z7, z8, z9, z10⟩, lt0⟩ := cellsS (h9.cells 1 rfl); clear h9)
  go_ret2
  exact ⟨rfl, H9.out⟩

set_option maxRecDepth 20000 in
set_option maxHeartbeats 4000000 in
theorem sv_withdraw_lost {w0 w : World} {q p : Nat} {ws : List Int} {ns : List Note} {L : List Asn} (push : Bool) (i d pl lk x fd st : Int) (off : Bool) (a : Nat) (v now : Int) (h : St w0 (refA q ws ns :: svB Y p a push i d pl 4 lk x fd st off :: L) w) (ha : a < ws.length) (hk : ns.length ≤ 1000000000000) (x0 : 0 ≤ x) (x1 : x < 18446744073709551616) (hv : sClear x = v) (y : Int) (hx : rdW ws a = y) (hne : (y == x) = false) :
    Calls Try.prog 56 #[.pointer (some ⟨p, 12, none⟩), .pointer (some ⟨q, 0, none⟩), .int .u64 now] w fun e w' => e = .returned (.tuple #[.int .i64 0, .int .u32 0]) ∧ St w0 (refA q ws (ns ++ [⟨99, a, y, y, false⟩]) :: svB Y p a push i d pl 3 lk x fd st off :: L) w' := by
  have hvr : 0 ≤ v ∧ v < 18446744073709551616 := by subst hv; exact sClear_rng x
  obtain ⟨v0, v1⟩ := hvr
  have H := Lib.hid h
  have HX := Lib.hid hx
  have HV := Lib.hid hv
  obtain ⟨⟨c0, c1, c2, c3, c4, c5, c6, c7, c8, c9, c10⟩, ⟨z2, z5, z6, z7, z8, z9, z10⟩, lt0⟩ := cellsS (h.cells 1 rfl)
  clear h hx hv
  go_enter Try.func56, Try.ntmps56
  go_wp2
  go_region_held3 (fun w' => w'.cell? ⟨p, 12, none⟩ = some (.int .i64 a) ∧ w'.cell? ⟨p, 19, none⟩ = some (.int .u64 x)) (first | exact ⟨c0, c7⟩) (first | (go_at_call 69; refine (rswap_lost H.out.drew a y x v HX.out ha hk hne).mono ?_; rintro e w3 ⟨rfl, h3⟩; (have H3 := Lib.hid h3); clear c0 c1 c2 c3 c4 c5 c6 c7 c8 c9 c10 z2 z5 z6 z7 z8 z9 z10 lt0; obtain ⟨⟨c0, c1, c2, c3, c4, c5, c6, c7, c8, c9, c10⟩, ⟨z2, z5, z6, z7, z8, z9, z10⟩, lt0⟩ := cellsS (h3.cells 1 rfl); clear h3) | (go_at_call 73; refine (r9_clear x v _ HV.out x0 x1).mono ?_; rintro e w2 ⟨rfl, rfl⟩))
  go_wp2
  go_ret2
  exact ⟨rfl, H3.out.setAt 1 rfl 17 _⟩

set_option maxRecDepth 20000 in
set_option maxHeartbeats 4000000 in
theorem sv_found {w0 w : World} {q p : Nat} {ws : List Int} {ns : List Note} {L : List Asn} (push : Bool) (i d pl lk x fd st : Int) (off : Bool) (a : Nat) (y v now z : Int) (h : St w0 (refA q ws ns :: svB Y p a push i d pl 5 lk x fd st off :: L) w) (ha : a < ws.length) (hk : ns.length ≤ 1000000000000) (f0 : 0 ≤ fd) (f1 : fd < 18446744073709551616) (hy : rdW ws a = y) (hv : sClear fd = v) (hz : z = if (1 : Int) = 1 ∧ push = false then i else 0) :
    Calls Try.prog 56 #[.pointer (some ⟨p, 12, none⟩), .pointer (some ⟨q, 0, none⟩), .int .u64 now] w fun e w' => e = .returned (.tuple #[.int .i64 1, .int .u32 z]) ∧ St w0 (refA q (ws.set a v) (ns ++ [⟨115, a, y, v, true⟩]) :: svB Y p a push i d pl 6 lk x fd 1 off :: L) w' := by
  have hvr : 0 ≤ v ∧ v < 18446744073709551616 := by subst hv; exact sClear_rng fd
  obtain ⟨v0, v1⟩ := hvr
  have H := Lib.hid h
  have HY := Lib.hid hy
  have HV := Lib.hid hv
  have HZ := Lib.hid hz
  obtain ⟨⟨c0, c1, c2, c3, c4, c5, c6, c7, c8, c9, c10⟩, ⟨z2, z5, z6, z7, z8, z9, z10⟩, lt0⟩ := cellsS (h.cells 1 rfl)
  clear h hy hv hz
  go_enter Try.func56, Try.ntmps56
  go_wp2
  go_region_held3 (fun w' => w'.cell? ⟨p, 12, none⟩ = some (.int .i64 a) ∧ w'.cell? ⟨p, 20, none⟩ = some (.int .u64 fd)) (first | exact ⟨c0, c8⟩) (first | (go_at_call 74; refine (rstore_st H.out.drew a y v HY.out ha hk v0 v1).mono ?_; rintro e w3 ⟨rfl, h3⟩; (have H3 := Lib.hid h3); clear c0 c1 c2 c3 c4 c5 c6 c7 c8 c9 c10 z2 z5 z6 z7 z8 z9 z10 lt0; obtain ⟨⟨c0, c1, c2, c3, c4, c5, c6, c7, c8, c9, c10⟩, ⟨z2, z5, z6, z7, z8, z9, z10⟩, lt0⟩ := cellsS (h3.cells 1 rfl); clear h3) | (go_at_call 73; refine (r9_clear fd v _ HV.out f0 f1).mono ?_; rintro e w2 ⟨rfl, rfl⟩))
  go_wp2_with (go_at_call 65; refine (sv_end push a i d pl 5 lk x fd st off 1 z H3.out (by first | exact HZ.out | (rw [HZ.out]; simp))).mono ?_; rintro e w9 ⟨rfl, h9⟩; (have H9 := Lib.hid h9); clear c0 c1 c2 c3 c4 c5 c6 c7 c8 c9 c10 z2 z5 z6 z7 z8 z9 z10 lt0; obtain ⟨⟨c0, c1, c2, c3, c4, c5, c6, c7, c8, c9, c10⟩, ⟨z2, z5, z6, z7, z8, z9, z10⟩, lt0⟩ := cellsS (h9.cells 1 rfl); clear h9)
  go_ret2
  exact ⟨rfl, H9.out⟩

set_option maxRecDepth 20000 in
set_option maxHeartbeats 4000000 in
theorem sv_over {w0 w : World} {q p : Nat} {ws : List Int} {ns : List Note} {L : List Asn} (push : Bool) (a i d pl lk x fd st : Int) (off : Bool) (now z : Int) (h : St w0 (refA q ws ns :: svB Y p a push i d pl 6 lk x fd st off :: L) w) (hz : z = if st = 1 ∧ push = false then i else 0) :
    Calls Try.prog 56 #[.pointer (some ⟨p, 12, none⟩), .pointer (some ⟨q, 0, none⟩), .int .u64 now] w fun e w' => e = .returned (.tuple #[.int .i64 st, .int .u32 z]) ∧ St w0 (refA q ws ns :: svB Y p a push i d pl 6 lk x fd st off :: L) w' := by
  have H := Lib.hid h
  have HZ := Lib.hid hz
  obtain ⟨⟨c0, c1, c2, c3, c4, c5, c6, c7, c8, c9, c10⟩, ⟨z2, z5, z6, z7, z8, z9, z10⟩, lt0⟩ := cellsS (h.cells 1 rfl)
  clear h hz
  go_enter Try.func56, Try.ntmps56
  go_wp2_with (go_at_call 65; refine (sv_end push a i d pl 6 lk x fd st off st z H.out (by first | exact HZ.out | (rw [HZ.out]; simp))).mono ?_; rintro e w9 ⟨rfl, h9⟩; (have H9 := Lib.hid h9); clear c0 c1 c2 c3 c4 c5 c6 c7 c8 c9 c10 z2 z5 z6 z7 z8 z9 z10 lt0; obtain ⟨⟨c0, c1, c2, c3, c4, c5, c6, c7, c8, c9, c10⟩, ⟨z2, z5, z6, z7, z8, z9, z10⟩, lt0⟩ := cellsS (h9.cells 1 rfl); clear h9)
  go_ret2
  exact ⟨rfl, H9.out⟩
end Go.Proofs.Ythnjeiandfdpgaa
