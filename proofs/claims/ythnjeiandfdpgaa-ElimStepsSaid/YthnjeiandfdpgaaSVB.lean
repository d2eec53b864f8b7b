/-
  The steps of a visit of the document: the first, a claim, an offer.
-/
import Derived.Test.YthnjeiandfdpgaaSV
namespace Go.Proofs.Ythnjeiandfdpgaa
open Go.RowKit
set_option linter.unusedVariables false
set_option linter.unusedSimpArgs false
variable {Y : Nat → Value}

set_option maxRecDepth 20000 in
set_option maxHeartbeats 4000000 in
theorem sv_first_meets {w0 w : World} {q p : Nat} {ws : List Int} {ns : List Note} {L : List Asn} (push : Bool) (i d pl lk x fd st : Int) (off : Bool) (a : Nat) (y now : Int) (h : St w0 (refA q ws ns :: svB Y p a push i d pl 0 lk x fd st off :: L) w) (ha : a < ws.length) (hy : rdW ws a = y) (hk : ns.length ≤ 1000000000000) (hm : sMeets y push = true) :
    Calls Try.prog 56 #[.pointer (some ⟨p, 12, none⟩), .pointer (some ⟨q, 0, none⟩), .int .u64 now] w fun e w' => e = .returned (.tuple #[.int .i64 0, .int .u32 0]) ∧ St w0 (refA q ws (ns ++ [⟨108, a, y, y, true⟩]) :: svB Y p a push i d pl 1 lk y fd st off :: L) w' := by
  have hyr := h.rrng ha
  rw [hy] at hyr
  obtain ⟨y0, y1⟩ := hyr
  have H := Lib.hid h
  have HY := Lib.hid hy
  have HM := Lib.hid hm
  obtain ⟨⟨c0, c1, c2, c3, c4, c5, c6, c7, c8, c9, c10⟩, ⟨z2, z5, z6, z7, z8, z9, z10⟩, lt0⟩ := cellsS (h.cells 1 rfl)
  clear h hy hm
  go_enter Try.func56, Try.ntmps56
  go_wp2_with (first | (go_at_call 64; refine (rload_st H.out a y HY.out ha hk).mono ?_; rintro e w2 ⟨rfl, h2⟩; (have H2 := Lib.hid h2); clear c0 c1 c2 c3 c4 c5 c6 c7 c8 c9 c10 z2 z5 z6 z7 z8 z9 z10 lt0; obtain ⟨⟨c0, c1, c2, c3, c4, c5, c6, c7, c8, c9, c10⟩, ⟨z2, z5, z6, z7, z8, z9, z10⟩, lt0⟩ := cellsS (h2.cells 1 rfl); clear h2) | (go_at_call 66; refine (r9_meets y push true _ HM.out y0 y1).mono ?_; rintro e w3 ⟨rfl, rfl⟩))
  go_ret2
  exact ⟨rfl, (H2.out.setAt 1 rfl 19 (.int .u64 y)).setAt 1 rfl 17 _⟩

set_option maxRecDepth 20000 in
set_option maxHeartbeats 4000000 in
theorem sv_first_empty {w0 w : World} {q p : Nat} {ws : List Int} {ns : List Note} {L : List Asn} (push : Bool) (i d pl lk x fd st : Int) (off : Bool) (a : Nat) (y now : Int) (h : St w0 (refA q ws ns :: svB Y p a push i d pl 0 lk x fd st off :: L) w) (ha : a < ws.length) (hy : rdW ws a = y) (hk : ns.length ≤ 1000000000000) (hm : sMeets y push = false) (hs : sSt y = 0) :
    Calls Try.prog 56 #[.pointer (some ⟨p, 12, none⟩), .pointer (some ⟨q, 0, none⟩), .int .u64 now] w fun e w' => e = .returned (.tuple #[.int .i64 0, .int .u32 0]) ∧ St w0 (refA q ws (ns ++ [⟨108, a, y, y, true⟩]) :: svB Y p a push i d pl 2 lk y fd st off :: L) w' := by
  have hyr := h.rrng ha
  rw [hy] at hyr
  obtain ⟨y0, y1⟩ := hyr
  have H := Lib.hid h
  have HY := Lib.hid hy
  have HM := Lib.hid hm
  have HS := Lib.hid hs
  obtain ⟨⟨c0, c1, c2, c3, c4, c5, c6, c7, c8, c9, c10⟩, ⟨z2, z5, z6, z7, z8, z9, z10⟩, lt0⟩ := cellsS (h.cells 1 rfl)
  clear h hy hm hs
  go_enter Try.func56, Try.ntmps56
  go_wp2_with (first | (go_at_call 64; refine (rload_st H.out a y HY.out ha hk).mono ?_; rintro e w2 ⟨rfl, h2⟩; (have H2 := Lib.hid h2); clear c0 c1 c2 c3 c4 c5 c6 c7 c8 c9 c10 z2 z5 z6 z7 z8 z9 z10 lt0; obtain ⟨⟨c0, c1, c2, c3, c4, c5, c6, c7, c8, c9, c10⟩, ⟨z2, z5, z6, z7, z8, z9, z10⟩, lt0⟩ := cellsS (h2.cells 1 rfl); clear h2) | (go_at_call 66; refine (r9_meets y push false _ HM.out y0 y1).mono ?_; rintro e w3 ⟨rfl, rfl⟩) | (go_at_call 67; refine (r9_state y 0 _ HS.out y0 y1).mono ?_; rintro e w4 ⟨rfl, rfl⟩))
  go_ret2
  exact ⟨rfl, (H2.out.setAt 1 rfl 19 (.int .u64 y)).setAt 1 rfl 17 _⟩

set_option maxRecDepth 20000 in
set_option maxHeartbeats 4000000 in
theorem sv_first_other {w0 w : World} {q p : Nat} {ws : List Int} {ns : List Note} {L : List Asn} (push : Bool) (i d pl lk x fd st : Int) (off : Bool) (a : Nat) (y now : Int) (h : St w0 (refA q ws ns :: svB Y p a push i d pl 0 lk x fd st off :: L) w) (ha : a < ws.length) (hy : rdW ws a = y) (hk : ns.length ≤ 1000000000000) (hm : sMeets y push = false) (s : Int) (hs : sSt y = s) (hne : (s == 0) = false) :
    Calls Try.prog 56 #[.pointer (some ⟨p, 12, none⟩), .pointer (some ⟨q, 0, none⟩), .int .u64 now] w fun e w' => e = .returned (.tuple #[.int .i64 3, .int .u32 0]) ∧ St w0 (refA q ws (ns ++ [⟨108, a, y, y, true⟩]) :: svB Y p a push i d pl 6 lk y fd 3 off :: L) w' := by
  have hyr := h.rrng ha
  rw [hy] at hyr
  obtain ⟨y0, y1⟩ := hyr
  have H := Lib.hid h
  have HY := Lib.hid hy
  have HM := Lib.hid hm
  have HS := Lib.hid hs
  obtain ⟨⟨c0, c1, c2, c3, c4, c5, c6, c7, c8, c9, c10⟩, ⟨z2, z5, z6, z7, z8, z9, z10⟩, lt0⟩ := cellsS (h.cells 1 rfl)
  clear h hy hm hs
  go_enter Try.func56, Try.ntmps56
  go_wp2_with (first | (go_at_call 64; refine (rload_st H.out a y HY.out ha hk).mono ?_; rintro e w2 ⟨rfl, h2⟩; (have H2 := Lib.hid h2); clear c0 c1 c2 c3 c4 c5 c6 c7 c8 c9 c10 z2 z5 z6 z7 z8 z9 z10 lt0; obtain ⟨⟨c0, c1, c2, c3, c4, c5, c6, c7, c8, c9, c10⟩, ⟨z2, z5, z6, z7, z8, z9, z10⟩, lt0⟩ := cellsS (h2.cells 1 rfl); clear h2) | (go_at_call 66; refine (r9_meets y push false _ HM.out y0 y1).mono ?_; rintro e w3 ⟨rfl, rfl⟩) | (go_at_call 67; refine (r9_state y s _ HS.out y0 y1).mono ?_; rintro e w4 ⟨rfl, rfl⟩) | ((have h5 := H2.out.setAt 1 rfl 19 (.int .u64 y)); (go_at_call 65; refine (sv_end push a i d pl 0 lk y fd st off 3 0 h5 (by simp)).mono ?_; rintro e w9 ⟨rfl, h9⟩; (have H9 := Lib.hid h9); clear c0 c1 c2 c3 c4 c5 c6 c7 c8 c9 c10 z2 z5 z6 z7 z8 z9 z10 lt0; obtain ⟨⟨c0, c1, c2, c3, c4, c5, c6, c7, c8, c9, c10⟩, ⟨z2, z5, z6, z7, z8, z9, z10⟩, lt0⟩ := cellsS (h9.cells 1 rfl); clear h9)))
  go_ret2
  exact ⟨rfl, H9.out⟩

set_option maxRecDepth 20000 in
set_option maxHeartbeats 4000000 in
theorem sv_first_out {w0 w : World} {q p : Nat} {ws : List Int} {ns : List Note} {L : List Asn} (push : Bool) (a i d pl lk x fd st : Int) (off : Bool) (now : Int) (h : St w0 (refA q ws ns :: svB Y p a push i d pl 0 lk x fd st off :: L) w) (ha : a < 0 ∨ (ws.length : Int) ≤ a) :
    Calls Try.prog 56 #[.pointer (some ⟨p, 12, none⟩), .pointer (some ⟨q, 0, none⟩), .int .u64 now] w fun e w' => e = .returned (.tuple #[.int .i64 5, .int .u32 0]) ∧ St w0 (refA q ws ns :: svB Y p a push i d pl 6 lk x fd 5 off :: L) w' := by
  have H := Lib.hid h
  have HA := Lib.hid ha
  obtain ⟨⟨c0, c1, c2, c3, c4, c5, c6, c7, c8, c9, c10⟩, ⟨z2, z5, z6, z7, z8, z9, z10⟩, lt0⟩ := cellsS (h.cells 1 rfl)
  clear h ha
  go_enter Try.func56, Try.ntmps56
  go_wp2_with (first | (go_at_call 64; refine (rload_no H.out a HA.out).mono ?_; rintro e w2 ⟨rfl, h2⟩; (have H2 := Lib.hid h2); clear c0 c1 c2 c3 c4 c5 c6 c7 c8 c9 c10 z2 z5 z6 z7 z8 z9 z10 lt0; obtain ⟨⟨c0, c1, c2, c3, c4, c5, c6, c7, c8, c9, c10⟩, ⟨z2, z5, z6, z7, z8, z9, z10⟩, lt0⟩ := cellsS (h2.cells 1 rfl); clear h2) | (go_at_call 65; refine (sv_end push a i d pl 0 lk x fd st off 5 0 H2.out (by simp)).mono ?_; rintro e w9 ⟨rfl, h9⟩; (have H9 := Lib.hid h9); clear c0 c1 c2 c3 c4 c5 c6 c7 c8 c9 c10 z2 z5 z6 z7 z8 z9 z10 lt0; obtain ⟨⟨c0, c1, c2, c3, c4, c5, c6, c7, c8, c9, c10⟩, ⟨z2, z5, z6, z7, z8, z9, z10⟩, lt0⟩ := cellsS (h9.cells 1 rfl); clear h9))
  go_ret2
  exact ⟨rfl, H9.out⟩

set_option maxRecDepth 20000 in
set_option maxHeartbeats 4000000 in
theorem sv_claim_hit {w0 w : World} {q p : Nat} {ws : List Int} {ns : List Note} {L : List Asn} (push : Bool) (i d pl lk x fd st : Int) (off : Bool) (a : Nat) (v now z : Int) (h : St w0 (refA q ws ns :: svB Y p a push i d pl 1 lk x fd st off :: L) w) (ha : a < ws.length) (hk : ns.length ≤ 1000000000000) (x0 : 0 ≤ x) (x1 : x < 18446744073709551616) (i0 : 0 ≤ i) (i1 : i < 4294967296) (hm : sMeets x push = true) (hv : sClaim x push i = v) (hz : z = if push = false then sIx v else 0) (hx : rdW ws a = x) :
    Calls Try.prog 56 #[.pointer (some ⟨p, 12, none⟩), .pointer (some ⟨q, 0, none⟩), .int .u64 now] w fun e w' => e = .returned (.tuple #[.int .i64 1, .int .u32 z]) ∧ St w0 (refA q (ws.set a v) (ns ++ [⟨99, a, x, v, true⟩]) :: svB Y p a push (sIx v) d pl 6 lk x fd 1 off :: L) w' := by
  have hvr : 0 ≤ v ∧ v < 18446744073709551616 := by subst hv; exact sClaim_rng x0 x1
  obtain ⟨v0, v1⟩ := hvr
  have H := Lib.hid h
  have HX := Lib.hid hx
  have HV := Lib.hid hv
  have HM := Lib.hid hm
  have HZ := Lib.hid hz
  obtain ⟨⟨c0, c1, c2, c3, c4, c5, c6, c7, c8, c9, c10⟩, ⟨z2, z5, z6, z7, z8, z9, z10⟩, lt0⟩ := cellsS (h.cells 1 rfl)
  clear h hx hv hm hz
  go_enter Try.func56, Try.ntmps56
  go_wp2
  go_region_held3 (fun w' => w'.cell? ⟨p, 19, none⟩ = some (.int .u64 x) ∧ w'.cell? ⟨p, 13, none⟩ = some (.bool push) ∧ w'.cell? ⟨p, 14, none⟩ = some (.int .u32 i)) (first | exact ⟨c7, c1, c2⟩) ((go_at_call 68; refine (r9_claim x i v push _ HV.out HM.out x0 x1 i0 i1).mono ?_; rintro e w2 ⟨rfl, rfl⟩; (have h2 := H.out.drew); (have H2 := Lib.hid h2); clear c0 c1 c2 c3 c4 c5 c6 c7 c8 c9 c10 z2 z5 z6 z7 z8 z9 z10 lt0; obtain ⟨⟨c0, c1, c2, c3, c4, c5, c6, c7, c8, c9, c10⟩, ⟨z2, z5, z6, z7, z8, z9, z10⟩, lt0⟩ := cellsS (h2.cells 1 rfl); clear h2))
  go_wp2
  go_region_held3 (fun w' => w'.cell? ⟨p, 12, none⟩ = some (.int .i64 a) ∧ w'.cell? ⟨p, 19, none⟩ = some (.int .u64 x)) (first | exact ⟨c0, c7⟩) ((go_at_call 69; refine (rswap_st H2.out.drew a x v HX.out ha hk v0 v1).mono ?_; rintro e w3 ⟨rfl, h3⟩; (have H3 := Lib.hid h3); clear c0 c1 c2 c3 c4 c5 c6 c7 c8 c9 c10 z2 z5 z6 z7 z8 z9 z10 lt0; obtain ⟨⟨c0, c1, c2, c3, c4, c5, c6, c7, c8, c9, c10⟩, ⟨z2, z5, z6, z7, z8, z9, z10⟩, lt0⟩ := cellsS (h3.cells 1 rfl); clear h3))
  go_wp2_with (go_at_call 70; refine (sv_claimed_hit push a i d pl 1 lk x fd st off v z H3.out v0 v1 HZ.out).mono ?_; rintro e w6 ⟨rfl, h6⟩; (have H6 := Lib.hid h6); clear h6)
  go_ret2
  exact ⟨rfl, H6.out⟩

set_option maxRecDepth 20000 in
set_option maxHeartbeats 4000000 in
theorem sv_claim_lost {w0 w : World} {q p : Nat} {ws : List Int} {ns : List Note} {L : List Asn} (push : Bool) (i d pl lk x fd st : Int) (off : Bool) (a : Nat) (v now : Int) (h : St w0 (refA q ws ns :: svB Y p a push i d pl 1 lk x fd st off :: L) w) (ha : a < ws.length) (hk : ns.length ≤ 1000000000000) (x0 : 0 ≤ x) (x1 : x < 18446744073709551616) (i0 : 0 ≤ i) (i1 : i < 4294967296) (hm : sMeets x push = true) (hv : sClaim x push i = v) (y : Int) (hx : rdW ws a = y) (hne : (y == x) = false) :
    Calls Try.prog 56 #[.pointer (some ⟨p, 12, none⟩), .pointer (some ⟨q, 0, none⟩), .int .u64 now] w fun e w' => e = .returned (.tuple #[.int .i64 3, .int .u32 0]) ∧ St w0 (refA q ws (ns ++ [⟨99, a, y, y, false⟩]) :: svB Y p a push i d pl 6 lk x fd 3 off :: L) w' := by
  have hvr : 0 ≤ v ∧ v < 18446744073709551616 := by subst hv; exact sClaim_rng x0 x1
  obtain ⟨v0, v1⟩ := hvr
  have H := Lib.hid h
  have HX := Lib.hid hx
  have HV := Lib.hid hv
  have HM := Lib.hid hm
  obtain ⟨⟨c0, c1, c2, c3, c4, c5, c6, c7, c8, c9, c10⟩, ⟨z2, z5, z6, z7, z8, z9, z10⟩, lt0⟩ := cellsS (h.cells 1 rfl)
  clear h hx hv hm
  go_enter Try.func56, Try.ntmps56
  go_wp2
  go_region_held3 (fun w' => w'.cell? ⟨p, 19, none⟩ = some (.int .u64 x) ∧ w'.cell? ⟨p, 13, none⟩ = some (.bool push) ∧ w'.cell? ⟨p, 14, none⟩ = some (.int .u32 i)) (first | exact ⟨c7, c1, c2⟩) ((go_at_call 68; refine (r9_claim x i v push _ HV.out HM.out x0 x1 i0 i1).mono ?_; rintro e w2 ⟨rfl, rfl⟩; (have h2 := H.out.drew); (have H2 := Lib.hid h2); clear c0 c1 c2 c3 c4 c5 c6 c7 c8 c9 c10 z2 z5 z6 z7 z8 z9 z10 lt0; obtain ⟨⟨c0, c1, c2, c3, c4, c5, c6, c7, c8, c9, c10⟩, ⟨z2, z5, z6, z7, z8, z9, z10⟩, lt0⟩ := cellsS (h2.cells 1 rfl); clear h2))
  go_wp2
  go_region_held3 (fun w' => w'.cell? ⟨p, 12, none⟩ = some (.int .i64 a) ∧ w'.cell? ⟨p, 19, none⟩ = some (.int .u64 x)) (first | exact ⟨c0, c7⟩) ((go_at_call 69; refine (rswap_lost H2.out.drew a y x v HX.out ha hk hne).mono ?_; rintro e w3 ⟨rfl, h3⟩; (have H3 := Lib.hid h3); clear c0 c1 c2 c3 c4 c5 c6 c7 c8 c9 c10 z2 z5 z6 z7 z8 z9 z10 lt0; obtain ⟨⟨c0, c1, c2, c3, c4, c5, c6, c7, c8, c9, c10⟩, ⟨z2, z5, z6, z7, z8, z9, z10⟩, lt0⟩ := cellsS (h3.cells 1 rfl); clear h3))
  go_wp2_with (go_at_call 70; refine (sv_claimed_lost push a i d pl 1 lk x fd st off v H3.out).mono ?_; rintro e w6 ⟨rfl, h6⟩; (have H6 := Lib.hid h6); clear h6)
  go_ret2
  exact ⟨rfl, H6.out⟩

set_option maxRecDepth 20000 in
set_option maxHeartbeats 4000000 in
theorem sv_offer_hit {w0 w : World} {q p : Nat} {ws : List Int} {ns : List Note} {L : List Asn} (push : Bool) (i d pl lk x fd st : Int) (off : Bool) (a : Nat) (v now : Int) (h : St w0 (refA q ws ns :: svB Y p a push i d pl 2 lk x fd st off :: L) w) (ha : a < ws.length) (hk : ns.length ≤ 1000000000000) (x0 : 0 ≤ x) (x1 : x < 18446744073709551616) (i0 : 0 ≤ i) (i1 : i < 4294967296) (hm : sSt x = 0) (hv : sOffer x push i = v) (hx : rdW ws a = x) :
    Calls Try.prog 56 #[.pointer (some ⟨p, 12, none⟩), .pointer (some ⟨q, 0, none⟩), .int .u64 now] w fun e w' => e = .returned (.tuple #[.int .i64 0, .int .u32 0]) ∧ St w0 (refA q (ws.set a v) (ns ++ [⟨99, a, x, v, true⟩]) :: svB Y p a push i d pl 3 lk v fd st true :: L) w' := by
  have hvr : 0 ≤ v ∧ v < 18446744073709551616 := by subst hv; exact sOffer_rng x0 x1
  obtain ⟨v0, v1⟩ := hvr
  have H := Lib.hid h
  have HX := Lib.hid hx
  have HV := Lib.hid hv
  have HM := Lib.hid hm
  obtain ⟨⟨c0, c1, c2, c3, c4, c5, c6, c7, c8, c9, c10⟩, ⟨z2, z5, z6, z7, z8, z9, z10⟩, lt0⟩ := cellsS (h.cells 1 rfl)
  clear h hx hv hm
  go_enter Try.func56, Try.ntmps56
  go_wp2
  go_region_held3 (fun w' => w'.cell? ⟨p, 19, none⟩ = some (.int .u64 x) ∧ w'.cell? ⟨p, 13, none⟩ = some (.bool push) ∧ w'.cell? ⟨p, 14, none⟩ = some (.int .u32 i)) (first | exact ⟨c7, c1, c2⟩) ((go_at_call 71; refine (r9_offer x i v push _ HV.out HM.out x0 x1 i0 i1).mono ?_; rintro e w2 ⟨rfl, rfl⟩; (have h2 := H.out.drew); (have H2 := Lib.hid h2); clear c0 c1 c2 c3 c4 c5 c6 c7 c8 c9 c10 z2 z5 z6 z7 z8 z9 z10 lt0; obtain ⟨⟨c0, c1, c2, c3, c4, c5, c6, c7, c8, c9, c10⟩, ⟨z2, z5, z6, z7, z8, z9, z10⟩, lt0⟩ := cellsS (h2.cells 1 rfl); clear h2))
  go_wp2
  go_region_held3 (fun w' => w'.cell? ⟨p, 12, none⟩ = some (.int .i64 a) ∧ w'.cell? ⟨p, 19, none⟩ = some (.int .u64 x)) (first | exact ⟨c0, c7⟩) ((go_at_call 69; refine (rswap_st H2.out.drew a x v HX.out ha hk v0 v1).mono ?_; rintro e w3 ⟨rfl, h3⟩; (have H3 := Lib.hid h3); clear c0 c1 c2 c3 c4 c5 c6 c7 c8 c9 c10 z2 z5 z6 z7 z8 z9 z10 lt0; obtain ⟨⟨c0, c1, c2, c3, c4, c5, c6, c7, c8, c9, c10⟩, ⟨z2, z5, z6, z7, z8, z9, z10⟩, lt0⟩ := cellsS (h3.cells 1 rfl); clear h3))
  go_wp2
  go_ret2
  exact ⟨rfl, ((H3.out.setAt 1 rfl 19 (.int .u64 v)).setAt 1 rfl 22 (.bool true)).setAt 1 rfl 17 _⟩

set_option maxRecDepth 20000 in
set_option maxHeartbeats 4000000 in
theorem sv_offer_lost {w0 w : World} {q p : Nat} {ws : List Int} {ns : List Note} {L : List Asn} (push : Bool) (i d pl lk x fd st : Int) (off : Bool) (a : Nat) (v now : Int) (h : St w0 (refA q ws ns :: svB Y p a push i d pl 2 lk x fd st off :: L) w) (ha : a < ws.length) (hk : ns.length ≤ 1000000000000) (x0 : 0 ≤ x) (x1 : x < 18446744073709551616) (i0 : 0 ≤ i) (i1 : i < 4294967296) (hm : sSt x = 0) (hv : sOffer x push i = v) (y : Int) (hx : rdW ws a = y) (hne : (y == x) = false) :
    Calls Try.prog 56 #[.pointer (some ⟨p, 12, none⟩), .pointer (some ⟨q, 0, none⟩), .int .u64 now] w fun e w' => e = .returned (.tuple #[.int .i64 3, .int .u32 0]) ∧ St w0 (refA q ws (ns ++ [⟨99, a, y, y, false⟩]) :: svB Y p a push i d pl 6 lk x fd 3 off :: L) w' := by
  have hvr : 0 ≤ v ∧ v < 18446744073709551616 := by subst hv; exact sOffer_rng x0 x1
  obtain ⟨v0, v1⟩ := hvr
  have H := Lib.hid h
  have HX := Lib.hid hx
  have HV := Lib.hid hv
  have HM := Lib.hid hm
  obtain ⟨⟨c0, c1, c2, c3, c4, c5, c6, c7, c8, c9, c10⟩, ⟨z2, z5, z6, z7, z8, z9, z10⟩, lt0⟩ := cellsS (h.cells 1 rfl)
  clear h hx hv hm
  go_enter Try.func56, Try.ntmps56
  go_wp2
  go_region_held3 (fun w' => w'.cell? ⟨p, 19, none⟩ = some (.int .u64 x) ∧ w'.cell? ⟨p, 13, none⟩ = some (.bool push) ∧ w'.cell? ⟨p, 14, none⟩ = some (.int .u32 i)) (first | exact ⟨c7, c1, c2⟩) ((go_at_call 71; refine (r9_offer x i v push _ HV.out HM.out x0 x1 i0 i1).mono ?_; rintro e w2 ⟨rfl, rfl⟩; (have h2 := H.out.drew); (have H2 := Lib.hid h2); clear c0 c1 c2 c3 c4 c5 c6 c7 c8 c9 c10 z2 z5 z6 z7 z8 z9 z10 lt0; obtain ⟨⟨c0, c1, c2, c3, c4, c5, c6, c7, c8, c9, c10⟩, ⟨z2, z5, z6, z7, z8, z9, z10⟩, lt0⟩ := cellsS (h2.cells 1 rfl); clear h2))
  go_wp2
  go_region_held3 (fun w' => w'.cell? ⟨p, 12, none⟩ = some (.int .i64 a) ∧ w'.cell? ⟨p, 19, none⟩ = some (.int .u64 x)) (first | exact ⟨c0, c7⟩) ((go_at_call 69; refine (rswap_lost H2.out.drew a y x v HX.out ha hk hne).mono ?_; rintro e w3 ⟨rfl, h3⟩; (have H3 := Lib.hid h3); clear c0 c1 c2 c3 c4 c5 c6 c7 c8 c9 c10 z2 z5 z6 z7 z8 z9 z10 lt0; obtain ⟨⟨c0, c1, c2, c3, c4, c5, c6, c7, c8, c9, c10⟩, ⟨z2, z5, z6, z7, z8, z9, z10⟩, lt0⟩ := cellsS (h3.cells 1 rfl); clear h3))
  go_wp2_with (go_at_call 65; refine (sv_end push a i d pl 2 lk x fd st off 3 0 H3.out (by simp)).mono ?_; rintro e w9 ⟨rfl, h9⟩; (have H9 := Lib.hid h9); clear c0 c1 c2 c3 c4 c5 c6 c7 c8 c9 c10 z2 z5 z6 z7 z8 z9 z10 lt0; obtain ⟨⟨c0, c1, c2, c3, c4, c5, c6, c7, c8, c9, c10⟩, ⟨z2, z5, z6, z7, z8, z9, z10⟩, lt0⟩ := cellsS (h9.cells 1 rfl); clear h9)
  go_ret2
  exact ⟨rfl, H9.out⟩
end Go.Proofs.Ythnjeiandfdpgaa
