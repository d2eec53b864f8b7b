/-
  Chapter 7's example; a fresh memory.
-/
import Derived.Test.YtndigbkhaajjoaaEnds7
import Derived.Test.YtndigbkhaajjoaaLst2
import Derived.Test.YtndigbkhaajjoaaCommonA
namespace Go.Proofs.Ytndigbkhaajjoaa
open Go.RowKit
set_option linter.unusedVariables false
set_option linter.unusedSimpArgs false

theorem rowRd {w : World} {base N : Nat} {a : Option Addr} {c : Nat} {ws : List Int} (ho : w.ownsRow base 35 1 (.slice a N c) N (wsV ws)) (hl : ws.length = N) : RdU w a ws := by
  subst hl
  exact (row_rdU ho).1
theorem TM.ok_next {S : TM} {ws : List Int} (h : S.ok ws.length) (hr : ∀ i, i < ws.length → 0 ≤ rdW ws i ∧ rdW ws i < 18446744073709551616) : (S.step ws).S.ok (S.step ws).ws.length := by
  rw [TM.step_len]
  exact TM.step_ok h hr
/-- A step of a Take whose outcome is computed. -/
theorem tk_calc {w0 w : World} {q p : Nat} {ws : List Int} {ns : List Note} {L : List Asn} {S : TM} (r z : Int) (hr : (S.step ws).r = r) (hz : (S.step ws).S.told r = z) (hg : S.give = false) (h : St w0 (memA q ws ns :: tlA p S :: L) w) (hok : S.ok ws.length) (hk : ns.length ≤ 1000000000000) :
    Calls Try.prog 39 #[.pointer (some ⟨p, 0, none⟩), .pointer (some ⟨q, 0, none⟩)] w fun e w' => e = .returned (.tuple #[.int .i64 r, .int .u32 z]) ∧ St w0 (memA q (S.step ws).ws (ns ++ (S.step ws).nt) :: tlA p (S.step ws).S :: L) w' := by
  subst hr
  exact tk_out rfl rfl hz hg h hok hk
def shT0 : TM := newTk 2 0 0 0 1
def shU0 : TM := newTk 2 0 0 0 0
def shW0 : List Int := frL 0 2 2 0 6
def shO1 : TOut := shT0.step shW0
def shO2 : TOut := shO1.S.step shO1.ws
def shO3 : TOut := shO2.S.step shO2.ws
def shO4 : TOut := shU0.step shO3.ws
theorem shR : shO1.r = 0 ∧ shO2.r = 0 ∧ shO3.r = 1 ∧ shO3.S.told 1 = 1 ∧ shO4.r = 2 := by decide
set_option maxRecDepth 20000 in
set_option maxHeartbeats 8000000 in
theorem shown7 (w : World) : Calls Try.prog 25 #[] w fun e w' => e = .returned (.bool true) ∧ Below w.heap.size w w' := by
  have H := Lib.hid ((St.nil w).alloc #[.int .i64 2, .int .i64 0, .int .i64 0, .int .u32 0] 26)
  obtain ⟨q0, q1, q2, q3⟩ := cells4 (H.out.cells 0 rfl)
  go_enter Try.func25, Try.ntmps25
  go_wp2_with (first | ((have _h := H7); go_at_call 39; refine (tk_calc (S := shU0) (ws := shO3.ws) 2 0 shR.2.2.2.2 rfl rfl H7.out (newTk_ok 2 0 0 0 0 _) (by decide)).mono ?_; rintro e w8 ⟨rfl, h⟩; (have H8 := Lib.hid (h)); clear h q0 q1 q2 q3; clear _h) | ((have _h := H6); go_at_call 39; refine (tk_calc (S := shO2.S) (ws := shO2.ws) 1 1 shR.2.2.1 shR.2.2.2.1 rfl H6.out HOK2.out (by decide)).mono ?_; rintro e w7 ⟨rfl, h⟩; (have H7 := Lib.hid (h.re 3 [0, 2, 1])); clear h; clear q0 q1 q2 q3; (obtain ⟨q0, q1, q2, q3⟩ := cells4 (H7.out.cells 3 rfl)); clear _h) | ((have _h := H5); go_at_call 39; refine (tk_calc (S := shO1.S) (ws := shO1.ws) 0 0 shR.2.1 rfl rfl H5.out HOK1.out (by decide)).mono ?_; rintro e w6 ⟨rfl, h⟩; (have H6 := Lib.hid (h)); (have HOK2 : Hid (shO2.S.ok shO2.ws.length) := Lib.hid (TM.ok_next HOK1.out fun i hi => H5.out.rng hi)); clear h; clear q0 q1 q2 q3; (obtain ⟨q0, q1, q2, q3⟩ := cells4 (H6.out.cells 3 rfl)); clear _h) | ((have _h := H4); go_at_call 39; refine (tk_calc 0 0 shR.1 rfl rfl H4.out (newTk_ok 2 0 0 0 1 _) (by decide)).mono ?_; rintro e w5 ⟨rfl, h⟩; (have H5 := Lib.hid (h)); (have HOK1 : Hid (shO1.S.ok shO1.ws.length) := Lib.hid (TM.ok_next (newTk_ok 2 0 0 0 1 _) fun i hi => H4.out.rng hi)); clear h; clear q0 q1 q2 q3; (obtain ⟨q0, q1, q2, q3⟩ := cells4 (H5.out.cells 3 rfl)); clear _h) | ((have _h := H3); go_at_call 36; refine (take_new 2 0 0 0 0 H3.out).mono ?_; rintro e w4 ⟨p2, rfl, h⟩; (have H4 := Lib.hid (h.re 3 [1, 2, 0])); clear h; clear q0 q1 q2 q3; (obtain ⟨q0, q1, q2, q3⟩ := cells4 (H4.out.cells 3 rfl)); clear _h) | ((have _h := H2); go_at_call 36; refine (take_new 2 0 0 0 1 H2.out).mono ?_; rintro e w3 ⟨p, rfl, h⟩; (have H3 := Lib.hid (h.swap)); clear h; clear q0 q1 q2 q3; (obtain ⟨q0, q1, q2, q3⟩ := cells4 (H3.out.cells 2 rfl)); clear _h) | ((have _h := H1); go_at_call 26; refine (new_st H1.out.tail (some ⟨_, 0, none⟩) _ 6 shW0 (rowRd (H1.out.row 0 rfl) (frL_len _ _ _ _ _)) (by decide) (frL_rng (by decide) (by decide) (by decide)) (frL_len _ _ _ _ _)).mono ?_; rintro e w2 ⟨q, rfl, h⟩; (have H2 := Lib.hid (h)); clear h; clear q0 q1 q2 q3; (obtain ⟨q0, q1, q2, q3⟩ := cells4 (H2.out.cells 1 rfl)); clear _h) | ((have _h := H); go_at_call 16; refine (fresh_ok 2 0 0 0 0 6 H.out (by decide) rfl (by decide) (by decide) (by decide)).mono ?_; rintro e w1 ⟨g, rfl, h⟩; (have H1 := Lib.hid (h)); clear h; clear q0 q1 q2 q3; (obtain ⟨q0, q1, q2, q3⟩ := cells4 (H1.out.cells 1 rfl)); clear _h))
  go_ret
  exact ⟨rfl, H8.out.bel⟩
end Go.Proofs.Ytndigbkhaajjoaa
