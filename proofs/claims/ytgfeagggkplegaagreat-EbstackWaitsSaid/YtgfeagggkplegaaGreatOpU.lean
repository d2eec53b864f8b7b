/-
  What a thread keeps behind an operation.
-/
import Derived.Test.YtgfeagggkplegaaGreatOpT
namespace Go.Proofs.YtgfeagggkplegaaGreat
open Go.RowKit
set_option linter.unusedVariables false
set_option linter.unusedSimpArgs false

theorem op_thread {w0 w : World} {p : Nat} {S : OM} {L : List Asn} (hS : St w0 (opA p S :: L) w) (hl : S.shelf.length ≤ 1000000000000) :
    Calls Tryz.prog 26 #[.pointer (some ⟨p, 0, none⟩)] w fun e w' => ∃ a c2, e = .returned (thrV (.slice a S.shelf.length c2) S.rg S.ex) ∧ St w0 (row32 (.slice a S.shelf.length c2) S.shelf :: opA p S :: L) w' := by
  obtain ⟨x, h1⟩ := opA_open hS
  refine (o_thread h1 hl).mono fun e w' k => ?_
  obtain ⟨a, c2, k1, k2⟩ := k
  have k3 : St w0 (opB p S.n S.s S.h S.t S.bud S.base S.wait (.slice x.1 S.shelf.length x.2.1) S.rg S.ex S.push S.v S.i S.failed (partV x.2.2 S.part) S.st S.retry :: row32 (.slice x.1 S.shelf.length x.2.1) S.shelf :: partA x.2.2 S.part :: row32 (.slice a S.shelf.length c2) S.shelf :: L) w' := k2.re 4 [1, 2, 3, 0]
  exact ⟨a, c2, k1, (opA_close x k3).re 2 [1, 0]⟩
/-- With nothing on the shelf. -/
theorem op_thread0 {w0 w : World} {p : Nat} {S : OM} {L : List Asn} (rg ex : Int) (hS : St w0 (opA p S :: L) w) (hl : S.shelf = []) (h1 : S.rg = rg) (h2 : S.ex = ex) :
    Calls Tryz.prog 26 #[.pointer (some ⟨p, 0, none⟩)] w fun e w' => ∃ a c2, e = .returned (thrV (.slice a 0 c2) rg ex) ∧ Rd32 w' a [] ∧ St w0 (opA p S :: L) w' := by
  have h0 : S.shelf.length = 0 := by rw [hl]; rfl
  refine (op_thread hS (by omega)).mono fun e w' k => ?_
  obtain ⟨a, c2, k1, k2⟩ := k
  have hr := (row32_rd (k2.rowOf 0 rfl)).1
  rw [hl] at hr
  rw [h0, h1, h2] at k1
  exact ⟨a, c2, k1, hr, k2.tail⟩
theorem heldNil {S : OM} {ws : List Int} (hi : S.i = 0) (hp : ∀ E, S.part ≠ .visit E) : S.held ws = [] := by
  have e : S.heldI ws = 0 := by
    unfold OM.heldI
    cases h : S.part with
    | visit E => exact absurd h (hp E)
    | take A => exact hi
    | give A => exact hi
    | tk T => exact hi
    | acc a b => exact hi
  unfold OM.held
  rw [if_pos e]
theorem op_held0 {w0 w : World} {p : Nat} {S : OM} {L : List Asn} {ws : List Int} {NN kk : Nat} (A : Option Addr) (N C : Nat) (hS : St w0 (opA p S :: L) w) (hok : S.ok NN kk) (hrd : RdU w A ws) (hln : ws.length = N) (hNC : N ≤ C) (hrg : ∀ x ∈ ws, 0 ≤ x ∧ x < 18446744073709551616) (hi : S.i = 0) (hp : ∀ E, S.part ≠ .visit E) :
    Calls Tryz.prog 20 #[.pointer (some ⟨p, 0, none⟩), .slice A N C] w fun e w' => ∃ a c, e = .returned (.slice a 0 c) ∧ Rd32 w' a [] ∧ Below w.heap.size w w' := by
  have h1 := op_held A N C hS hok hrd hln hNC (fun E e => absurd e (hp E)) hrg
  rw [heldNil hi hp] at h1
  refine h1.mono fun e w' k => ?_
  obtain ⟨a, c, k1, k2, _, k3⟩ := k
  exact ⟨a, c, k1, k2, k3⟩
theorem fld_shelf (a : Option Addr) (n c : Nat) (rg ex : Int) (w : World) : (Instr.field 43 (thrV (.slice a n c) rg ex) 0).run Tryz.prog w = .ok (.slice a n c) w := by kernel_rfl
theorem OM.step_over {S : OM} (h : S.st ≠ 0) (ws : List Int) (now : Int) (ds : List Int) : S.step ws now ds = ⟨S.st, S, ws, [], ds⟩ := by
  unfold OM.step
  rw [if_pos h]
end Go.Proofs.YtgfeagggkplegaaGreat
