/-
  Package pack: Index, Tag.
-/
import Derived.Test.YtdhkppijeocaoaaProg
import Derived.Test.YtdhkppijeocaoaaBase
namespace Go.Proofs.Ytdhkppijeocaoaa
open Go.RowKit
set_option linter.unusedVariables false
set_option linter.unusedSimpArgs false

set_option maxHeartbeats 1000000 in
theorem index_any (x : Int) (w : World) :
    Calls Try.prog 27 #[.int .u64 x] w fun e w' => e = .returned (.int .u32 (x % 4294967296)) ∧ Below w.heap.size w w' := by
  have f0 : ∀ (w : World), (Instr.typeAssert (.iface 104 (.agg #[])) 20 109 true).run Try.prog w = .ok (.tuple #[.iface 104 (.agg #[]), .bool true]) w := fun _ => by kernel_rfl
  go_enter Try.func27, Try.ntmps27
  go_wp2
  go_ret
  exact ⟨rfl, bl_alloc (bl_refl _) _⟩
set_option maxHeartbeats 1000000 in
theorem tag_any (x : Int) (w : World) (h0 : 0 ≤ x) (h1 : x < 18446744073709551616) :
    Calls Try.prog 15 #[.int .u64 x] w fun e w' => e = .returned (.int .u32 (x / 4294967296)) ∧ Below w.heap.size w w' := by
  have f0 : ∀ (w : World), (Instr.typeAssert (.iface 90 (.agg #[])) 20 109 true).run Try.prog w = .ok (.tuple #[.iface 90 (.agg #[]), .bool true]) w := fun _ => by kernel_rfl
  go_enter Try.func15, Try.ntmps15
  go_wp2
  go_ret
  exact ⟨rfl, bl_alloc (bl_refl _) _⟩
end Go.Proofs.Ytdhkppijeocaoaa
