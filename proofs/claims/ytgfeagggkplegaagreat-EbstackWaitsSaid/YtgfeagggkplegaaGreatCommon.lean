/-
  A step of a visit whose outcome is known.
-/
import Derived.Test.YtgfeagggkplegaaGreatVisitE
import Derived.Test.YtgfeagggkplegaaGreatCommonA
namespace Go.Proofs.YtgfeagggkplegaaGreat
open Go.RowKit
set_option linter.unusedVariables false
set_option linter.unusedSimpArgs false

/-- A step whose outcome is known. -/
theorem vstep {w0 w : World} {q p : Nat} {ws ws' : List Int} {ns ns' nt : List Note} {L : List Asn} {S S' : VM} {now r : Int} (z : Int) (he : S.step ws now = ⟨r, S', ws', nt⟩) (hn : ns ++ nt = ns') (hz : S'.told r = z) (h : St w0 (memA q ws ns :: visA p S :: L) w) (hok : S.ok ws.length ns.length) (hk : ns.length ≤ 1000000000000) :
    Calls Tryz.prog 138 #[.pointer (some ⟨p, 0, none⟩), .pointer (some ⟨q, 0, none⟩), .int .u64 now] w fun e w' => e = .returned (.tuple #[.int .i64 r, .int .u32 z]) ∧ St w0 (memA q ws' ns' :: visA p S' :: L) w' := by
  have := visit_step now h hok hk
  rw [he] at this
  subst hn hz
  exact this
end Go.Proofs.YtgfeagggkplegaaGreat
