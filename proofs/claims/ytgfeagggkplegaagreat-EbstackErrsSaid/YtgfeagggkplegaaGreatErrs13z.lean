/-
  EbstackErrs: all ways.
-/
import Derived.Test.YtgfeagggkplegaaGreatErrs13a
import Derived.Test.YtgfeagggkplegaaGreatErrs13b
import Derived.Test.YtgfeagggkplegaaGreatErrs13c
import Derived.Test.YtgfeagggkplegaaGreatErrs13d
import Derived.Test.YtgfeagggkplegaaGreatErrs13e
import Derived.Test.YtgfeagggkplegaaGreatErrs13f
import Derived.Test.YtgfeagggkplegaaGreatOpen
import Derived.Test.YtgfeagggkplegaaGreatOpen2
namespace Go.Proofs.YtgfeagggkplegaaGreat
open Go.RowKit
set_option linter.unusedVariables false
set_option linter.unusedSimpArgs false

theorem ebstackErrs_walk (n s h t bud base wait rg ex v : Int) (w : World) (x0 : (Lit.int .i64 n).wf = true) (x1 : (Lit.int .i64 s).wf = true) (x2 : (Lit.int .i64 h).wf = true) (x3 : (Lit.int .u32 t).wf = true) (x4 : (Lit.int .i64 bud).wf = true) (x5 : (Lit.int .i64 base).wf = true) (x6 : (Lit.int .u64 wait).wf = true) (x7 : (Lit.int .i64 rg).wf = true) (x8 : (Lit.int .i64 ex).wf = true) (x9 : (Lit.int .u64 v).wf = true) :
    Calls Tryz.prog 3 #[cfgE n s h t bud base wait, polV rg ex, .int .u64 v] w fun e w' => e = .returned (.bool true) ∧ Below w.heap.size w w' := by
  obtain ⟨v0, v1⟩ := rngU64 x9
  by_cases k0 : 1 ≤ n
  case neg => exact errs_no0 n s h t bud base wait rg ex v w v0 v1  (by omega)
  by_cases k1 : n ≤ 64
  case neg => exact errs_no1 n s h t bud base wait rg ex v w v0 v1 (by omega) (by omega)
  by_cases k2 : 0 ≤ s
  case neg => exact errs_no2 n s h t bud base wait rg ex v w v0 v1 (by omega) (by omega) (by omega)
  by_cases k3 : s ≤ 16
  case neg => exact errs_no3 n s h t bud base wait rg ex v w v0 v1 (by omega) (by omega) (by omega) (by omega)
  by_cases k4 : 0 ≤ h
  case neg => exact errs_no4 n s h t bud base wait rg ex v w v0 v1 (by omega) (by omega) (by omega) (by omega) (by omega)
  by_cases k5 : h ≤ 64
  case neg => exact errs_no5 n s h t bud base wait rg ex v w v0 v1 (by omega) (by omega) (by omega) (by omega) (by omega) (by omega)
  by_cases k6 : 0 ≤ bud
  case neg => exact errs_no6 n s h t bud base wait rg ex v w v0 v1 (by omega) (by omega) (by omega) (by omega) (by omega) (by omega) (by omega)
  by_cases k7 : bud ≤ 16
  case neg => exact errs_no7 n s h t bud base wait rg ex v w v0 v1 (by omega) (by omega) (by omega) (by omega) (by omega) (by omega) (by omega) (by omega)
  by_cases k8 : 1 ≤ base
  case neg => exact errs_no8 n s h t bud base wait rg ex v w v0 v1 (by omega) (by omega) (by omega) (by omega) (by omega) (by omega) (by omega) (by omega) (by omega)
  by_cases k9 : base ≤ 64
  case neg => exact errs_no9 n s h t bud base wait rg ex v w v0 v1 (by omega) (by omega) (by omega) (by omega) (by omega) (by omega) (by omega) (by omega) (by omega) (by omega)
  by_cases e0 : 0 ≤ ex
  case neg => exact errs_ex0 n s h t bud base wait rg ex v w v0 v1 (by omega) (by omega) (by omega) (by omega) (by omega) (by omega) (by omega) (by omega) (by omega) (by omega) (by omega)
  by_cases e1 : ex ≤ 6
  case neg => exact errs_ex1 n s h t bud base wait rg ex v w v0 v1 (by omega) (by omega) (by omega) (by omega) (by omega) (by omega) (by omega) (by omega) (by omega) (by omega) (by omega) (by omega)
  by_cases r0 : 1 ≤ rg
  · by_cases r1 : rg ≤ s
    · exact errs_fit1 n s h t bud base wait rg ex v w v0 v1 (by omega) (by omega) (by omega) (by omega) (by omega) (by omega) (by omega) (by omega) (by omega) (by omega) (by omega) (by omega) (by omega) (by omega)
    · by_cases z : s = 0
      · exact errs_far0 n s h t bud base wait rg ex v w v0 v1 (by omega) (by omega) (by omega) (by omega) (by omega) (by omega) (by omega) (by omega) (by omega) (by omega) (by omega) (by omega) (by omega) (by omega) (by omega)
      · exact errs_far1 n s h t bud base wait rg ex v w v0 v1 (by omega) (by omega) (by omega) (by omega) (by omega) (by omega) (by omega) (by omega) (by omega) (by omega) (by omega) (by omega) (by omega) (by omega) (by omega)
  · by_cases z : s = 0
    · by_cases y : rg = 0
      · exact errs_fit0 n s h t bud base wait rg ex v w v0 v1 (by omega) (by omega) (by omega) (by omega) (by omega) (by omega) (by omega) (by omega) (by omega) (by omega) (by omega) (by omega) (by omega) (by omega) (by omega)
      · exact errs_low0 n s h t bud base wait rg ex v w v0 v1 (by omega) (by omega) (by omega) (by omega) (by omega) (by omega) (by omega) (by omega) (by omega) (by omega) (by omega) (by omega) (by omega) (by omega) (by omega)
    · exact errs_low1 n s h t bud base wait rg ex v w v0 v1 (by omega) (by omega) (by omega) (by omega) (by omega) (by omega) (by omega) (by omega) (by omega) (by omega) (by omega) (by omega) (by omega) (by omega)
end Go.Proofs.YtgfeagggkplegaaGreat
