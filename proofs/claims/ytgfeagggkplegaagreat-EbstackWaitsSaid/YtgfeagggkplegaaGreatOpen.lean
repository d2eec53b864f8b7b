/-
  How a config that came in is opened: its numbers, each of its kind.
-/
import Derived.Test.YtgfeagggkplegaaGreatProg
import Derived.WalkKit
import Derived.ProofKit
import Derived.OpenShut
import Derived.Lib.SmallJoins
namespace Go.Proofs.YtgfeagggkplegaaGreat
open Go.ChangeShapes Go.WideShapes Go.ChangeAt Go.RowKit Go.Joins
set_option linter.unusedVariables false

/-- A slice of whole numbers that came in. -/
def IsRow (k : IntKind) (w : World) (a : Option Addr) (len cap : Nat) (zs : List Int) : Prop :=
  (a = none ∧ len = 0 ∧ cap = 0 ∧ zs = []) ∨
  ∃ x, a = some x ∧ len ≤ cap ∧ cap ≤ maxLen ∧ zs.length = cap ∧ (∀ i, i < zs.length → w.cell? (x.add i) = some (.int k (zs.getD i 0))) ∧ ∀ n ∈ zs, (Lit.int k n).wf = true

theorem array7 {α : Type} {cs : Array α} (h : cs.size = 7) : ∃ c0 c1 c2 c3 c4 c5 c6, cs = #[c0, c1, c2, c3, c4, c5, c6] := by
  obtain ⟨l⟩ := cs
  match l, h with
  | [c0, c1, c2, c3, c4, c5, c6], _ => exact ⟨c0, c1, c2, c3, c4, c5, c6, rfl⟩

section
variable {H : Type} {enc : TypeId × Value → H} {w : World} {base : Nat} {spare : Nat → Bool} {held : Bool}
set_option maxRecDepth 100000 in
theorem open_cfg {r : Reach} {b0 : Nat} {v : Value} {d : DataW H} {p : List MemPlace} (hv : Value.okWide Tryz.prog w r b0 24 v) (h : DataW.Trod enc Tryz.prog w base spare held 24 v d p) :
   ∃ a b c t : Int, v = .agg #[.int .i64 a, .int .i64 b, .int .i64 c, .int .u32 t] ∧ (Lit.int .i64 a).wf = true ∧ (Lit.int .i64 b).wf = true ∧ (Lit.int .i64 c).wf = true ∧ (Lit.int .u32 t).wf = true := by
 obtain ⟨c0, c1, c2, c3, y0, y1, y2, y3, m, rfl, _, _, h0, h1, h2, h3⟩ := open_agg4 Tryz.underlying24 (by kernel_rfl) (by kernel_rfl) hv h
 obtain ⟨a, e0, _, wa⟩ := DataW.trod_int Tryz.underlying3 h0
 obtain ⟨b, e1, _, wb⟩ := DataW.trod_int Tryz.underlying3 h1
 obtain ⟨c, e2, _, wc⟩ := DataW.trod_int Tryz.underlying3 h2
 obtain ⟨t, e3, _, wt⟩ := DataW.trod_int Tryz.underlying22 h3
 simp only [List.cons.injEq, and_true] at e0 e1 e2 e3
 subst e0 e1 e2 e3
 exact ⟨a, b, c, t, rfl, wa, wb, wc, wt⟩
set_option maxRecDepth 100000 in
theorem open_pol {r : Reach} {b0 : Nat} {v : Value} {d : DataW H} {p : List MemPlace} (hv : Value.okWide Tryz.prog w r b0 29 v) (h : DataW.Trod enc Tryz.prog w base spare held 29 v d p) :
   ∃ a b : Int, v = .agg #[.int .i64 a, .int .i64 b] ∧ (Lit.int .i64 a).wf = true ∧ (Lit.int .i64 b).wf = true := by
 obtain ⟨c0, c1, y0, y1, m, rfl, _, _, h0, h1⟩ := open_agg2 Tryz.underlying29 (by kernel_rfl) (by kernel_rfl) hv h
 obtain ⟨a, e0, _, wa⟩ := DataW.trod_int Tryz.underlying3 h0
 obtain ⟨b, e1, _, wb⟩ := DataW.trod_int Tryz.underlying3 h1
 simp only [List.cons.injEq, and_true] at e0 e1
 subst e0 e1
 exact ⟨a, b, rfl, wa, wb⟩
set_option maxRecDepth 100000 in
theorem open_ecfg {r : Reach} {b0 : Nat} {v : Value} {d : DataW H} {p : List MemPlace} (hv : Value.okWide Tryz.prog w r b0 27 v) (h : DataW.Trod enc Tryz.prog w base spare held 27 v d p) :
   ∃ a b c t e f g : Int, v = .agg #[.int .i64 a, .int .i64 b, .int .i64 c, .int .u32 t, .int .i64 e, .int .i64 f, .int .u64 g] ∧ (Lit.int .i64 a).wf = true ∧ (Lit.int .i64 b).wf = true ∧ (Lit.int .i64 c).wf = true ∧ (Lit.int .u32 t).wf = true ∧ (Lit.int .i64 e).wf = true ∧ (Lit.int .i64 f).wf = true ∧ (Lit.int .u64 g).wf = true := by
 obtain ⟨cs, rfl, hsz⟩ := okWide_struct Tryz.underlying27 hv
 obtain ⟨c0, c1, c2, c3, c4, c5, c6, rfl⟩ := array7 (hsz.trans (by kernel_rfl))
 obtain ⟨fuel, hf⟩ := h
 obtain ⟨xs, n, _, _, _, hl, hall⟩ := DataW.trod_struct Tryz.underlying27 hf
 obtain ⟨x0, x1, x2, x3, rfl⟩ : ∃ x0 x1 x2 x3, xs = [x0, x1, x2, x3] := by
   match xs, hl with
   | [x0, x1, x2, x3], _ => exact ⟨x0, x1, x2, x3, rfl⟩
 have g0 := hall 0 _ rfl
 have g1 := hall 1 _ rfl
 have g2 := hall 2 _ rfl
 have g3 := hall 3 _ rfl
 have z4 : Tryz.prog.cellsOf 24 = 4 := by kernel_rfl
 have z1 : Tryz.prog.cellsOf 3 = 1 := by kernel_rfl
 have z2 : Tryz.prog.cellsOf 25 = 1 := by kernel_rfl
 obtain ⟨y0, y1, y2, y3, m, _, _, h0, h1, h2, h3⟩ := trod_struct4 Tryz.underlying24 g0
 obtain ⟨a, e0, _, wa⟩ := DataW.trod_int Tryz.underlying3 h0
 obtain ⟨b, e1, _, wb⟩ := DataW.trod_int Tryz.underlying3 h1
 obtain ⟨c, e2, _, wc⟩ := DataW.trod_int Tryz.underlying3 h2
 obtain ⟨t, e3, _, wt⟩ := DataW.trod_int Tryz.underlying22 h3
 obtain ⟨e, e4, _, we⟩ := DataW.trod_int Tryz.underlying3 g1
 obtain ⟨f, e5, _, wf⟩ := DataW.trod_int Tryz.underlying3 g2
 obtain ⟨g, e6, _, wg⟩ := DataW.trod_int Tryz.underlying25 g3
 simp [Value.cells, z1, z2, z4, show Tryz.prog.cellsOf 22 = 1 from by kernel_rfl] at e0 e1 e2 e3 e4 e5 e6
 subst e0 e1 e2 e3 e4 e5 e6
 exact ⟨a, b, c, t, e, f, g, rfl, wa, wb, wc, wt, we, wf, wg⟩
end
end Go.Proofs.YtgfeagggkplegaaGreat
