/-
  BoundGrows: a try more, or slots, or a thread, makes no bound less.
-/
import Derived.Test.YtkcpfoghjoalnaaBndS
import Derived.Test.YtkcpfoghjoalnaaWf
namespace Go.Proofs.Ytkcpfoghjoalnaa
open Go.RowKit
set_option linter.unusedVariables false
set_option linter.unusedSimpArgs false

theorem cells21 {w : World} {a b c : Nat} {x0 x1 x2 x3 x4 x5 x6 y0 y1 y2 y3 y4 y5 y6 z0 z1 z2 z3 z4 z5 z6 : Value} {e : TypeId} (h1 : w.heap[a]? = some (.cells #[x0, x1, x2, x3, x4, x5, x6] e (0, 0))) (h2 : w.heap[b]? = some (.cells #[y0, y1, y2, y3, y4, y5, y6] e (0, 0))) (h3 : w.heap[c]? = some (.cells #[z0, z1, z2, z3, z4, z5, z6] e (0, 0))) :
    w.cell? ⟨a, 0, none⟩ = some x0 ∧ w.cell? ⟨a, 1, none⟩ = some x1 ∧ w.cell? ⟨a, 2, none⟩ = some x2 ∧ w.cell? ⟨a, 3, none⟩ = some x3 ∧ w.cell? ⟨a, 4, none⟩ = some x4 ∧ w.cell? ⟨a, 5, none⟩ = some x5 ∧ w.cell? ⟨a, 6, none⟩ = some x6 ∧ w.cell? ⟨b, 0, none⟩ = some y0 ∧ w.cell? ⟨b, 1, none⟩ = some y1 ∧ w.cell? ⟨b, 2, none⟩ = some y2 ∧ w.cell? ⟨b, 3, none⟩ = some y3 ∧ w.cell? ⟨b, 4, none⟩ = some y4 ∧ w.cell? ⟨b, 5, none⟩ = some y5 ∧ w.cell? ⟨b, 6, none⟩ = some y6 ∧ w.cell? ⟨c, 0, none⟩ = some z0 ∧ w.cell? ⟨c, 1, none⟩ = some z1 ∧ w.cell? ⟨c, 2, none⟩ = some z2 ∧ w.cell? ⟨c, 3, none⟩ = some z3 ∧ w.cell? ⟨c, 4, none⟩ = some z4 ∧ w.cell? ⟨c, 5, none⟩ = some z5 ∧ w.cell? ⟨c, 6, none⟩ = some z6 :=
  ⟨cell_of h1 0, cell_of h1 1, cell_of h1 2, cell_of h1 3, cell_of h1 4, cell_of h1 5, cell_of h1 6, cell_of h2 0, cell_of h2 1, cell_of h2 2, cell_of h2 3, cell_of h2 4, cell_of h2 5, cell_of h2 6, cell_of h3 0, cell_of h3 1, cell_of h3 2, cell_of h3 3, cell_of h3 4, cell_of h3 5, cell_of h3 6⟩
theorem pickI_lt {c n : Int} (h : 0 < n) : 0 ≤ pickI c n ∧ pickI c n < n := pickI_rng h
theorem grow_bud (s bud : Int) (b0 : 0 ≤ bud) : bPush s bud < bPush s (bud + 1) ∧ bPop s bud < bPop s (bud + 1) ∧ bPop s bud < bPush s bud := by
  have h := bVis_rng s
  have e : (bud + 1) * bVis s = bud * bVis s + bVis s := by rw [Int.add_mul]; omega
  unfold bPush bPop
  rw [e]
  omega
theorem grow_slots (s bud : Int) (b0 : 0 ≤ bud) : bPush s bud ≤ bPush 3 bud := by
  have h := bVis_rng s
  have e : bVis 3 = 69 := rfl
  have := Int.mul_le_mul_of_nonneg_left h.2 b0
  unfold bPush
  rw [e]
  omega
set_option maxRecDepth 20000 in
set_option maxHeartbeats 16000000 in
theorem boundGrows_walk (a0 a1 a2 a3 : Int) (w : World) (hx0 : (Lit.int .i64 a0).wf = true) (hx1 : (Lit.int .i64 a1).wf = true) (hx2 : (Lit.int .i64 a2).wf = true) (hx3 : (Lit.int .i64 a3).wf = true) :
    Calls Try.prog 3 #[.int .i64 a0, .int .i64 a1, .int .i64 a2, .int .i64 a3] w fun e w' => e = .returned (.bool true) ∧ Below w.heap.size w w' := by
  obtain ⟨a00, a01⟩ := rngI64 hx0
  obtain ⟨a10, a11⟩ := rngI64 hx1
  obtain ⟨a20, a21⟩ := rngI64 hx2
  obtain ⟨a30, a31⟩ := rngI64 hx3
  have p6 := pickI_rng (c := a0) (n := 6) (by decide)
  have p4 := pickI_rng (c := a1) (n := 4) (by decide)
  have p17 := pickI_rng (c := a2) (n := 17) (by decide)
  have p16 := pickI_rng (c := a2) (n := 16) (by decide)
  have pth := pickI_rng (c := a3) (n := 1000) (by decide)
  obtain ⟨n, hn⟩ : ∃ n, 1 + pickI a0 6 = n := ⟨_, rfl⟩
  obtain ⟨s, hs⟩ : ∃ s, pickI a1 4 = s := ⟨_, rfl⟩
  obtain ⟨b17, hb17⟩ : ∃ b, pickI a2 17 = b := ⟨_, rfl⟩
  obtain ⟨bud, hbud⟩ : ∃ b, pickI a2 16 = b := ⟨_, rfl⟩
  obtain ⟨th, hth⟩ : ∃ b, pickI a3 1000 = b := ⟨_, rfl⟩
  obtain ⟨base, hbase⟩ : ∃ b, 1 + pickI 1 64 = b := ⟨_, rfl⟩
  obtain ⟨wt, hwt⟩ : ∃ b : Int, 1152921504606846976 = b := ⟨_, rfl⟩
  have eb : pickI 1 64 = 1 := by decide
  have b0 : 0 ≤ bud := by omega
  have okc : ∀ x y : Int, 0 ≤ x → x ≤ 3 → 0 ≤ y → y ≤ 16 → okE n x 0 y base = true := fun x y h1 h2 h3 h4 => okE_iff.2 ⟨by simp [okC]; omega, h3, h4, by omega, by omega⟩
  have k1 := okc s bud (by omega) (by omega) b0 (by omega)
  have k2 := okc s (bud + 1) (by omega) (by omega) (by omega) (by omega)
  have k3 := okc 3 bud (by omega) (by omega) b0 (by omega)
  obtain ⟨g1, g2, g3⟩ := grow_bud s bud b0
  have g4 := grow_slots s bud b0
  have r1 : 0 ≤ bPush s bud ∧ bPush s bud ≤ 10000 := by have := bMul (s := s) b0 (by omega : bud ≤ 16); unfold bPush; omega
  have r2 : 0 ≤ bPop s bud ∧ bPop s bud ≤ 10000 := by have := bMul (s := s) b0 (by omega : bud ≤ 16); unfold bPop; omega
  obtain ⟨bu1, hbu1⟩ : ∃ b, bud + 1 = b := ⟨_, rfl⟩
  rw [hbu1] at k2 g1 g2
  have HPC := Lib.hid (fun w => b_push n s 0 5 bud base wt w k1)
  have HPM := Lib.hid (fun w => b_push n s 0 5 bu1 base wt w k2)
  have HPX := Lib.hid (fun w => b_push n 3 0 5 bud base wt w k3)
  have HQC := Lib.hid (fun w => b_pop n s 0 5 bud base wt w k1)
  have HQM := Lib.hid (fun w => b_pop n s 0 5 bu1 base wt w k2)
  have HAC := Lib.hid (fun w => b_acquire n s 0 5 bud base wt w k1)
  have HRC := Lib.hid (fun w => b_release n s 0 5 bud base wt w k1)
  obtain ⟨x0, hx0'⟩ : ∃ x, th * bPush s bud = x := ⟨_, rfl⟩
  obtain ⟨x1, hx1'⟩ : ∃ x, (th + 1) * bPush s bud = x := ⟨_, rfl⟩
  have hx01 : x0 + bPush s bud = x1 := by rw [← hx0', ← hx1', Int.add_mul, Int.one_mul]
  have hx00 : 0 ≤ x0 ∧ x0 ≤ 1000 * 10000 := by
    rw [← hx0']
    exact ⟨Int.mul_nonneg (by omega) r1.1, Int.mul_le_mul (by omega) r1.2 r1.1 (by decide)⟩
  have HW0 := Lib.hid (fun w => b_window th x0 n s 0 5 bud base wt w k1 rfl (by omega) (by omega) hx0')
  have HW1 := Lib.hid (fun w => b_window (th + 1) x1 n s 0 5 bud base wt w k1 rfl (by omega) (by omega) hx1')
  clear hx0' hx1'
  generalize bPush s bud = pc at *
  generalize bPush s bu1 = pm at *
  generalize bPush 3 bud = px at *
  generalize bPop s bud = qc at *
  generalize bPop s bu1 = qm at *
  obtain ⟨ac, hac⟩ : ∃ x, qc + 1 = x := ⟨_, rfl⟩
  obtain ⟨rc, hrc⟩ : ∃ x, pc + 3 = x := ⟨_, rfl⟩
  obtain ⟨th1, hth1⟩ : ∃ x, th + 1 = x := ⟨_, rfl⟩
  rw [hac] at HAC
  rw [hrc] at HRC
  rw [hth1] at HW1
  have e1 : IntKind.i64.wrap (bud + 1) = bu1 := by rw [IntKind.wrap_i64]; omega
  have e2 : IntKind.i64.wrap (th + 1) = th1 := by rw [IntKind.wrap_i64]; omega
  have e3 : IntKind.i64.wrap (x0 + pc) = x1 := by rw [IntKind.wrap_i64]; omega
  have e4 : IntKind.i64.wrap (qc + 1) = ac := by rw [IntKind.wrap_i64]; omega
  have c1 : decide (pc < pm) = true := decide_eq_true g1
  have c2 : decide (qc < qm) = true := decide_eq_true g2
  have c3 : decide (pc ≤ px) = true := decide_eq_true g4
  have c4 : (x1 == x1) = true := by simp
  have c5 : (ac == ac) = true := by simp
  have c6 : decide (pc < rc) = true := decide_eq_true (by omega)
  have c7 : decide (qc < pc) = true := decide_eq_true g3
  have HN := Lib.hid hn
  have HS := Lib.hid hs
  have HB := Lib.hid hb17
  have HBU := Lib.hid hbud
  have HTH := Lib.hid hth
  have HBA := Lib.hid hbase
  have HWT := Lib.hid hwt
  have H := Lib.hid (St.nil w)
  clear hx0 hx1 hx2 hx3 p6 p4 p17 p16 pth hn hs hb17 hbud hth hbase hwt eb okc k1 k2 k3 g1 g2 g3 g4 r1 r2 hbu1 hx01 hx00 hac hrc hth1
  go_enter Try.func3, Try.ntmps3
  go_upto_region 5 with (first | ((have _h := H1); go_at_call 5; refine (cfg21_is a0 a1 a2 1 n s b17 base _ HN.out HS.out HB.out HBA.out a00 a01 a10 a11 a20 a21 (by decide) (by decide)).mono ?_; rintro e w2 ⟨rfl, hb⟩; rw [HWT.out]; (have H2 := Lib.hid ((H1.out.below hb).alloc #[.int .i64 n, .int .i64 s, .int .i64 0, .int .u32 5, .int .i64 b17, .int .i64 base, .int .u64 wt] 28)); clear hb _h) | ((have _h := H); go_at_call 4; refine (shown21 _).mono ?_; rintro e w1 ⟨rfl, hb⟩; (have H1 := Lib.hid (H.out.below hb)); clear hb _h))
  obtain ⟨bc, hbc⟩ : ∃ b, w2.heap.size = b := ⟨_, rfl⟩
  have h2 := H2.out
  rw [hbc] at h2 ⊢
  clear hbc
  have fz := free_of (h2.cells 0 rfl) 4
  obtain ⟨⟨d0, d1, d2, d3, d4, d5, d6⟩, ld⟩ := cells7 (h2.cells 0 rfl)
  go_upto_region 6 with (first | ((have _h := H2); go_at_call 6; refine (pick21_is a2 16 bud _ HBU.out (by decide) (by decide) a20 a21).mono ?_; rintro e w3 ⟨rfl, rfl⟩; clear _h))
  have h3 := show St w [boxA bc #[.int .i64 n, .int .i64 s, .int .i64 0, .int .u32 5, .int .i64 bud, .int .i64 base, .int .u64 wt] 28] _ from h2.setAt 0 rfl 4 (.int .i64 bud)
  generalize World.setCell _ ⟨bc, 4, none⟩ (.int .i64 bud) = W3 at *
  clear h2 H2 H1 fz d0 d1 d2 d3 d4 d5 d6 ld
  obtain ⟨⟨d0, d1, d2, d3, d4, d5, d6⟩, ld⟩ := cells7 (h3.cells 0 rfl)
  go_upto_region 7 with (fail)
  have h4 := h3.alloc #[.int .i64 n, .int .i64 s, .int .i64 0, .int .u32 5, .int .i64 bud, .int .i64 base, .int .u64 wt] 28
  obtain ⟨bm, hbm⟩ : ∃ b, W3.heap.size = b := ⟨_, rfl⟩
  rw [hbm] at h4 ⊢
  clear hbm
  generalize W3.alloc (.cells #[.int .i64 n, .int .i64 s, .int .i64 0, .int .u32 5, .int .i64 bud, .int .i64 base, .int .u64 wt] 28) = W4 at *
  clear h3 d0 d1 d2 d3 d4 d5 d6 ld
  have fz := free_of (h4.cells 0 rfl) 4
  obtain ⟨⟨f0, f1, f2, f3, f4, f5, f6⟩, lf⟩ := cells7 (h4.cells 0 rfl)
  go_upto_region 8 with (fail)
  have h5 := show St w [boxA bm #[.int .i64 n, .int .i64 s, .int .i64 0, .int .u32 5, .int .i64 bu1, .int .i64 base, .int .u64 wt] 28, boxA bc #[.int .i64 n, .int .i64 s, .int .i64 0, .int .u32 5, .int .i64 bud, .int .i64 base, .int .u64 wt] 28] _ from h4.setAt 0 rfl 4 (.int .i64 bu1)
  generalize World.setCell _ ⟨bm, 4, none⟩ (.int .i64 bu1) = W5 at *
  clear h4 fz f0 f1 f2 f3 f4 f5 f6 lf
  obtain ⟨⟨d0, d1, d2, d3, d4, d5, d6⟩, ld⟩ := cells7 (h5.cells 1 rfl)
  go_upto_region 9 with (fail)
  have h6 := h5.alloc #[.int .i64 n, .int .i64 s, .int .i64 0, .int .u32 5, .int .i64 bud, .int .i64 base, .int .u64 wt] 28
  obtain ⟨bx, hbx⟩ : ∃ b, W5.heap.size = b := ⟨_, rfl⟩
  rw [hbx] at h6 ⊢
  clear hbx
  generalize W5.alloc (.cells #[.int .i64 n, .int .i64 s, .int .i64 0, .int .u32 5, .int .i64 bud, .int .i64 base, .int .u64 wt] 28) = W6 at *
  clear h5 d0 d1 d2 d3 d4 d5 d6 ld
  have fz := free_of (h6.cells 0 rfl) 1
  obtain ⟨⟨f0, f1, f2, f3, f4, f5, f6⟩, lf⟩ := cells7 (h6.cells 0 rfl)
  go_upto_region 10 with (fail)
  have h7 := show St w [boxA bx #[.int .i64 n, .int .i64 3, .int .i64 0, .int .u32 5, .int .i64 bud, .int .i64 base, .int .u64 wt] 28, boxA bm #[.int .i64 n, .int .i64 s, .int .i64 0, .int .u32 5, .int .i64 bu1, .int .i64 base, .int .u64 wt] 28, boxA bc #[.int .i64 n, .int .i64 s, .int .i64 0, .int .u32 5, .int .i64 bud, .int .i64 base, .int .u64 wt] 28] _ from h6.setAt 0 rfl 1 (.int .i64 3)
  generalize World.setCell _ ⟨bx, 1, none⟩ (.int .i64 3) = W7 at *
  clear h6 fz f0 f1 f2 f3 f4 f5 f6 lf
  have H0 := Lib.hid h7
  go_upto_region 11 with (first | ((have _h := H0); go_at_call 6; refine (pick21_is a3 1000 th _ HTH.out (by decide) (by decide) a30 a31).mono ?_; rintro e w9 ⟨rfl, rfl⟩; clear _h))
  clear h7
  have HCS : Hid (∀ w', St w [boxA bx #[.int .i64 n, .int .i64 3, .int .i64 0, .int .u32 5, .int .i64 bud, .int .i64 base, .int .u64 wt] 28, boxA bm #[.int .i64 n, .int .i64 s, .int .i64 0, .int .u32 5, .int .i64 bu1, .int .i64 base, .int .u64 wt] 28, boxA bc #[.int .i64 n, .int .i64 s, .int .i64 0, .int .u32 5, .int .i64 bud, .int .i64 base, .int .u64 wt] 28] w' → w'.cell? ⟨bx, 0, none⟩ = some (.int .i64 n) ∧ w'.cell? ⟨bx, 1, none⟩ = some (.int .i64 3) ∧ w'.cell? ⟨bx, 2, none⟩ = some (.int .i64 0) ∧ w'.cell? ⟨bx, 3, none⟩ = some (.int .u32 5) ∧ w'.cell? ⟨bx, 4, none⟩ = some (.int .i64 bud) ∧ w'.cell? ⟨bx, 5, none⟩ = some (.int .i64 base) ∧ w'.cell? ⟨bx, 6, none⟩ = some (.int .u64 wt) ∧ w'.cell? ⟨bm, 0, none⟩ = some (.int .i64 n) ∧ w'.cell? ⟨bm, 1, none⟩ = some (.int .i64 s) ∧ w'.cell? ⟨bm, 2, none⟩ = some (.int .i64 0) ∧ w'.cell? ⟨bm, 3, none⟩ = some (.int .u32 5) ∧ w'.cell? ⟨bm, 4, none⟩ = some (.int .i64 bu1) ∧ w'.cell? ⟨bm, 5, none⟩ = some (.int .i64 base) ∧ w'.cell? ⟨bm, 6, none⟩ = some (.int .u64 wt) ∧ w'.cell? ⟨bc, 0, none⟩ = some (.int .i64 n) ∧ w'.cell? ⟨bc, 1, none⟩ = some (.int .i64 s) ∧ w'.cell? ⟨bc, 2, none⟩ = some (.int .i64 0) ∧ w'.cell? ⟨bc, 3, none⟩ = some (.int .u32 5) ∧ w'.cell? ⟨bc, 4, none⟩ = some (.int .i64 bud) ∧ w'.cell? ⟨bc, 5, none⟩ = some (.int .i64 base) ∧ w'.cell? ⟨bc, 6, none⟩ = some (.int .u64 wt)) := Lib.hid fun w' h => cells21 (h.cells 0 rfl) (h.cells 1 rfl) (h.cells 2 rfl)
  have K0 := Lib.hid H0.out
  clear H0
  go_region_held3 (fun w' => w'.cell? ⟨bx, 0, none⟩ = some (.int .i64 n) ∧ w'.cell? ⟨bx, 1, none⟩ = some (.int .i64 3) ∧ w'.cell? ⟨bx, 2, none⟩ = some (.int .i64 0) ∧ w'.cell? ⟨bx, 3, none⟩ = some (.int .u32 5) ∧ w'.cell? ⟨bx, 4, none⟩ = some (.int .i64 bud) ∧ w'.cell? ⟨bx, 5, none⟩ = some (.int .i64 base) ∧ w'.cell? ⟨bx, 6, none⟩ = some (.int .u64 wt) ∧ w'.cell? ⟨bm, 0, none⟩ = some (.int .i64 n) ∧ w'.cell? ⟨bm, 1, none⟩ = some (.int .i64 s) ∧ w'.cell? ⟨bm, 2, none⟩ = some (.int .i64 0) ∧ w'.cell? ⟨bm, 3, none⟩ = some (.int .u32 5) ∧ w'.cell? ⟨bm, 4, none⟩ = some (.int .i64 bu1) ∧ w'.cell? ⟨bm, 5, none⟩ = some (.int .i64 base) ∧ w'.cell? ⟨bm, 6, none⟩ = some (.int .u64 wt) ∧ w'.cell? ⟨bc, 0, none⟩ = some (.int .i64 n) ∧ w'.cell? ⟨bc, 1, none⟩ = some (.int .i64 s) ∧ w'.cell? ⟨bc, 2, none⟩ = some (.int .i64 0) ∧ w'.cell? ⟨bc, 3, none⟩ = some (.int .u32 5) ∧ w'.cell? ⟨bc, 4, none⟩ = some (.int .i64 bud) ∧ w'.cell? ⟨bc, 5, none⟩ = some (.int .i64 base) ∧ w'.cell? ⟨bc, 6, none⟩ = some (.int .u64 wt)) (first | exact HCS.out _ K15.out | exact HCS.out _ K14.out | exact HCS.out _ K13.out | exact HCS.out _ K12.out | exact HCS.out _ K11.out | exact HCS.out _ K10.out | exact HCS.out _ K9.out | exact HCS.out _ K8.out | exact HCS.out _ K7.out | exact HCS.out _ K6.out | exact HCS.out _ K5.out | exact HCS.out _ K4.out | exact HCS.out _ K3.out | exact HCS.out _ K2.out | exact HCS.out _ K1.out | exact HCS.out _ K0.out | exact HCS.out _ K0.out.drew) (first | ((have _h := K14); go_at_call 8; refine (HQC.out _).mono ?_; rintro e v15 ⟨rfl, hb⟩; (have K15 := Lib.hid (K14.out.below hb)); clear hb _h) | ((have _h := K13); go_at_call 7; refine (HPC.out _).mono ?_; rintro e v14 ⟨rfl, hb⟩; (have K14 := Lib.hid (K13.out.below hb)); clear hb _h) | ((have _h := K12); go_at_call 7; refine (HPC.out _).mono ?_; rintro e v13 ⟨rfl, hb⟩; (have K13 := Lib.hid (K12.out.below hb)); clear hb _h) | ((have _h := K11); go_at_call 11; refine (HRC.out _).mono ?_; rintro e v12 ⟨rfl, hb⟩; (have K12 := Lib.hid (K11.out.below hb)); clear hb _h) | ((have _h := K10); go_at_call 8; refine (HQC.out _).mono ?_; rintro e v11 ⟨rfl, hb⟩; (have K11 := Lib.hid (K10.out.below hb)); clear hb _h) | ((have _h := K9); go_at_call 10; refine (HAC.out _).mono ?_; rintro e v10 ⟨rfl, hb⟩; (have K10 := Lib.hid (K9.out.below hb)); clear hb _h) | ((have _h := K8); go_at_call 7; refine (HPC.out _).mono ?_; rintro e v9 ⟨rfl, hb⟩; (have K9 := Lib.hid (K8.out.below hb)); clear hb _h) | ((have _h := K7); go_at_call 9; refine (HW0.out _).mono ?_; rintro e v8 ⟨rfl, hb⟩; (have K8 := Lib.hid (K7.out.below hb)); clear hb _h) | ((have _h := K6); go_at_call 9; refine (HW1.out _).mono ?_; rintro e v7 ⟨rfl, hb⟩; (have K7 := Lib.hid (K6.out.below hb)); clear hb _h) | ((have _h := K5); go_at_call 7; refine (HPC.out _).mono ?_; rintro e v6 ⟨rfl, hb⟩; (have K6 := Lib.hid (K5.out.below hb)); clear hb _h) | ((have _h := K4); go_at_call 7; refine (HPX.out _).mono ?_; rintro e v5 ⟨rfl, hb⟩; (have K5 := Lib.hid (K4.out.below hb)); clear hb _h) | ((have _h := K3); go_at_call 8; refine (HQC.out _).mono ?_; rintro e v4 ⟨rfl, hb⟩; (have K4 := Lib.hid (K3.out.below hb)); clear hb _h) | ((have _h := K2); go_at_call 8; refine (HQM.out _).mono ?_; rintro e v3 ⟨rfl, hb⟩; (have K3 := Lib.hid (K2.out.below hb)); clear hb _h) | ((have _h := K1); go_at_call 7; refine (HPC.out _).mono ?_; rintro e v2 ⟨rfl, hb⟩; (have K2 := Lib.hid (K1.out.below hb)); clear hb _h) | ((have _h := K0); go_at_call 7; refine (HPM.out _).mono ?_; rintro e v1 ⟨rfl, hb⟩; (have K1 := Lib.hid (K0.out.drew.below hb)); clear hb _h))
  go_wp2
  go_ret
  exact ⟨rfl, K15.out.bel⟩
end Go.Proofs.Ytkcpfoghjoalnaa
