/-
  TaglistMeets: four threads take and give, in whatever turns.
-/
import Derived.Test.YtndigbkhaajjoaaWhole7
import Derived.Test.YtndigbkhaajjoaaAlone7
import Derived.Test.YtndigbkhaajjoaaOpen2
import Derived.Laws.BitsLemmas
import Derived.Deep.DeepCutAuto
namespace Go.Proofs.Ytndigbkhaajjoaa
open Go.RowKit
set_option linter.unusedVariables false
set_option linter.unusedSimpArgs false

abbrev mtL (gh ga bc nn : Nat) (tg : Int) (hs : List Int) (ths : List Th) : List Asn := [rowG gh 4 23 1 4 (hs.map u32V), rowG ga 4 56 3 4 (pcs ths), bxC bc nn 0 0 tg]
def MtRel (w : World) (q gh ga bc nn N : Nat) (tg : Int) (i : Nat) (w' : World) : Prop :=
  ∃ ws ths hs ns, ns.length ≤ i ∧ MI7 nn N tg i ws ths hs ∧ St w (memA q ws ns :: (mtL gh ga bc nn tg hs ths ++ manyA thA [0, 0, 0, 0] ths)) w'
theorem pcs_same {l : List Th} {k : Nat} {t u : Th} (h : l[k]? = some u) (ha : pcA t = pcA u) (hb : pcB t = pcB u) : pcs (l.set k t) = pcs l := by
  have hk := (List.getElem?_eq_some_iff.1 h).1
  obtain ⟨h0, h1, h2⟩ := pcs_get h
  rw [← pcs_set t hk, ha, hb, set_same h0, set_same h1, set_same h2]
theorem St.rngs {w0 w : World} {q : Nat} {ws : List Int} {ns : List Note} {l : List Asn} (h : St w0 (memA q ws ns :: l) w) : ∀ x ∈ ws, 0 ≤ x ∧ x < 18446744073709551616 := by
  obtain ⟨own, h1, _⟩ := h.mem
  exact h1.rng
theorem MtRel.mk {w w' : World} {q gh ga bc nn N : Nat} {tg : Int} {i : Nat} {ws : List Int} {ths : List Th} {hs : List Int} {ns : List Note} (h1 : ns.length ≤ i) (h2 : MI7 nn N tg i ws ths hs) (h3 : St w (memA q ws ns :: (mtL gh ga bc nn tg hs ths ++ manyA thA [0, 0, 0, 0] ths)) w') : MtRel w q gh ga bc nn N tg i w' := ⟨ws, ths, hs, ns, h1, h2, h3⟩
/-- A thread is at a machine. -/
def MtMid (w : World) (q gh ga bc nn N : Nat) (tg : Int) (i k : Nat) (ws : List Int) (hs : List Int) (ns : List Note) (w' : World) : Prop :=
  ∃ p S ths, ths[k]? = some (some (p, S)) ∧ MI7 nn N tg i ws ths hs ∧ St w (memA q ws ns :: (mtL gh ga bc nn tg hs ths ++ manyA thA [0, 0, 0, 0] ths)) w'
theorem i64_and1 (n : Int) : bits .and .i64 n 1 = n % 2 := by
  have h1 : (BitVec.ofInt 64 1).toNat = 2 ^ 1 - 1 := by decide
  have key : (BitVec.ofInt 64 n &&& BitVec.ofInt 64 1).toNat = (n % ((2 ^ 64 : Nat) : Int)).toNat % 2 ^ 1 := by
    rw [BitVec.toNat_and, BitVec.toNat_ofInt, h1, Nat.and_two_pow_sub_one_eq_mod]
  show IntKind.i64.wrap ((BitVec.ofInt 64 n &&& BitVec.ofInt 64 1).toNat : Nat) = n % 2
  rw [key, IntKind.wrap_i64]
  omega
theorem made_pairs : (madeCells (Value.agg #[.pointer none, .pointer none, .pointer none]).cells (4 * 3)).toList = pcs [none, none, none, none] := by first | rfl | kernel_rfl | simp [madeCells, Value.cells, pcs, pcA, pcB]
theorem infoPair : (Try.prog.info? 56).map (fun i => (i.zero, i.size, i.bytes)) = some (some (.agg #[.pointer none, .pointer none, .pointer none]), 3, 24) := by kernel_rfl
theorem infoU32b : (Try.prog.info? 23).map (fun i => (i.zero, i.size, i.bytes)) = some (some (.int .u32 0), 1, 4) := by kernel_rfl
set_option maxRecDepth 20000 in
set_option maxHeartbeats 16000000 in
theorem taglistMeets_body (a0 tg : Int) (B : Option Addr) (m d : Nat) (zs : List Int) (w : World) (hx0 : (Lit.int .i64 a0).wf = true) (hx1 : (Lit.int .u32 tg).wf = true) (hm : m ≤ 300) (hI : RdI w B zs m) :
    Calls Try.prog 6 #[.int .i64 a0, .int .u32 tg, .slice B m d] w fun e w' => e = .returned (.bool true) ∧ Below w.heap.size w w' := by
  obtain ⟨a00, a01⟩ := rngI64 hx0
  obtain ⟨t0, t1⟩ := rngU32 hx1
  have hp := pickI_rng (c := a0) (n := 64) (by decide)
  obtain ⟨nn, hnn⟩ : ∃ nn : Nat, 1 + pickI a0 64 = (nn : Int) := Int.eq_ofNat_of_zero_le (by omega)
  have n1 : 1 ≤ nn := by omega
  have n2 : nn ≤ 64 := by omega
  obtain ⟨N, hN⟩ : ∃ N, N = 2 + 2 * nn + 0 + 0 := ⟨_, rfl⟩
  obtain ⟨T, hT⟩ : ∃ T, tg * 4294967296 = T := ⟨_, rfl⟩
  have hN4 : N ≤ 1024 := by omega
  have hN0 : 0 < N := by omega
  have HNN := Lib.hid hnn
  have HN := Lib.hid hN
  have HT := Lib.hid hT
  have HOK : Hid (okC (nn : Int) ((0 : Nat) : Int) ((0 : Nat) : Int) = true) := Lib.hid (by simp [okC]; omega)
  have HFR : Hid (∀ x ∈ frL T nn nn 0 N, 0 ≤ x ∧ x < 18446744073709551616) := Lib.hid (frL_rng (by omega) (by omega) n2)
  have HMI : Hid (MI7 nn N tg 0 (frL T nn nn 0 N) [none, none, none, none] [0, 0, 0, 0]) := Lib.hid (MI7.new hT t0 t1 (by omega) n1 n2)
  have H := Lib.hid (St.nil w)
  have d0 : decide ((nn : Int) < 1) = false := decide_eq_false (by omega)
  have d3 : decide ((300 : Int) < (m : Int)) = false := decide_eq_false (by omega)
  have HI := Lib.hid hI
  obtain ⟨iU, hiU, hzU0, hzU1, hzU2⟩ := info_parts infoU32b
  obtain ⟨iP, hiP, hzP0, hzP1, hzP2⟩ := info_parts infoPair
  clear hx0 hx1 hp hnn hN hT hI
  go_enter Try.func6, Try.ntmps6
  go_wp2_with (first | ((have _h := M1); refine wpList_make_full _ (by rfl) _ _ _ (by rfl) _ 56 iP _ 3 Try.underlying51 hiP hzP0 hzP1 .i64 .i64 _ _ 4 (by rfl) (by rfl) rfl rfl (by rw [hzP2]; decide) (by unfold maxLen; decide) (Nat.le_refl _) ?_; go_must (intro wM2 hown hgrow); go_must (have M2 := Lib.hid (show St w (rowG wM1.heap.size 4 56 3 4 (pcs [none, none, none, none]) :: rowG w4.heap.size 4 23 1 4 (([0, 0, 0, 0] : List Int).map u32V) :: [memA q (frL T nn nn 0 N) [], bxC w2.heap.size nn 0 0 tg]) wM2 by have h9 := St.made M1.out hown hgrow; rw [made_pairs] at h9; exact h9)); clear hown hgrow _h) | ((have _h := H4); refine wpList_make_full _ (by rfl) _ _ _ (by rfl) _ 23 iU _ 1 Try.underlying33 hiU hzU0 hzU1 .i64 .i64 _ _ 4 (by rfl) (by rfl) rfl rfl (by rw [hzU2]; decide) (by unfold maxLen; decide) (Nat.le_refl _) ?_; go_must (intro wM1 hown hgrow); go_must (have M1 := Lib.hid (show St w (rowG w4.heap.size 4 23 1 4 (([0, 0, 0, 0] : List Int).map u32V) :: [memA q (frL T nn nn 0 N) [], bxC w2.heap.size nn 0 0 tg]) wM1 by have h9 := St.made H4.out hown hgrow; rw [show (madeCells (Value.int .u32 0).cells (4 * 1)).toList = List.replicate 4 (.int .u32 0) from made_one _ _] at h9; exact h9)); clear hown hgrow _h) | ((have _h := H3); go_at_call 26; refine (new_st H3.out.tail (some ⟨_, 0, none⟩) _ N (frL T nn nn 0 N) (rowRd (H3.out.row 0 rfl) (frL_len _ _ _ _ _)) hN4 HFR.out (frL_len _ _ _ _ _)).mono ?_; rintro e w4 ⟨q, rfl, h⟩; (have H4 := Lib.hid (h)); clear h; clear q0 q1 q2 q3; (obtain ⟨q0, q1, q2, q3⟩ := cells4 (H4.out.cells 1 rfl)); clear _h) | ((have _h := H2); go_at_call 16; refine (fresh_ok nn 0 0 tg T N H2.out HOK.out HN.out HT.out t0 t1).mono ?_; rintro e w3 ⟨g, rfl, h⟩; (have H3 := Lib.hid (h)); clear h; clear q0 q1 q2 q3; (obtain ⟨q0, q1, q2, q3⟩ := cells4 (H3.out.cells 1 rfl)); clear _h) | ((have _h := H1); go_at_call 35; refine (cfg7_is a0 0 0 tg nn 0 0 _ HNN.out rfl rfl a00 a01 (by decide) (by decide) (by decide) (by decide)).mono ?_; rintro e w2 ⟨rfl, hb⟩; (have H2 := Lib.hid ((H1.out.below hb).alloc #[.int .i64 nn, .int .i64 0, .int .i64 0, .int .u32 tg] 26)); clear hb; (obtain ⟨q0, q1, q2, q3⟩ := cells4 (H2.out.cells 0 rfl)); clear _h) | ((have _h := H); go_at_call 25; refine (shown7 _).mono ?_; rintro e w1 ⟨rfl, hb⟩; (have H1 := Lib.hid (H.out.below hb)); clear hb; clear _h))
  have HREL := Lib.hid (show MtRel w q w4.heap.size wM1.heap.size w2.heap.size nn N tg 0 wM2 from ⟨_, _, _, [], Nat.le_refl _, HMI.out, (show St w (memA q (frL T nn nn 0 N) [] :: (mtL w4.heap.size wM1.heap.size w2.heap.size nn tg [0, 0, 0, 0] [none, none, none, none] ++ [factA True, factA True, factA True, factA True])) wM2 from by
    have h5 := ((((M2.out).factI (p := True) trivial).factI (p := True) trivial).factI (p := True) trivial).factI (p := True) trivial
    exact h5.re 8 [6, 5, 4, 7, 0, 1, 2, 3])⟩)
  obtain ⟨gh, hgh⟩ : ∃ gh, w4.heap.size = gh := ⟨_, rfl⟩
  obtain ⟨ga, hga⟩ : ∃ ga, wM1.heap.size = ga := ⟨_, rfl⟩
  obtain ⟨bc, hbc⟩ : ∃ bc, w2.heap.size = bc := ⟨_, rfl⟩
  simp only [hgh, hga, hbc] at HREL ⊢
  clear H1 H2 H3 H4 M1 M2 q0 q1 q2 q3 hgh hga hbc hiU hzU0 hzU1 hzU2 hiP hzP0 hzP1 hzP2 HMI
  go_loopg [15] (m + 1) (fun kq y w' => ∃ i : Nat, y = .int .i64 i ∧ i ≤ m ∧ i + kq = m + 1 ∧ MtRel w q gh ga bc nn N tg i w')
  case atStart => exact ⟨0, rfl, Nat.zero_le _, by omega, HREL.out⟩
  case round =>
    obtain ⟨i, rfl, hi, hkq, ws, ths, hs, ns, hns, hmi, hS⟩ := hrel
    clear HREL
    cases gk with
    | zero => omega
    | succ kk =>
      by_cases c4 : i < m
      · have c4b : decide ((i : Int) < (m : Int)) = true := decide_eq_true (by omega)
        obtain ⟨bd, rfl, hcell, hwf⟩ := HI.out i c4
        obtain ⟨z0, z1⟩ := rngI64 hwf
        have hpz := pickI_rng (c := zs.getD i 0) (n := 4) (by decide)
        obtain ⟨k, hk⟩ : ∃ k : Nat, pickI (zs.getD i 0) 4 = (k : Int) := Int.eq_ofNat_of_zero_le hpz.1
        have hk4 : k < 4 := by omega
        have HK := Lib.hid hk
        have hcz := (hS.bel.cell (World.block_lt_of_cell? _ _ hcell)).trans hcell
        obtain ⟨th, hth⟩ := getE (l := ths) (k := k) (by obtain ⟨_, _, h⟩ := hmi; rw [h.tl]; exact hk4)
        obtain ⟨hh, hhs⟩ := getE (l := hs) (k := k) (by obtain ⟨_, _, h⟩ := hmi; rw [h.hl]; exact hk4)
        obtain ⟨p0, p1, p2⟩ := pcs_get hth
        obtain ⟨e0, f0⟩ := hS.at_ 2 rfl (k * 3) p0
        obtain ⟨e1, f1⟩ := hS.at_ 2 rfl (k * 3 + 1) p1
        obtain ⟨e2, f2⟩ := hS.at_ 2 rfl (k * 3 + 2) p2
        obtain ⟨eh, fh⟩ := hS.at_ 1 rfl k (u := .int .u32 hh) (by rw [List.getElem?_map, hhs]; rfl)
        obtain ⟨q0, q1, q2, q3⟩ := cells4 (hS.cells 3 rfl)
        have i0 : (0 : Int) ≤ (i : Int) := by omega
        have i1 : (i : Int) < (m : Int) := by omega
        have k0 : (0 : Int) ≤ (k : Int) := by omega
        have k1 : (k : Int) < 4 := by omega
        obtain ⟨R, hR1, hR2⟩ := hS.pick (f := thA) (k := k) (p := 0) (by match k, hk4 with | 0, _ => rfl | 1, _ => rfl | 2, _ => rfl | 3, _ => rfl) hth
        have HPK : Hid (St w (memA q ws ns :: thA 0 th :: R) wr ∧ ∀ w1 w' m' S', St w1 (m' :: thA 0 S' :: R) w' → St w1 (m' :: (mtL gh ga bc nn tg hs ths ++ manyA thA [0, 0, 0, 0] (ths.set k S'))) w') := Lib.hid ⟨hR1, hR2⟩
        obtain ⟨a, ha⟩ : ∃ a : Nat, bits .and .i64 ((zs.getD i 0).tdiv 4) 1 = (a : Int) := Int.eq_ofNat_of_zero_le (by rw [i64_and1]; omega)
        have ha2 : a < 2 := by rw [i64_and1] at ha; omega
        have HS := Lib.hid hS
        have HMI := Lib.hid hmi
        have HTH := Lib.hid hth
        have HHS := Lib.hid hhs
        have HNS := Lib.hid hns
        have HKL : Hid (k < ths.length) := Lib.hid (List.getElem?_eq_some_iff.1 hth).1
        have HP := Lib.hid (And.intro p0 (And.intro p1 p2))
        have HK1 := Lib.hid hkq
        generalize zs.getD i 0 = z at *
        clear hR1 hR2 hS hmi hth hhs hns hk hpz hcell hwf p0 p1 p2 hkq c4
        go_upto_region 15 with ((go_at_call 29; refine (pick7_is z 4 k _ HK.out (by decide) (by decide) z0 z1).mono ?_; rintro e w1 ⟨rfl, rfl⟩))
        go_cut [83] (fun v w' => v = .bool th.isNone ∧ w' = wr)
        case first =>
          cases th with
          | none =>
            simp only [pcA, pcB] at e0 e1
            go_wp2
            go_meet
            case rel => exact ⟨rfl, rfl⟩
          | some ps =>
            obtain ⟨p, S⟩ := ps
            simp only [pcA, pcB] at e0 e1
            cases hg : S.give with
            | true =>
              rw [hg] at e0 e1
              go_wp2
              go_meet
              case rel => exact ⟨rfl, rfl⟩
            | false =>
              rw [hg] at e0 e1
              go_wp2
              go_meet
              case rel => exact ⟨rfl, rfl⟩
        case rest =>
          obtain ⟨hv, hw⟩ := hcut
          subst hv hw
          go_upto_if 83 with fail
          go_cut [] (fun w' => MtMid w q gh ga bc nn N tg i k ws hs ns w')
          case first =>
            cases th with
            | none =>
              simp only [pcA, pcB] at e0 e1
              by_cases ch : hh = 0
              · subst ch
                go_wp2_with (go_at_call 36; refine (take_new nn 0 0 tg a HPK.out.1.drop1).mono ?_; rintro e wn ⟨p, rfl, h⟩; (have HN1 := Lib.hid (show St w (memA q ws ns :: (mtL gh ga bc nn tg hs ths ++ manyA thA [0, 0, 0, 0] (ths.set k (some (p, newTk nn 0 0 tg a))))) wn from HPK.out.2 _ _ _ (some (p, newTk nn 0 0 tg a)) h.swap)); clear h e0 e1 e2 f0 f1 f2 eh fh q0 q1 q2 q3; obtain ⟨e0, f0⟩ := HN1.out.at_ 2 rfl (k * 3) HP.out.1; obtain ⟨e1, f1⟩ := HN1.out.at_ 2 rfl (k * 3 + 1) HP.out.2.1; obtain ⟨e2, f2⟩ := HN1.out.at_ 2 rfl (k * 3 + 2) HP.out.2.2; obtain ⟨q0, q1, q2, q3⟩ := cells4 (HN1.out.cells 3 rfl))
                go_meet
                case rel =>
                  refine ⟨p, newTk nn 0 0 tg a, ths.set k (some (p, newTk nn 0 0 tg a)), List.getElem?_set_self HKL.out, HMI.out.take hk4 HHS.out HOK.out ha2 p, ?_⟩
                  have h9 := ((HN1.out.rowSet 2 rfl (k * 3) (by omega) (pcA (some (p, newTk nn 0 0 tg a)))).rowSet 2 rfl (k * 3 + 1) (by omega) (pcB (some (p, newTk nn 0 0 tg a)))).rowSet 2 rfl (k * 3 + 2) (by omega) (.pointer none)
                  have e9 := pcs_set (l := ths) (k := k) (some (p, newTk nn 0 0 tg a)) HKL.out
                  simp only [List.set_cons_succ, List.set_cons_zero, List.cons_append, List.nil_append] at h9
                  rw [e9] at h9
                  exact h9
              · have chb : (hh == 0) = false := by simp; exact ch
                have HCG : Hid (∀ m x X w', St w (m :: rowG gh 4 23 1 4 (hs.map u32V) :: x :: bxC bc nn 0 0 tg :: X) w' → w'.cell? ⟨bc, 0, none⟩ = some (.int .i64 nn) ∧ w'.cell? ⟨bc, 1, none⟩ = some (.int .i64 0) ∧ w'.cell? ⟨bc, 2, none⟩ = some (.int .i64 0) ∧ w'.cell? ⟨bc, 3, none⟩ = some (.int .u32 tg) ∧ w'.cell? ⟨gh, k, none⟩ = some (.int .u32 hh)) := Lib.hid fun m x X w' h => by
                  obtain ⟨a0, a1, a2, a3⟩ := cells4 (h.cells 3 rfl)
                  exact ⟨a0, a1, a2, a3, (h.at_ 1 rfl k (u := .int .u32 hh) (by rw [List.getElem?_map, HHS.out]; rfl)).1⟩
                go_wp2
                clear e0 e1 e2 f0 f1 f2 eh fh q0 q1 q2 q3
                refine wp_region_held_drew (S := (fun w' => w'.cell? ⟨bc, 0, none⟩ = some (.int .i64 nn) ∧ w'.cell? ⟨bc, 1, none⟩ = some (.int .i64 0) ∧ w'.cell? ⟨bc, 2, none⟩ = some (.int .i64 0) ∧ w'.cell? ⟨bc, 3, none⟩ = some (.int .u32 tg) ∧ w'.cell? ⟨gh, k, none⟩ = some (.int .u32 hh))) (by as_aux_lemma => kernel_rfl) ?_ (fun hHeld0 => ?_)
                · first | exact HCG.out _ _ _ _ HN1.out | exact HCG.out _ _ _ _ HS.out.drew | exact HCG.out _ _ _ _ (((HN1.out.rowSet 2 rfl (k * 3) (by omega) (pcA (some (p, newGv nn 0 0 tg a hh)))).rowSet 2 rfl (k * 3 + 1) (by omega) (pcB (some (p, newGv nn 0 0 tg a hh)))).rowSet 2 rfl (k * 3 + 2) (by omega) (.pointer none))
                refine wpAnyH_take (i := 0) (v := ?_) rfl (by as_aux_lemma => kernel_rfl) (by as_aux_lemma => kernel_rfl) (by as_aux_lemma => kernel_rfl) (fun _ _ _ h => h) (Or.inl ⟨by rfl, ?_⟩) hHeld0 ?_
                rotate_left
                · intro w hSw
                  (try dsimp only at hSw)
                  go_simp
                  try (first | (with_reducible rfl) | rfl)
                try simp only [List.getElem_toArray, List.getElem_cons_zero, List.getElem_cons_succ, Act.put, List.setIfInBounds_toArray, List.set_cons_zero, List.set_cons_succ]
                refine wpAnyH_take (i := 1) (v := ?_) rfl (by as_aux_lemma => kernel_rfl) (by as_aux_lemma => kernel_rfl) (by as_aux_lemma => kernel_rfl) (fun _ _ _ h => h) (Or.inl ⟨by rfl, ?_⟩) hHeld0 ?_
                rotate_left
                · intro w hSw
                  (try dsimp only at hSw)
                  go_simp
                  try (first | (with_reducible rfl) | rfl)
                try simp only [List.getElem_toArray, List.getElem_cons_zero, List.getElem_cons_succ, Act.put, List.setIfInBounds_toArray, List.set_cons_zero, List.set_cons_succ]
                refine wpAnyH_take (i := 2) (v := ?_) rfl (by as_aux_lemma => kernel_rfl) (by as_aux_lemma => kernel_rfl) (by as_aux_lemma => kernel_rfl) (fun _ _ _ h => h) (Or.inl ⟨by rfl, ?_⟩) hHeld0 ?_
                rotate_left
                · intro w hSw
                  (try dsimp only at hSw)
                  go_simp
                  try (first | (with_reducible rfl) | rfl)
                try simp only [List.getElem_toArray, List.getElem_cons_zero, List.getElem_cons_succ, Act.put, List.setIfInBounds_toArray, List.set_cons_zero, List.set_cons_succ]
                refine wpAnyH_take (i := 3) (v := ?_) rfl (by as_aux_lemma => kernel_rfl) (by as_aux_lemma => kernel_rfl) (by as_aux_lemma => kernel_rfl) (fun _ _ _ h => h) (Or.inl ⟨by rfl, ?_⟩) hHeld0 ?_
                rotate_left
                · intro w hSw
                  (try dsimp only at hSw)
                  go_simp
                  try (first | (with_reducible rfl) | rfl)
                try simp only [List.getElem_toArray, List.getElem_cons_zero, List.getElem_cons_succ, Act.put, List.setIfInBounds_toArray, List.set_cons_zero, List.set_cons_succ]
                refine wpAnyH_take (i := 4) (v := ?_) rfl (by as_aux_lemma => kernel_rfl) (by as_aux_lemma => kernel_rfl) (by as_aux_lemma => kernel_rfl) (fun _ _ _ h => h) (Or.inl ⟨by rfl, ?_⟩) hHeld0 ?_
                rotate_left
                · intro w hSw
                  (try dsimp only at hSw)
                  go_simp
                  try (first | (with_reducible rfl) | rfl)
                try simp only [List.getElem_toArray, List.getElem_cons_zero, List.getElem_cons_succ, Act.put, List.setIfInBounds_toArray, List.set_cons_zero, List.set_cons_succ]
                refine wpAnyH_take (i := 5) (v := ?_) rfl (by as_aux_lemma => kernel_rfl) (by as_aux_lemma => kernel_rfl) (by as_aux_lemma => kernel_rfl) (fun _ _ _ h => h) (Or.inl ⟨by rfl, ?_⟩) hHeld0 ?_
                rotate_left
                · intro w hSw
                  (try dsimp only at hSw)
                  go_simp
                  try (first | (with_reducible rfl) | rfl)
                try simp only [List.getElem_toArray, List.getElem_cons_zero, List.getElem_cons_succ, Act.put, List.setIfInBounds_toArray, List.set_cons_zero, List.set_cons_succ]
                refine wpAnyH_take (i := 6) (v := ?_) rfl (by as_aux_lemma => kernel_rfl) (by as_aux_lemma => kernel_rfl) (by as_aux_lemma => kernel_rfl) (fun _ _ _ h => h) (Or.inl ⟨by rfl, ?_⟩) hHeld0 ?_
                rotate_left
                · intro w hSw
                  (try dsimp only at hSw)
                  go_simp
                  try (first | (with_reducible rfl) | rfl)
                try simp only [List.getElem_toArray, List.getElem_cons_zero, List.getElem_cons_succ, Act.put, List.setIfInBounds_toArray, List.set_cons_zero, List.set_cons_succ]
                refine wpAnyH_take (i := 7) (v := ?_) rfl (by as_aux_lemma => kernel_rfl) (by as_aux_lemma => kernel_rfl) (by as_aux_lemma => kernel_rfl) (fun _ _ _ h => h) (Or.inl ⟨by rfl, ?_⟩) hHeld0 ?_
                rotate_left
                · intro w hSw
                  (try dsimp only at hSw)
                  go_simp
                  try (first | (with_reducible rfl) | rfl)
                try simp only [List.getElem_toArray, List.getElem_cons_zero, List.getElem_cons_succ, Act.put, List.setIfInBounds_toArray, List.set_cons_zero, List.set_cons_succ]
                refine wpAnyH_ready (rs := [8]) (by as_aux_lemma => kernel_rfl) (by simp) ?_
                refine AllReadyH.cons rfl (fun K hK => ?_) ?_
                · go_simp
                  go_at_call 38; refine (give_new nn 0 0 tg a hh HPK.out.1.drop1.drew).mono ?_; rintro e wn ⟨p, rfl, h⟩; (have HN1 := Lib.hid (show St w (memA q ws ns :: (mtL gh ga bc nn tg hs ths ++ manyA thA [0, 0, 0, 0] (ths.set k (some (p, newGv nn 0 0 tg a hh))))) wn from HPK.out.2 _ _ _ (some (p, newGv nn 0 0 tg a hh)) h.swap)); clear h; obtain ⟨e0, f0⟩ := HN1.out.at_ 2 rfl (k * 3) HP.out.1; obtain ⟨e1, f1⟩ := HN1.out.at_ 2 rfl (k * 3 + 1) HP.out.2.1; obtain ⟨e2, f2⟩ := HN1.out.at_ 2 rfl (k * 3 + 2) HP.out.2.2
                  go_wp2_with fail
                  refine hK.out _ _ ?_ (fun hHeld8_8 => ?_)
                  · first | exact HCG.out _ _ _ _ HN1.out | exact HCG.out _ _ _ _ HS.out.drew | exact HCG.out _ _ _ _ (((HN1.out.rowSet 2 rfl (k * 3) (by omega) (pcA (some (p, newGv nn 0 0 tg a hh)))).rowSet 2 rfl (k * 3 + 1) (by omega) (pcB (some (p, newGv nn 0 0 tg a hh)))).rowSet 2 rfl (k * 3 + 2) (by omega) (.pointer none))
                  clear hK K
                  try simp only [List.getElem_toArray, List.getElem_cons_zero, List.getElem_cons_succ, Act.put, List.setIfInBounds_toArray, List.set_cons_zero, List.set_cons_succ]
                  refine wpAnyH_take (i := 9) (v := ?_) rfl (by as_aux_lemma => kernel_rfl) (by as_aux_lemma => kernel_rfl) (by as_aux_lemma => kernel_rfl) (fun _ _ _ h => h) (Or.inl ⟨by rfl, ?_⟩) hHeld8_8 ?_
                  rotate_left
                  · intro w hSw
                    (try dsimp only at hSw)
                    go_simp
                    try (first | (with_reducible rfl) | rfl)
                  try simp only [List.getElem_toArray, List.getElem_cons_zero, List.getElem_cons_succ, Act.put, List.setIfInBounds_toArray, List.set_cons_zero, List.set_cons_succ]
                  refine wpAnyH_take (i := 10) (v := ?_) rfl (by as_aux_lemma => kernel_rfl) (by as_aux_lemma => kernel_rfl) (by as_aux_lemma => kernel_rfl) (fun _ _ _ h => h) (Or.inl ⟨by rfl, ?_⟩) hHeld8_8 ?_
                  rotate_left
                  · intro w hSw
                    (try dsimp only at hSw)
                    go_simp
                    try (first | (with_reducible rfl) | rfl)
                  try simp only [List.getElem_toArray, List.getElem_cons_zero, List.getElem_cons_succ, Act.put, List.setIfInBounds_toArray, List.set_cons_zero, List.set_cons_succ]
                  refine wpAnyH_ready (rs := [11]) (by as_aux_lemma => kernel_rfl) (by simp) ?_
                  refine AllReadyH.cons rfl (fun K hK => ?_) ?_
                  · go_simp
                    refine hK.out _ _ ?_ (fun hHeld11_11 => ?_)
                    · first | exact HCG.out _ _ _ _ HN1.out | exact HCG.out _ _ _ _ HS.out.drew | exact HCG.out _ _ _ _ (((HN1.out.rowSet 2 rfl (k * 3) (by omega) (pcA (some (p, newGv nn 0 0 tg a hh)))).rowSet 2 rfl (k * 3 + 1) (by omega) (pcB (some (p, newGv nn 0 0 tg a hh)))).rowSet 2 rfl (k * 3 + 2) (by omega) (.pointer none))
                    clear hK K
                    try simp only [List.getElem_toArray, List.getElem_cons_zero, List.getElem_cons_succ, Act.put, List.setIfInBounds_toArray, List.set_cons_zero, List.set_cons_succ]
                    refine wpAnyH_done (by as_aux_lemma => kernel_rfl) ?_ _
                    go_wp2
                    go_meet
                    case rel =>
                      refine ⟨p, newGv nn 0 0 tg a hh, ths.set k (some (p, newGv nn 0 0 tg a hh)), List.getElem?_set_self HKL.out, HMI.out.give hk4 HHS.out ch HOK.out ha2 p, ?_⟩
                      have h9 := (((HN1.out.rowSet 2 rfl (k * 3) (by omega) (pcA (some (p, newGv nn 0 0 tg a hh)))).rowSet 2 rfl (k * 3 + 1) (by omega) (pcB (some (p, newGv nn 0 0 tg a hh)))).rowSet 2 rfl (k * 3 + 2) (by omega) (.pointer none))
                      have e9 := pcs_set (l := ths) (k := k) (some (p, newGv nn 0 0 tg a hh)) HKL.out
                      simp only [List.set_cons_succ, List.set_cons_zero, List.cons_append, List.nil_append] at h9
                      rw [e9] at h9
                      exact h9
                  exact AllReadyH.nil
                exact AllReadyH.nil
            | some ps =>
              obtain ⟨p, S⟩ := ps
              simp only [pcA, pcB] at e0 e1
              cases hg : S.give with
              | true =>
                rw [hg] at e0 e1
                go_wp2
                go_meet
                case rel => exact ⟨p, S, ths, HTH.out, HMI.out, HS.out⟩
              | false =>
                rw [hg] at e0 e1
                go_wp2
                go_meet
                case rel => exact ⟨p, S, ths, HTH.out, HMI.out, HS.out⟩
          case rest =>
            clear e0 e1 e2 f0 f1 f2 eh fh q0 q1 q2 q3 HS HPK HMI HTH HP HKL
            obtain ⟨p, S, th2, hth, hmi, hS⟩ := hcut
            have hiB : i < 4294967295 := by omega
            obtain ⟨p0, p1, p2⟩ := pcs_get hth
            have hkl : k < th2.length := (List.getElem?_eq_some_iff.1 hth).1
            obtain ⟨hok, r, S', ws2, nt, hst, hgv, hend⟩ := hmi.step hth hiB (fun i hi => hS.rng hi)
            have hlN : ws.length = N := by obtain ⟨_, _, h⟩ := hmi; exact h.len
            have HOKS : Hid (S.ok ws.length) := Lib.hid (by rw [hlN]; exact hok)
            obtain ⟨R2, hR1, hR2⟩ := hS.pick (f := thA) (k := k) (p := 0) (by match k, hk4 with | 0, _ => rfl | 1, _ => rfl | 2, _ => rfl | 3, _ => rfl) hth
            have HPK : Hid (St w (memA q ws ns :: tlA p S :: R2) wc ∧ ∀ w1 w' m' S', St w1 (m' :: thA 0 S' :: R2) w' → St w1 (m' :: (mtL gh ga bc nn tg hs th2 ++ manyA thA [0, 0, 0, 0] (th2.set k S'))) w') := Lib.hid ⟨hR1, hR2⟩
            obtain ⟨e0, f0⟩ := hS.at_ 2 rfl (k * 3) p0
            obtain ⟨e1, f1⟩ := hS.at_ 2 rfl (k * 3 + 1) p1
            obtain ⟨e2, f2⟩ := hS.at_ 2 rfl (k * 3 + 2) p2
            have HP := Lib.hid (And.intro p0 (And.intro p1 p2))
            have HKL := Lib.hid hkl
            have HTH := Lib.hid hth
            have HST := Lib.hid hst
            have hnl : ns.length ≤ 1000000000000 := by have := HNS.out; omega
            have hne : gh ≠ ga := hS.ne 1 2 (by decide) rfl rfl
            have hne2 : ga ≠ gh := fun e => hne e.symm
            clear hS hR1 hR2 hok hst hmi hth p0 p1 p2 hlN hkl
            simp only [pcA, pcB] at e0 e1
            rcases hend with ⟨rfl, hM⟩ | ⟨rfl, hg0, hM⟩ | ⟨rfl, hM⟩ | ⟨rfl, hg0, hM⟩ | ⟨rfl, hg0, hM⟩
            · cases hg : S.give with
              | true =>
                simp only [hg, if_true, if_false, Bool.false_eq_true] at e0 e1
                go_wp2_with (go_at_call 30; refine (pstep (.pointer none) (.inr ⟨hg, rfl, rfl⟩) HST.out rfl (z := 0) rfl HPK.out.1 HOKS.out hnl).mono ?_; rintro e wn ⟨rfl, h⟩; (have HN1 := Lib.hid (show St w (memA q ws2 (ns ++ [nt]) :: (mtL gh ga bc nn tg hs th2 ++ manyA thA [0, 0, 0, 0] (th2.set k (some (p, S'))))) wn from HPK.out.2 _ _ _ (some (p, S')) (h))); clear h e0 e1 e2 f0 f1 f2; obtain ⟨e0, f0⟩ := HN1.out.at_ 2 rfl (k * 3) HP.out.1; obtain ⟨e1, f1⟩ := HN1.out.at_ 2 rfl (k * 3 + 1) HP.out.2.1; obtain ⟨e2, f2⟩ := HN1.out.at_ 2 rfl (k * 3 + 2) HP.out.2.2; (have eh := HN1.out.row_lt 1 rfl); simp only [pcA, pcB, hg, if_true, if_false, Bool.false_eq_true] at e0 e1; obtain ⟨eh, fh⟩ := HN1.out.at_ 1 rfl k (u := .int .u32 hh) (by rw [List.getElem?_map, HHS.out]; rfl))
                have hm' := hM
                have H9 := Lib.hid (show St w (memA q ws2 (ns ++ [nt]) :: (mtL gh ga bc nn tg hs (th2.set k (some (p, S'))) ++ manyA thA [0, 0, 0, 0] (th2.set k (some (p, S'))))) wn by
                  have h9 := HN1.out
                  have e9 := pcs_same (t := some (p, S')) HTH.out (by simp only [pcA, hgv]) (by simp only [pcB, hgv])
                  unfold mtL
                  rw [e9]
                  exact h9)
                clear e0 e1 e2 f0 f1 f2 eh fh
                obtain ⟨l0, l1, T0, T1, hA0, hA1, hAN, hl4, hrg4, hwN⟩ := hm'.whole
                have HA0 := Lib.hid hA0
                have HA1 := Lib.hid hA1
                have HAN := Lib.hid hAN
                have HL4 := Lib.hid hl4
                have HWN := Lib.hid hwN
                have HM2 := Lib.hid hm'
                have HCQ : Hid (∀ m x y X w', St w (m :: x :: y :: bxC bc nn 0 0 tg :: X) w' → w'.cell? ⟨bc, 0, none⟩ = some (.int .i64 nn) ∧ w'.cell? ⟨bc, 1, none⟩ = some (.int .i64 0) ∧ w'.cell? ⟨bc, 2, none⟩ = some (.int .i64 0) ∧ w'.cell? ⟨bc, 3, none⟩ = some (.int .u32 tg)) := Lib.hid fun m x y X w' h => cells4 (h.cells 3 rfl)
                clear hA0 hA1 hAN hl4 hrg4 hwN hm'
                refine wp_region_held_drew (S := (fun w' => w'.cell? ⟨bc, 0, none⟩ = some (.int .i64 nn) ∧ w'.cell? ⟨bc, 1, none⟩ = some (.int .i64 0) ∧ w'.cell? ⟨bc, 2, none⟩ = some (.int .i64 0) ∧ w'.cell? ⟨bc, 3, none⟩ = some (.int .u32 tg))) (by as_aux_lemma => kernel_rfl) ?_ (fun hHeld0 => ?_)
                · first | exact HCQ.out _ _ _ _ _ HZ.out | exact HCQ.out _ _ _ _ _ HV.out | exact HCQ.out _ _ _ _ _ H9.out.drew
                refine wpAnyH_take (i := 0) (v := ?_) rfl (by as_aux_lemma => kernel_rfl) (by as_aux_lemma => kernel_rfl) (by as_aux_lemma => kernel_rfl) (fun _ _ _ h => h) (Or.inl ⟨by rfl, ?_⟩) hHeld0 ?_
                rotate_left
                · intro w hSw
                  (try dsimp only at hSw)
                  go_simp
                  try (first | (with_reducible rfl) | rfl)
                try simp only [List.getElem_toArray, List.getElem_cons_zero, List.getElem_cons_succ, Act.put, List.setIfInBounds_toArray, List.set_cons_zero, List.set_cons_succ]
                refine wpAnyH_take (i := 1) (v := ?_) rfl (by as_aux_lemma => kernel_rfl) (by as_aux_lemma => kernel_rfl) (by as_aux_lemma => kernel_rfl) (fun _ _ _ h => h) (Or.inl ⟨by rfl, ?_⟩) hHeld0 ?_
                rotate_left
                · intro w hSw
                  (try dsimp only at hSw)
                  go_simp
                  try (first | (with_reducible rfl) | rfl)
                try simp only [List.getElem_toArray, List.getElem_cons_zero, List.getElem_cons_succ, Act.put, List.setIfInBounds_toArray, List.set_cons_zero, List.set_cons_succ]
                refine wpAnyH_take (i := 3) (v := ?_) rfl (by as_aux_lemma => kernel_rfl) (by as_aux_lemma => kernel_rfl) (by as_aux_lemma => kernel_rfl) (fun _ _ _ h => h) (Or.inl ⟨by rfl, ?_⟩) hHeld0 ?_
                rotate_left
                · intro w hSw
                  (try dsimp only at hSw)
                  go_simp
                  try (first | (with_reducible rfl) | rfl)
                try simp only [List.getElem_toArray, List.getElem_cons_zero, List.getElem_cons_succ, Act.put, List.setIfInBounds_toArray, List.set_cons_zero, List.set_cons_succ]
                refine wpAnyH_ready (rs := [2]) (by as_aux_lemma => kernel_rfl) (by simp) ?_
                refine AllReadyH.cons rfl (fun K hK => ?_) ?_
                · go_simp
                  go_at_call 34; refine (words_pos N H9.out.drew HWN.out hN0).mono ?_; rintro e wv ⟨g5, c5, rfl, _, hrd, _, hb⟩; (have HRD := Lib.hid hrd); (have HV := Lib.hid (H9.out.drew.below hb)); clear hrd hb
                  go_wp2_with fail
                  refine hK.out _ _ ?_ (fun hHeld3_2 => ?_)
                  · first | exact HCQ.out _ _ _ _ _ HZ.out | exact HCQ.out _ _ _ _ _ HV.out | exact HCQ.out _ _ _ _ _ H9.out.drew
                  clear hK K
                  try simp only [List.getElem_toArray, List.getElem_cons_zero, List.getElem_cons_succ, Act.put, List.setIfInBounds_toArray, List.set_cons_zero, List.set_cons_succ]
                  refine wpAnyH_ready (rs := [4]) (by as_aux_lemma => kernel_rfl) (by simp) ?_
                  refine AllReadyH.cons rfl (fun K hK => ?_) ?_
                  · go_simp
                    go_at_call 40; refine (whole7 nn N tg g5 c5 _ gh 4 _ l0 l1 T0 T1 _ HOK.out HN.out HRD.out HWN.out HA0.out HA1.out HV.out.rngs (HV.out.rd32 1 rfl HL4.out) HL4.out HAN.out).mono ?_; rintro e wz ⟨rfl, hb⟩; (have HZ := Lib.hid (HV.out.below hb)); clear hb
                    go_wp2_with fail
                    refine hK.out _ _ ?_ (fun hHeld4_4 => ?_)
                    · first | exact HCQ.out _ _ _ _ _ HZ.out | exact HCQ.out _ _ _ _ _ HV.out | exact HCQ.out _ _ _ _ _ H9.out.drew
                    clear hK K
                    try simp only [List.getElem_toArray, List.getElem_cons_zero, List.getElem_cons_succ, Act.put, List.setIfInBounds_toArray, List.set_cons_zero, List.set_cons_succ]
                    refine wpAnyH_take (i := 5) (v := ?_) rfl (by as_aux_lemma => kernel_rfl) (by as_aux_lemma => kernel_rfl) (by as_aux_lemma => kernel_rfl) (fun _ _ _ h => h) (Or.inl ⟨by rfl, ?_⟩) hHeld4_4 ?_
                    rotate_left
                    · intro w hSw
                      (try dsimp only at hSw)
                      go_simp
                      try (first | (with_reducible rfl) | rfl)
                    try simp only [List.getElem_toArray, List.getElem_cons_zero, List.getElem_cons_succ, Act.put, List.setIfInBounds_toArray, List.set_cons_zero, List.set_cons_succ]
                    refine wpAnyH_done (by as_aux_lemma => kernel_rfl) ?_ _
                    go_wp2
                    go_roundg kk
                    case measure => omega
                    case rel => exact ⟨i + 1, rfl, by omega, by have := HK1.out; omega, MtRel.mk (by have := HNS.out; simp; omega) HM2.out HZ.out⟩
                  exact AllReadyH.nil
                exact AllReadyH.nil
              | false =>
                simp only [hg, if_true, if_false, Bool.false_eq_true] at e0 e1
                go_wp2_with (go_at_call 30; refine (pstep (.pointer none) (.inl ⟨hg, rfl, rfl⟩) HST.out rfl (z := 0) rfl HPK.out.1 HOKS.out hnl).mono ?_; rintro e wn ⟨rfl, h⟩; (have HN1 := Lib.hid (show St w (memA q ws2 (ns ++ [nt]) :: (mtL gh ga bc nn tg hs th2 ++ manyA thA [0, 0, 0, 0] (th2.set k (some (p, S'))))) wn from HPK.out.2 _ _ _ (some (p, S')) (h))); clear h e0 e1 e2 f0 f1 f2; obtain ⟨e0, f0⟩ := HN1.out.at_ 2 rfl (k * 3) HP.out.1; obtain ⟨e1, f1⟩ := HN1.out.at_ 2 rfl (k * 3 + 1) HP.out.2.1; obtain ⟨e2, f2⟩ := HN1.out.at_ 2 rfl (k * 3 + 2) HP.out.2.2; (have eh := HN1.out.row_lt 1 rfl); simp only [pcA, pcB, hg, if_true, if_false, Bool.false_eq_true] at e0 e1; obtain ⟨eh, fh⟩ := HN1.out.at_ 1 rfl k (u := .int .u32 hh) (by rw [List.getElem?_map, HHS.out]; rfl))
                have hm' := hM
                have H9 := Lib.hid (show St w (memA q ws2 (ns ++ [nt]) :: (mtL gh ga bc nn tg hs (th2.set k (some (p, S'))) ++ manyA thA [0, 0, 0, 0] (th2.set k (some (p, S'))))) wn by
                  have h9 := HN1.out
                  have e9 := pcs_same (t := some (p, S')) HTH.out (by simp only [pcA, hgv]) (by simp only [pcB, hgv])
                  unfold mtL
                  rw [e9]
                  exact h9)
                clear e0 e1 e2 f0 f1 f2 eh fh
                obtain ⟨l0, l1, T0, T1, hA0, hA1, hAN, hl4, hrg4, hwN⟩ := hm'.whole
                have HA0 := Lib.hid hA0
                have HA1 := Lib.hid hA1
                have HAN := Lib.hid hAN
                have HL4 := Lib.hid hl4
                have HWN := Lib.hid hwN
                have HM2 := Lib.hid hm'
                have HCQ : Hid (∀ m x y X w', St w (m :: x :: y :: bxC bc nn 0 0 tg :: X) w' → w'.cell? ⟨bc, 0, none⟩ = some (.int .i64 nn) ∧ w'.cell? ⟨bc, 1, none⟩ = some (.int .i64 0) ∧ w'.cell? ⟨bc, 2, none⟩ = some (.int .i64 0) ∧ w'.cell? ⟨bc, 3, none⟩ = some (.int .u32 tg)) := Lib.hid fun m x y X w' h => cells4 (h.cells 3 rfl)
                clear hA0 hA1 hAN hl4 hrg4 hwN hm'
                refine wp_region_held_drew (S := (fun w' => w'.cell? ⟨bc, 0, none⟩ = some (.int .i64 nn) ∧ w'.cell? ⟨bc, 1, none⟩ = some (.int .i64 0) ∧ w'.cell? ⟨bc, 2, none⟩ = some (.int .i64 0) ∧ w'.cell? ⟨bc, 3, none⟩ = some (.int .u32 tg))) (by as_aux_lemma => kernel_rfl) ?_ (fun hHeld0 => ?_)
                · first | exact HCQ.out _ _ _ _ _ HZ.out | exact HCQ.out _ _ _ _ _ HV.out | exact HCQ.out _ _ _ _ _ H9.out.drew
                refine wpAnyH_take (i := 0) (v := ?_) rfl (by as_aux_lemma => kernel_rfl) (by as_aux_lemma => kernel_rfl) (by as_aux_lemma => kernel_rfl) (fun _ _ _ h => h) (Or.inl ⟨by rfl, ?_⟩) hHeld0 ?_
                rotate_left
                · intro w hSw
                  (try dsimp only at hSw)
                  go_simp
                  try (first | (with_reducible rfl) | rfl)
                try simp only [List.getElem_toArray, List.getElem_cons_zero, List.getElem_cons_succ, Act.put, List.setIfInBounds_toArray, List.set_cons_zero, List.set_cons_succ]
                refine wpAnyH_take (i := 1) (v := ?_) rfl (by as_aux_lemma => kernel_rfl) (by as_aux_lemma => kernel_rfl) (by as_aux_lemma => kernel_rfl) (fun _ _ _ h => h) (Or.inl ⟨by rfl, ?_⟩) hHeld0 ?_
                rotate_left
                · intro w hSw
                  (try dsimp only at hSw)
                  go_simp
                  try (first | (with_reducible rfl) | rfl)
                try simp only [List.getElem_toArray, List.getElem_cons_zero, List.getElem_cons_succ, Act.put, List.setIfInBounds_toArray, List.set_cons_zero, List.set_cons_succ]
                refine wpAnyH_take (i := 3) (v := ?_) rfl (by as_aux_lemma => kernel_rfl) (by as_aux_lemma => kernel_rfl) (by as_aux_lemma => kernel_rfl) (fun _ _ _ h => h) (Or.inl ⟨by rfl, ?_⟩) hHeld0 ?_
                rotate_left
                · intro w hSw
                  (try dsimp only at hSw)
                  go_simp
                  try (first | (with_reducible rfl) | rfl)
                try simp only [List.getElem_toArray, List.getElem_cons_zero, List.getElem_cons_succ, Act.put, List.setIfInBounds_toArray, List.set_cons_zero, List.set_cons_succ]
                refine wpAnyH_ready (rs := [2]) (by as_aux_lemma => kernel_rfl) (by simp) ?_
                refine AllReadyH.cons rfl (fun K hK => ?_) ?_
                · go_simp
                  go_at_call 34; refine (words_pos N H9.out.drew HWN.out hN0).mono ?_; rintro e wv ⟨g5, c5, rfl, _, hrd, _, hb⟩; (have HRD := Lib.hid hrd); (have HV := Lib.hid (H9.out.drew.below hb)); clear hrd hb
                  go_wp2_with fail
                  refine hK.out _ _ ?_ (fun hHeld3_2 => ?_)
                  · first | exact HCQ.out _ _ _ _ _ HZ.out | exact HCQ.out _ _ _ _ _ HV.out | exact HCQ.out _ _ _ _ _ H9.out.drew
                  clear hK K
                  try simp only [List.getElem_toArray, List.getElem_cons_zero, List.getElem_cons_succ, Act.put, List.setIfInBounds_toArray, List.set_cons_zero, List.set_cons_succ]
                  refine wpAnyH_ready (rs := [4]) (by as_aux_lemma => kernel_rfl) (by simp) ?_
                  refine AllReadyH.cons rfl (fun K hK => ?_) ?_
                  · go_simp
                    go_at_call 40; refine (whole7 nn N tg g5 c5 _ gh 4 _ l0 l1 T0 T1 _ HOK.out HN.out HRD.out HWN.out HA0.out HA1.out HV.out.rngs (HV.out.rd32 1 rfl HL4.out) HL4.out HAN.out).mono ?_; rintro e wz ⟨rfl, hb⟩; (have HZ := Lib.hid (HV.out.below hb)); clear hb
                    go_wp2_with fail
                    refine hK.out _ _ ?_ (fun hHeld4_4 => ?_)
                    · first | exact HCQ.out _ _ _ _ _ HZ.out | exact HCQ.out _ _ _ _ _ HV.out | exact HCQ.out _ _ _ _ _ H9.out.drew
                    clear hK K
                    try simp only [List.getElem_toArray, List.getElem_cons_zero, List.getElem_cons_succ, Act.put, List.setIfInBounds_toArray, List.set_cons_zero, List.set_cons_succ]
                    refine wpAnyH_take (i := 5) (v := ?_) rfl (by as_aux_lemma => kernel_rfl) (by as_aux_lemma => kernel_rfl) (by as_aux_lemma => kernel_rfl) (fun _ _ _ h => h) (Or.inl ⟨by rfl, ?_⟩) hHeld4_4 ?_
                    rotate_left
                    · intro w hSw
                      (try dsimp only at hSw)
                      go_simp
                      try (first | (with_reducible rfl) | rfl)
                    try simp only [List.getElem_toArray, List.getElem_cons_zero, List.getElem_cons_succ, Act.put, List.setIfInBounds_toArray, List.set_cons_zero, List.set_cons_succ]
                    refine wpAnyH_done (by as_aux_lemma => kernel_rfl) ?_ _
                    go_wp2
                    go_roundg kk
                    case measure => omega
                    case rel => exact ⟨i + 1, rfl, by omega, by have := HK1.out; omega, MtRel.mk (by have := HNS.out; simp; omega) HM2.out HZ.out⟩
                  exact AllReadyH.nil
                exact AllReadyH.nil
            · have hg := hg0
              clear hg0
              simp only [hg, if_true, if_false, Bool.false_eq_true] at e0 e1
              go_wp2_with (go_at_call 30; refine (pstep (.pointer none) (.inl ⟨hg, rfl, rfl⟩) HST.out rfl (z := 0) rfl HPK.out.1 HOKS.out hnl).mono ?_; rintro e wn ⟨rfl, h⟩; (have HN1 := Lib.hid (show St w (memA q ws2 (ns ++ [nt]) :: (mtL gh ga bc nn tg hs th2 ++ manyA thA [0, 0, 0, 0] (th2.set k none))) wn from HPK.out.2 _ _ _ none ((h.drop1.factI (p := True) trivial).swap))); clear h e0 e1 e2 f0 f1 f2; obtain ⟨e0, f0⟩ := HN1.out.at_ 2 rfl (k * 3) HP.out.1; obtain ⟨e1, f1⟩ := HN1.out.at_ 2 rfl (k * 3 + 1) HP.out.2.1; obtain ⟨e2, f2⟩ := HN1.out.at_ 2 rfl (k * 3 + 2) HP.out.2.2; (have eh := HN1.out.row_lt 1 rfl); simp only [pcA, pcB, hg, if_true, if_false, Bool.false_eq_true] at e0 e1; obtain ⟨eh, fh⟩ := HN1.out.at_ 1 rfl k (u := .int .u32 hh) (by rw [List.getElem?_map, HHS.out]; rfl))
              have hm' := hM
              have h9 := ((HN1.out.rowSet 2 rfl (k * 3) (by omega) (.pointer none)).rowSet 2 rfl (k * 3 + 1) (by omega) (.pointer none)).rowSet 2 rfl (k * 3 + 2) (by omega) (.pointer none)
              have e9 := pcs_set (l := th2) (k := k) none HKL.out
              simp only [pcA, pcB] at e9
              simp only [List.set_cons_succ, List.set_cons_zero, List.cons_append, List.nil_append] at h9
              rw [e9] at h9
              have H9 := Lib.hid (show St w (memA q ws2 (ns ++ [nt]) :: (mtL gh ga bc nn tg hs (th2.set k none) ++ manyA thA [0, 0, 0, 0] (th2.set k none))) _ from h9)
              clear h9
              clear e0 e1 e2 f0 f1 f2 eh fh
              obtain ⟨l0, l1, T0, T1, hA0, hA1, hAN, hl4, hrg4, hwN⟩ := hm'.whole
              have HA0 := Lib.hid hA0
              have HA1 := Lib.hid hA1
              have HAN := Lib.hid hAN
              have HL4 := Lib.hid hl4
              have HWN := Lib.hid hwN
              have HM2 := Lib.hid hm'
              have HCQ : Hid (∀ m x y X w', St w (m :: x :: y :: bxC bc nn 0 0 tg :: X) w' → w'.cell? ⟨bc, 0, none⟩ = some (.int .i64 nn) ∧ w'.cell? ⟨bc, 1, none⟩ = some (.int .i64 0) ∧ w'.cell? ⟨bc, 2, none⟩ = some (.int .i64 0) ∧ w'.cell? ⟨bc, 3, none⟩ = some (.int .u32 tg)) := Lib.hid fun m x y X w' h => cells4 (h.cells 3 rfl)
              clear hA0 hA1 hAN hl4 hrg4 hwN hm'
              refine wp_region_held_drew (S := (fun w' => w'.cell? ⟨bc, 0, none⟩ = some (.int .i64 nn) ∧ w'.cell? ⟨bc, 1, none⟩ = some (.int .i64 0) ∧ w'.cell? ⟨bc, 2, none⟩ = some (.int .i64 0) ∧ w'.cell? ⟨bc, 3, none⟩ = some (.int .u32 tg))) (by as_aux_lemma => kernel_rfl) ?_ (fun hHeld0 => ?_)
              · first | exact HCQ.out _ _ _ _ _ HZ.out | exact HCQ.out _ _ _ _ _ HV.out | exact HCQ.out _ _ _ _ _ H9.out.drew
              refine wpAnyH_take (i := 0) (v := ?_) rfl (by as_aux_lemma => kernel_rfl) (by as_aux_lemma => kernel_rfl) (by as_aux_lemma => kernel_rfl) (fun _ _ _ h => h) (Or.inl ⟨by rfl, ?_⟩) hHeld0 ?_
              rotate_left
              · intro w hSw
                (try dsimp only at hSw)
                go_simp
                try (first | (with_reducible rfl) | rfl)
              try simp only [List.getElem_toArray, List.getElem_cons_zero, List.getElem_cons_succ, Act.put, List.setIfInBounds_toArray, List.set_cons_zero, List.set_cons_succ]
              refine wpAnyH_take (i := 1) (v := ?_) rfl (by as_aux_lemma => kernel_rfl) (by as_aux_lemma => kernel_rfl) (by as_aux_lemma => kernel_rfl) (fun _ _ _ h => h) (Or.inl ⟨by rfl, ?_⟩) hHeld0 ?_
              rotate_left
              · intro w hSw
                (try dsimp only at hSw)
                go_simp
                try (first | (with_reducible rfl) | rfl)
              try simp only [List.getElem_toArray, List.getElem_cons_zero, List.getElem_cons_succ, Act.put, List.setIfInBounds_toArray, List.set_cons_zero, List.set_cons_succ]
              refine wpAnyH_take (i := 3) (v := ?_) rfl (by as_aux_lemma => kernel_rfl) (by as_aux_lemma => kernel_rfl) (by as_aux_lemma => kernel_rfl) (fun _ _ _ h => h) (Or.inl ⟨by rfl, ?_⟩) hHeld0 ?_
              rotate_left
              · intro w hSw
                (try dsimp only at hSw)
                go_simp
                try (first | (with_reducible rfl) | rfl)
              try simp only [List.getElem_toArray, List.getElem_cons_zero, List.getElem_cons_succ, Act.put, List.setIfInBounds_toArray, List.set_cons_zero, List.set_cons_succ]
              refine wpAnyH_ready (rs := [2]) (by as_aux_lemma => kernel_rfl) (by simp) ?_
              refine AllReadyH.cons rfl (fun K hK => ?_) ?_
              · go_simp
                go_at_call 34; refine (words_pos N H9.out.drew HWN.out hN0).mono ?_; rintro e wv ⟨g5, c5, rfl, _, hrd, _, hb⟩; (have HRD := Lib.hid hrd); (have HV := Lib.hid (H9.out.drew.below hb)); clear hrd hb
                go_wp2_with fail
                refine hK.out _ _ ?_ (fun hHeld3_2 => ?_)
                · first | exact HCQ.out _ _ _ _ _ HZ.out | exact HCQ.out _ _ _ _ _ HV.out | exact HCQ.out _ _ _ _ _ H9.out.drew
                clear hK K
                try simp only [List.getElem_toArray, List.getElem_cons_zero, List.getElem_cons_succ, Act.put, List.setIfInBounds_toArray, List.set_cons_zero, List.set_cons_succ]
                refine wpAnyH_ready (rs := [4]) (by as_aux_lemma => kernel_rfl) (by simp) ?_
                refine AllReadyH.cons rfl (fun K hK => ?_) ?_
                · go_simp
                  go_at_call 40; refine (whole7 nn N tg g5 c5 _ gh 4 _ l0 l1 T0 T1 _ HOK.out HN.out HRD.out HWN.out HA0.out HA1.out HV.out.rngs (HV.out.rd32 1 rfl HL4.out) HL4.out HAN.out).mono ?_; rintro e wz ⟨rfl, hb⟩; (have HZ := Lib.hid (HV.out.below hb)); clear hb
                  go_wp2_with fail
                  refine hK.out _ _ ?_ (fun hHeld4_4 => ?_)
                  · first | exact HCQ.out _ _ _ _ _ HZ.out | exact HCQ.out _ _ _ _ _ HV.out | exact HCQ.out _ _ _ _ _ H9.out.drew
                  clear hK K
                  try simp only [List.getElem_toArray, List.getElem_cons_zero, List.getElem_cons_succ, Act.put, List.setIfInBounds_toArray, List.set_cons_zero, List.set_cons_succ]
                  refine wpAnyH_take (i := 5) (v := ?_) rfl (by as_aux_lemma => kernel_rfl) (by as_aux_lemma => kernel_rfl) (by as_aux_lemma => kernel_rfl) (fun _ _ _ h => h) (Or.inl ⟨by rfl, ?_⟩) hHeld4_4 ?_
                  rotate_left
                  · intro w hSw
                    (try dsimp only at hSw)
                    go_simp
                    try (first | (with_reducible rfl) | rfl)
                  try simp only [List.getElem_toArray, List.getElem_cons_zero, List.getElem_cons_succ, Act.put, List.setIfInBounds_toArray, List.set_cons_zero, List.set_cons_succ]
                  refine wpAnyH_done (by as_aux_lemma => kernel_rfl) ?_ _
                  go_wp2
                  go_roundg kk
                  case measure => omega
                  case rel => exact ⟨i + 1, rfl, by omega, by have := HK1.out; omega, MtRel.mk (by have := HNS.out; simp; omega) HM2.out HZ.out⟩
                exact AllReadyH.nil
              exact AllReadyH.nil
            · cases hg : S.give with
              | true =>
                simp only [hg, if_true, if_false, Bool.false_eq_true] at e0 e1
                go_wp2_with (go_at_call 30; refine (pstep (.pointer none) (.inr ⟨hg, rfl, rfl⟩) HST.out rfl (z := 0) rfl HPK.out.1 HOKS.out hnl).mono ?_; rintro e wn ⟨rfl, h⟩; (have HN1 := Lib.hid (show St w (memA q ws2 (ns ++ [nt]) :: (mtL gh ga bc nn tg hs th2 ++ manyA thA [0, 0, 0, 0] (th2.set k none))) wn from HPK.out.2 _ _ _ none ((h.drop1.factI (p := True) trivial).swap))); clear h e0 e1 e2 f0 f1 f2; obtain ⟨e0, f0⟩ := HN1.out.at_ 2 rfl (k * 3) HP.out.1; obtain ⟨e1, f1⟩ := HN1.out.at_ 2 rfl (k * 3 + 1) HP.out.2.1; obtain ⟨e2, f2⟩ := HN1.out.at_ 2 rfl (k * 3 + 2) HP.out.2.2; (have eh := HN1.out.row_lt 1 rfl); simp only [pcA, pcB, hg, if_true, if_false, Bool.false_eq_true] at e0 e1; obtain ⟨eh, fh⟩ := HN1.out.at_ 1 rfl k (u := .int .u32 hh) (by rw [List.getElem?_map, HHS.out]; rfl))
                have hm' := hM
                have h9 := ((HN1.out.rowSet 2 rfl (k * 3) (by omega) (.pointer none)).rowSet 2 rfl (k * 3 + 1) (by omega) (.pointer none)).rowSet 2 rfl (k * 3 + 2) (by omega) (.pointer none)
                have e9 := pcs_set (l := th2) (k := k) none HKL.out
                simp only [pcA, pcB] at e9
                simp only [List.set_cons_succ, List.set_cons_zero, List.cons_append, List.nil_append] at h9
                rw [e9] at h9
                have H9 := Lib.hid (show St w (memA q ws2 (ns ++ [nt]) :: (mtL gh ga bc nn tg hs (th2.set k none) ++ manyA thA [0, 0, 0, 0] (th2.set k none))) _ from h9)
                clear h9
                clear e0 e1 e2 f0 f1 f2 eh fh
                obtain ⟨l0, l1, T0, T1, hA0, hA1, hAN, hl4, hrg4, hwN⟩ := hm'.whole
                have HA0 := Lib.hid hA0
                have HA1 := Lib.hid hA1
                have HAN := Lib.hid hAN
                have HL4 := Lib.hid hl4
                have HWN := Lib.hid hwN
                have HM2 := Lib.hid hm'
                have HCQ : Hid (∀ m x y X w', St w (m :: x :: y :: bxC bc nn 0 0 tg :: X) w' → w'.cell? ⟨bc, 0, none⟩ = some (.int .i64 nn) ∧ w'.cell? ⟨bc, 1, none⟩ = some (.int .i64 0) ∧ w'.cell? ⟨bc, 2, none⟩ = some (.int .i64 0) ∧ w'.cell? ⟨bc, 3, none⟩ = some (.int .u32 tg)) := Lib.hid fun m x y X w' h => cells4 (h.cells 3 rfl)
                clear hA0 hA1 hAN hl4 hrg4 hwN hm'
                refine wp_region_held_drew (S := (fun w' => w'.cell? ⟨bc, 0, none⟩ = some (.int .i64 nn) ∧ w'.cell? ⟨bc, 1, none⟩ = some (.int .i64 0) ∧ w'.cell? ⟨bc, 2, none⟩ = some (.int .i64 0) ∧ w'.cell? ⟨bc, 3, none⟩ = some (.int .u32 tg))) (by as_aux_lemma => kernel_rfl) ?_ (fun hHeld0 => ?_)
                · first | exact HCQ.out _ _ _ _ _ HZ.out | exact HCQ.out _ _ _ _ _ HV.out | exact HCQ.out _ _ _ _ _ H9.out.drew
                refine wpAnyH_take (i := 0) (v := ?_) rfl (by as_aux_lemma => kernel_rfl) (by as_aux_lemma => kernel_rfl) (by as_aux_lemma => kernel_rfl) (fun _ _ _ h => h) (Or.inl ⟨by rfl, ?_⟩) hHeld0 ?_
                rotate_left
                · intro w hSw
                  (try dsimp only at hSw)
                  go_simp
                  try (first | (with_reducible rfl) | rfl)
                try simp only [List.getElem_toArray, List.getElem_cons_zero, List.getElem_cons_succ, Act.put, List.setIfInBounds_toArray, List.set_cons_zero, List.set_cons_succ]
                refine wpAnyH_take (i := 1) (v := ?_) rfl (by as_aux_lemma => kernel_rfl) (by as_aux_lemma => kernel_rfl) (by as_aux_lemma => kernel_rfl) (fun _ _ _ h => h) (Or.inl ⟨by rfl, ?_⟩) hHeld0 ?_
                rotate_left
                · intro w hSw
                  (try dsimp only at hSw)
                  go_simp
                  try (first | (with_reducible rfl) | rfl)
                try simp only [List.getElem_toArray, List.getElem_cons_zero, List.getElem_cons_succ, Act.put, List.setIfInBounds_toArray, List.set_cons_zero, List.set_cons_succ]
                refine wpAnyH_take (i := 3) (v := ?_) rfl (by as_aux_lemma => kernel_rfl) (by as_aux_lemma => kernel_rfl) (by as_aux_lemma => kernel_rfl) (fun _ _ _ h => h) (Or.inl ⟨by rfl, ?_⟩) hHeld0 ?_
                rotate_left
                · intro w hSw
                  (try dsimp only at hSw)
                  go_simp
                  try (first | (with_reducible rfl) | rfl)
                try simp only [List.getElem_toArray, List.getElem_cons_zero, List.getElem_cons_succ, Act.put, List.setIfInBounds_toArray, List.set_cons_zero, List.set_cons_succ]
                refine wpAnyH_ready (rs := [2]) (by as_aux_lemma => kernel_rfl) (by simp) ?_
                refine AllReadyH.cons rfl (fun K hK => ?_) ?_
                · go_simp
                  go_at_call 34; refine (words_pos N H9.out.drew HWN.out hN0).mono ?_; rintro e wv ⟨g5, c5, rfl, _, hrd, _, hb⟩; (have HRD := Lib.hid hrd); (have HV := Lib.hid (H9.out.drew.below hb)); clear hrd hb
                  go_wp2_with fail
                  refine hK.out _ _ ?_ (fun hHeld3_2 => ?_)
                  · first | exact HCQ.out _ _ _ _ _ HZ.out | exact HCQ.out _ _ _ _ _ HV.out | exact HCQ.out _ _ _ _ _ H9.out.drew
                  clear hK K
                  try simp only [List.getElem_toArray, List.getElem_cons_zero, List.getElem_cons_succ, Act.put, List.setIfInBounds_toArray, List.set_cons_zero, List.set_cons_succ]
                  refine wpAnyH_ready (rs := [4]) (by as_aux_lemma => kernel_rfl) (by simp) ?_
                  refine AllReadyH.cons rfl (fun K hK => ?_) ?_
                  · go_simp
                    go_at_call 40; refine (whole7 nn N tg g5 c5 _ gh 4 _ l0 l1 T0 T1 _ HOK.out HN.out HRD.out HWN.out HA0.out HA1.out HV.out.rngs (HV.out.rd32 1 rfl HL4.out) HL4.out HAN.out).mono ?_; rintro e wz ⟨rfl, hb⟩; (have HZ := Lib.hid (HV.out.below hb)); clear hb
                    go_wp2_with fail
                    refine hK.out _ _ ?_ (fun hHeld4_4 => ?_)
                    · first | exact HCQ.out _ _ _ _ _ HZ.out | exact HCQ.out _ _ _ _ _ HV.out | exact HCQ.out _ _ _ _ _ H9.out.drew
                    clear hK K
                    try simp only [List.getElem_toArray, List.getElem_cons_zero, List.getElem_cons_succ, Act.put, List.setIfInBounds_toArray, List.set_cons_zero, List.set_cons_succ]
                    refine wpAnyH_take (i := 5) (v := ?_) rfl (by as_aux_lemma => kernel_rfl) (by as_aux_lemma => kernel_rfl) (by as_aux_lemma => kernel_rfl) (fun _ _ _ h => h) (Or.inl ⟨by rfl, ?_⟩) hHeld4_4 ?_
                    rotate_left
                    · intro w hSw
                      (try dsimp only at hSw)
                      go_simp
                      try (first | (with_reducible rfl) | rfl)
                    try simp only [List.getElem_toArray, List.getElem_cons_zero, List.getElem_cons_succ, Act.put, List.setIfInBounds_toArray, List.set_cons_zero, List.set_cons_succ]
                    refine wpAnyH_done (by as_aux_lemma => kernel_rfl) ?_ _
                    go_wp2
                    go_roundg kk
                    case measure => omega
                    case rel => exact ⟨i + 1, rfl, by omega, by have := HK1.out; omega, MtRel.mk (by have := HNS.out; simp; omega) HM2.out HZ.out⟩
                  exact AllReadyH.nil
                exact AllReadyH.nil
              | false =>
                simp only [hg, if_true, if_false, Bool.false_eq_true] at e0 e1
                go_wp2_with (go_at_call 30; refine (pstep (.pointer none) (.inl ⟨hg, rfl, rfl⟩) HST.out rfl (z := 0) rfl HPK.out.1 HOKS.out hnl).mono ?_; rintro e wn ⟨rfl, h⟩; (have HN1 := Lib.hid (show St w (memA q ws2 (ns ++ [nt]) :: (mtL gh ga bc nn tg hs th2 ++ manyA thA [0, 0, 0, 0] (th2.set k none))) wn from HPK.out.2 _ _ _ none ((h.drop1.factI (p := True) trivial).swap))); clear h e0 e1 e2 f0 f1 f2; obtain ⟨e0, f0⟩ := HN1.out.at_ 2 rfl (k * 3) HP.out.1; obtain ⟨e1, f1⟩ := HN1.out.at_ 2 rfl (k * 3 + 1) HP.out.2.1; obtain ⟨e2, f2⟩ := HN1.out.at_ 2 rfl (k * 3 + 2) HP.out.2.2; (have eh := HN1.out.row_lt 1 rfl); simp only [pcA, pcB, hg, if_true, if_false, Bool.false_eq_true] at e0 e1; obtain ⟨eh, fh⟩ := HN1.out.at_ 1 rfl k (u := .int .u32 hh) (by rw [List.getElem?_map, HHS.out]; rfl))
                have hm' := hM
                have h9 := ((HN1.out.rowSet 2 rfl (k * 3) (by omega) (.pointer none)).rowSet 2 rfl (k * 3 + 1) (by omega) (.pointer none)).rowSet 2 rfl (k * 3 + 2) (by omega) (.pointer none)
                have e9 := pcs_set (l := th2) (k := k) none HKL.out
                simp only [pcA, pcB] at e9
                simp only [List.set_cons_succ, List.set_cons_zero, List.cons_append, List.nil_append] at h9
                rw [e9] at h9
                have H9 := Lib.hid (show St w (memA q ws2 (ns ++ [nt]) :: (mtL gh ga bc nn tg hs (th2.set k none) ++ manyA thA [0, 0, 0, 0] (th2.set k none))) _ from h9)
                clear h9
                clear e0 e1 e2 f0 f1 f2 eh fh
                obtain ⟨l0, l1, T0, T1, hA0, hA1, hAN, hl4, hrg4, hwN⟩ := hm'.whole
                have HA0 := Lib.hid hA0
                have HA1 := Lib.hid hA1
                have HAN := Lib.hid hAN
                have HL4 := Lib.hid hl4
                have HWN := Lib.hid hwN
                have HM2 := Lib.hid hm'
                have HCQ : Hid (∀ m x y X w', St w (m :: x :: y :: bxC bc nn 0 0 tg :: X) w' → w'.cell? ⟨bc, 0, none⟩ = some (.int .i64 nn) ∧ w'.cell? ⟨bc, 1, none⟩ = some (.int .i64 0) ∧ w'.cell? ⟨bc, 2, none⟩ = some (.int .i64 0) ∧ w'.cell? ⟨bc, 3, none⟩ = some (.int .u32 tg)) := Lib.hid fun m x y X w' h => cells4 (h.cells 3 rfl)
                clear hA0 hA1 hAN hl4 hrg4 hwN hm'
                refine wp_region_held_drew (S := (fun w' => w'.cell? ⟨bc, 0, none⟩ = some (.int .i64 nn) ∧ w'.cell? ⟨bc, 1, none⟩ = some (.int .i64 0) ∧ w'.cell? ⟨bc, 2, none⟩ = some (.int .i64 0) ∧ w'.cell? ⟨bc, 3, none⟩ = some (.int .u32 tg))) (by as_aux_lemma => kernel_rfl) ?_ (fun hHeld0 => ?_)
                · first | exact HCQ.out _ _ _ _ _ HZ.out | exact HCQ.out _ _ _ _ _ HV.out | exact HCQ.out _ _ _ _ _ H9.out.drew
                refine wpAnyH_take (i := 0) (v := ?_) rfl (by as_aux_lemma => kernel_rfl) (by as_aux_lemma => kernel_rfl) (by as_aux_lemma => kernel_rfl) (fun _ _ _ h => h) (Or.inl ⟨by rfl, ?_⟩) hHeld0 ?_
                rotate_left
                · intro w hSw
                  (try dsimp only at hSw)
                  go_simp
                  try (first | (with_reducible rfl) | rfl)
                try simp only [List.getElem_toArray, List.getElem_cons_zero, List.getElem_cons_succ, Act.put, List.setIfInBounds_toArray, List.set_cons_zero, List.set_cons_succ]
                refine wpAnyH_take (i := 1) (v := ?_) rfl (by as_aux_lemma => kernel_rfl) (by as_aux_lemma => kernel_rfl) (by as_aux_lemma => kernel_rfl) (fun _ _ _ h => h) (Or.inl ⟨by rfl, ?_⟩) hHeld0 ?_
                rotate_left
                · intro w hSw
                  (try dsimp only at hSw)
                  go_simp
                  try (first | (with_reducible rfl) | rfl)
                try simp only [List.getElem_toArray, List.getElem_cons_zero, List.getElem_cons_succ, Act.put, List.setIfInBounds_toArray, List.set_cons_zero, List.set_cons_succ]
                refine wpAnyH_take (i := 3) (v := ?_) rfl (by as_aux_lemma => kernel_rfl) (by as_aux_lemma => kernel_rfl) (by as_aux_lemma => kernel_rfl) (fun _ _ _ h => h) (Or.inl ⟨by rfl, ?_⟩) hHeld0 ?_
                rotate_left
                · intro w hSw
                  (try dsimp only at hSw)
                  go_simp
                  try (first | (with_reducible rfl) | rfl)
                try simp only [List.getElem_toArray, List.getElem_cons_zero, List.getElem_cons_succ, Act.put, List.setIfInBounds_toArray, List.set_cons_zero, List.set_cons_succ]
                refine wpAnyH_ready (rs := [2]) (by as_aux_lemma => kernel_rfl) (by simp) ?_
                refine AllReadyH.cons rfl (fun K hK => ?_) ?_
                · go_simp
                  go_at_call 34; refine (words_pos N H9.out.drew HWN.out hN0).mono ?_; rintro e wv ⟨g5, c5, rfl, _, hrd, _, hb⟩; (have HRD := Lib.hid hrd); (have HV := Lib.hid (H9.out.drew.below hb)); clear hrd hb
                  go_wp2_with fail
                  refine hK.out _ _ ?_ (fun hHeld3_2 => ?_)
                  · first | exact HCQ.out _ _ _ _ _ HZ.out | exact HCQ.out _ _ _ _ _ HV.out | exact HCQ.out _ _ _ _ _ H9.out.drew
                  clear hK K
                  try simp only [List.getElem_toArray, List.getElem_cons_zero, List.getElem_cons_succ, Act.put, List.setIfInBounds_toArray, List.set_cons_zero, List.set_cons_succ]
                  refine wpAnyH_ready (rs := [4]) (by as_aux_lemma => kernel_rfl) (by simp) ?_
                  refine AllReadyH.cons rfl (fun K hK => ?_) ?_
                  · go_simp
                    go_at_call 40; refine (whole7 nn N tg g5 c5 _ gh 4 _ l0 l1 T0 T1 _ HOK.out HN.out HRD.out HWN.out HA0.out HA1.out HV.out.rngs (HV.out.rd32 1 rfl HL4.out) HL4.out HAN.out).mono ?_; rintro e wz ⟨rfl, hb⟩; (have HZ := Lib.hid (HV.out.below hb)); clear hb
                    go_wp2_with fail
                    refine hK.out _ _ ?_ (fun hHeld4_4 => ?_)
                    · first | exact HCQ.out _ _ _ _ _ HZ.out | exact HCQ.out _ _ _ _ _ HV.out | exact HCQ.out _ _ _ _ _ H9.out.drew
                    clear hK K
                    try simp only [List.getElem_toArray, List.getElem_cons_zero, List.getElem_cons_succ, Act.put, List.setIfInBounds_toArray, List.set_cons_zero, List.set_cons_succ]
                    refine wpAnyH_take (i := 5) (v := ?_) rfl (by as_aux_lemma => kernel_rfl) (by as_aux_lemma => kernel_rfl) (by as_aux_lemma => kernel_rfl) (fun _ _ _ h => h) (Or.inl ⟨by rfl, ?_⟩) hHeld4_4 ?_
                    rotate_left
                    · intro w hSw
                      (try dsimp only at hSw)
                      go_simp
                      try (first | (with_reducible rfl) | rfl)
                    try simp only [List.getElem_toArray, List.getElem_cons_zero, List.getElem_cons_succ, Act.put, List.setIfInBounds_toArray, List.set_cons_zero, List.set_cons_succ]
                    refine wpAnyH_done (by as_aux_lemma => kernel_rfl) ?_ _
                    go_wp2
                    go_roundg kk
                    case measure => omega
                    case rel => exact ⟨i + 1, rfl, by omega, by have := HK1.out; omega, MtRel.mk (by have := HNS.out; simp; omega) HM2.out HZ.out⟩
                  exact AllReadyH.nil
                exact AllReadyH.nil
            · have hg := hg0
              clear hg0
              simp only [hg, if_true, if_false, Bool.false_eq_true] at e0 e1
              go_wp2_with (go_at_call 30; refine (pstep (.pointer none) (.inl ⟨hg, rfl, rfl⟩) HST.out rfl (z := S'.i) rfl HPK.out.1 HOKS.out hnl).mono ?_; rintro e wn ⟨rfl, h⟩; (have HN1 := Lib.hid (show St w (memA q ws2 (ns ++ [nt]) :: (mtL gh ga bc nn tg hs th2 ++ manyA thA [0, 0, 0, 0] (th2.set k none))) wn from HPK.out.2 _ _ _ none ((h.drop1.factI (p := True) trivial).swap))); clear h e0 e1 e2 f0 f1 f2; obtain ⟨e0, f0⟩ := HN1.out.at_ 2 rfl (k * 3) HP.out.1; obtain ⟨e1, f1⟩ := HN1.out.at_ 2 rfl (k * 3 + 1) HP.out.2.1; obtain ⟨e2, f2⟩ := HN1.out.at_ 2 rfl (k * 3 + 2) HP.out.2.2; (have eh := HN1.out.row_lt 1 rfl); simp only [pcA, pcB, hg, if_true, if_false, Bool.false_eq_true] at e0 e1; obtain ⟨eh, fh⟩ := HN1.out.at_ 1 rfl k (u := .int .u32 hh) (by rw [List.getElem?_map, HHS.out]; rfl))
              have hm' := hM
              have h9 := (((HN1.out.rowSet 2 rfl (k * 3) (by omega) (.pointer none)).rowSet 2 rfl (k * 3 + 1) (by omega) (.pointer none)).rowSet 2 rfl (k * 3 + 2) (by omega) (.pointer none)).rowSet 1 rfl k (by omega) (.int .u32 S'.i)
              have e9 := pcs_set (l := th2) (k := k) none HKL.out
              simp only [pcA, pcB] at e9
              simp only [List.set_cons_succ, List.set_cons_zero, List.cons_append, List.nil_append] at h9
              rw [e9] at h9
              have e8 : (hs.map u32V).set k (.int .u32 S'.i) = (hs.set k S'.i).map u32V := by rw [List.map_set]; rfl
              rw [e8] at h9
              have H9 := Lib.hid (show St w (memA q ws2 (ns ++ [nt]) :: (mtL gh ga bc nn tg (hs.set k S'.i) (th2.set k none) ++ manyA thA [0, 0, 0, 0] (th2.set k none))) _ from h9)
              clear h9
              clear e0 e1 e2 f0 f1 f2 eh fh
              obtain ⟨l0, l1, T0, T1, hA0, hA1, hAN, hl4, hrg4, hwN⟩ := hm'.whole
              have HA0 := Lib.hid hA0
              have HA1 := Lib.hid hA1
              have HAN := Lib.hid hAN
              have HL4 := Lib.hid hl4
              have HWN := Lib.hid hwN
              have HM2 := Lib.hid hm'
              have HCQ : Hid (∀ m x y X w', St w (m :: x :: y :: bxC bc nn 0 0 tg :: X) w' → w'.cell? ⟨bc, 0, none⟩ = some (.int .i64 nn) ∧ w'.cell? ⟨bc, 1, none⟩ = some (.int .i64 0) ∧ w'.cell? ⟨bc, 2, none⟩ = some (.int .i64 0) ∧ w'.cell? ⟨bc, 3, none⟩ = some (.int .u32 tg)) := Lib.hid fun m x y X w' h => cells4 (h.cells 3 rfl)
              clear hA0 hA1 hAN hl4 hrg4 hwN hm'
              refine wp_region_held_drew (S := (fun w' => w'.cell? ⟨bc, 0, none⟩ = some (.int .i64 nn) ∧ w'.cell? ⟨bc, 1, none⟩ = some (.int .i64 0) ∧ w'.cell? ⟨bc, 2, none⟩ = some (.int .i64 0) ∧ w'.cell? ⟨bc, 3, none⟩ = some (.int .u32 tg))) (by as_aux_lemma => kernel_rfl) ?_ (fun hHeld0 => ?_)
              · first | exact HCQ.out _ _ _ _ _ HZ.out | exact HCQ.out _ _ _ _ _ HV.out | exact HCQ.out _ _ _ _ _ H9.out.drew
              refine wpAnyH_take (i := 0) (v := ?_) rfl (by as_aux_lemma => kernel_rfl) (by as_aux_lemma => kernel_rfl) (by as_aux_lemma => kernel_rfl) (fun _ _ _ h => h) (Or.inl ⟨by rfl, ?_⟩) hHeld0 ?_
              rotate_left
              · intro w hSw
                (try dsimp only at hSw)
                go_simp
                try (first | (with_reducible rfl) | rfl)
              try simp only [List.getElem_toArray, List.getElem_cons_zero, List.getElem_cons_succ, Act.put, List.setIfInBounds_toArray, List.set_cons_zero, List.set_cons_succ]
              refine wpAnyH_take (i := 1) (v := ?_) rfl (by as_aux_lemma => kernel_rfl) (by as_aux_lemma => kernel_rfl) (by as_aux_lemma => kernel_rfl) (fun _ _ _ h => h) (Or.inl ⟨by rfl, ?_⟩) hHeld0 ?_
              rotate_left
              · intro w hSw
                (try dsimp only at hSw)
                go_simp
                try (first | (with_reducible rfl) | rfl)
              try simp only [List.getElem_toArray, List.getElem_cons_zero, List.getElem_cons_succ, Act.put, List.setIfInBounds_toArray, List.set_cons_zero, List.set_cons_succ]
              refine wpAnyH_take (i := 3) (v := ?_) rfl (by as_aux_lemma => kernel_rfl) (by as_aux_lemma => kernel_rfl) (by as_aux_lemma => kernel_rfl) (fun _ _ _ h => h) (Or.inl ⟨by rfl, ?_⟩) hHeld0 ?_
              rotate_left
              · intro w hSw
                (try dsimp only at hSw)
                go_simp
                try (first | (with_reducible rfl) | rfl)
              try simp only [List.getElem_toArray, List.getElem_cons_zero, List.getElem_cons_succ, Act.put, List.setIfInBounds_toArray, List.set_cons_zero, List.set_cons_succ]
              refine wpAnyH_ready (rs := [2]) (by as_aux_lemma => kernel_rfl) (by simp) ?_
              refine AllReadyH.cons rfl (fun K hK => ?_) ?_
              · go_simp
                go_at_call 34; refine (words_pos N H9.out.drew HWN.out hN0).mono ?_; rintro e wv ⟨g5, c5, rfl, _, hrd, _, hb⟩; (have HRD := Lib.hid hrd); (have HV := Lib.hid (H9.out.drew.below hb)); clear hrd hb
                go_wp2_with fail
                refine hK.out _ _ ?_ (fun hHeld3_2 => ?_)
                · first | exact HCQ.out _ _ _ _ _ HZ.out | exact HCQ.out _ _ _ _ _ HV.out | exact HCQ.out _ _ _ _ _ H9.out.drew
                clear hK K
                try simp only [List.getElem_toArray, List.getElem_cons_zero, List.getElem_cons_succ, Act.put, List.setIfInBounds_toArray, List.set_cons_zero, List.set_cons_succ]
                refine wpAnyH_ready (rs := [4]) (by as_aux_lemma => kernel_rfl) (by simp) ?_
                refine AllReadyH.cons rfl (fun K hK => ?_) ?_
                · go_simp
                  go_at_call 40; refine (whole7 nn N tg g5 c5 _ gh 4 _ l0 l1 T0 T1 _ HOK.out HN.out HRD.out HWN.out HA0.out HA1.out HV.out.rngs (HV.out.rd32 1 rfl HL4.out) HL4.out HAN.out).mono ?_; rintro e wz ⟨rfl, hb⟩; (have HZ := Lib.hid (HV.out.below hb)); clear hb
                  go_wp2_with fail
                  refine hK.out _ _ ?_ (fun hHeld4_4 => ?_)
                  · first | exact HCQ.out _ _ _ _ _ HZ.out | exact HCQ.out _ _ _ _ _ HV.out | exact HCQ.out _ _ _ _ _ H9.out.drew
                  clear hK K
                  try simp only [List.getElem_toArray, List.getElem_cons_zero, List.getElem_cons_succ, Act.put, List.setIfInBounds_toArray, List.set_cons_zero, List.set_cons_succ]
                  refine wpAnyH_take (i := 5) (v := ?_) rfl (by as_aux_lemma => kernel_rfl) (by as_aux_lemma => kernel_rfl) (by as_aux_lemma => kernel_rfl) (fun _ _ _ h => h) (Or.inl ⟨by rfl, ?_⟩) hHeld4_4 ?_
                  rotate_left
                  · intro w hSw
                    (try dsimp only at hSw)
                    go_simp
                    try (first | (with_reducible rfl) | rfl)
                  try simp only [List.getElem_toArray, List.getElem_cons_zero, List.getElem_cons_succ, Act.put, List.setIfInBounds_toArray, List.set_cons_zero, List.set_cons_succ]
                  refine wpAnyH_done (by as_aux_lemma => kernel_rfl) ?_ _
                  go_wp2
                  go_roundg kk
                  case measure => omega
                  case rel => exact ⟨i + 1, rfl, by omega, by have := HK1.out; omega, MtRel.mk (by have := HNS.out; simp; omega) HM2.out HZ.out⟩
                exact AllReadyH.nil
              exact AllReadyH.nil
            · have hg := hg0
              clear hg0
              simp only [hg, if_true, if_false, Bool.false_eq_true] at e0 e1
              go_wp2_with (go_at_call 30; refine (pstep (.pointer none) (.inr ⟨hg, rfl, rfl⟩) HST.out rfl (z := S'.i) rfl HPK.out.1 HOKS.out hnl).mono ?_; rintro e wn ⟨rfl, h⟩; (have HN1 := Lib.hid (show St w (memA q ws2 (ns ++ [nt]) :: (mtL gh ga bc nn tg hs th2 ++ manyA thA [0, 0, 0, 0] (th2.set k none))) wn from HPK.out.2 _ _ _ none ((h.drop1.factI (p := True) trivial).swap))); clear h e0 e1 e2 f0 f1 f2; obtain ⟨e0, f0⟩ := HN1.out.at_ 2 rfl (k * 3) HP.out.1; obtain ⟨e1, f1⟩ := HN1.out.at_ 2 rfl (k * 3 + 1) HP.out.2.1; obtain ⟨e2, f2⟩ := HN1.out.at_ 2 rfl (k * 3 + 2) HP.out.2.2; (have eh := HN1.out.row_lt 1 rfl); simp only [pcA, pcB, hg, if_true, if_false, Bool.false_eq_true] at e0 e1; obtain ⟨eh, fh⟩ := HN1.out.at_ 1 rfl k (u := .int .u32 hh) (by rw [List.getElem?_map, HHS.out]; rfl))
              have hm' := hM
              have h9 := (((HN1.out.rowSet 2 rfl (k * 3) (by omega) (.pointer none)).rowSet 2 rfl (k * 3 + 1) (by omega) (.pointer none)).rowSet 2 rfl (k * 3 + 2) (by omega) (.pointer none)).rowSet 1 rfl k (by omega) (.int .u32 0)
              have e9 := pcs_set (l := th2) (k := k) none HKL.out
              simp only [pcA, pcB] at e9
              simp only [List.set_cons_succ, List.set_cons_zero, List.cons_append, List.nil_append] at h9
              rw [e9] at h9
              have e8 : (hs.map u32V).set k (.int .u32 0) = (hs.set k 0).map u32V := by rw [List.map_set]; rfl
              rw [e8] at h9
              have H9 := Lib.hid (show St w (memA q ws2 (ns ++ [nt]) :: (mtL gh ga bc nn tg (hs.set k 0) (th2.set k none) ++ manyA thA [0, 0, 0, 0] (th2.set k none))) _ from h9)
              clear h9
              clear e0 e1 e2 f0 f1 f2 eh fh
              obtain ⟨l0, l1, T0, T1, hA0, hA1, hAN, hl4, hrg4, hwN⟩ := hm'.whole
              have HA0 := Lib.hid hA0
              have HA1 := Lib.hid hA1
              have HAN := Lib.hid hAN
              have HL4 := Lib.hid hl4
              have HWN := Lib.hid hwN
              have HM2 := Lib.hid hm'
              have HCQ : Hid (∀ m x y X w', St w (m :: x :: y :: bxC bc nn 0 0 tg :: X) w' → w'.cell? ⟨bc, 0, none⟩ = some (.int .i64 nn) ∧ w'.cell? ⟨bc, 1, none⟩ = some (.int .i64 0) ∧ w'.cell? ⟨bc, 2, none⟩ = some (.int .i64 0) ∧ w'.cell? ⟨bc, 3, none⟩ = some (.int .u32 tg)) := Lib.hid fun m x y X w' h => cells4 (h.cells 3 rfl)
              clear hA0 hA1 hAN hl4 hrg4 hwN hm'
              refine wp_region_held_drew (S := (fun w' => w'.cell? ⟨bc, 0, none⟩ = some (.int .i64 nn) ∧ w'.cell? ⟨bc, 1, none⟩ = some (.int .i64 0) ∧ w'.cell? ⟨bc, 2, none⟩ = some (.int .i64 0) ∧ w'.cell? ⟨bc, 3, none⟩ = some (.int .u32 tg))) (by as_aux_lemma => kernel_rfl) ?_ (fun hHeld0 => ?_)
              · first | exact HCQ.out _ _ _ _ _ HZ.out | exact HCQ.out _ _ _ _ _ HV.out | exact HCQ.out _ _ _ _ _ H9.out.drew
              refine wpAnyH_take (i := 0) (v := ?_) rfl (by as_aux_lemma => kernel_rfl) (by as_aux_lemma => kernel_rfl) (by as_aux_lemma => kernel_rfl) (fun _ _ _ h => h) (Or.inl ⟨by rfl, ?_⟩) hHeld0 ?_
              rotate_left
              · intro w hSw
                (try dsimp only at hSw)
                go_simp
                try (first | (with_reducible rfl) | rfl)
              try simp only [List.getElem_toArray, List.getElem_cons_zero, List.getElem_cons_succ, Act.put, List.setIfInBounds_toArray, List.set_cons_zero, List.set_cons_succ]
              refine wpAnyH_take (i := 1) (v := ?_) rfl (by as_aux_lemma => kernel_rfl) (by as_aux_lemma => kernel_rfl) (by as_aux_lemma => kernel_rfl) (fun _ _ _ h => h) (Or.inl ⟨by rfl, ?_⟩) hHeld0 ?_
              rotate_left
              · intro w hSw
                (try dsimp only at hSw)
                go_simp
                try (first | (with_reducible rfl) | rfl)
              try simp only [List.getElem_toArray, List.getElem_cons_zero, List.getElem_cons_succ, Act.put, List.setIfInBounds_toArray, List.set_cons_zero, List.set_cons_succ]
              refine wpAnyH_take (i := 3) (v := ?_) rfl (by as_aux_lemma => kernel_rfl) (by as_aux_lemma => kernel_rfl) (by as_aux_lemma => kernel_rfl) (fun _ _ _ h => h) (Or.inl ⟨by rfl, ?_⟩) hHeld0 ?_
              rotate_left
              · intro w hSw
                (try dsimp only at hSw)
                go_simp
                try (first | (with_reducible rfl) | rfl)
              try simp only [List.getElem_toArray, List.getElem_cons_zero, List.getElem_cons_succ, Act.put, List.setIfInBounds_toArray, List.set_cons_zero, List.set_cons_succ]
              refine wpAnyH_ready (rs := [2]) (by as_aux_lemma => kernel_rfl) (by simp) ?_
              refine AllReadyH.cons rfl (fun K hK => ?_) ?_
              · go_simp
                go_at_call 34; refine (words_pos N H9.out.drew HWN.out hN0).mono ?_; rintro e wv ⟨g5, c5, rfl, _, hrd, _, hb⟩; (have HRD := Lib.hid hrd); (have HV := Lib.hid (H9.out.drew.below hb)); clear hrd hb
                go_wp2_with fail
                refine hK.out _ _ ?_ (fun hHeld3_2 => ?_)
                · first | exact HCQ.out _ _ _ _ _ HZ.out | exact HCQ.out _ _ _ _ _ HV.out | exact HCQ.out _ _ _ _ _ H9.out.drew
                clear hK K
                try simp only [List.getElem_toArray, List.getElem_cons_zero, List.getElem_cons_succ, Act.put, List.setIfInBounds_toArray, List.set_cons_zero, List.set_cons_succ]
                refine wpAnyH_ready (rs := [4]) (by as_aux_lemma => kernel_rfl) (by simp) ?_
                refine AllReadyH.cons rfl (fun K hK => ?_) ?_
                · go_simp
                  go_at_call 40; refine (whole7 nn N tg g5 c5 _ gh 4 _ l0 l1 T0 T1 _ HOK.out HN.out HRD.out HWN.out HA0.out HA1.out HV.out.rngs (HV.out.rd32 1 rfl HL4.out) HL4.out HAN.out).mono ?_; rintro e wz ⟨rfl, hb⟩; (have HZ := Lib.hid (HV.out.below hb)); clear hb
                  go_wp2_with fail
                  refine hK.out _ _ ?_ (fun hHeld4_4 => ?_)
                  · first | exact HCQ.out _ _ _ _ _ HZ.out | exact HCQ.out _ _ _ _ _ HV.out | exact HCQ.out _ _ _ _ _ H9.out.drew
                  clear hK K
                  try simp only [List.getElem_toArray, List.getElem_cons_zero, List.getElem_cons_succ, Act.put, List.setIfInBounds_toArray, List.set_cons_zero, List.set_cons_succ]
                  refine wpAnyH_take (i := 5) (v := ?_) rfl (by as_aux_lemma => kernel_rfl) (by as_aux_lemma => kernel_rfl) (by as_aux_lemma => kernel_rfl) (fun _ _ _ h => h) (Or.inl ⟨by rfl, ?_⟩) hHeld4_4 ?_
                  rotate_left
                  · intro w hSw
                    (try dsimp only at hSw)
                    go_simp
                    try (first | (with_reducible rfl) | rfl)
                  try simp only [List.getElem_toArray, List.getElem_cons_zero, List.getElem_cons_succ, Act.put, List.setIfInBounds_toArray, List.set_cons_zero, List.set_cons_succ]
                  refine wpAnyH_done (by as_aux_lemma => kernel_rfl) ?_ _
                  go_wp2
                  go_roundg kk
                  case measure => omega
                  case rel => exact ⟨i + 1, rfl, by omega, by have := HK1.out; omega, MtRel.mk (by have := HNS.out; simp; omega) HM2.out HZ.out⟩
                exact AllReadyH.nil
              exact AllReadyH.nil
      · obtain rfl : m = i := by omega
        have c4b : decide (((m : Nat) : Int) < (m : Int)) = false := decide_eq_false (by omega)
        have HS := Lib.hid hS
        clear hS hmi
        go_wp2
        go_ret
        exact ⟨rfl, HS.out.bel⟩
set_option maxRecDepth 20000 in
set_option maxHeartbeats 8000000 in
theorem taglistMeets_long (a0 tg : Int) (B : Option Addr) (m d : Nat) (w : World) (hx0 : (Lit.int .i64 a0).wf = true) (hx1 : (Lit.int .u32 tg).wf = true) (hm : 300 < m) (hM : m ≤ maxLen) :
    Calls Try.prog 6 #[.int .i64 a0, .int .u32 tg, .slice B m d] w fun e w' => e = .returned (.bool true) ∧ Below w.heap.size w w' := by
  unfold maxLen at hM
  obtain ⟨a00, a01⟩ := rngI64 hx0
  obtain ⟨t0, t1⟩ := rngU32 hx1
  have hp := pickI_rng (c := a0) (n := 64) (by decide)
  obtain ⟨nn, hnn⟩ : ∃ nn : Nat, 1 + pickI a0 64 = (nn : Int) := Int.eq_ofNat_of_zero_le (by omega)
  have n1 : 1 ≤ nn := by omega
  have n2 : nn ≤ 64 := by omega
  obtain ⟨N, hN⟩ : ∃ N, N = 2 + 2 * nn + 0 + 0 := ⟨_, rfl⟩
  obtain ⟨T, hT⟩ : ∃ T, tg * 4294967296 = T := ⟨_, rfl⟩
  have HNN := Lib.hid hnn
  have HN := Lib.hid hN
  have HT := Lib.hid hT
  have HOK : Hid (okC (nn : Int) ((0 : Nat) : Int) ((0 : Nat) : Int) = true) := Lib.hid (by simp [okC]; omega)
  have H := Lib.hid (St.nil w)
  have d0 : decide ((nn : Int) < 1) = false := decide_eq_false (by omega)
  have d3 : decide ((300 : Int) < (m : Int)) = true := decide_eq_true (by omega)
  clear hx0 hx1 hp hnn hN hT
  go_enter Try.func6, Try.ntmps6
  go_wp2_with (first | ((have _h := H2); go_at_call 16; refine (fresh_ok nn 0 0 tg T N H2.out HOK.out HN.out HT.out t0 t1).mono ?_; rintro e w3 ⟨g, rfl, h⟩; (have H3 := Lib.hid (h)); clear h; clear q0 q1 q2 q3; (obtain ⟨q0, q1, q2, q3⟩ := cells4 (H3.out.cells 1 rfl)); clear _h) | ((have _h := H1); go_at_call 35; refine (cfg7_is a0 0 0 tg nn 0 0 _ HNN.out rfl rfl a00 a01 (by decide) (by decide) (by decide) (by decide)).mono ?_; rintro e w2 ⟨rfl, hb⟩; (have H2 := Lib.hid ((H1.out.below hb).alloc #[.int .i64 nn, .int .i64 0, .int .i64 0, .int .u32 tg] 26)); clear hb; (obtain ⟨q0, q1, q2, q3⟩ := cells4 (H2.out.cells 0 rfl)); clear _h) | ((have _h := H); go_at_call 25; refine (shown7 _).mono ?_; rintro e w1 ⟨rfl, hb⟩; (have H1 := Lib.hid (H.out.below hb)); clear hb; clear _h))
  go_ret
  exact ⟨rfl, H3.out.bel⟩
theorem taglistMeets_walk (a0 tg : Int) (B : Option Addr) (m d : Nat) (zs : List Int) (w : World) (hx0 : (Lit.int .i64 a0).wf = true) (hx1 : (Lit.int .u32 tg).wf = true) (hI : IsRow .i64 w B m d zs) :
    Calls Try.prog 6 #[.int .i64 a0, .int .u32 tg, .slice B m d] w fun e w' => e = .returned (.bool true) ∧ Below w.heap.size w w' := by
  by_cases h : m ≤ 300
  · exact taglistMeets_body a0 tg B m d zs w hx0 hx1 h hI.rdI
  · exact taglistMeets_long a0 tg B m d w hx0 hx1 (by omega) hI.le
end Go.Proofs.Ytndigbkhaajjoaa
