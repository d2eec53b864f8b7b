/-
  Chapter 12: what its laws share; its example.
-/
import Derived.Test.YthnjeiandfdpgaaElimM
import Derived.Test.YthnjeiandfdpgaaFresh
import Derived.Test.YthnjeiandfdpgaaPick12
namespace Go.Proofs.Ythnjeiandfdpgaa
open Go.RowKit
set_option linter.unusedVariables false
set_option linter.unusedSimpArgs false

theorem row_rdU' {w : World} {base N : Nat} {a : Option Addr} {c : Nat} {ws : List Int} (ho : w.ownsRow base 35 1 (.slice a N c) N (wsV ws)) (hl : ws.length = N) : RdU w a ws := by
  subst hl
  exact (row_rdU ho).1
set_option maxHeartbeats 4000000 in
theorem begun_ok {w0 w : World} {L : List Asn} (nn ss hh : Nat) (t T : Int) (N : Nat) (hS : St w0 L w) (hok : okC nn ss hh = true) (hN : N = 2 + 2 * nn + ss + hh) (hT : t * 4294967296 = T) (t0 : 0 ≤ t) (t1 : t < 4294967296) :
    Calls Try.prog 11 #[.agg #[.int .i64 nn, .int .i64 ss, .int .i64 hh, .int .u32 t]] w fun e w' => ∃ q, e = .returned (.pointer (some ⟨q, 0, none⟩)) ∧ St w0 (memA q (frL T nn nn ss N) [] :: L) w' := by
  have hb := okC_bounds hok
  have H := Lib.hid (hS.alloc #[.int .i64 nn, .int .i64 ss, .int .i64 hh, .int .u32 t] 28)
  have HOK := Lib.hid hok
  have HN := Lib.hid hN
  have HT := Lib.hid hT
  have HR : Hid (∀ x ∈ frL T nn nn ss N, 0 ≤ x ∧ x < 18446744073709551616) := Lib.hid (frL_rng (by omega) (by omega) (by omega))
  have hN4 : N ≤ 1024 := by omega
  clear hS hok hN hT hb
  go_enter Try.func11, Try.ntmps11
  go_wp2_with (first | (go_at_call 36; refine (fresh_ok nn ss hh t T N H.out HOK.out HN.out HT.out t0 t1).mono ?_; rintro e w1 ⟨g, rfl, h⟩; (have H1 := Lib.hid h); clear h) | (go_at_call 28; refine (new_st H1.out.tail (some ⟨_, 0, none⟩) _ N (frL T nn nn ss N) (row_rdU' (H1.out.row 0 rfl) (frL_len _ _ _ _ _)) hN4 HR.out (frL_len _ _ _ _ _)).mono ?_; rintro e w2 ⟨q, rfl, h⟩; (have H2 := Lib.hid h); clear h))
  go_ret
  exact ⟨q, rfl, H2.out.drop1⟩
/-- A run of steps, one behind the other, at one time. -/
def erun (now : Int) (S : EM) (ws : List Int) (ds : List Int) : Nat → EM × List Int × List Note × List Int
  | 0 => (S, ws, [], ds)
  | k + 1 => let y := erun now S ws ds k; let o := y.1.step y.2.1 now y.2.2.2; (o.S, o.ws, y.2.2.1 ++ o.nt, o.ds)
theorem erun_step {now : Int} {S : EM} {ws ds : List Int} {k : Nat} {a z : Int} (ha : ((erun now S ws ds k).1.step (erun now S ws ds k).2.1 now (erun now S ws ds k).2.2.2).r = a) (hz : ((erun now S ws ds k).1.step (erun now S ws ds k).2.1 now (erun now S ws ds k).2.2.2).z = z) :
    ∃ nt, (erun now S ws ds k).1.step (erun now S ws ds k).2.1 now (erun now S ws ds k).2.2.2 = ⟨a, z, (erun now S ws ds (k + 1)).1, (erun now S ws ds (k + 1)).2.1, nt, (erun now S ws ds (k + 1)).2.2.2⟩ ∧ (erun now S ws ds k).2.2.1 ++ nt = (erun now S ws ds (k + 1)).2.2.1 := by
  subst ha hz
  exact ⟨_, rfl, rfl⟩
theorem EM.on {S : EM} {V V' : VM} {ws ws' : List Int} {nt : List Note} {now : Int} {ds : List Int} (hV : S.V = some V) (he : S.en = 0) (h : V.step ws now = ⟨0, V', ws', nt⟩) : S.step ws now ds = ⟨0, 0, { S with V := some V' }, ws', nt, ds⟩ := by
  simp [EM.step, EM.run, hV, he, h, VM.told]
theorem EM.ends {S : EM} {V V' : VM} {ws ws' : List Int} {nt : List Note} {now r : Int} {ds : List Int} (hV : S.V = some V) (he : S.en = 0) (h : V.step ws now = ⟨r, V', ws', nt⟩) (hr : r ≠ 0) : S.step ws now ds = ⟨r, V'.told r, { S with V := some V', en := r, rg := pAr S.rg S.s r, ex := pAe S.ex r }, ws', nt, ds⟩ := by
  simp [EM.step, EM.run, hV, he, h, hr]
theorem EM.begins {S : EM} {V' : VM} {ws ws' : List Int} {nt : List Note} {now : Int} {ds : List Int} (hV : S.V = none) (he : S.en = 0) (hf : S.fit = true) (h : (S.first now ds).step ws now = ⟨0, V', ws', nt⟩) : S.step ws now ds = ⟨0, 0, { S with pl := atI S.n S.s S.h 1 (drawI ds S.rg), V := some V' }, ws', nt, drawR ds S.rg⟩ := by
  simp [EM.step, EM.run, hV, he, hf, h, VM.told]
theorem EM.refuses {S : EM} {ws : List Int} {now : Int} {ds : List Int} (hV : S.V = none) (he : S.en = 0) (hf : S.fit = false) : S.step ws now ds = ⟨2, 0, { S with en := 2 }, ws, [], ds⟩ := by
  simp [EM.step, hV, he, hf]

def shR := erun 0 (newEM 3 4 0 0 2 0 true 1 1 0) (frL 0 3 3 4 12) [7]
theorem shR_r {k : Nat} (h : k < 3) : ((shR k).1.step (shR k).2.1 0 (shR k).2.2.2).r = 0 ∧ ((shR k).1.step (shR k).2.1 0 (shR k).2.2.2).z = 0 := by
  match k, h with
  | 0, _ => exact ⟨by decide, by decide⟩
  | 1, _ => exact ⟨by decide, by decide⟩
  | 2, _ => exact ⟨by decide, by decide⟩
theorem shR_e : ((shR 3).1.step (shR 3).2.1 0 (shR 3).2.2.2).r = 4 ∧ ((shR 3).1.step (shR 3).2.1 0 (shR 3).2.2.2).z = 0 ∧ (shR 4).1.pl = 9 ∧ (shR 4).1.rg = 1 ∧ (shR 4).1.ex = 1 := ⟨by decide, by decide, by decide, by decide, by decide⟩

theorem VM.go_few (S : VM) (ws : List Int) (a : Nat) (now : Int) : (S.go ws a now).nt.length ≤ 1 := by
  unfold VM.go
  split <;> dsimp only <;> (repeat' split) <;> simp
theorem VM.step_few (S : VM) (ws : List Int) (now : Int) : (S.step ws now).nt.length ≤ 1 := by
  unfold VM.step
  split
  · simp
  split
  · simp
  · exact VM.go_few _ _ _ _
theorem EM.step_len (S : EM) (ws : List Int) (now : Int) (ds : List Int) : (S.step ws now ds).ws.length = ws.length ∧ (S.step ws now ds).nt.length ≤ 1 := by
  unfold EM.step
  split
  · exact ⟨rfl, Nat.zero_le _⟩
  cases S.V with
  | some V => exact ⟨VM.step_len _ _ _, VM.step_few _ _ _⟩
  | none =>
    dsimp only
    split
    · exact ⟨VM.step_len _ _ _, VM.step_few _ _ _⟩
    · exact ⟨rfl, Nat.zero_le _⟩
theorem EM.step_ds {S : EM} {ds : List Int} (h : DsOk ds) (ws : List Int) (now : Int) : DsOk (S.step ws now ds).ds ∧ (S.step ws now ds).ds.length ≤ ds.length := by
  unfold EM.step
  split
  · exact ⟨h, Nat.le_refl _⟩
  cases S.V with
  | some V => exact ⟨h, Nat.le_refl _⟩
  | none =>
    dsimp only
    split
    · refine ⟨h.draw _, ?_⟩
      show (drawR ds S.rg).length ≤ _
      unfold drawR
      split
      · exact Nat.le_refl _
      · simp
    · exact ⟨h, Nat.le_refl _⟩
/-- What holds of a visit, behind i steps. -/
structure EGood (N i : Nat) (S : EM) (ws : List Int) (ns : List Note) (ds : List Int) : Prop where
  ok : S.ok N ns.length
  len : ws.length = N
  ds : DsOk ds
  few : ns.length ≤ i
theorem EGood.step {N i : Nat} {S S' : EM} {ws ws' : List Int} {ns nt : List Note} {ds ds' : List Int} {now a z : Int} (h : EGood N i S ws ns ds) (n0 : 0 ≤ now) (n1 : now < 18446744073709551616) (hr : ∀ i, i < ws.length → 0 ≤ rdW ws i ∧ rdW ws i < 18446744073709551616) (he : S.step ws now ds = ⟨a, z, S', ws', nt, ds'⟩) : EGood N (i + 1) S' ws' (ns ++ nt) ds' := by
  have h1 := EM.step_ok ds (by rw [h.len]; exact h.ok) n0 n1 hr
  have h2 := EM.step_len S ws now ds
  have h3 := EM.step_ds (S := S) h.ds ws now
  rw [he] at h1 h2 h3
  have := h.few
  exact ⟨by rw [List.length_append, ← h.len]; exact h1, h2.1.trans h.len, h3.1, by rw [List.length_append]; dsimp only at h2; omega⟩
theorem erun_good {N k : Nat} {now : Int} {S : EM} {ws ds : List Int} (h : EGood N k (erun now S ws ds k).1 (erun now S ws ds k).2.1 (erun now S ws ds k).2.2.1 (erun now S ws ds k).2.2.2) (n0 : 0 ≤ now) (n1 : now < 18446744073709551616) (hr : ∀ i, i < (erun now S ws ds k).2.1.length → 0 ≤ rdW (erun now S ws ds k).2.1 i ∧ rdW (erun now S ws ds k).2.1 i < 18446744073709551616) :
    EGood N (k + 1) (erun now S ws ds (k + 1)).1 (erun now S ws ds (k + 1)).2.1 (erun now S ws ds (k + 1)).2.2.1 (erun now S ws ds (k + 1)).2.2.2 := h.step n0 n1 hr rfl

set_option maxRecDepth 20000 in
set_option maxHeartbeats 16000000 in
theorem shown12 (w : World) : Calls Try.prog 9 #[] w fun e w' => e = .returned (.bool true) ∧ Below w.heap.size w w' := by
  have H := Lib.hid ((St.nil w).alloc #[.int .i64 3, .int .i64 4, .int .i64 0, .int .u32 0] 28)
  obtain ⟨q0, q1, q2, q3⟩ := cells4 (H.out.cells 0 rfl)
  have hq : ∀ w, (binOp .eql 23 (polV 1 1) (polV 1 1)).run Try.prog w = .ok (.bool true) w := fun w => polEq 1 1 1 1 w
  go_enter Try.func9, Try.ntmps9
  go_wp2_with (first | ((have _h := H3); go_at_call 14; refine (src_add 7 0 [7] (H3.out.front 1 rfl) (by decide) (by simp) rfl rfl).mono ?_; rintro e w4 ⟨rfl, h⟩; (have H4 := Lib.hid (h.front 1 rfl)); clear h; clear q0 q1 q2 q3; (obtain ⟨q0, q1, q2, q3⟩ := cells4 (H4.out.cells 3 rfl)); clear _h) | ((have _h := H2); go_at_call 13; refine (em_new 3 4 0 0 2 0 true 1 1 0 H2.out).mono ?_; rintro e w3 ⟨p, rfl, h⟩; (have H3 := Lib.hid (h)); clear h; clear q0 q1 q2 q3; (obtain ⟨q0, q1, q2, q3⟩ := cells4 (H3.out.cells 3 rfl)); clear _h) | ((have _h := H1); go_at_call 12; refine (src_new H1.out).mono ?_; rintro e w2 ⟨r, rfl, h⟩; (have H2 := Lib.hid (h.swap)); clear h; clear q0 q1 q2 q3; (obtain ⟨q0, q1, q2, q3⟩ := cells4 (H2.out.cells 2 rfl)); clear _h) | ((have _h := H); go_at_call 11; refine (begun_ok 3 4 0 0 0 12 H.out (by decide) rfl (by decide) (by decide) (by decide)).mono ?_; rintro e w1 ⟨q, rfl, h⟩; (have H1 := Lib.hid (h)); clear h; clear q0 q1 q2 q3; (obtain ⟨q0, q1, q2, q3⟩ := cells4 (H1.out.cells 1 rfl)); clear _h))
  have HS : Hid (St w (memA q (shR 0).2.1 (shR 0).2.2.1 :: srcA r 0 (shR 0).2.2.2 :: emA p (shR 0).1 :: [boxA w.heap.size #[.int .i64 3, .int .i64 4, .int .i64 0, .int .u32 0] 28]) w4) := Lib.hid H4.out
  have HG0 : Hid (EGood 12 0 (shR 0).1 (shR 0).2.1 (shR 0).2.2.1 (shR 0).2.2.2) := Lib.hid ⟨newEM_ok 12 0 (by decide) (by decide) (by decide) (by decide) (by decide) (by decide), frL_len _ _ _ _ _, (fun d hd => by obtain rfl := List.mem_singleton.1 hd; decide), Nat.le_refl _⟩
  clear H1 H2 H3 H4 q0 q1 q2 q3
  go_loopg [5] 4 (fun kq z w' => ∃ i : Nat, z = .int .i64 i ∧ i ≤ 3 ∧ i + kq = 4 ∧ EGood 12 i (shR i).1 (shR i).2.1 (shR i).2.2.1 (shR i).2.2.2 ∧ St w (memA q (shR i).2.1 (shR i).2.2.1 :: srcA r 0 (shR i).2.2.2 :: emA p (shR i).1 :: [boxA w.heap.size #[.int .i64 3, .int .i64 4, .int .i64 0, .int .u32 0] 28]) w')
  case atStart => exact ⟨0, rfl, by decide, by decide, HG0.out, HS.out⟩
  case round =>
    obtain ⟨i, rfl, hi, hkq, hg, hS⟩ := hrel
    clear HS HG0
    have HS := Lib.hid hS
    cases gk with
    | zero => omega
    | succ kk =>
      by_cases c4 : i < 3
      · have c4b : decide ((i : Int) < 3) = true := decide_eq_true (by omega)
        obtain ⟨nt, he, hn⟩ := erun_step (now := 0) (S := newEM 3 4 0 0 2 0 true 1 1 0) (ws := frL 0 3 3 4 12) (ds := [7]) (k := i) (shR_r c4).1 (shR_r c4).2
        have hgn := erun_good (now := 0) (S := newEM 3 4 0 0 2 0 true 1 1 0) (ws := frL 0 3 3 4 12) (ds := [7]) (k := i) hg (by decide) (by decide) (fun j hj => hS.rng hj)
        have HOK : Hid ((shR i).1.ok (shR i).2.1.length (shR i).2.2.1.length) := Lib.hid (by rw [hg.len]; exact hg.ok)
        have hk : (shR i).2.2.1.length ≤ 1000000000000 := by have := hg.few; omega
        have HE : Hid ((shR i).1.step (shR i).2.1 0 (shR i).2.2.2 = ⟨0, 0, (shR (i + 1)).1, (shR (i + 1)).2.1, nt, (shR (i + 1)).2.2.2⟩) := Lib.hid he
        have HN : Hid ((shR i).2.2.1 ++ nt = (shR (i + 1)).2.2.1) := Lib.hid hn
        have HG := Lib.hid hg
        have HGN : Hid (EGood 12 (i + 1) (shR (i + 1)).1 (shR (i + 1)).2.1 (shR (i + 1)).2.2.1 (shR (i + 1)).2.2.2) := Lib.hid hgn
        clear he hn hg hgn
        clear hS
        go_wp2_with (go_at_call 15; refine (estep HE.out HN.out HS.out HOK.out HG.out.ds (by decide) (by decide) hk).mono ?_; rintro e w8 ⟨rfl, h⟩; (have HT := Lib.hid h); clear h)
        go_roundg kk
        case measure => omega
        case rel => exact ⟨i + 1, rfl, by omega, by omega, HGN.out, HT.out⟩
      · have c4b : decide ((i : Int) < 3) = false := decide_eq_false (by omega)
        obtain rfl : i = 3 := by omega
        obtain ⟨nt, he, hn⟩ := erun_step (now := 0) (S := newEM 3 4 0 0 2 0 true 1 1 0) (ws := frL 0 3 3 4 12) (ds := [7]) (k := 3) shR_e.1 shR_e.2.1
        have hgn := erun_good (now := 0) (S := newEM 3 4 0 0 2 0 true 1 1 0) (ws := frL 0 3 3 4 12) (ds := [7]) (k := 3) hg (by decide) (by decide) (fun j hj => hS.rng hj)
        have HOK : Hid ((shR 3).1.ok (shR 3).2.1.length (shR 3).2.2.1.length) := Lib.hid (by rw [hg.len]; exact hg.ok)
        have hk : (shR 3).2.2.1.length ≤ 1000000000000 := by have := hg.few; omega
        have HE : Hid ((shR 3).1.step (shR 3).2.1 0 (shR 3).2.2.2 = ⟨4, 0, (shR (3 + 1)).1, (shR (3 + 1)).2.1, nt, (shR (3 + 1)).2.2.2⟩) := Lib.hid he
        have HN : Hid ((shR 3).2.2.1 ++ nt = (shR (3 + 1)).2.2.1) := Lib.hid hn
        have HG := Lib.hid hg
        have HGN : Hid (EGood 12 4 (shR 4).1 (shR 4).2.1 (shR 4).2.2.1 (shR 4).2.2.2) := Lib.hid hgn
        clear he hn hg hgn
        have HPL : Hid ((shR (3 + 1)).1.pl = 9) := Lib.hid shR_e.2.2.1
        have HRG : Hid ((shR (3 + 1)).1.rg = 1) := Lib.hid shR_e.2.2.2.1
        have HEX : Hid ((shR (3 + 1)).1.ex = 1) := Lib.hid shR_e.2.2.2.2
        have HAT : Hid (atI 3 4 0 1 1 = 9) := Lib.hid (by decide)
        clear hS
        go_wp2_with (go_at_call 15; refine (estep HE.out HN.out HS.out HOK.out HG.out.ds (by decide) (by decide) hk).mono ?_; rintro e w8 ⟨rfl, h⟩; (have HT := Lib.hid h); clear h)
        have HBD := Lib.hid (Below.refl w8.heap.size w8).drew
        have HCS : Hid (∀ w', Below w8.heap.size w8 w' → w'.cell? ⟨w.heap.size, 0, none⟩ = some (.int .i64 3) ∧ w'.cell? ⟨w.heap.size, 1, none⟩ = some (.int .i64 4) ∧ w'.cell? ⟨w.heap.size, 2, none⟩ = some (.int .i64 0) ∧ w'.cell? ⟨w.heap.size, 3, none⟩ = some (.int .u32 0)) := Lib.hid (fun w' hb => cells4 ((HT.out.below hb).cells 3 rfl))
        refine wp_region_held_drew (S := (fun w' => w'.cell? ⟨w.heap.size, 0, none⟩ = some (.int .i64 3) ∧ w'.cell? ⟨w.heap.size, 1, none⟩ = some (.int .i64 4) ∧ w'.cell? ⟨w.heap.size, 2, none⟩ = some (.int .i64 0) ∧ w'.cell? ⟨w.heap.size, 3, none⟩ = some (.int .u32 0))) (by kernel_rfl) ?_ (fun hHeld0 => ?_)
        · first | exact HCS.out _ HBD.out | exact HCS.out _ (Below.refl _ _)
        refine wpAnyH_take (i := 0) (v := ?_) rfl (by kernel_rfl) (by kernel_rfl) (by kernel_rfl) (fun _ _ _ h => h) (Or.inl ⟨by rfl, ?_⟩) hHeld0 ?_
        rotate_left
        · intro w hSw
          (try dsimp only at hSw)
          go_simp
          try (first | (with_reducible rfl) | rfl)
        try simp only [List.getElem_toArray, List.getElem_cons_zero, List.getElem_cons_succ, Act.put, List.setIfInBounds_toArray, List.set_cons_zero, List.set_cons_succ]
        refine wpAnyH_take (i := 1) (v := ?_) rfl (by kernel_rfl) (by kernel_rfl) (by kernel_rfl) (fun _ _ _ h => h) (Or.inl ⟨by rfl, ?_⟩) hHeld0 ?_
        rotate_left
        · intro w hSw
          (try dsimp only at hSw)
          go_simp
          try (first | (with_reducible rfl) | rfl)
        try simp only [List.getElem_toArray, List.getElem_cons_zero, List.getElem_cons_succ, Act.put, List.setIfInBounds_toArray, List.set_cons_zero, List.set_cons_succ]
        refine wpAnyH_take (i := 2) (v := ?_) rfl (by kernel_rfl) (by kernel_rfl) (by kernel_rfl) (fun _ _ _ h => h) (Or.inl ⟨by rfl, ?_⟩) hHeld0 ?_
        rotate_left
        · intro w hSw
          (try dsimp only at hSw)
          go_simp
          try (first | (with_reducible rfl) | rfl)
        try simp only [List.getElem_toArray, List.getElem_cons_zero, List.getElem_cons_succ, Act.put, List.setIfInBounds_toArray, List.set_cons_zero, List.set_cons_succ]
        refine wpAnyH_take (i := 3) (v := ?_) rfl (by kernel_rfl) (by kernel_rfl) (by kernel_rfl) (fun _ _ _ h => h) (Or.inl ⟨by rfl, ?_⟩) hHeld0 ?_
        rotate_left
        · intro w hSw
          (try dsimp only at hSw)
          go_simp
          try (first | (with_reducible rfl) | rfl)
        try simp only [List.getElem_toArray, List.getElem_cons_zero, List.getElem_cons_succ, Act.put, List.setIfInBounds_toArray, List.set_cons_zero, List.set_cons_succ]
        refine wpAnyH_take (i := 5) (v := ?_) rfl (by kernel_rfl) (by kernel_rfl) (by kernel_rfl) (fun _ _ _ h => h) (Or.inl ⟨by rfl, ?_⟩) hHeld0 ?_
        rotate_left
        · intro w hSw
          (try dsimp only at hSw)
          go_simp
          try (first | (with_reducible rfl) | rfl)
        try simp only [List.getElem_toArray, List.getElem_cons_zero, List.getElem_cons_succ, Act.put, List.setIfInBounds_toArray, List.set_cons_zero, List.set_cons_succ]
        refine wpAnyH_ready (rs := [4]) (by kernel_rfl) (by simp) ?_
        refine AllReadyH.cons rfl (fun K hK => ?_) ?_
        · go_simp
          (go_at_call 19; refine (e_place (HT.out.below HBD.out) 2 rfl).mono ?_; rintro e w' ⟨rfl, rfl⟩; rw [HPL.out])
          go_wp2_with fail
          refine hK.out _ _ ?_ (fun hHeld5_4 => ?_)
          · first | exact HCS.out _ HBD.out | exact HCS.out _ (Below.refl _ _)
          clear hK K
          try simp only [List.getElem_toArray, List.getElem_cons_zero, List.getElem_cons_succ, Act.put, List.setIfInBounds_toArray, List.set_cons_zero, List.set_cons_succ]
          refine wpAnyH_ready (rs := [6]) (by kernel_rfl) (by simp) ?_
          refine AllReadyH.cons rfl (fun K hK => ?_) ?_
          · go_simp
            (go_at_call 23; refine (slot_any 3 4 0 0 1 _).mono ?_; rintro e w' ⟨rfl, hb⟩; rw [HAT.out]; (have HZ2 := Lib.hid (HBD.out.trans (hb.mono HBD.out.size))); clear hb HBD; (have HBD := HZ2); clear HZ2)
            go_wp2_with fail
            refine hK.out _ _ ?_ (fun hHeld6_6 => ?_)
            · first | exact HCS.out _ HBD.out | exact HCS.out _ (Below.refl _ _)
            clear hK K
            try simp only [List.getElem_toArray, List.getElem_cons_zero, List.getElem_cons_succ, Act.put, List.setIfInBounds_toArray, List.set_cons_zero, List.set_cons_succ]
            refine wpAnyH_take (i := 7) (v := ?_) rfl (by kernel_rfl) (by kernel_rfl) (by kernel_rfl) (fun _ _ _ h => h) (Or.inl ⟨by rfl, ?_⟩) hHeld6_6 ?_
            rotate_left
            · intro w hSw
              (try dsimp only at hSw)
              go_simp
              try (first | (with_reducible rfl) | rfl)
            try simp only [List.getElem_toArray, List.getElem_cons_zero, List.getElem_cons_succ, Act.put, List.setIfInBounds_toArray, List.set_cons_zero, List.set_cons_succ]
            refine wpAnyH_take (i := 8) (v := ?_) rfl (by kernel_rfl) (by kernel_rfl) (by kernel_rfl) (fun _ _ _ h => h) (Or.inl ⟨by rfl, ?_⟩) hHeld6_6 ?_
            rotate_left
            · intro w hSw
              (try dsimp only at hSw)
              go_simp
              try (first | (with_reducible rfl) | rfl)
            try simp only [List.getElem_toArray, List.getElem_cons_zero, List.getElem_cons_succ, Act.put, List.setIfInBounds_toArray, List.set_cons_zero, List.set_cons_succ]
            refine wpAnyH_take (i := 9) (v := ?_) rfl (by kernel_rfl) (by kernel_rfl) (by kernel_rfl) (fun _ _ _ h => h) (Or.inl ⟨by rfl, ?_⟩) hHeld6_6 ?_
            rotate_left
            · intro w hSw
              (try dsimp only at hSw)
              go_simp
              try (first | (with_reducible rfl) | rfl)
            try simp only [List.getElem_toArray, List.getElem_cons_zero, List.getElem_cons_succ, Act.put, List.setIfInBounds_toArray, List.set_cons_zero, List.set_cons_succ]
            refine wpAnyH_take (i := 10) (v := ?_) rfl (by kernel_rfl) (by kernel_rfl) (by kernel_rfl) (fun _ _ _ h => h) (Or.inl ⟨by rfl, ?_⟩) hHeld6_6 ?_
            rotate_left
            · intro w hSw
              (try dsimp only at hSw)
              go_simp
              try (first | (with_reducible rfl) | rfl)
            try simp only [List.getElem_toArray, List.getElem_cons_zero, List.getElem_cons_succ, Act.put, List.setIfInBounds_toArray, List.set_cons_zero, List.set_cons_succ]
            refine wpAnyH_take (i := 12) (v := ?_) rfl (by kernel_rfl) (by kernel_rfl) (by kernel_rfl) (fun _ _ _ h => h) (Or.inl ⟨by rfl, ?_⟩) hHeld6_6 ?_
            rotate_left
            · intro w hSw
              (try dsimp only at hSw)
              go_simp
              try (first | (with_reducible rfl) | rfl)
            try simp only [List.getElem_toArray, List.getElem_cons_zero, List.getElem_cons_succ, Act.put, List.setIfInBounds_toArray, List.set_cons_zero, List.set_cons_succ]
            refine wpAnyH_ready (rs := [11]) (by kernel_rfl) (by simp) ?_
            refine AllReadyH.cons rfl (fun K hK => ?_) ?_
            · go_simp
              (go_at_call 18; refine (e_state (HT.out.below HBD.out) 2 rfl).mono ?_; rintro e w' ⟨rfl, hb⟩; rw [HRG.out, HEX.out]; (have HZ2 := Lib.hid (HBD.out.trans (hb.mono HBD.out.size))); clear hb HBD; (have HBD := HZ2); clear HZ2)
              go_wp2_with fail
              refine hK.out _ _ ?_ (fun hHeld12_11 => ?_)
              · first | exact HCS.out _ HBD.out | exact HCS.out _ (Below.refl _ _)
              clear hK K
              try simp only [List.getElem_toArray, List.getElem_cons_zero, List.getElem_cons_succ, Act.put, List.setIfInBounds_toArray, List.set_cons_zero, List.set_cons_succ]
              refine wpAnyH_take (i := 13) (v := ?_) rfl (by kernel_rfl) (by kernel_rfl) (by kernel_rfl) (fun _ _ _ h => h) (Or.inl ⟨by rfl, ?_⟩) hHeld12_11 ?_
              rotate_left
              · intro w hSw
                (try dsimp only at hSw)
                go_simp
                try (first | (with_reducible rfl) | rfl)
              try simp only [List.getElem_toArray, List.getElem_cons_zero, List.getElem_cons_succ, Act.put, List.setIfInBounds_toArray, List.set_cons_zero, List.set_cons_succ]
              refine wpAnyH_take (i := 14) (v := ?_) rfl (by kernel_rfl) (by kernel_rfl) (by kernel_rfl) (fun _ _ _ h => h) (Or.inl ⟨by rfl, ?_⟩) hHeld12_11 ?_
              rotate_left
              · intro w hSw
                (try dsimp only at hSw)
                go_simp
                try (first | (with_reducible rfl) | rfl)
              try simp only [List.getElem_toArray, List.getElem_cons_zero, List.getElem_cons_succ, Act.put, List.setIfInBounds_toArray, List.set_cons_zero, List.set_cons_succ]
              refine wpAnyH_take (i := 15) (v := ?_) rfl (by kernel_rfl) (by kernel_rfl) (by kernel_rfl) (fun _ _ _ h => h) (Or.inl ⟨by rfl, ?_⟩) hHeld12_11 ?_
              rotate_left
              · intro w hSw
                (try dsimp only at hSw)
                go_simp
                try (first | (with_reducible rfl) | rfl)
              try simp only [List.getElem_toArray, List.getElem_cons_zero, List.getElem_cons_succ, Act.put, List.setIfInBounds_toArray, List.set_cons_zero, List.set_cons_succ]
              refine wpAnyH_done (by kernel_rfl) ?_ _
              have H9 := HT.out.below HBD.out
              go_wp2
              go_ret
              exact ⟨rfl, H9.bel⟩
            exact AllReadyH.nil
          exact AllReadyH.nil
        exact AllReadyH.nil
end Go.Proofs.Ythnjeiandfdpgaa
