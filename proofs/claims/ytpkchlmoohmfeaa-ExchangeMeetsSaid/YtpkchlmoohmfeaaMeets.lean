/-
  The law ExchangeMeets: the walk.
-/
import Derived.Test.YtpkchlmoohmfeaaShort
import Derived.Test.YtpkchlmoohmfeaaMinv
namespace Go.Proofs.Ytpkchlmoohmfeaa
open Go.RowKit
set_option linter.unusedVariables false
set_option linter.unusedSimpArgs false

def stV (S : VM) : Value := .int .i64 S.st
def gotV (S : VM) : Value := .int .u32 (S.told S.st)
theorem infoU32 : (Try.prog.info? 23).map (fun i => (i.zero, i.size, i.bytes)) = some (some (.int .u32 0), 1, 4) := by kernel_rfl
abbrev mRows (gt gg : Nat) (v : Value) (m : Nat) (st got : List Value) (i : Nat) (ps : List Nat) : List Asn := [rowA 36 1 v i (ps.map ptrV), rowG gg m 23 1 m got, rowG gt m 39 1 m st]
/-- Visits that are made one behind the other. -/
def MMakeRel (w : World) (q n : Nat) (P : Nat → Bool) (x : Int) (gt gg m i : Nat) (v : Value) (w' : World) : Prop :=
  ∃ ps, ps.length = i ∧ St w (memA q [x] [] :: (mRows gt gg v m (List.replicate m (.int .i64 0)) (List.replicate m (.int .u32 0)) i ps ++ manyA visA ps (freshS n P i))) w'
/-- What holds of all behind i turns: t are given, then they go round. -/
structure MTurn (n : Nat) (P : Nat → Bool) (t m i : Nat) (x : Int) (Ss : List VM) (cs : List Nat) : Prop where
  vs : VsI n P x Ss cs
  mi : MI P x Ss
  len : Ss.length = m
  oc : ∀ (k : Nat) (S : VM) (c : Nat), Ss[k]? = some S → cs[k]? = some c → S.st = 0 → occ t m k (i - t) ≤ c
def MeetsRel (w : World) (q n : Nat) (P : Nat → Bool) (t gt gg ga ca : Nat) (ps : List Nat) (m i : Nat) (w' : World) : Prop :=
  ∃ x Ss cs ns, ps.length = m ∧ MTurn n P t m i x Ss cs ∧ ns.length ≤ i ∧ St w (memA q [x] ns :: (mRows gt gg (.slice (some ⟨ga, 0, none⟩) m ca) m (Ss.map stV) (Ss.map gotV) m ps ++ manyA visA ps Ss)) w'
abbrev metRows (gt gg ga ca gm : Nat) (ps : List Nat) (m : Nat) (P : Nat → Bool) (Ss : List VM) (j : Nat) : List Asn := [rowG gm (m + 1) 3 1 (m + 1) (metRow P Ss m j), rowA 36 1 (.slice (some ⟨ga, 0, none⟩) m ca) m (ps.map ptrV), rowG gg m 23 1 m (Ss.map gotV), rowG gt m 39 1 m (Ss.map stV)]
def MetRel (w : World) (q : Nat) (P : Nat → Bool) (gt gg ga ca gm : Nat) (ps : List Nat) (m : Nat) (x : Int) (Ss : List VM) (ns : List Note) (j : Nat) (w' : World) : Prop := St w (memA q [x] ns :: (metRows gt gg ga ca gm ps m P Ss j ++ manyA visA ps Ss)) w'
theorem freshS_got (n : Nat) (P : Nat → Bool) (m : Nat) : (freshS n P m).map gotV = List.replicate m (.int .u32 0) := by
  induction m with
  | zero => rfl
  | succ m ih => rw [freshS_succ, List.map_append, ih, List.replicate_succ']; rfl
theorem MTurn.new {n : Nat} {P : Nat → Bool} {t m : Nat} {x : Int} (x0 : 0 ≤ x) (x1 : x < 18446744073709551616) (hx : sSt x = 0) (hm : m ≤ 12) : MTurn n P t m 0 x (freshS n P m) (List.replicate m 0) :=
  ⟨VsI.new n P x m x0 x1 hm, MI.new n P x m hx, freshS_len _ _ _, fun k S c _ _ _ => by rw [show 0 - t = 0 by omega]; exact Nat.zero_le _⟩
theorem MTurn.step {n : Nat} {P : Nat → Bool} {t m i : Nat} {x : Int} {Ss : List VM} {cs : List Nat} (h : MTurn n P t m i x Ss cs) (hn1 : 1 ≤ n) (hn : n ≤ 64) {k : Nat} {S : VM} {c : Nat} (hS : Ss[k]? = some S) (hc : cs[k]? = some c) (hk : t ≤ i → k = i % m) :
    ∃ S' x' nt, S.step [x] 0 = ⟨S'.st, S', [x'], nt⟩ ∧ (S'.st ≠ 5 ∧ S'.st ≠ 2) ∧ nt.length ≤ 1 ∧ MTurn n P t m (i + 1) x' (Ss.set k S') (cs.set k (if S.st = 0 then c + 1 else c)) := by
  obtain ⟨r, S', x', nt, e, er, hv, hd, hp, hV, h1, h2⟩ := h.vs.step hn1 hn hS hc
  have hkl : k < Ss.length := (List.getElem?_eq_some_iff.1 hS).1
  have hkc : k < cs.length := (List.getElem?_eq_some_iff.1 hc).1
  have run := hv.run
  refine ⟨S', x', nt, by rw [e, er], by omega, ?_, hV, h.mi.step h.vs hS hc hd (fun h => (h2 h).1), by rw [List.length_set]; exact h.len, fun j T d hT hd' hst => ?_⟩
  · by_cases e0 : S.st = 0
    · rw [h1 e0]; exact Nat.le_refl _
    · rw [(h2 e0).2]; exact Nat.zero_le _
  · have up : occ t m j (i + 1 - t) ≤ occ t m j (i - t) + (if t ≤ i ∧ i % m = j then 1 else 0) := by
      by_cases c1 : t ≤ i
      · rw [show i + 1 - t = (i - t) + 1 by omega]
        simp only [occ]
        rw [show t + (i - t) = i by omega]
        by_cases c2 : i % m = j
        · simp [c1, c2]
        · simp [c2]
      · rw [show i + 1 - t = 0 by omega]
        exact Nat.zero_le _
    rcases set_get hT hkl with ⟨e1, e2⟩ | ⟨hj, hT2⟩
    · rcases set_get hd' hkc with ⟨_, e4⟩ | ⟨hj, _⟩
      · subst e1 e2
        have s0 : S.st = 0 := by
          by_cases e0 : S.st = 0
          · exact e0
          · rw [(h2 e0).1] at hst; exact hst
        have := h.oc _ S c hS hc s0
        rw [e4, if_pos s0]
        split at up <;> omega
      · exact (hj e1).elim
    · rcases set_get hd' hkc with ⟨e3, _⟩ | ⟨_, hd2⟩
      · exact (hj e3).elim
      · have := h.oc j T d hT2 hd2 hst
        have e5 : ¬ (t ≤ i ∧ i % m = j) := fun ⟨a, b⟩ => hj (by rw [← b]; exact (hk a).symm)
        rw [if_neg e5] at up
        omega
theorem MTurn.done {n : Nat} {P : Nat → Bool} {t m : Nat} {x : Int} {Ss : List VM} {cs : List Nat} (h : MTurn n P t m (t + 20 * m) x Ss cs) (hn : n ≤ 10) (k : Nat) (S : VM) (hS : Ss[k]? = some S) : S.st = 1 ∨ S.st = 3 ∨ S.st = 4 := by
  have hk : k < Ss.length := (List.getElem?_eq_some_iff.1 hS).1
  have hkc : k < cs.length := by rw [h.vs.len]; exact hk
  have hv := h.vs.each k S cs[k] hS (List.getElem?_eq_getElem hkc)
  rcases hv.run with ⟨h0, h1⟩ | ⟨h0, _⟩
  · have := h.oc k S cs[k] hS (List.getElem?_eq_getElem hkc) h0
    rw [show t + 20 * m - t = 20 * m by omega, occ_rounds m k (by rw [← h.len]; exact hk)] at this
    omega
  · exact h0
/-- The last loops: all have ended. -/
structure MEnd (P : Nat → Bool) (m : Nat) (x : Int) (Ss : List VM) : Prop where
  len : Ss.length = m
  x0 : sSt x = 0
  xr : 0 ≤ x ∧ x < 18446744073709551616
  st : ∀ (k : Nat) (S : VM), Ss[k]? = some S → (S.st = 1 ∨ S.st = 3 ∨ S.st = 4) ∧ S.push = P k ∧ ∀ N k, S.ok N k
  num : ∀ (k : Nat) (S : VM), Ss[k]? = some S → P k = false → S.st = 1 → ∃ p : Nat, p < m ∧ P p = true ∧ S.i = (p : Int) + 1
  cnt : ∀ p : Nat, p < m → P p = true → cntI (popD P Ss p) m = (pushD Ss p).toNat
theorem MTurn.end_ {n : Nat} {P : Nat → Bool} {t m : Nat} {x : Int} {Ss : List VM} {cs : List Nat} (h : MTurn n P t m (t + 20 * m) x Ss cs) (hn : n ≤ 10) : MEnd P m x Ss := by
  have hd := fun k S hS => h.done hn k S hS
  obtain ⟨h1, h2⟩ := h.mi.final fun k S hS => by have := hd k S hS; omega
  have hl := h.len
  refine ⟨hl, h1, ⟨h.vs.x0, h.vs.x1⟩, fun k S hS => ?_, fun k S hS hp h1 => by rw [← hl]; exact h.mi.num k S hS hp h1, fun p hp hpp => by rw [← hl]; exact h2 p (by omega) hpp⟩
  have hkc : k < cs.length := by rw [h.vs.len]; exact (List.getElem?_eq_some_iff.1 hS).1
  have hv := h.vs.each k S cs[k] hS (List.getElem?_eq_getElem hkc)
  have hs := hd k S hS
  refine ⟨hs, ?_⟩
  generalize cs[k] = cc at hv
  cases hv with
  | over S c g0 g1 g2 g3 g4 => exact ⟨g1, g4⟩
  | first => simp at hs
  | claim w h0 h1 h2 => simp at hs
  | offer w h0 h1 h2 => simp at hs
  | look w l c h0 h1 h2 => simp at hs
  | again w h1 h2 => simp at hs
  | withdraw w h2 => simp at hs
  | found w l c h1 h3 h4 h5 h2 => simp at hs
/-- A pop that is Done with nobody's number: a push's own count, and a pop's. -/
theorem MEnd.want {P : Nat → Bool} {m : Nat} {x : Int} {Ss : List VM} (h : MEnd P m x Ss) {p : Nat} {S : VM} (hS : Ss[p]? = some S) : (cntI (popD P Ss p) m : Int) = if P p = true ∧ S.st = 1 then 1 else 0 := by
  have hp : p < m := by rw [← h.len]; exact (List.getElem?_eq_some_iff.1 hS).1
  cases hP : P p with
  | true =>
    rw [h.cnt p hp hP, pushD_get hS]
    by_cases e : S.st = 1
    · simp [e]
    · rw [beq_eq_false_iff_ne.mpr e]; simp [e]
  | false =>
    rw [cntI_zero fun j hj => ?_]
    · simp
    · obtain ⟨T, hT⟩ := getE (l := Ss) (k := j) (by rw [h.len]; exact hj)
      rw [popD_get hT]
      cases hPj : P j with
      | true => simp
      | false =>
        by_cases e : T.st = 1
        · obtain ⟨p', q1, q2, q3⟩ := h.num j T hT hPj e
          have : ¬ T.i = (p : Int) + 1 := fun c => by
            have : p' = p := by omega
            rw [this, hP] at q2; cases q2
          rw [beq_eq_false_iff_ne.mpr this]; simp
        · rw [beq_eq_false_iff_ne.mpr e]; simp

set_option maxHeartbeats 16000000 in
set_option maxRecDepth 100000 in
theorem meets_none (A : Option Addr) (m c : Nat) (B : Option Addr) (t d : Nat) (pl sp x : Int) (w : World) (hw : sW 0 0 sp = x) (t0 : 0 ≤ sp) (t1 : sp < 4294967296) (hm : m ≤ maxLen) (ht : t ≤ maxLen) (h0 : m = 0) :
    Calls Try.prog 3 #[.slice A m c, .int .i64 pl, .int .u32 sp, .slice B t d] w fun e w' => e = .returned (.bool true) ∧ Below w.heap.size w w' := by
  unfold maxLen at hm ht
  subst h0
  have b0 : (((0 : Nat) : Int) == 0) = true := rfl
  have hxr : 0 ≤ x ∧ x < 18446744073709551616 := by subst hw; exact sW_rng (by decide) (by decide) t0 t1
  have HRg := Lib.hid (rng1 hxr.1 hxr.2)
  have HW := Lib.hid hw
  have H := Lib.hid (St.nil w)
  clear hw
  go_enter Try.func3, Try.ntmps3
  go_wp2_with (first | ((have _h := H2); go_at_call 11; refine (new_st (H2.out.below (bl_alloc (bl_refl _) _)) (some ⟨_, 0, none⟩) _ 1 [x] (lit1 (heap_new rfl)) (by decide) HRg.out rfl).mono ?_; rintro e w3 ⟨q, rfl, h⟩; (have H3 := Lib.hid (h)); clear h; clear _h) | ((have _h := H1); go_at_call 12; refine (slot_word 0 0 sp x _ HW.out (by decide) (by decide) (by decide) (by decide) t0 t1).mono ?_; rintro e w2 ⟨rfl, hb⟩; (have H2 := Lib.hid (H1.out.below hb)); clear hb; clear _h) | ((have _h := H); go_at_call 10; refine (shown10 _).mono ?_; rintro e w1 ⟨rfl, hb⟩; (have H1 := Lib.hid (H.out.below hb)); clear hb; clear _h))
  go_ret
  exact ⟨rfl, H3.out.bel⟩
set_option maxHeartbeats 16000000 in
set_option maxRecDepth 100000 in
theorem meets_many (A : Option Addr) (m c : Nat) (B : Option Addr) (t d : Nat) (pl sp x : Int) (w : World) (hw : sW 0 0 sp = x) (t0 : 0 ≤ sp) (t1 : sp < 4294967296) (hm : m ≤ maxLen) (ht : t ≤ maxLen) (h0 : 12 < m) :
    Calls Try.prog 3 #[.slice A m c, .int .i64 pl, .int .u32 sp, .slice B t d] w fun e w' => e = .returned (.bool true) ∧ Below w.heap.size w w' := by
  unfold maxLen at hm ht
  have b0 : ((m : Int) == 0) = false := by simp; omega
  have b1 : decide ((12 : Int) < m) = true := decide_eq_true (by omega)
  have hxr : 0 ≤ x ∧ x < 18446744073709551616 := by subst hw; exact sW_rng (by decide) (by decide) t0 t1
  have HRg := Lib.hid (rng1 hxr.1 hxr.2)
  have HW := Lib.hid hw
  have H := Lib.hid (St.nil w)
  clear hw
  go_enter Try.func3, Try.ntmps3
  go_wp2_with (first | ((have _h := H2); go_at_call 11; refine (new_st (H2.out.below (bl_alloc (bl_refl _) _)) (some ⟨_, 0, none⟩) _ 1 [x] (lit1 (heap_new rfl)) (by decide) HRg.out rfl).mono ?_; rintro e w3 ⟨q, rfl, h⟩; (have H3 := Lib.hid (h)); clear h; clear _h) | ((have _h := H1); go_at_call 12; refine (slot_word 0 0 sp x _ HW.out (by decide) (by decide) (by decide) (by decide) t0 t1).mono ?_; rintro e w2 ⟨rfl, hb⟩; (have H2 := Lib.hid (H1.out.below hb)); clear hb; clear _h) | ((have _h := H); go_at_call 10; refine (shown10 _).mono ?_; rintro e w1 ⟨rfl, hb⟩; (have H1 := Lib.hid (H.out.below hb)); clear hb; clear _h))
  go_ret
  exact ⟨rfl, H3.out.bel⟩
set_option maxHeartbeats 16000000 in
set_option maxRecDepth 100000 in
theorem meets_long (A : Option Addr) (m c : Nat) (B : Option Addr) (t d : Nat) (pl sp x : Int) (w : World) (hw : sW 0 0 sp = x) (t0 : 0 ≤ sp) (t1 : sp < 4294967296) (hm : m ≤ maxLen) (ht : t ≤ maxLen) (h0 : 0 < m) (h1 : m ≤ 12) (h2 : 300 < t) :
    Calls Try.prog 3 #[.slice A m c, .int .i64 pl, .int .u32 sp, .slice B t d] w fun e w' => e = .returned (.bool true) ∧ Below w.heap.size w w' := by
  unfold maxLen at hm ht
  have b0 : ((m : Int) == 0) = false := by simp; omega
  have b1 : decide ((12 : Int) < m) = false := decide_eq_false (by omega)
  have b2 : decide ((300 : Int) < t) = true := decide_eq_true (by omega)
  have hxr : 0 ≤ x ∧ x < 18446744073709551616 := by subst hw; exact sW_rng (by decide) (by decide) t0 t1
  have HRg := Lib.hid (rng1 hxr.1 hxr.2)
  have HW := Lib.hid hw
  have H := Lib.hid (St.nil w)
  clear hw
  go_enter Try.func3, Try.ntmps3
  go_wp2_with (first | ((have _h := H2); go_at_call 11; refine (new_st (H2.out.below (bl_alloc (bl_refl _) _)) (some ⟨_, 0, none⟩) _ 1 [x] (lit1 (heap_new rfl)) (by decide) HRg.out rfl).mono ?_; rintro e w3 ⟨q, rfl, h⟩; (have H3 := Lib.hid (h)); clear h; clear _h) | ((have _h := H1); go_at_call 12; refine (slot_word 0 0 sp x _ HW.out (by decide) (by decide) (by decide) (by decide) t0 t1).mono ?_; rintro e w2 ⟨rfl, hb⟩; (have H2 := Lib.hid (H1.out.below hb)); clear hb; clear _h) | ((have _h := H); go_at_call 10; refine (shown10 _).mono ?_; rintro e w1 ⟨rfl, hb⟩; (have H1 := Lib.hid (H.out.below hb)); clear hb; clear _h))
  go_ret
  exact ⟨rfl, H3.out.bel⟩
set_option maxHeartbeats 16000000 in
set_option maxRecDepth 100000 in
theorem meets_body (A : Option Addr) (m c : Nat) (B : Option Addr) (t d : Nat) (pl sp x : Int) (w : World) (hw : sW 0 0 sp = x) (t0 : 0 ≤ sp) (t1 : sp < 4294967296) (hm : m ≤ maxLen) (ht : t ≤ maxLen) (n : Nat) (m1 : Int) (P : Nat → Bool) (zs : List Int) (hP : pickI pl 6 = m1) (p0 : -9223372036854775808 ≤ pl) (p1 : pl < 9223372036854775808) (hn : max m1 1 = (n : Int)) (n1 : 1 ≤ n) (n5 : n ≤ 5) (h0 : 0 < m) (h1 : m ≤ 12) (h2 : t ≤ 300) (hB : RdB w A m P) (hI : RdI w B zs t) :
    Calls Try.prog 3 #[.slice A m c, .int .i64 pl, .int .u32 sp, .slice B t d] w fun e w' => e = .returned (.bool true) ∧ Below w.heap.size w w' := by
  unfold maxLen at hm ht
  have b0 : ((m : Int) == 0) = false := by simp; omega
  have b1 : decide ((12 : Int) < m) = false := decide_eq_false (by omega)
  have b2 : decide ((300 : Int) < t) = false := decide_eq_false (by omega)
  have hx0 : sSt x = 0 := by subst hw; exact sSt_W (by decide) (by decide)
  have HX0 := Lib.hid hx0
  have HXR : Hid (0 ≤ x ∧ x < 18446744073709551616) := Lib.hid (by subst hw; exact sW_rng (by decide) (by decide) t0 t1)
  have HB := Lib.hid hB
  have HI := Lib.hid hI
  have HP := Lib.hid hP
  have HN := Lib.hid hn
  obtain ⟨iS, hiS, hzS0, hzS1, hzS2⟩ := info_parts infoS
  obtain ⟨iU, hiU, hzU0, hzU1, hzU2⟩ := info_parts infoU32
  clear hB hI hP hx0 hn
  have hxr : 0 ≤ x ∧ x < 18446744073709551616 := by subst hw; exact sW_rng (by decide) (by decide) t0 t1
  have HRg := Lib.hid (rng1 hxr.1 hxr.2)
  have HW := Lib.hid hw
  have H := Lib.hid (St.nil w)
  clear hw
  go_enter Try.func3, Try.ntmps3
  go_wp2_with (first | ((have _h := M1); refine wpList_make_full _ (by rfl) _ _ _ (by rfl) _ 23 iU _ 1 Try.underlying35 hiU hzU0 hzU1 .i64 .i64 _ _ m (by rfl) (by rfl) rfl rfl (by rw [hzU2]; omega) (by unfold maxLen; omega) (Nat.le_refl _) ?_; intro wM2 hown hgrow; (have M2 := Lib.hid (by have h9 := St.made M1.out hown hgrow; rw [show (madeCells (Value.int .u32 0).cells (m * 1)).toList = List.replicate m (.int .u32 0) from made_one _ _] at h9; exact h9)); clear hown hgrow _h) | ((have _h := H3); refine wpList_make_full _ (by rfl) _ _ _ (by rfl) _ 39 iS _ 1 Try.underlying34 hiS hzS0 hzS1 .i64 .i64 _ _ m (by rfl) (by rfl) rfl rfl (by rw [hzS2]; omega) (by unfold maxLen; omega) (Nat.le_refl _) ?_; intro wM1 hown hgrow; (have M1 := Lib.hid (by have h9 := St.made H3.out hown hgrow; rw [show (madeCells (Value.int .i64 0).cells (m * 1)).toList = List.replicate m (.int .i64 0) from made_one _ _] at h9; exact h9)); clear hown hgrow _h) | ((have _h := H2); go_at_call 11; refine (new_st (H2.out.below (bl_alloc (bl_refl _) _)) (some ⟨_, 0, none⟩) _ 1 [x] (lit1 (heap_new rfl)) (by decide) HRg.out rfl).mono ?_; rintro e w3 ⟨q, rfl, h⟩; (have H3 := Lib.hid (h)); clear h; clear _h) | ((have _h := H1); go_at_call 12; refine (slot_word 0 0 sp x _ HW.out (by decide) (by decide) (by decide) (by decide) t0 t1).mono ?_; rintro e w2 ⟨rfl, hb⟩; (have H2 := Lib.hid (H1.out.below hb)); clear hb; clear _h) | ((have _h := H); go_at_call 10; refine (shown10 _).mono ?_; rintro e w1 ⟨rfl, hb⟩; (have H1 := Lib.hid (H.out.below hb)); clear hb; clear _h))
  have HRel := Lib.hid (show MMakeRel w q n P x w3.heap.size wM1.heap.size m 0 (.slice none 0 0) wM2 from ⟨[], rfl, (M2.out.rowNil _ _).front 3 rfl⟩)
  generalize w3.heap.size = gt at *
  generalize wM1.heap.size = gg at *
  clear M1 M2 H3 hiS hzS0 hzS1 hzS2 hiU hzU0 hzU1 hzU2 hxr
  go_loopg [12, 15] 13 (fun kq v y w' => ∃ i : Nat, y = .int .i64 i ∧ i ≤ m ∧ i + kq = 13 ∧ MMakeRel w q n P x gt gg m i v w')
  case atStart => exact ⟨0, rfl, by omega, by omega, HRel.out⟩
  case round =>
    obtain ⟨i, rfl, hi, hkq, ps, hps, hS⟩ := hrel
    obtain ⟨A1, c1, rfl, hml⟩ := row_is (hS.rowOf 1 rfl)
    have HE := Lib.hid hS
    unfold maxLen at hml
    clear HRel
    cases gk with
    | zero => omega
    | succ kk =>
      by_cases c4 : i < m
      · have c4b : decide ((i : Int) < m) = true := decide_eq_true (by omega)
        obtain ⟨bd, rfl, hcell⟩ := HB.out.2 i c4
        have r0 : (0 : Int) ≤ (i : Int) := by omega
        have r1 : (i : Int) < (m : Int) := by omega
        have u0 : IntKind.i64.wrap ((i : Int) + 1) = (i : Int) + 1 := by rw [IntKind.wrap_i64]; omega
        have u1 : ((i : Int) + 1) % 4294967296 = (i : Int) + 1 := by omega
        have u2 : IntKind.u32.wrap ((i : Int) + 1) = (i : Int) + 1 := by rw [IntKind.wrap_u32]; exact u1
        obtain ⟨i0, hi0, hz0, hz1, hz2⟩ := info_parts infoPV
        have HPS := Lib.hid hps
        have HCE : Hid (∀ w', Below w.heap.size w w' → w'.cell? (bd.add i) = some (.bool (P i))) := Lib.hid (fun w' hb => (hb.cell (World.block_lt_of_cell? _ _ hcell)).trans hcell)
        clear hS hps hcell
        go_wp2
        go_region_held3 (fun w' => w'.cell? (bd.add i) = some (.bool (P i))) (first | exact HCE.out _ N1.out.bel | exact HCE.out _ HE.out.drew.bel) (first | ((have _h := HTN); go_at_call 13; refine (visit_new 0 (P i) ((i : Int) + 1) 1152921504606846976 m1 HE.out.drew).mono ?_; rintro e wN ⟨p, rfl, h⟩; (have N1 := Lib.hid h); clear h _h) | (go_at_call 14; refine (pick_is pl 6 m1 _ HP.out (by decide) (by decide) p0 p1).mono ?_; rintro e w' ⟨rfl, rfl⟩; (have HTN := Lib.hid True.intro)))
        clear HCE u0 u1 u2 HTN
        go_wp2_with ((have _h := N1); at_builtin; go_must (refine wpList_append_lies _ (by rfl) _ _ _ (by rfl) 0 36 i0 _ 1 8 Try.underlying33 hi0 hz0 hz1 hz2 rfl (by decide) (.slice A1 i c1) i (ps.map ptrV) (by rfl) ((N1.out.below (bl_alloc (bl_refl _) _)).rowOf 2 rfl) ⟨wN.heap.size, 0, none⟩ 1 1 [.pointer (some ⟨p, 0, none⟩)] (by rfl) rfl (by exact World.news_of_block (cs := #[.pointer (some ⟨p, 0, none⟩)]) (t := 36) (fr := (0, 0)) (heap_new rfl)) (by simp [Value.oneCell']) (by decide) (by unfold maxLen; omega) (by omega) (Nat.zero_le _) _ rfl ?_); go_must (intro g cp wA hown hgrow hat hlt); (have L2 := Lib.hid ((((N1.out.below (bl_alloc (bl_refl _) _)).front 2 rfl).append hown hgrow hat).rot3)); clear hown hgrow hat hlt _h)
        go_roundg kk
        case measure => omega
        case rel => exact ⟨i + 1, rfl, by omega, by omega, ps ++ [p], by simp [HPS.out], by
          have h5 := St.snoc (A := [_, _, _]) L2.out (by rw [freshS_len]; exact HPS.out)
          rw [freshS_succ]
          rw [show (⟨0, P i, (i : Int) + 1, bigD, n, 0, .first, 0, false⟩ : VM) = newVM 0 (P i) ((i : Int) + 1) 1152921504606846976 m1 by simp [newVM, HN.out]]
          unfold mRows
          rw [show (ps ++ [p]).map ptrV = ps.map ptrV ++ [ptrV p] from List.map_append]
          exact h5⟩
      · obtain rfl : m = i := by omega
        have c4b : decide (((m : Nat) : Int) < (m : Int)) = false := decide_eq_false (by omega)
        have HPS := Lib.hid hps
        obtain ⟨ga, ca, he⟩ := row_some (hS.rowOf 1 rfl) h0
        cases he
        clear hS hps c4
        have hm0 : (0 : Int) < (m : Int) := by omega
        have hm1 : (m : Int) < 9223372036854775808 := by omega
        go_wp2
        have HS2 := Lib.hid (show MeetsRel w q n P t gt gg ga c1 ps m 0 wr from ⟨x, freshS n P m, List.replicate m 0, [], HPS.out, MTurn.new HXR.out.1 HXR.out.2 HX0.out h1, by simp, by
          rw [show (freshS n P m).map stV = List.replicate m (.int .i64 0) from freshS_st n P m, freshS_got]
          exact HE.out⟩)
        clear HE HPS
        go_loopg [17] 541 (fun kq y w' => ∃ i : Nat, y = .int .i64 i ∧ i ≤ t + 20 * m ∧ i + kq = 541 ∧ MeetsRel w q n P t gt gg ga c1 ps m i w')
        case atStart => exact ⟨0, rfl, by omega, by omega, HS2.out⟩
        case round =>
          obtain ⟨i, rfl, hi, hkq, x, Ss, cs, ns, hps, hT, hnl0, hS⟩ := hrel
          have HE := Lib.hid hS
          have hnl : ns.length ≤ 1000000000000 := by omega
          clear HS2
          cases gk with
          | zero => omega
          | succ k3 =>
            by_cases c4 : i < t + 20 * m
            · have c4b : decide ((i : Int) < (t : Int) + 20 * (m : Int)) = true := decide_eq_true (by omega)
              have r0 : (0 : Int) ≤ (i : Int) := by omega
              obtain ⟨kr, hkr⟩ : ∃ kr, i % m = kr := ⟨_, rfl⟩
              have hrem : (i : Int) % (m : Int) = (kr : Int) := by rw [← hkr]; simp
              have hkrm : kr < m := by rw [← hkr]; exact Nat.mod_lt _ h0
              by_cases c5 : i < t
              · have c5b : decide ((i : Int) < t) = true := decide_eq_true (by omega)
                obtain ⟨bd, rfl, hcell, hwz⟩ := HI.out.kept hS.bel i c5
                obtain ⟨z0, z1⟩ := rngI64 hwz
                have r1 : (i : Int) < (t : Int) := by omega
                obtain ⟨kk0, kk1⟩ := pickI_rng (c := zs.getD i 0) hm0
                obtain ⟨k, hk⟩ := Int.eq_ofNat_of_zero_le kk0
                have HK := Lib.hid hk
                have hkm : k < m := by omega
                clear hk kk0 kk1
                have hkt : t ≤ i → k = i % m := fun h => by omega
                have k0 : (0 : Int) ≤ (k : Int) := by omega
                have k1 : (k : Int) < (m : Int) := by omega
                obtain ⟨S, hSk⟩ := getE (l := Ss) (k := k) (by rw [hT.len]; omega)
                obtain ⟨cc, hck⟩ := getE (l := cs) (k := k) (by rw [hT.vs.len, hT.len]; omega)
                obtain ⟨p, hpk⟩ := getE (l := ps) (k := k) (by omega)
                obtain ⟨S', x', nt, e, her, hnt, hT'⟩ := hT.step n1 (by omega) hSk hck hkt
                have few := hT.vs.few
                have HOK : Hid (S.ok [x].length ns.length) := Lib.hid ((hT.vs.each k S cc hSk hck).ok (by omega) (by omega) (by omega) hT.vs.x0 hT.vs.x1 _)
                obtain ⟨R, hR1, hR2⟩ := hS.pick hpk hSk
                have HPK : Hid (St w (memA q [x] ns :: visA p S :: R) wr ∧ ∀ w1 w' m' S', St w1 (m' :: visA p S' :: R) w' → St w1 (m' :: (mRows gt gg (.slice (some ⟨ga, 0, none⟩) m c1) m (Ss.map stV) (Ss.map gotV) m ps ++ manyA visA ps (Ss.set k S'))) w') := Lib.hid ⟨hR1, hR2⟩
                have HC2 : Hid ((Ss.map gotV)[k]? = some (gotV S)) := Lib.hid (by rw [List.getElem?_map, hSk]; rfl)
                have HC3 : Hid ((Ss.map stV)[k]? = some (stV S)) := Lib.hid (by rw [List.getElem?_map, hSk]; rfl)
                obtain ⟨q1, f1⟩ := hS.at_ 1 rfl k (u := ptrV p) (by rw [List.getElem?_map, hpk]; rfl)
                obtain ⟨q2, f2⟩ := hS.at_ 2 rfl k HC2.out
                obtain ⟨q3, f3⟩ := hS.at_ 3 rfl k HC3.out
                have ne1 : gg ≠ gt := hS.ne 2 3 (by decide) rfl rfl
                have ne2 : gt ≠ gg := fun e => ne1 e.symm
                have HST := Lib.hid e
                have e5 : (S'.st == 5) = false := by simp; omega
                have e2 : (S'.st == 2) = false := by simp; omega
                have HB2 := Lib.hid (And.intro hps (And.intro hT' (And.intro hnt hkr)))
                clear hS hR1 hR2 hpk hSk hck hT hT' hps e her hnt hkt few hkr
                go_wp2_with (first | ((have _h := T1); go_at_call 15; refine (vstep _ HST.out rfl rfl HPK.out.1 HOK.out hnl).mono ?_; rintro e wt2 ⟨rfl, h⟩; (have T2 := Lib.hid ((HPK.out.2 _ _ _ _ h))); clear h q1 q2 q3 f1 f2 f3; (obtain ⟨q2, f2⟩ := T2.out.at_ 2 rfl k HC2.out); (obtain ⟨q3, f3⟩ := T2.out.at_ 3 rfl k HC3.out); clear _h) | ((have _h := HE); go_at_call 14; refine (pick_is (zs.getD i 0) m (k : Int) _ HK.out hm0 hm1 z0 z1).mono ?_; rintro e wt1 ⟨rfl, rfl⟩; (have T1 := Lib.hid (HE.out)); clear _h))
                go_roundg k3
                case measure => omega
                case rel => exact ⟨i + 1, rfl, by omega, by omega, x', Ss.set k S', _, ns ++ nt, HB2.out.1, HB2.out.2.1, by have := HB2.out.2.2.1; rw [List.length_append]; omega, by
                  have h5 := (T2.out.rowSet 3 rfl k (by omega) (stV S')).rowSet 2 rfl k (by omega) (gotV S')
                  rw [List.map_set, List.map_set]
                  exact h5⟩
              · have c5b : decide ((i : Int) < t) = false := decide_eq_false (by omega)
                have hkm := hkrm
                have hkt : t ≤ i → kr = i % m := fun _ => hkr.symm
                have k0 : (0 : Int) ≤ (kr : Int) := by omega
                have k1 : (kr : Int) < (m : Int) := by omega
                obtain ⟨S, hSk⟩ := getE (l := Ss) (k := kr) (by rw [hT.len]; omega)
                obtain ⟨cc, hck⟩ := getE (l := cs) (k := kr) (by rw [hT.vs.len, hT.len]; omega)
                obtain ⟨p, hpk⟩ := getE (l := ps) (k := kr) (by omega)
                obtain ⟨S', x', nt, e, her, hnt, hT'⟩ := hT.step n1 (by omega) hSk hck hkt
                have few := hT.vs.few
                have HOK : Hid (S.ok [x].length ns.length) := Lib.hid ((hT.vs.each kr S cc hSk hck).ok (by omega) (by omega) (by omega) hT.vs.x0 hT.vs.x1 _)
                obtain ⟨R, hR1, hR2⟩ := hS.pick hpk hSk
                have HPK : Hid (St w (memA q [x] ns :: visA p S :: R) wr ∧ ∀ w1 w' m' S', St w1 (m' :: visA p S' :: R) w' → St w1 (m' :: (mRows gt gg (.slice (some ⟨ga, 0, none⟩) m c1) m (Ss.map stV) (Ss.map gotV) m ps ++ manyA visA ps (Ss.set kr S'))) w') := Lib.hid ⟨hR1, hR2⟩
                have HC2 : Hid ((Ss.map gotV)[kr]? = some (gotV S)) := Lib.hid (by rw [List.getElem?_map, hSk]; rfl)
                have HC3 : Hid ((Ss.map stV)[kr]? = some (stV S)) := Lib.hid (by rw [List.getElem?_map, hSk]; rfl)
                obtain ⟨q1, f1⟩ := hS.at_ 1 rfl kr (u := ptrV p) (by rw [List.getElem?_map, hpk]; rfl)
                obtain ⟨q2, f2⟩ := hS.at_ 2 rfl kr HC2.out
                obtain ⟨q3, f3⟩ := hS.at_ 3 rfl kr HC3.out
                have ne1 : gg ≠ gt := hS.ne 2 3 (by decide) rfl rfl
                have ne2 : gt ≠ gg := fun e => ne1 e.symm
                have HST := Lib.hid e
                have e5 : (S'.st == 5) = false := by simp; omega
                have e2 : (S'.st == 2) = false := by simp; omega
                have HB2 := Lib.hid (And.intro hps (And.intro hT' (And.intro hnt hkr)))
                clear hS hR1 hR2 hpk hSk hck hT hT' hps e her hnt hkt few hkr
                go_wp2_with (first | ((have _h := HE); go_at_call 15; refine (vstep _ HST.out rfl rfl HPK.out.1 HOK.out hnl).mono ?_; rintro e wt1 ⟨rfl, h⟩; (have T1 := Lib.hid ((HPK.out.2 _ _ _ _ h))); clear h q1 q2 q3 f1 f2 f3; (obtain ⟨q2, f2⟩ := T1.out.at_ 2 rfl kr HC2.out); (obtain ⟨q3, f3⟩ := T1.out.at_ 3 rfl kr HC3.out); clear _h))
                go_roundg k3
                case measure => omega
                case rel => exact ⟨i + 1, rfl, by omega, by omega, x', Ss.set kr S', _, ns ++ nt, HB2.out.1, HB2.out.2.1, by have := HB2.out.2.2.1; rw [List.length_append]; omega, by
                  have h5 := (T1.out.rowSet 3 rfl kr (by omega) (stV S')).rowSet 2 rfl kr (by omega) (gotV S')
                  rw [List.map_set, List.map_set]
                  exact h5⟩
            · have c4b : decide ((i : Int) < (t : Int) + 20 * (m : Int)) = false := decide_eq_false (by omega)
              obtain rfl : i = t + 20 * m := by omega
              have HT := Lib.hid (hT.end_ (by omega))
              have HPS := Lib.hid hps
              clear hS hps hT
              obtain ⟨iI, hiI, hzI0, hzI1, hzI2⟩ := info_parts infoI
              go_wp2_with ((have _h := HE); refine wpList_make_full _ (by rfl) _ _ _ (by rfl) _ 3 iI _ 1 Try.underlying24 hiI hzI0 hzI1 .i64 .i64 _ _ (m + 1) (by rfl) (by rfl) rfl rfl (by rw [hzI2]; omega) (by unfold maxLen; omega) (Nat.le_refl _) ?_; intro wM9 hown hgrow; (have M9 := Lib.hid (by have h9 := St.made HE.out hown hgrow; rw [show (madeCells (Value.int .i64 0).cells ((m + 1) * 1)).toList = List.replicate (m + 1) (.int .i64 0) from made_one _ _] at h9; exact h9)); clear hown hgrow _h)
              generalize wr.heap.size = gm at *
              clear HE hiI hzI0 hzI1 hzI2
              have HMe := Lib.hid (show MetRel w q P gt gg ga c1 gm ps m x Ss ns 0 wM9 from by
                have := M9.out.swap
                rw [← metRow_zero P Ss m] at this
                exact this)
              clear M9
              go_loopg [22] 13 (fun kq y w' => ∃ j : Nat, y = .int .i64 j ∧ j ≤ m ∧ j + kq = 13 ∧ MetRel w q P gt gg ga c1 gm ps m x Ss ns j w')
              case atStart => exact ⟨0, rfl, by omega, by omega, HMe.out⟩
              case round =>
                obtain ⟨j, rfl, hj, hjq, hS⟩ := hrel
                have HE : Hid (St w (memA q [x] ns :: (metRows gt gg ga c1 gm ps m P Ss j ++ manyA visA ps Ss)) wr) := Lib.hid hS
                clear HMe
                cases gk with
                | zero => omega
                | succ k4 =>
                  by_cases c6 : j < m
                  · have c6b : decide ((j : Int) < m) = true := decide_eq_true (by omega)
                    have j0 : (0 : Int) ≤ (j : Int) := by omega
                    have j1 : (j : Int) < (m : Int) := by omega
                    obtain ⟨S, hSk⟩ := getE (l := Ss) (k := j) (by rw [HT.out.len]; omega)
                    obtain ⟨p, hpk⟩ := getE (l := ps) (k := j) (by rw [HPS.out]; omega)
                    obtain ⟨hst, hpush, hok⟩ := HT.out.st j S hSk
                    obtain ⟨bd, rfl, hbc⟩ := HB.out.2 j c6
                    have HSK := Lib.hid hSk
                    have HPKK := Lib.hid hpk
                    have HOK := Lib.hid hok
                    have HCE : Hid (∀ w', St w (memA q [x] ns :: (metRows gt gg ga c1 gm ps m P Ss j ++ manyA visA ps Ss)) w' → w'.cell? ⟨gt, j, none⟩ = some (stV S) ∧ w'.cell? ⟨ga, j, none⟩ = some (ptrV p) ∧ w'.cell? (bd.add j) = some (.bool (P j)) ∧ w'.cell? ⟨gg, j, none⟩ = some (gotV S)) := Lib.hid (fun w' h => ⟨(h.at_ 4 rfl j (by rw [List.getElem?_map, HSK.out]; rfl)).1, (h.at_ 2 rfl j (by rw [List.getElem?_map, HPKK.out]; rfl)).1, (h.bel.cell (World.block_lt_of_cell? _ _ hbc)).trans hbc, (h.at_ 3 rfl j (by rw [List.getElem?_map, HSK.out]; rfl)).1⟩)
                    have HPU := Lib.hid hpush
                    have HBM := Lib.hid (fun p hp => HB.out.2 p hp)
                    clear hS hSk hpk hok hbc hpush
                    have s0 : (S.st == 0) = false := by simp; omega
                    have HMB : Hid (S.met [x] = (S.st == 1)) := Lib.hid (by unfold VM.met; rw [if_pos (Or.inl (by omega))])
                    by_cases hP : P j = true
                    · have hg : gotV S = .int .u32 0 := by simp [gotV, VM.told, HPU.out, hP]
                      rw [hg] at HCE
                      rw [hP] at HCE
                      have HMR : Hid (metRow P Ss m (j + 1) = metRow P Ss m j) := Lib.hid (metRow_same HSK.out (.inr hP) m)
                      clear hg
                      go_wp2
                      go_region_held3 (fun w' => w'.cell? ⟨gt, j, none⟩ = some (.int .i64 S.st) ∧ w'.cell? ⟨ga, j, none⟩ = some (.pointer (some ⟨p, 0, none⟩)) ∧ w'.cell? (bd.add j) = some (.bool true) ∧ w'.cell? ⟨gg, j, none⟩ = some (.int .u32 0)) (first | exact HCE.out _ A2.out | exact HCE.out _ A1.out | exact HCE.out _ HE.out.drew) (first | ((have _h := A1); go_at_call 16; refine (visit_met _ 1 _ 1 0 [x] (S.st == 1) A1V.out (HOK.out _ _) HRx.out rfl HMB.out).mono ?_; rintro e wa2 ⟨rfl, hb⟩; (have A2 := Lib.hid (A1.out.below hb)); clear hb _h) | (go_at_call 17; refine (words_pos 1 HE.out.drew rfl (by decide)).mono ?_; rintro e wa1 ⟨g, c, rfl, hc, hr, hcc, hb⟩; (have A1 := Lib.hid (HE.out.drew.below hb)); obtain ⟨R, hR, _⟩ := A1.out.pick HPKK.out HSK.out; (have A1V := Lib.hid hR); clear hR; (have HRx := Lib.hid hr); clear hc hr hcc hb))
                      obtain ⟨q4, q2, qb, q3⟩ := HCE.out _ A2.out
                      go_wp2
                      go_roundg k4
                      case measure => omega
                      case rel => exact ⟨j + 1, rfl, by omega, by omega, by
                        unfold MetRel metRows
                        rw [HMR.out]
                        exact A2.out⟩
                    · have hP' : P j = false := by simpa using hP
                      by_cases h1s : S.st = 1
                      · obtain ⟨pp, hp1, hp2, hp3⟩ := HT.out.num j S HSK.out hP' h1s
                        have hg : gotV S = .int .u32 ((pp : Int) + 1) := by simp [gotV, VM.told, HPU.out, hP', h1s, hp3]
                        rw [hg, hP'] at HCE
                        have HMR : Hid (metRow P Ss m (j + 1) = (metRow P Ss m j).set (pp + 1) (.int .i64 ((cntI (popD P Ss pp) j : Nat) + 1))) := Lib.hid (metRow_more HSK.out h1s hP' hp3 hp1)
                        have HMG : Hid ((metRow P Ss m j)[pp + 1]? = some (.int .i64 (cntI (popD P Ss pp) j : Nat))) := Lib.hid (by have := metRow_get P Ss m j (pp + 1) (by omega); simpa using this)
                        clear hg
                        go_wp2
                        refine wp_region_held_drew (S := (fun w' => w'.cell? ⟨gt, j, none⟩ = some (.int .i64 S.st) ∧ w'.cell? ⟨ga, j, none⟩ = some (.pointer (some ⟨p, 0, none⟩)) ∧ w'.cell? (bd.add j) = some (.bool false) ∧ w'.cell? ⟨gg, j, none⟩ = some (.int .u32 ((pp : Int) + 1)))) (by kernel_rfl) ?_ (fun hHeld0 => ?_)
                        · (first | exact HCE.out _ A2.out | exact HCE.out _ A1.out | exact HCE.out _ HE.out.drew)
                        refine wpAnyH_take (i := 0) (v := ?_) rfl (by kernel_rfl) (by kernel_rfl) (by kernel_rfl) (fun _ _ _ h => h) (Or.inl ⟨by rfl, ?_⟩) hHeld0 ?_
                        rotate_left
                        · intro w hSw
                          (try dsimp only at hSw)
                          go_simp
                          try (first | (with_reducible rfl) | rfl)
                        try simp only [List.getElem_toArray, List.getElem_cons_zero, List.getElem_cons_succ, Act.put, List.setIfInBounds_toArray, List.set_cons_zero, List.set_cons_succ]
                        refine wpAnyH_take (i := 1) (v := ?_) rfl (by kernel_rfl) (by kernel_rfl) (by kernel_rfl) (fun _ _ _ h => h) (Or.inl ⟨by rfl, ?_⟩) hHeld0 ?_
                        rotate_left
                        · intro w hSw
                          (try dsimp only at hSw)
                          go_simp
                          try (first | (with_reducible rfl) | rfl)
                        try simp only [List.getElem_toArray, List.getElem_cons_zero, List.getElem_cons_succ, Act.put, List.setIfInBounds_toArray, List.set_cons_zero, List.set_cons_succ]
                        refine wpAnyH_take (i := 2) (v := ?_) rfl (by kernel_rfl) (by kernel_rfl) (by kernel_rfl) (fun _ _ _ h => h) (Or.inl ⟨by rfl, ?_⟩) hHeld0 ?_
                        rotate_left
                        · intro w hSw
                          (try dsimp only at hSw)
                          go_simp
                          try (first | (with_reducible rfl) | rfl)
                        try simp only [List.getElem_toArray, List.getElem_cons_zero, List.getElem_cons_succ, Act.put, List.setIfInBounds_toArray, List.set_cons_zero, List.set_cons_succ]
                        refine wpAnyH_take (i := 3) (v := ?_) rfl (by kernel_rfl) (by kernel_rfl) (by kernel_rfl) (fun _ _ _ h => h) (Or.inl ⟨by rfl, ?_⟩) hHeld0 ?_
                        rotate_left
                        · intro w hSw
                          (try dsimp only at hSw)
                          go_simp
                          try (first | (with_reducible rfl) | rfl)
                        try simp only [List.getElem_toArray, List.getElem_cons_zero, List.getElem_cons_succ, Act.put, List.setIfInBounds_toArray, List.set_cons_zero, List.set_cons_succ]
                        refine wpAnyH_take (i := 4) (v := ?_) rfl (by kernel_rfl) (by kernel_rfl) (by kernel_rfl) (fun _ _ _ h => h) (Or.inl ⟨by rfl, ?_⟩) hHeld0 ?_
                        rotate_left
                        · intro w hSw
                          (try dsimp only at hSw)
                          go_simp
                          try (first | (with_reducible rfl) | rfl)
                        try simp only [List.getElem_toArray, List.getElem_cons_zero, List.getElem_cons_succ, Act.put, List.setIfInBounds_toArray, List.set_cons_zero, List.set_cons_succ]
                        refine wpAnyH_take (i := 5) (v := ?_) rfl (by kernel_rfl) (by kernel_rfl) (by kernel_rfl) (fun _ _ _ h => h) (Or.inl ⟨by rfl, ?_⟩) hHeld0 ?_
                        rotate_left
                        · intro w hSw
                          (try dsimp only at hSw)
                          go_simp
                          try (first | (with_reducible rfl) | rfl)
                        try simp only [List.getElem_toArray, List.getElem_cons_zero, List.getElem_cons_succ, Act.put, List.setIfInBounds_toArray, List.set_cons_zero, List.set_cons_succ]
                        refine wpAnyH_take (i := 6) (v := ?_) rfl (by kernel_rfl) (by kernel_rfl) (by kernel_rfl) (fun _ _ _ h => h) (Or.inl ⟨by rfl, ?_⟩) hHeld0 ?_
                        rotate_left
                        · intro w hSw
                          (try dsimp only at hSw)
                          go_simp
                          try (first | (with_reducible rfl) | rfl)
                        try simp only [List.getElem_toArray, List.getElem_cons_zero, List.getElem_cons_succ, Act.put, List.setIfInBounds_toArray, List.set_cons_zero, List.set_cons_succ]
                        refine wpAnyH_take (i := 7) (v := ?_) rfl (by kernel_rfl) (by kernel_rfl) (by kernel_rfl) (fun _ _ _ h => h) (Or.inl ⟨by rfl, ?_⟩) hHeld0 ?_
                        rotate_left
                        · intro w hSw
                          (try dsimp only at hSw)
                          go_simp
                          try (first | (with_reducible rfl) | rfl)
                        try simp only [List.getElem_toArray, List.getElem_cons_zero, List.getElem_cons_succ, Act.put, List.setIfInBounds_toArray, List.set_cons_zero, List.set_cons_succ]
                        refine wpAnyH_take (i := 8) (v := ?_) rfl (by kernel_rfl) (by kernel_rfl) (by kernel_rfl) (fun _ _ _ h => h) (Or.inl ⟨by rfl, ?_⟩) hHeld0 ?_
                        rotate_left
                        · intro w hSw
                          (try dsimp only at hSw)
                          go_simp
                          try (first | (with_reducible rfl) | rfl)
                        try simp only [List.getElem_toArray, List.getElem_cons_zero, List.getElem_cons_succ, Act.put, List.setIfInBounds_toArray, List.set_cons_zero, List.set_cons_succ]
                        refine wpAnyH_take (i := 9) (v := ?_) rfl (by kernel_rfl) (by kernel_rfl) (by kernel_rfl) (fun _ _ _ h => h) (Or.inl ⟨by rfl, ?_⟩) hHeld0 ?_
                        rotate_left
                        · intro w hSw
                          (try dsimp only at hSw)
                          go_simp
                          try (first | (with_reducible rfl) | rfl)
                        try simp only [List.getElem_toArray, List.getElem_cons_zero, List.getElem_cons_succ, Act.put, List.setIfInBounds_toArray, List.set_cons_zero, List.set_cons_succ]
                        refine wpAnyH_take (i := 10) (v := ?_) rfl (by kernel_rfl) (by kernel_rfl) (by kernel_rfl) (fun _ _ _ h => h) (Or.inl ⟨by rfl, ?_⟩) hHeld0 ?_
                        rotate_left
                        · intro w hSw
                          (try dsimp only at hSw)
                          go_simp
                          try (first | (with_reducible rfl) | rfl)
                        try simp only [List.getElem_toArray, List.getElem_cons_zero, List.getElem_cons_succ, Act.put, List.setIfInBounds_toArray, List.set_cons_zero, List.set_cons_succ]
                        refine wpAnyH_take (i := 13) (v := ?_) rfl (by kernel_rfl) (by kernel_rfl) (by kernel_rfl) (fun _ _ _ h => h) (Or.inl ⟨by rfl, ?_⟩) hHeld0 ?_
                        rotate_left
                        · intro w hSw
                          (try dsimp only at hSw)
                          go_simp
                          try (first | (with_reducible rfl) | rfl)
                        try simp only [List.getElem_toArray, List.getElem_cons_zero, List.getElem_cons_succ, Act.put, List.setIfInBounds_toArray, List.set_cons_zero, List.set_cons_succ]
                        refine wpAnyH_take (i := 14) (v := ?_) rfl (by kernel_rfl) (by kernel_rfl) (by kernel_rfl) (fun _ _ _ h => h) (Or.inl ⟨by rfl, ?_⟩) hHeld0 ?_
                        rotate_left
                        · intro w hSw
                          (try dsimp only at hSw)
                          go_simp
                          try (first | (with_reducible rfl) | rfl)
                        try simp only [List.getElem_toArray, List.getElem_cons_zero, List.getElem_cons_succ, Act.put, List.setIfInBounds_toArray, List.set_cons_zero, List.set_cons_succ]
                        refine wpAnyH_take (i := 15) (v := ?_) rfl (by kernel_rfl) (by kernel_rfl) (by kernel_rfl) (fun _ _ _ h => h) (Or.inl ⟨by rfl, ?_⟩) hHeld0 ?_
                        rotate_left
                        · intro w hSw
                          (try dsimp only at hSw)
                          go_simp
                          try (first | (with_reducible rfl) | rfl)
                        try simp only [List.getElem_toArray, List.getElem_cons_zero, List.getElem_cons_succ, Act.put, List.setIfInBounds_toArray, List.set_cons_zero, List.set_cons_succ]
                        refine wpAnyH_take (i := 16) (v := ?_) rfl (by kernel_rfl) (by kernel_rfl) (by kernel_rfl) (fun _ _ _ h => h) (Or.inl ⟨by rfl, ?_⟩) hHeld0 ?_
                        rotate_left
                        · intro w hSw
                          (try dsimp only at hSw)
                          go_simp
                          try (first | (with_reducible rfl) | rfl)
                        try simp only [List.getElem_toArray, List.getElem_cons_zero, List.getElem_cons_succ, Act.put, List.setIfInBounds_toArray, List.set_cons_zero, List.set_cons_succ]
                        refine wpAnyH_take (i := 17) (v := ?_) rfl (by kernel_rfl) (by kernel_rfl) (by kernel_rfl) (fun _ _ _ h => h) (Or.inl ⟨by rfl, ?_⟩) hHeld0 ?_
                        rotate_left
                        · intro w hSw
                          (try dsimp only at hSw)
                          go_simp
                          try (first | (with_reducible rfl) | rfl)
                        try simp only [List.getElem_toArray, List.getElem_cons_zero, List.getElem_cons_succ, Act.put, List.setIfInBounds_toArray, List.set_cons_zero, List.set_cons_succ]
                        refine wpAnyH_ready (rs := [11]) (by kernel_rfl) (by simp) ?_
                        refine AllReadyH.cons rfl (fun K hK => ?_) ?_
                        · go_simp
                          (go_at_call 17; refine (words_pos 1 HE.out.drew rfl (by decide)).mono ?_; rintro e wa1 ⟨g, c, rfl, hc, hr, hcc, hb⟩; (have A1 := Lib.hid (HE.out.drew.below hb)); obtain ⟨R, hR, _⟩ := A1.out.pick HPKK.out HSK.out; (have A1V := Lib.hid hR); clear hR; (have HRx := Lib.hid hr); clear hc hr hcc hb)
                          go_wp2_with fail
                          refine hK.out _ _ ?_ (fun hHeld16_11 => ?_)
                          · (first | exact HCE.out _ A2.out | exact HCE.out _ A1.out | exact HCE.out _ HE.out.drew)
                          clear hK K
                          try simp only [List.getElem_toArray, List.getElem_cons_zero, List.getElem_cons_succ, Act.put, List.setIfInBounds_toArray, List.set_cons_zero, List.set_cons_succ]
                          refine wpAnyH_ready (rs := [12]) (by kernel_rfl) (by simp) ?_
                          refine AllReadyH.cons rfl (fun K hK => ?_) ?_
                          · go_simp
                            ((have _h := A1); go_at_call 16; refine (visit_met _ 1 _ 1 0 [x] (S.st == 1) A1V.out (HOK.out _ _) HRx.out rfl HMB.out).mono ?_; rintro e wa2 ⟨rfl, hb⟩; (have A2 := Lib.hid (A1.out.below hb)); clear hb _h)
                            go_wp2_with fail
                            refine hK.out _ _ ?_ (fun hHeld17_12 => ?_)
                            · (first | exact HCE.out _ A2.out | exact HCE.out _ A1.out | exact HCE.out _ HE.out.drew)
                            clear hK K
                            try simp only [List.getElem_toArray, List.getElem_cons_zero, List.getElem_cons_succ, Act.put, List.setIfInBounds_toArray, List.set_cons_zero, List.set_cons_succ]
                            refine wpAnyH_take (i := 18) (v := ?_) rfl (by kernel_rfl) (by kernel_rfl) (by kernel_rfl) (fun _ _ _ h => h) (Or.inl ⟨by rfl, ?_⟩) hHeld17_12 ?_
                            rotate_left
                            · intro w hSw
                              (try dsimp only at hSw)
                              go_simp
                              try (first | (with_reducible rfl) | rfl)
                            try simp only [List.getElem_toArray, List.getElem_cons_zero, List.getElem_cons_succ, Act.put, List.setIfInBounds_toArray, List.set_cons_zero, List.set_cons_succ]
                            refine wpAnyH_take (i := 19) (v := ?_) rfl (by kernel_rfl) (by kernel_rfl) (by kernel_rfl) (fun _ _ _ h => h) (Or.inl ⟨by rfl, ?_⟩) hHeld17_12 ?_
                            rotate_left
                            · intro w hSw
                              (try dsimp only at hSw)
                              go_simp
                              try (first | (with_reducible rfl) | rfl)
                            try simp only [List.getElem_toArray, List.getElem_cons_zero, List.getElem_cons_succ, Act.put, List.setIfInBounds_toArray, List.set_cons_zero, List.set_cons_succ]
                            refine wpAnyH_take (i := 20) (v := ?_) rfl (by kernel_rfl) (by kernel_rfl) (by kernel_rfl) (fun _ _ _ h => h) (Or.inl ⟨by rfl, ?_⟩) hHeld17_12 ?_
                            rotate_left
                            · intro w hSw
                              (try dsimp only at hSw)
                              go_simp
                              try (first | (with_reducible rfl) | rfl)
                            try simp only [List.getElem_toArray, List.getElem_cons_zero, List.getElem_cons_succ, Act.put, List.setIfInBounds_toArray, List.set_cons_zero, List.set_cons_succ]
                            refine wpAnyH_take (i := 21) (v := ?_) rfl (by kernel_rfl) (by kernel_rfl) (by kernel_rfl) (fun _ _ _ h => h) (Or.inl ⟨by rfl, ?_⟩) hHeld17_12 ?_
                            rotate_left
                            · intro w hSw
                              (try dsimp only at hSw)
                              go_simp
                              try (first | (with_reducible rfl) | rfl)
                            try simp only [List.getElem_toArray, List.getElem_cons_zero, List.getElem_cons_succ, Act.put, List.setIfInBounds_toArray, List.set_cons_zero, List.set_cons_succ]
                            refine wpAnyH_take (i := 22) (v := ?_) rfl (by kernel_rfl) (by kernel_rfl) (by kernel_rfl) (fun _ _ _ h => h) (Or.inl ⟨by rfl, ?_⟩) hHeld17_12 ?_
                            rotate_left
                            · intro w hSw
                              (try dsimp only at hSw)
                              go_simp
                              try (first | (with_reducible rfl) | rfl)
                            try simp only [List.getElem_toArray, List.getElem_cons_zero, List.getElem_cons_succ, Act.put, List.setIfInBounds_toArray, List.set_cons_zero, List.set_cons_succ]
                            refine wpAnyH_take (i := 23) (v := ?_) rfl (by kernel_rfl) (by kernel_rfl) (by kernel_rfl) (fun _ _ _ h => h) (Or.inl ⟨by rfl, ?_⟩) hHeld17_12 ?_
                            rotate_left
                            · intro w hSw
                              (try dsimp only at hSw)
                              go_simp
                              try (first | (with_reducible rfl) | rfl)
                            try simp only [List.getElem_toArray, List.getElem_cons_zero, List.getElem_cons_succ, Act.put, List.setIfInBounds_toArray, List.set_cons_zero, List.set_cons_succ]
                            refine wpAnyH_take (i := 24) (v := ?_) rfl (by kernel_rfl) (by kernel_rfl) (by kernel_rfl) (fun _ _ _ h => h) (Or.inl ⟨by rfl, ?_⟩) hHeld17_12 ?_
                            rotate_left
                            · intro w hSw
                              (try dsimp only at hSw)
                              go_simp
                              try (first | (with_reducible rfl) | rfl)
                            try simp only [List.getElem_toArray, List.getElem_cons_zero, List.getElem_cons_succ, Act.put, List.setIfInBounds_toArray, List.set_cons_zero, List.set_cons_succ]
                            refine wpAnyH_take (i := 25) (v := ?_) rfl (by kernel_rfl) (by kernel_rfl) (by kernel_rfl) (fun _ _ _ h => h) (Or.inl ⟨by rfl, ?_⟩) hHeld17_12 ?_
                            rotate_left
                            · intro w hSw
                              (try dsimp only at hSw)
                              go_simp
                              try (first | (with_reducible rfl) | rfl)
                            try simp only [List.getElem_toArray, List.getElem_cons_zero, List.getElem_cons_succ, Act.put, List.setIfInBounds_toArray, List.set_cons_zero, List.set_cons_succ]
                            refine wpAnyH_take (i := 26) (v := undef) rfl (by kernel_rfl) (by kernel_rfl) (by kernel_rfl) (fun _ _ _ h => h) (Or.inr ⟨by rfl, rfl⟩) hHeld17_12 ?_
                            try simp only [List.getElem_toArray, List.getElem_cons_zero, List.getElem_cons_succ, Act.put, List.setIfInBounds_toArray, List.set_cons_zero, List.set_cons_succ]
                            refine wpAnyH_take (i := 27) (v := undef) rfl (by kernel_rfl) (by kernel_rfl) (by kernel_rfl) (fun _ _ _ h => h) (Or.inr ⟨by rfl, rfl⟩) hHeld17_12 ?_
                            try simp only [List.getElem_toArray, List.getElem_cons_zero, List.getElem_cons_succ, Act.put, List.setIfInBounds_toArray, List.set_cons_zero, List.set_cons_succ]
                            refine wpAnyH_take (i := 28) (v := undef) rfl (by kernel_rfl) (by kernel_rfl) (by kernel_rfl) (fun _ _ _ h => h) (Or.inr ⟨by rfl, rfl⟩) hHeld17_12 ?_
                            try simp only [List.getElem_toArray, List.getElem_cons_zero, List.getElem_cons_succ, Act.put, List.setIfInBounds_toArray, List.set_cons_zero, List.set_cons_succ]
                            refine wpAnyH_take (i := 29) (v := undef) rfl (by kernel_rfl) (by kernel_rfl) (by kernel_rfl) (fun _ _ _ h => h) (Or.inr ⟨by rfl, rfl⟩) hHeld17_12 ?_
                            try simp only [List.getElem_toArray, List.getElem_cons_zero, List.getElem_cons_succ, Act.put, List.setIfInBounds_toArray, List.set_cons_zero, List.set_cons_succ]
                            refine wpAnyH_take (i := 30) (v := undef) rfl (by kernel_rfl) (by kernel_rfl) (by kernel_rfl) (fun _ _ _ h => h) (Or.inr ⟨by rfl, rfl⟩) hHeld17_12 ?_
                            try simp only [List.getElem_toArray, List.getElem_cons_zero, List.getElem_cons_succ, Act.put, List.setIfInBounds_toArray, List.set_cons_zero, List.set_cons_succ]
                            refine wpAnyH_take (i := 31) (v := ?_) rfl (by kernel_rfl) (by kernel_rfl) (by kernel_rfl) (fun _ _ _ h => h) (Or.inl ⟨by rfl, ?_⟩) hHeld17_12 ?_
                            rotate_left
                            · intro w hSw
                              (try dsimp only at hSw)
                              go_simp
                              try (first | (with_reducible rfl) | rfl)
                            try simp only [List.getElem_toArray, List.getElem_cons_zero, List.getElem_cons_succ, Act.put, List.setIfInBounds_toArray, List.set_cons_zero, List.set_cons_succ]
                            refine wpAnyH_take (i := 32) (v := ?_) rfl (by kernel_rfl) (by kernel_rfl) (by kernel_rfl) (fun _ _ _ h => h) (Or.inl ⟨by rfl, ?_⟩) hHeld17_12 ?_
                            rotate_left
                            · intro w hSw
                              (try dsimp only at hSw)
                              go_simp
                              try (first | (with_reducible rfl) | rfl)
                            try simp only [List.getElem_toArray, List.getElem_cons_zero, List.getElem_cons_succ, Act.put, List.setIfInBounds_toArray, List.set_cons_zero, List.set_cons_succ]
                            refine wpAnyH_done (by kernel_rfl) ?_ _
                            obtain ⟨q4, q2, qb, q3⟩ := HCE.out _ A2.out
                            obtain ⟨bd', eb, hbp⟩ := HBM.out pp hp1
                            cases eb
                            have hbp' := (A2.out.bel.cell (World.block_lt_of_cell? _ _ hbp)).trans hbp
                            rw [hp2] at hbp'
                            obtain ⟨q5, f5⟩ := A2.out.at_ 1 rfl (pp + 1) HMG.out
                            have hcl := cntI_le (popD P Ss pp) j
                            generalize cntI (popD P Ss pp) j = cv at *
                            have d1 : decide ((pp : Int) + 1 < 1) = false := decide_eq_false (by omega)
                            have d2 : decide ((m : Int) < (pp : Int) + 1) = false := decide_eq_false (by omega)
                            have d3 : (m : Int) % 4294967296 = (m : Int) := by omega
                            have d3' : IntKind.u32.wrap (m : Int) = (m : Int) := by rw [IntKind.wrap_u32]; omega
                            have d4 : IntKind.u32.wrap (pp : Int) = (pp : Int) := by rw [IntKind.wrap_u32]; omega
                            have d5 : (0 : Int) ≤ (pp : Int) := by omega
                            have d6 : (pp : Int) < (m : Int) := by omega
                            have d7 : (0 : Int) ≤ (pp : Int) + 1 := by omega
                            have d8 : (pp : Int) + 1 < ((m + 1 : Nat) : Int) := by omega
                            have d9 : ((pp : Int) + 1).toNat = pp + 1 := by omega
                            have d10 : (pp : Int) + 1 < (m : Int) + 1 := by omega
                            have d11 : (cv : Int) ≤ 1000 := by omega
                            have d12 : 0 ≤ (cv : Int) := by omega
                            have hs1 : (S.st == 1) = true := by simp [h1s]
                            clear hbp
                            go_wp2
                            go_roundg k4
                            case measure => omega
                            case rel => exact ⟨j + 1, rfl, by omega, by omega, by
                              have h5 := A2.out.rowSet 1 rfl (pp + 1) (by omega) (.int .i64 ((cv : Int) + 1))
                              unfold MetRel metRows
                              rw [HMR.out]
                              exact h5⟩
                          exact AllReadyH.nil
                        exact AllReadyH.nil

                      · have hg : gotV S = .int .u32 0 := by simp [gotV, VM.told, h1s]
                        rw [hg, hP'] at HCE
                        have HMR : Hid (metRow P Ss m (j + 1) = metRow P Ss m j) := Lib.hid (metRow_same HSK.out (.inl h1s) m)
                        clear hg
                        go_wp2
                        refine wp_region_held_drew (S := (fun w' => w'.cell? ⟨gt, j, none⟩ = some (.int .i64 S.st) ∧ w'.cell? ⟨ga, j, none⟩ = some (.pointer (some ⟨p, 0, none⟩)) ∧ w'.cell? (bd.add j) = some (.bool false) ∧ w'.cell? ⟨gg, j, none⟩ = some (.int .u32 0))) (by kernel_rfl) ?_ (fun hHeld0 => ?_)
                        · (first | exact HCE.out _ A2.out | exact HCE.out _ A1.out | exact HCE.out _ HE.out.drew)
                        refine wpAnyH_take (i := 0) (v := ?_) rfl (by kernel_rfl) (by kernel_rfl) (by kernel_rfl) (fun _ _ _ h => h) (Or.inl ⟨by rfl, ?_⟩) hHeld0 ?_
                        rotate_left
                        · intro w hSw
                          (try dsimp only at hSw)
                          go_simp
                          try (first | (with_reducible rfl) | rfl)
                        try simp only [List.getElem_toArray, List.getElem_cons_zero, List.getElem_cons_succ, Act.put, List.setIfInBounds_toArray, List.set_cons_zero, List.set_cons_succ]
                        refine wpAnyH_take (i := 1) (v := ?_) rfl (by kernel_rfl) (by kernel_rfl) (by kernel_rfl) (fun _ _ _ h => h) (Or.inl ⟨by rfl, ?_⟩) hHeld0 ?_
                        rotate_left
                        · intro w hSw
                          (try dsimp only at hSw)
                          go_simp
                          try (first | (with_reducible rfl) | rfl)
                        try simp only [List.getElem_toArray, List.getElem_cons_zero, List.getElem_cons_succ, Act.put, List.setIfInBounds_toArray, List.set_cons_zero, List.set_cons_succ]
                        refine wpAnyH_take (i := 2) (v := ?_) rfl (by kernel_rfl) (by kernel_rfl) (by kernel_rfl) (fun _ _ _ h => h) (Or.inl ⟨by rfl, ?_⟩) hHeld0 ?_
                        rotate_left
                        · intro w hSw
                          (try dsimp only at hSw)
                          go_simp
                          try (first | (with_reducible rfl) | rfl)
                        try simp only [List.getElem_toArray, List.getElem_cons_zero, List.getElem_cons_succ, Act.put, List.setIfInBounds_toArray, List.set_cons_zero, List.set_cons_succ]
                        refine wpAnyH_take (i := 3) (v := ?_) rfl (by kernel_rfl) (by kernel_rfl) (by kernel_rfl) (fun _ _ _ h => h) (Or.inl ⟨by rfl, ?_⟩) hHeld0 ?_
                        rotate_left
                        · intro w hSw
                          (try dsimp only at hSw)
                          go_simp
                          try (first | (with_reducible rfl) | rfl)
                        try simp only [List.getElem_toArray, List.getElem_cons_zero, List.getElem_cons_succ, Act.put, List.setIfInBounds_toArray, List.set_cons_zero, List.set_cons_succ]
                        refine wpAnyH_take (i := 4) (v := ?_) rfl (by kernel_rfl) (by kernel_rfl) (by kernel_rfl) (fun _ _ _ h => h) (Or.inl ⟨by rfl, ?_⟩) hHeld0 ?_
                        rotate_left
                        · intro w hSw
                          (try dsimp only at hSw)
                          go_simp
                          try (first | (with_reducible rfl) | rfl)
                        try simp only [List.getElem_toArray, List.getElem_cons_zero, List.getElem_cons_succ, Act.put, List.setIfInBounds_toArray, List.set_cons_zero, List.set_cons_succ]
                        refine wpAnyH_take (i := 5) (v := ?_) rfl (by kernel_rfl) (by kernel_rfl) (by kernel_rfl) (fun _ _ _ h => h) (Or.inl ⟨by rfl, ?_⟩) hHeld0 ?_
                        rotate_left
                        · intro w hSw
                          (try dsimp only at hSw)
                          go_simp
                          try (first | (with_reducible rfl) | rfl)
                        try simp only [List.getElem_toArray, List.getElem_cons_zero, List.getElem_cons_succ, Act.put, List.setIfInBounds_toArray, List.set_cons_zero, List.set_cons_succ]
                        refine wpAnyH_take (i := 6) (v := ?_) rfl (by kernel_rfl) (by kernel_rfl) (by kernel_rfl) (fun _ _ _ h => h) (Or.inl ⟨by rfl, ?_⟩) hHeld0 ?_
                        rotate_left
                        · intro w hSw
                          (try dsimp only at hSw)
                          go_simp
                          try (first | (with_reducible rfl) | rfl)
                        try simp only [List.getElem_toArray, List.getElem_cons_zero, List.getElem_cons_succ, Act.put, List.setIfInBounds_toArray, List.set_cons_zero, List.set_cons_succ]
                        refine wpAnyH_take (i := 7) (v := ?_) rfl (by kernel_rfl) (by kernel_rfl) (by kernel_rfl) (fun _ _ _ h => h) (Or.inl ⟨by rfl, ?_⟩) hHeld0 ?_
                        rotate_left
                        · intro w hSw
                          (try dsimp only at hSw)
                          go_simp
                          try (first | (with_reducible rfl) | rfl)
                        try simp only [List.getElem_toArray, List.getElem_cons_zero, List.getElem_cons_succ, Act.put, List.setIfInBounds_toArray, List.set_cons_zero, List.set_cons_succ]
                        refine wpAnyH_take (i := 8) (v := ?_) rfl (by kernel_rfl) (by kernel_rfl) (by kernel_rfl) (fun _ _ _ h => h) (Or.inl ⟨by rfl, ?_⟩) hHeld0 ?_
                        rotate_left
                        · intro w hSw
                          (try dsimp only at hSw)
                          go_simp
                          try (first | (with_reducible rfl) | rfl)
                        try simp only [List.getElem_toArray, List.getElem_cons_zero, List.getElem_cons_succ, Act.put, List.setIfInBounds_toArray, List.set_cons_zero, List.set_cons_succ]
                        refine wpAnyH_take (i := 9) (v := ?_) rfl (by kernel_rfl) (by kernel_rfl) (by kernel_rfl) (fun _ _ _ h => h) (Or.inl ⟨by rfl, ?_⟩) hHeld0 ?_
                        rotate_left
                        · intro w hSw
                          (try dsimp only at hSw)
                          go_simp
                          try (first | (with_reducible rfl) | rfl)
                        try simp only [List.getElem_toArray, List.getElem_cons_zero, List.getElem_cons_succ, Act.put, List.setIfInBounds_toArray, List.set_cons_zero, List.set_cons_succ]
                        refine wpAnyH_take (i := 10) (v := ?_) rfl (by kernel_rfl) (by kernel_rfl) (by kernel_rfl) (fun _ _ _ h => h) (Or.inl ⟨by rfl, ?_⟩) hHeld0 ?_
                        rotate_left
                        · intro w hSw
                          (try dsimp only at hSw)
                          go_simp
                          try (first | (with_reducible rfl) | rfl)
                        try simp only [List.getElem_toArray, List.getElem_cons_zero, List.getElem_cons_succ, Act.put, List.setIfInBounds_toArray, List.set_cons_zero, List.set_cons_succ]
                        refine wpAnyH_take (i := 13) (v := ?_) rfl (by kernel_rfl) (by kernel_rfl) (by kernel_rfl) (fun _ _ _ h => h) (Or.inl ⟨by rfl, ?_⟩) hHeld0 ?_
                        rotate_left
                        · intro w hSw
                          (try dsimp only at hSw)
                          go_simp
                          try (first | (with_reducible rfl) | rfl)
                        try simp only [List.getElem_toArray, List.getElem_cons_zero, List.getElem_cons_succ, Act.put, List.setIfInBounds_toArray, List.set_cons_zero, List.set_cons_succ]
                        refine wpAnyH_take (i := 14) (v := ?_) rfl (by kernel_rfl) (by kernel_rfl) (by kernel_rfl) (fun _ _ _ h => h) (Or.inl ⟨by rfl, ?_⟩) hHeld0 ?_
                        rotate_left
                        · intro w hSw
                          (try dsimp only at hSw)
                          go_simp
                          try (first | (with_reducible rfl) | rfl)
                        try simp only [List.getElem_toArray, List.getElem_cons_zero, List.getElem_cons_succ, Act.put, List.setIfInBounds_toArray, List.set_cons_zero, List.set_cons_succ]
                        refine wpAnyH_take (i := 15) (v := ?_) rfl (by kernel_rfl) (by kernel_rfl) (by kernel_rfl) (fun _ _ _ h => h) (Or.inl ⟨by rfl, ?_⟩) hHeld0 ?_
                        rotate_left
                        · intro w hSw
                          (try dsimp only at hSw)
                          go_simp
                          try (first | (with_reducible rfl) | rfl)
                        try simp only [List.getElem_toArray, List.getElem_cons_zero, List.getElem_cons_succ, Act.put, List.setIfInBounds_toArray, List.set_cons_zero, List.set_cons_succ]
                        refine wpAnyH_take (i := 16) (v := ?_) rfl (by kernel_rfl) (by kernel_rfl) (by kernel_rfl) (fun _ _ _ h => h) (Or.inl ⟨by rfl, ?_⟩) hHeld0 ?_
                        rotate_left
                        · intro w hSw
                          (try dsimp only at hSw)
                          go_simp
                          try (first | (with_reducible rfl) | rfl)
                        try simp only [List.getElem_toArray, List.getElem_cons_zero, List.getElem_cons_succ, Act.put, List.setIfInBounds_toArray, List.set_cons_zero, List.set_cons_succ]
                        refine wpAnyH_take (i := 17) (v := ?_) rfl (by kernel_rfl) (by kernel_rfl) (by kernel_rfl) (fun _ _ _ h => h) (Or.inl ⟨by rfl, ?_⟩) hHeld0 ?_
                        rotate_left
                        · intro w hSw
                          (try dsimp only at hSw)
                          go_simp
                          try (first | (with_reducible rfl) | rfl)
                        try simp only [List.getElem_toArray, List.getElem_cons_zero, List.getElem_cons_succ, Act.put, List.setIfInBounds_toArray, List.set_cons_zero, List.set_cons_succ]
                        refine wpAnyH_ready (rs := [11]) (by kernel_rfl) (by simp) ?_
                        refine AllReadyH.cons rfl (fun K hK => ?_) ?_
                        · go_simp
                          (go_at_call 17; refine (words_pos 1 HE.out.drew rfl (by decide)).mono ?_; rintro e wa1 ⟨g, c, rfl, hc, hr, hcc, hb⟩; (have A1 := Lib.hid (HE.out.drew.below hb)); obtain ⟨R, hR, _⟩ := A1.out.pick HPKK.out HSK.out; (have A1V := Lib.hid hR); clear hR; (have HRx := Lib.hid hr); clear hc hr hcc hb)
                          go_wp2_with fail
                          refine hK.out _ _ ?_ (fun hHeld16_11 => ?_)
                          · (first | exact HCE.out _ A2.out | exact HCE.out _ A1.out | exact HCE.out _ HE.out.drew)
                          clear hK K
                          try simp only [List.getElem_toArray, List.getElem_cons_zero, List.getElem_cons_succ, Act.put, List.setIfInBounds_toArray, List.set_cons_zero, List.set_cons_succ]
                          refine wpAnyH_ready (rs := [12]) (by kernel_rfl) (by simp) ?_
                          refine AllReadyH.cons rfl (fun K hK => ?_) ?_
                          · go_simp
                            ((have _h := A1); go_at_call 16; refine (visit_met _ 1 _ 1 0 [x] (S.st == 1) A1V.out (HOK.out _ _) HRx.out rfl HMB.out).mono ?_; rintro e wa2 ⟨rfl, hb⟩; (have A2 := Lib.hid (A1.out.below hb)); clear hb _h)
                            go_wp2_with fail
                            refine hK.out _ _ ?_ (fun hHeld17_12 => ?_)
                            · (first | exact HCE.out _ A2.out | exact HCE.out _ A1.out | exact HCE.out _ HE.out.drew)
                            clear hK K
                            try simp only [List.getElem_toArray, List.getElem_cons_zero, List.getElem_cons_succ, Act.put, List.setIfInBounds_toArray, List.set_cons_zero, List.set_cons_succ]
                            refine wpAnyH_take (i := 18) (v := ?_) rfl (by kernel_rfl) (by kernel_rfl) (by kernel_rfl) (fun _ _ _ h => h) (Or.inl ⟨by rfl, ?_⟩) hHeld17_12 ?_
                            rotate_left
                            · intro w hSw
                              (try dsimp only at hSw)
                              go_simp
                              try (first | (with_reducible rfl) | rfl)
                            try simp only [List.getElem_toArray, List.getElem_cons_zero, List.getElem_cons_succ, Act.put, List.setIfInBounds_toArray, List.set_cons_zero, List.set_cons_succ]
                            refine wpAnyH_take (i := 19) (v := ?_) rfl (by kernel_rfl) (by kernel_rfl) (by kernel_rfl) (fun _ _ _ h => h) (Or.inl ⟨by rfl, ?_⟩) hHeld17_12 ?_
                            rotate_left
                            · intro w hSw
                              (try dsimp only at hSw)
                              go_simp
                              try (first | (with_reducible rfl) | rfl)
                            try simp only [List.getElem_toArray, List.getElem_cons_zero, List.getElem_cons_succ, Act.put, List.setIfInBounds_toArray, List.set_cons_zero, List.set_cons_succ]
                            refine wpAnyH_take (i := 20) (v := ?_) rfl (by kernel_rfl) (by kernel_rfl) (by kernel_rfl) (fun _ _ _ h => h) (Or.inl ⟨by rfl, ?_⟩) hHeld17_12 ?_
                            rotate_left
                            · intro w hSw
                              (try dsimp only at hSw)
                              go_simp
                              try (first | (with_reducible rfl) | rfl)
                            try simp only [List.getElem_toArray, List.getElem_cons_zero, List.getElem_cons_succ, Act.put, List.setIfInBounds_toArray, List.set_cons_zero, List.set_cons_succ]
                            refine wpAnyH_take (i := 21) (v := ?_) rfl (by kernel_rfl) (by kernel_rfl) (by kernel_rfl) (fun _ _ _ h => h) (Or.inl ⟨by rfl, ?_⟩) hHeld17_12 ?_
                            rotate_left
                            · intro w hSw
                              (try dsimp only at hSw)
                              go_simp
                              try (first | (with_reducible rfl) | rfl)
                            try simp only [List.getElem_toArray, List.getElem_cons_zero, List.getElem_cons_succ, Act.put, List.setIfInBounds_toArray, List.set_cons_zero, List.set_cons_succ]
                            refine wpAnyH_take (i := 22) (v := ?_) rfl (by kernel_rfl) (by kernel_rfl) (by kernel_rfl) (fun _ _ _ h => h) (Or.inl ⟨by rfl, ?_⟩) hHeld17_12 ?_
                            rotate_left
                            · intro w hSw
                              (try dsimp only at hSw)
                              go_simp
                              try (first | (with_reducible rfl) | rfl)
                            try simp only [List.getElem_toArray, List.getElem_cons_zero, List.getElem_cons_succ, Act.put, List.setIfInBounds_toArray, List.set_cons_zero, List.set_cons_succ]
                            refine wpAnyH_take (i := 23) (v := ?_) rfl (by kernel_rfl) (by kernel_rfl) (by kernel_rfl) (fun _ _ _ h => h) (Or.inl ⟨by rfl, ?_⟩) hHeld17_12 ?_
                            rotate_left
                            · intro w hSw
                              (try dsimp only at hSw)
                              go_simp
                              try (first | (with_reducible rfl) | rfl)
                            try simp only [List.getElem_toArray, List.getElem_cons_zero, List.getElem_cons_succ, Act.put, List.setIfInBounds_toArray, List.set_cons_zero, List.set_cons_succ]
                            refine wpAnyH_take (i := 24) (v := ?_) rfl (by kernel_rfl) (by kernel_rfl) (by kernel_rfl) (fun _ _ _ h => h) (Or.inl ⟨by rfl, ?_⟩) hHeld17_12 ?_
                            rotate_left
                            · intro w hSw
                              (try dsimp only at hSw)
                              go_simp
                              try (first | (with_reducible rfl) | rfl)
                            try simp only [List.getElem_toArray, List.getElem_cons_zero, List.getElem_cons_succ, Act.put, List.setIfInBounds_toArray, List.set_cons_zero, List.set_cons_succ]
                            refine wpAnyH_take (i := 25) (v := ?_) rfl (by kernel_rfl) (by kernel_rfl) (by kernel_rfl) (fun _ _ _ h => h) (Or.inl ⟨by rfl, ?_⟩) hHeld17_12 ?_
                            rotate_left
                            · intro w hSw
                              (try dsimp only at hSw)
                              go_simp
                              try (first | (with_reducible rfl) | rfl)
                            try simp only [List.getElem_toArray, List.getElem_cons_zero, List.getElem_cons_succ, Act.put, List.setIfInBounds_toArray, List.set_cons_zero, List.set_cons_succ]
                            refine wpAnyH_take (i := 26) (v := undef) rfl (by kernel_rfl) (by kernel_rfl) (by kernel_rfl) (fun _ _ _ h => h) (Or.inr ⟨by rfl, rfl⟩) hHeld17_12 ?_
                            try simp only [List.getElem_toArray, List.getElem_cons_zero, List.getElem_cons_succ, Act.put, List.setIfInBounds_toArray, List.set_cons_zero, List.set_cons_succ]
                            refine wpAnyH_take (i := 27) (v := undef) rfl (by kernel_rfl) (by kernel_rfl) (by kernel_rfl) (fun _ _ _ h => h) (Or.inr ⟨by rfl, rfl⟩) hHeld17_12 ?_
                            try simp only [List.getElem_toArray, List.getElem_cons_zero, List.getElem_cons_succ, Act.put, List.setIfInBounds_toArray, List.set_cons_zero, List.set_cons_succ]
                            refine wpAnyH_take (i := 28) (v := undef) rfl (by kernel_rfl) (by kernel_rfl) (by kernel_rfl) (fun _ _ _ h => h) (Or.inr ⟨by rfl, rfl⟩) hHeld17_12 ?_
                            try simp only [List.getElem_toArray, List.getElem_cons_zero, List.getElem_cons_succ, Act.put, List.setIfInBounds_toArray, List.set_cons_zero, List.set_cons_succ]
                            refine wpAnyH_take (i := 29) (v := undef) rfl (by kernel_rfl) (by kernel_rfl) (by kernel_rfl) (fun _ _ _ h => h) (Or.inr ⟨by rfl, rfl⟩) hHeld17_12 ?_
                            try simp only [List.getElem_toArray, List.getElem_cons_zero, List.getElem_cons_succ, Act.put, List.setIfInBounds_toArray, List.set_cons_zero, List.set_cons_succ]
                            refine wpAnyH_take (i := 30) (v := undef) rfl (by kernel_rfl) (by kernel_rfl) (by kernel_rfl) (fun _ _ _ h => h) (Or.inr ⟨by rfl, rfl⟩) hHeld17_12 ?_
                            try simp only [List.getElem_toArray, List.getElem_cons_zero, List.getElem_cons_succ, Act.put, List.setIfInBounds_toArray, List.set_cons_zero, List.set_cons_succ]
                            refine wpAnyH_take (i := 31) (v := ?_) rfl (by kernel_rfl) (by kernel_rfl) (by kernel_rfl) (fun _ _ _ h => h) (Or.inl ⟨by rfl, ?_⟩) hHeld17_12 ?_
                            rotate_left
                            · intro w hSw
                              (try dsimp only at hSw)
                              go_simp
                              try (first | (with_reducible rfl) | rfl)
                            try simp only [List.getElem_toArray, List.getElem_cons_zero, List.getElem_cons_succ, Act.put, List.setIfInBounds_toArray, List.set_cons_zero, List.set_cons_succ]
                            refine wpAnyH_take (i := 32) (v := ?_) rfl (by kernel_rfl) (by kernel_rfl) (by kernel_rfl) (fun _ _ _ h => h) (Or.inl ⟨by rfl, ?_⟩) hHeld17_12 ?_
                            rotate_left
                            · intro w hSw
                              (try dsimp only at hSw)
                              go_simp
                              try (first | (with_reducible rfl) | rfl)
                            try simp only [List.getElem_toArray, List.getElem_cons_zero, List.getElem_cons_succ, Act.put, List.setIfInBounds_toArray, List.set_cons_zero, List.set_cons_succ]
                            refine wpAnyH_done (by kernel_rfl) ?_ _
                            obtain ⟨q4, q2, qb, q3⟩ := HCE.out _ A2.out
                            have hs1 : (S.st == 1) = false := by simpa using h1s
                            go_wp2
                            go_roundg k4
                            case measure => omega
                            case rel => exact ⟨j + 1, rfl, by omega, by omega, by
                              unfold MetRel metRows
                              rw [HMR.out]
                              exact A2.out⟩
                          exact AllReadyH.nil
                        exact AllReadyH.nil

                  · obtain rfl : m = j := by omega
                    have c6b : decide (((m : Nat) : Int) < (m : Int)) = false := decide_eq_false (by omega)
                    clear hS c6
                    go_wp2
                    have HMe2 := Lib.hid (show MetRel w q P gt gg ga c1 gm ps m x Ss ns m wr from HE.out)
                    clear HE
                    go_loopg [23] 13 (fun kq y w' => ∃ j : Nat, y = .int .i64 j ∧ j ≤ m ∧ j + kq = 13 ∧ MetRel w q P gt gg ga c1 gm ps m x Ss ns m w')
                    case atStart => exact ⟨0, rfl, by omega, by omega, HMe2.out⟩
                    case round =>
                      obtain ⟨j, rfl, hj, hjq, hS⟩ := hrel
                      have HE : Hid (St w (memA q [x] ns :: (metRows gt gg ga c1 gm ps m P Ss m ++ manyA visA ps Ss)) wr) := Lib.hid hS
                      clear HMe2
                      cases gk with
                      | zero => omega
                      | succ k5 =>
                        by_cases c6 : j < m
                        · have c6b : decide ((j : Int) < m) = true := decide_eq_true (by omega)
                          have j0 : (0 : Int) ≤ (j : Int) := by omega
                          have j1 : (j : Int) < (m : Int) := by omega
                          obtain ⟨S, hSk⟩ := getE (l := Ss) (k := j) (by rw [HT.out.len]; omega)
                          obtain ⟨bd, rfl, hbc⟩ := (HB.out.kept hS.bel).2 j c6
                          obtain ⟨q4, _⟩ := hS.at_ 4 rfl j (u := .int .i64 S.st) (by rw [List.getElem?_map, hSk]; rfl)
                          have hmg := metRow_get P Ss m m (j + 1) (by omega)
                          rw [if_neg (by omega), Nat.add_sub_cancel, HT.out.want hSk] at hmg
                          have d7 : (0 : Int) ≤ (j : Int) + 1 := by omega
                          have d8 : (j : Int) + 1 < ((m + 1 : Nat) : Int) := by omega
                          have d9 : ((j : Int) + 1).toNat = j + 1 := by omega
                          have d10 : (j : Int) + 1 < (m : Int) + 1 := by omega
                          by_cases hP : P j = true
                          · rw [hP] at hbc
                            by_cases h1s : S.st = 1
                            · rw [if_pos ⟨hP, h1s⟩] at hmg
                              obtain ⟨q5, _⟩ := hS.at_ 1 rfl (j + 1) hmg
                              have hs1 : (S.st == 1) = true := by simp [h1s]
                              clear hS hmg hSk
                              go_wp2
                              go_roundg k5
                              case measure => omega
                              case rel => exact ⟨j + 1, rfl, by omega, by omega, HE.out⟩
                            · rw [if_neg (fun c => h1s c.2)] at hmg
                              obtain ⟨q5, _⟩ := hS.at_ 1 rfl (j + 1) hmg
                              have hs1 : (S.st == 1) = false := by simpa using h1s
                              clear hS hmg hSk
                              go_wp2
                              go_roundg k5
                              case measure => omega
                              case rel => exact ⟨j + 1, rfl, by omega, by omega, HE.out⟩
                          · have hP' : P j = false := by simpa using hP
                            rw [hP'] at hbc
                            rw [if_neg (fun c => hP c.1)] at hmg
                            obtain ⟨q5, _⟩ := hS.at_ 1 rfl (j + 1) hmg
                            clear hS hmg hSk
                            go_wp2
                            go_roundg k5
                            case measure => omega
                            case rel => exact ⟨j + 1, rfl, by omega, by omega, HE.out⟩
                        · have c6b : decide ((j : Int) < m) = false := decide_eq_false (by omega)
                          clear hS
                          go_wp2_with (first | ((have _h := F1); go_at_call 18; refine (slot_state x 0 _ HT.out.x0 HT.out.xr.1 HT.out.xr.2).mono ?_; rintro e wf2 ⟨rfl, hb⟩; (have F2 := Lib.hid (F1.out.below hb)); clear hb; clear _h) | ((have _h := HE); go_at_call 17; refine (words_pos 1 HE.out rfl (by decide)).mono ?_; rintro e wf1 ⟨g, c, rfl, hc, hr, hcc, hb⟩; (have F1 := Lib.hid (HE.out.below hb)); (have k0 : wf1.cell? ⟨g, 0, none⟩ = some (.int .u64 x) := hc 0 (by decide)); clear hc hr hcc hb; clear _h))
                          go_ret
                          exact ⟨rfl, F2.out.bel⟩

theorem exchangeMeets_walk (A : Option Addr) (m c : Nat) (P : Nat → Bool) (pl sp : Int) (B : Option Addr) (t d : Nat) (zs : List Int) (w : World) (hB : RdB w A m P) (w1 : (Lit.int .i64 pl).wf = true) (w2 : (Lit.int .u32 sp).wf = true) (hI : IsRow .i64 w B t d zs) :
    Calls Try.prog 3 #[.slice A m c, .int .i64 pl, .int .u32 sp, .slice B t d] w fun e w' => e = .returned (.bool true) ∧ Below w.heap.size w w' := by
  obtain ⟨p0, p1⟩ := rngI64 w1
  obtain ⟨t0, t1⟩ := rngU32 w2
  obtain ⟨m0, m1⟩ := pickI_rng (c := pl) (n := 6) (by decide)
  by_cases h0 : m = 0
  · exact meets_none A m c B t d pl sp _ w rfl t0 t1 hB.1 hI.le h0
  by_cases h1 : 12 < m
  · exact meets_many A m c B t d pl sp _ w rfl t0 t1 hB.1 hI.le h1
  by_cases h2 : 300 < t
  · exact meets_long A m c B t d pl sp _ w rfl t0 t1 hB.1 hI.le (by omega) (by omega) h2
  exact meets_body A m c B t d pl sp _ w rfl t0 t1 hB.1 hI.le (max (pickI pl 6) 1).toNat _ P zs rfl p0 p1 (by omega) (by omega) (by omega) (by omega) (by omega) (by omega) hB hI.rdI
end Go.Proofs.Ytpkchlmoohmfeaa
