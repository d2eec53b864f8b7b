/-
  Package sched: what each function does, over a state.
-/
import Derived.Test.YtadphmpbhkhhfaaSrc
import Derived.Test.YtadphmpbhkhhfaaRe
import Derived.Test.YtadphmpbhkhhfaaNoteN
import Derived.Test.YtadphmpbhkhhfaaCommonA
import Derived.Lib.MinMax
namespace Go.Proofs.Ytadphmpbhkhhfaa
open Go.RowKit
set_option linter.unusedVariables false
set_option linter.unusedSimpArgs false

/-- 'make([]T, n)' as one step of a region that draws. -/
theorem step_make_full {P : Program} {ops : Array Oper} {o : Oper} {a : Act} {w : World} {K : Act → World → Prop} {Q : Exit → Act → World → Prop} {E : Prop}
    (hg : o.guard = none) (l c : Operand) (t : TypeId) (hop : o.op = Op.makeSlice t l c)
    (base : Nat) (e : TypeId) (i : TypeInfo) (z : Value) (size : Nat) (h1 : P.underlying t = some (.slice e)) (h2 : P.info? e = some i) (h3 : i.zero = some z) (h4 : i.size = size)
    (kl kc : IntKind) (L C : Int) (n : Nat) (hl : a.eval l = .int kl L) (hc : a.eval c = .int kc C) (hL : L = (n : Int)) (hC : C = (n : Int)) (b2 : i.bytes * n ≤ 281474976710656) (b3 : n ≤ maxLen) (b4 : base ≤ w.heap.size)
    (hK : ∀ w', w'.ownsRow base e size (.slice (some ⟨w.heap.size, 0, none⟩) n n) n (madeCells z.cells (n * size)).toList → w.grownBy w' none → K (a.put o.dst (.slice (some ⟨w.heap.size, 0, none⟩) n n)) w') :
    if Region.wanted o (yielded ops a.tmps) = true then Oper.wp P o a w K Q else E := by
  have hw : Region.wanted o (yielded ops a.tmps) = true := by simp [Region.wanted, hg]
  rw [if_pos hw]
  obtain ⟨w', hrun, r1, r2⟩ := run_make_full (P := P) w base t e i z size h1 h2 h3 h4 kl kc n b2 b3 b4
  subst hL
  subst hC
  unfold Oper.wp
  simp [execOp, hop, hl, hc, hrun, Result.andThen]
  exact hK _ r1 r2
theorem cells4s {w : World} {b : Nat} {a0 a1 a2 a3 : Value} {e : TypeId} (h : w.heap[b]? = some (.cells #[a0, a1, a2, a3] e (0, 0))) : w.cell? ⟨b, 0, none⟩ = some a0 ∧ w.cell? ⟨b, 1, none⟩ = some a1 ∧ w.cell? ⟨b, 2, none⟩ = some a2 ∧ w.cell? ⟨b, 3, none⟩ = some a3 ∧ w.frozen? ⟨b, 3, none⟩ = false := ⟨cell_of h 0, cell_of h 1, cell_of h 2, cell_of h 3, free_of h 3⟩
theorem infoSM : (Try.prog.info? 60).map (fun i => (i.zero, i.size, i.bytes)) = some (some .nilIface, 1, 16) := by kernel_rfl
/-- The threads' box. -/
abbrev schB (p q r g n : Nat) (k : Int) : Asn := boxA p #[.pointer (some ⟨q, 0, none⟩), .pointer (some ⟨r, 0, none⟩), .slice (some ⟨g, 0, none⟩) n n, .int .i64 k] 58
abbrev thR (g n : Nat) (ts : List Value) : Asn := rowG g n 60 1 n ts
variable {w0 w : World} {p q r g n : Nat} {k : Int} {ts : List Value} {L : List Asn}
set_option maxHeartbeats 4000000 in
theorem sched_no (A : Option Addr) (c N : Nat) (ws : List Int) (n : Int) (h : St w0 L w) (hr : RdU w A ws) (hl : N ≤ 1024) (hv : ∀ x ∈ ws, 0 ≤ x ∧ x < 18446744073709551616) (hN : ws.length = N) (hn : n < 1 ∨ 8 < n) :
    Calls Try.prog 8 #[.slice A N c, .int .i64 n] w fun e w' => e = .returned (.tuple #[.pointer none, .int .i64 1]) ∧ St w0 L w' := by
  have H := Lib.hid h
  have HR := Lib.hid hr
  have HV := Lib.hid hv
  have HN := Lib.hid hN
  clear h hr hv hN
  rcases hn with hn | hn
  · have d0 : decide (n < 1) = true := decide_eq_true hn
    go_enter Try.func8, Try.ntmps8
    go_wp2_with (go_at_call 19; refine (new_st H.out A c N ws HR.out hl HV.out HN.out).mono ?_; rintro e w1 ⟨q, rfl, h⟩; (have H1 := Lib.hid h); clear h)
    go_ret2
    exact ⟨rfl, H1.out.tail⟩
  · have d0 : decide (n < 1) = false := decide_eq_false (by omega)
    have d1 : decide (8 < n) = true := decide_eq_true hn
    go_enter Try.func8, Try.ntmps8
    go_wp2_with (go_at_call 19; refine (new_st H.out A c N ws HR.out hl HV.out HN.out).mono ?_; rintro e w1 ⟨q, rfl, h⟩; (have H1 := Lib.hid h); clear h)
    go_ret2
    exact ⟨rfl, H1.out.tail⟩
set_option maxRecDepth 100000 in
set_option maxHeartbeats 8000000 in
theorem sched_new (A : Option Addr) (c N : Nat) (ws : List Int) (n : Nat) (h : St w0 L w) (hr : RdU w A ws) (hl : N ≤ 1024) (hv : ∀ x ∈ ws, 0 ≤ x ∧ x < 18446744073709551616) (hN : ws.length = N) (n1 : 1 ≤ n) (n8 : n ≤ 8) :
    Calls Try.prog 8 #[.slice A N c, .int .i64 n] w fun e w' => ∃ p q r g, e = .returned (.tuple #[.pointer (some ⟨p, 0, none⟩), .int .i64 0]) ∧ St w0 (memA q ws [] :: schB p q r g n 0 :: thR g n (List.replicate n .nilIface) :: srcA r 0 [] :: L) w' := by
  obtain ⟨i0, hi0, hz0, hz1, hz2⟩ := info_parts infoSM
  have d0 : decide ((n : Int) < 1) = false := decide_eq_false (by omega)
  have d1 : decide ((8 : Int) < n) = false := decide_eq_false (by omega)
  have H := Lib.hid h
  have HR := Lib.hid hr
  have HV := Lib.hid hv
  have HN := Lib.hid hN
  clear h hr hv hN
  go_enter Try.func8, Try.ntmps8
  go_wp2_with (go_at_call 19; refine (new_st H.out A c N ws HR.out hl HV.out HN.out).mono ?_; rintro e w1 ⟨q, rfl, h⟩; (have H1 := Lib.hid h); clear h)
  refine wp_region_held_drew (S := (fun _ => True)) (by as_aux_lemma => kernel_rfl) ?_ (fun hHeld0 => ?_)
  · trivial
  refine wpAnyH_take (i := 0) (v := ?_) rfl (by as_aux_lemma => kernel_rfl) (by as_aux_lemma => kernel_rfl) (by as_aux_lemma => kernel_rfl) (fun _ _ _ h => h) (Or.inl ⟨by rfl, ?_⟩) hHeld0 ?_
  rotate_left
  · intro w hSw
    (try dsimp only at hSw)
    go_simp
    try (first | (with_reducible rfl) | rfl)
  try simp only [List.getElem_toArray, List.getElem_cons_zero, List.getElem_cons_succ, Act.put, List.setIfInBounds_toArray, List.set_cons_zero, List.set_cons_succ]
  refine wpAnyH_take (i := 2) (v := ?_) rfl (by as_aux_lemma => kernel_rfl) (by as_aux_lemma => kernel_rfl) (by as_aux_lemma => kernel_rfl) (fun _ _ _ h => h) (Or.inl ⟨by rfl, ?_⟩) hHeld0 ?_
  rotate_left
  · intro w hSw
    (try dsimp only at hSw)
    go_simp
    try (first | (with_reducible rfl) | rfl)
  try simp only [List.getElem_toArray, List.getElem_cons_zero, List.getElem_cons_succ, Act.put, List.setIfInBounds_toArray, List.set_cons_zero, List.set_cons_succ]
  refine wpAnyH_ready (rs := [1, 3]) (by as_aux_lemma => kernel_rfl) (by simp) ?_
  refine AllReadyH.cons rfl (fun K hK => ?_) ?_
  · go_simp
    (first | ((have _h := HM); go_at_call 20; refine (src_new HM.out).mono ?_; rintro e wS ⟨r, rfl, h⟩; (have HF := Lib.hid (show St w0 (memA q ws [] :: srcA r 0 [] :: thR _ n (List.replicate n .nilIface) :: L) wS from h.re 3 [2, 0, 1])); clear h HM _h) | (go_at_call 20; refine (src_new H1.out.drew).mono ?_; rintro e wS ⟨r, rfl, h⟩; (have HS := Lib.hid h); clear h))
    go_wp2_with fail
    refine hK.out _ _ ?_ (fun hHeld2_1 => ?_)
    · trivial
    clear hK K
    try simp only [List.getElem_toArray, List.getElem_cons_zero, List.getElem_cons_succ, Act.put, List.setIfInBounds_toArray, List.set_cons_zero, List.set_cons_succ]
    refine wpAnyH_ready (rs := [3]) (by as_aux_lemma => kernel_rfl) (by simp) ?_
    refine AllReadyH.cons rfl (fun K hK => ?_) ?_
    · (first | ((have _h := HS); refine step_make_full (by rfl) _ _ _ (by rfl) _ 60 i0 _ 1 Try.underlying56 hi0 hz0 hz1 .i64 .i64 _ _ n (by rfl) (by rfl) rfl rfl (by rw [hz2]; omega) (by unfold maxLen; omega) (Nat.le_refl _) ?_; intro wM hown hgrow; (have HF := Lib.hid (show St w0 (memA q ws [] :: srcA r 0 [] :: thR _ n (List.replicate n .nilIface) :: L) wM by have h9 := HS.out.made hown hgrow; rw [show (madeCells (Value.nilIface).cells (n * 1)).toList = List.replicate n .nilIface from made_one _ _] at h9; exact h9.re 3 [2, 1, 0])); clear hown hgrow HS _h) | (refine step_make_full (by rfl) _ _ _ (by rfl) _ 60 i0 _ 1 Try.underlying56 hi0 hz0 hz1 .i64 .i64 _ _ n (by rfl) (by rfl) rfl rfl (by rw [hz2]; omega) (by unfold maxLen; omega) (Nat.le_refl _) ?_; intro wM hown hgrow; (have HM := Lib.hid (show St w0 (thR _ n (List.replicate n .nilIface) :: memA q ws [] :: L) wM by have h9 := H1.out.drew.made hown hgrow; rw [show (madeCells (Value.nilIface).cells (n * 1)).toList = List.replicate n .nilIface from made_one _ _] at h9; exact h9)); clear hown hgrow))
      refine hK.out _ _ ?_ (fun hHeld3_3 => ?_)
      · trivial
      clear hK K
      try simp only [List.getElem_toArray, List.getElem_cons_zero, List.getElem_cons_succ, Act.put, List.setIfInBounds_toArray, List.set_cons_zero, List.set_cons_succ]
      refine wpAnyH_take (i := 4) (v := ?_) rfl (by as_aux_lemma => kernel_rfl) (by as_aux_lemma => kernel_rfl) (by as_aux_lemma => kernel_rfl) (fun _ _ _ h => h) (Or.inl ⟨by rfl, ?_⟩) hHeld3_3 ?_
      rotate_left
      · intro w hSw
        (try dsimp only at hSw)
        go_simp
        try (first | (with_reducible rfl) | rfl)
      try simp only [List.getElem_toArray, List.getElem_cons_zero, List.getElem_cons_succ, Act.put, List.setIfInBounds_toArray, List.set_cons_zero, List.set_cons_succ]
      refine wpAnyH_ready (rs := [5]) (by as_aux_lemma => kernel_rfl) (by simp) ?_
      refine AllReadyH.cons rfl (fun K hK => ?_) ?_
      · go_simp
        refine hK.out _ _ ?_ (fun hHeld5_5 => ?_)
        · trivial
        clear hK K
        try simp only [List.getElem_toArray, List.getElem_cons_zero, List.getElem_cons_succ, Act.put, List.setIfInBounds_toArray, List.set_cons_zero, List.set_cons_succ]
        refine wpAnyH_take (i := 6) (v := ?_) rfl (by as_aux_lemma => kernel_rfl) (by as_aux_lemma => kernel_rfl) (by as_aux_lemma => kernel_rfl) (fun _ _ _ h => h) (Or.inl ⟨by rfl, ?_⟩) hHeld5_5 ?_
        rotate_left
        · intro w hSw
          (try dsimp only at hSw)
          go_simp
          try (first | (with_reducible rfl) | rfl)
        try simp only [List.getElem_toArray, List.getElem_cons_zero, List.getElem_cons_succ, Act.put, List.setIfInBounds_toArray, List.set_cons_zero, List.set_cons_succ]
        refine wpAnyH_take (i := 7) (v := ?_) rfl (by as_aux_lemma => kernel_rfl) (by as_aux_lemma => kernel_rfl) (by as_aux_lemma => kernel_rfl) (fun _ _ _ h => h) (Or.inl ⟨by rfl, ?_⟩) hHeld5_5 ?_
        rotate_left
        · intro w hSw
          (try dsimp only at hSw)
          go_simp
          try (first | (with_reducible rfl) | rfl)
        try simp only [List.getElem_toArray, List.getElem_cons_zero, List.getElem_cons_succ, Act.put, List.setIfInBounds_toArray, List.set_cons_zero, List.set_cons_succ]
        refine wpAnyH_done (by as_aux_lemma => kernel_rfl) ?_ _
        go_wp2
        go_ret2
        exact ⟨_, q, r, _, rfl, (HF.out.alloc _ _).re 4 [1, 0, 3, 2]⟩
      exact AllReadyH.nil
    exact AllReadyH.nil
  refine AllReadyH.cons rfl (fun K hK => ?_) ?_
  · (first | ((have _h := HS); refine step_make_full (by rfl) _ _ _ (by rfl) _ 60 i0 _ 1 Try.underlying56 hi0 hz0 hz1 .i64 .i64 _ _ n (by rfl) (by rfl) rfl rfl (by rw [hz2]; omega) (by unfold maxLen; omega) (Nat.le_refl _) ?_; intro wM hown hgrow; (have HF := Lib.hid (show St w0 (memA q ws [] :: srcA r 0 [] :: thR _ n (List.replicate n .nilIface) :: L) wM by have h9 := HS.out.made hown hgrow; rw [show (madeCells (Value.nilIface).cells (n * 1)).toList = List.replicate n .nilIface from made_one _ _] at h9; exact h9.re 3 [2, 1, 0])); clear hown hgrow HS _h) | (refine step_make_full (by rfl) _ _ _ (by rfl) _ 60 i0 _ 1 Try.underlying56 hi0 hz0 hz1 .i64 .i64 _ _ n (by rfl) (by rfl) rfl rfl (by rw [hz2]; omega) (by unfold maxLen; omega) (Nat.le_refl _) ?_; intro wM hown hgrow; (have HM := Lib.hid (show St w0 (thR _ n (List.replicate n .nilIface) :: memA q ws [] :: L) wM by have h9 := H1.out.drew.made hown hgrow; rw [show (madeCells (Value.nilIface).cells (n * 1)).toList = List.replicate n .nilIface from made_one _ _] at h9; exact h9)); clear hown hgrow))
    refine hK.out _ _ ?_ (fun hHeld2_3 => ?_)
    · trivial
    clear hK K
    try simp only [List.getElem_toArray, List.getElem_cons_zero, List.getElem_cons_succ, Act.put, List.setIfInBounds_toArray, List.set_cons_zero, List.set_cons_succ]
    refine wpAnyH_ready (rs := [1]) (by as_aux_lemma => kernel_rfl) (by simp) ?_
    refine AllReadyH.cons rfl (fun K hK => ?_) ?_
    · go_simp
      (first | ((have _h := HM); go_at_call 20; refine (src_new HM.out).mono ?_; rintro e wS ⟨r, rfl, h⟩; (have HF := Lib.hid (show St w0 (memA q ws [] :: srcA r 0 [] :: thR _ n (List.replicate n .nilIface) :: L) wS from h.re 3 [2, 0, 1])); clear h HM _h) | (go_at_call 20; refine (src_new H1.out.drew).mono ?_; rintro e wS ⟨r, rfl, h⟩; (have HS := Lib.hid h); clear h))
      go_wp2_with fail
      refine hK.out _ _ ?_ (fun hHeld3_1 => ?_)
      · trivial
      clear hK K
      try simp only [List.getElem_toArray, List.getElem_cons_zero, List.getElem_cons_succ, Act.put, List.setIfInBounds_toArray, List.set_cons_zero, List.set_cons_succ]
      refine wpAnyH_take (i := 4) (v := ?_) rfl (by as_aux_lemma => kernel_rfl) (by as_aux_lemma => kernel_rfl) (by as_aux_lemma => kernel_rfl) (fun _ _ _ h => h) (Or.inl ⟨by rfl, ?_⟩) hHeld3_1 ?_
      rotate_left
      · intro w hSw
        (try dsimp only at hSw)
        go_simp
        try (first | (with_reducible rfl) | rfl)
      try simp only [List.getElem_toArray, List.getElem_cons_zero, List.getElem_cons_succ, Act.put, List.setIfInBounds_toArray, List.set_cons_zero, List.set_cons_succ]
      refine wpAnyH_ready (rs := [5]) (by as_aux_lemma => kernel_rfl) (by simp) ?_
      refine AllReadyH.cons rfl (fun K hK => ?_) ?_
      · go_simp
        refine hK.out _ _ ?_ (fun hHeld5_5 => ?_)
        · trivial
        clear hK K
        try simp only [List.getElem_toArray, List.getElem_cons_zero, List.getElem_cons_succ, Act.put, List.setIfInBounds_toArray, List.set_cons_zero, List.set_cons_succ]
        refine wpAnyH_take (i := 6) (v := ?_) rfl (by as_aux_lemma => kernel_rfl) (by as_aux_lemma => kernel_rfl) (by as_aux_lemma => kernel_rfl) (fun _ _ _ h => h) (Or.inl ⟨by rfl, ?_⟩) hHeld5_5 ?_
        rotate_left
        · intro w hSw
          (try dsimp only at hSw)
          go_simp
          try (first | (with_reducible rfl) | rfl)
        try simp only [List.getElem_toArray, List.getElem_cons_zero, List.getElem_cons_succ, Act.put, List.setIfInBounds_toArray, List.set_cons_zero, List.set_cons_succ]
        refine wpAnyH_take (i := 7) (v := ?_) rfl (by as_aux_lemma => kernel_rfl) (by as_aux_lemma => kernel_rfl) (by as_aux_lemma => kernel_rfl) (fun _ _ _ h => h) (Or.inl ⟨by rfl, ?_⟩) hHeld5_5 ?_
        rotate_left
        · intro w hSw
          (try dsimp only at hSw)
          go_simp
          try (first | (with_reducible rfl) | rfl)
        try simp only [List.getElem_toArray, List.getElem_cons_zero, List.getElem_cons_succ, Act.put, List.setIfInBounds_toArray, List.set_cons_zero, List.set_cons_succ]
        refine wpAnyH_done (by as_aux_lemma => kernel_rfl) ?_ _
        go_wp2
        go_ret2
        exact ⟨_, q, r, _, rfl, (HF.out.alloc _ _).re 4 [1, 0, 3, 2]⟩
      exact AllReadyH.nil
    exact AllReadyH.nil
  exact AllReadyH.nil
set_option maxHeartbeats 4000000 in
theorem sch_mem (h : St w0 (schB p q r g n k :: L) w)  :
    Calls Try.prog 11 #[.pointer (some ⟨p, 0, none⟩)] w fun e w' => e = .returned (.pointer (some ⟨q, 0, none⟩)) ∧ w = w' := by
  obtain ⟨c0, c1, c2, c3, _⟩ := cells4s (h.cells 0 rfl)
  clear h
  go_enter Try.func11, Try.ntmps11
  go_wp2
  go_ret
  exact ⟨rfl, rfl⟩
set_option maxHeartbeats 4000000 in
theorem sch_src (h : St w0 (schB p q r g n k :: L) w)  :
    Calls Try.prog 18 #[.pointer (some ⟨p, 0, none⟩)] w fun e w' => e = .returned (.pointer (some ⟨r, 0, none⟩)) ∧ w = w' := by
  obtain ⟨c0, c1, c2, c3, _⟩ := cells4s (h.cells 0 rfl)
  clear h
  go_enter Try.func18, Try.ntmps18
  go_wp2
  go_ret
  exact ⟨rfl, rfl⟩
set_option maxHeartbeats 4000000 in
theorem sch_picks (h : St w0 (schB p q r g n k :: L) w)  :
    Calls Try.prog 15 #[.pointer (some ⟨p, 0, none⟩)] w fun e w' => e = .returned (.int .i64 k) ∧ w = w' := by
  obtain ⟨c0, c1, c2, c3, _⟩ := cells4s (h.cells 0 rfl)
  clear h
  go_enter Try.func15, Try.ntmps15
  go_wp2
  go_ret
  exact ⟨rfl, rfl⟩
set_option maxHeartbeats 4000000 in
theorem there_yes (h : St w0 (schB p q r g n k :: L) w) (t : Nat) (ht : t < n) :
    Calls Try.prog 21 #[.pointer (some ⟨p, 0, none⟩), .int .i64 t] w fun e w' => e = .returned (.bool true) ∧ w = w' := by
  have d0 : decide ((0 : Int) ≤ t) = true := decide_eq_true (by omega)
  have d1 : decide ((t : Int) < n) = true := decide_eq_true (by omega)
  obtain ⟨c0, c1, c2, c3, _⟩ := cells4s (h.cells 0 rfl)
  clear h
  go_enter Try.func21, Try.ntmps21
  go_wp2
  go_ret
  exact ⟨rfl, rfl⟩
set_option maxHeartbeats 4000000 in
theorem there_low (h : St w0 (schB p q r g n k :: L) w) (t : Int) (ht : t < 0) :
    Calls Try.prog 21 #[.pointer (some ⟨p, 0, none⟩), .int .i64 t] w fun e w' => e = .returned (.bool false) ∧ w = w' := by
  have d0 : decide ((0 : Int) ≤ t) = false := decide_eq_false (by omega)
  obtain ⟨c0, c1, c2, c3, _⟩ := cells4s (h.cells 0 rfl)
  clear h
  go_enter Try.func21, Try.ntmps21
  go_wp2
  go_ret
  exact ⟨rfl, rfl⟩
set_option maxHeartbeats 4000000 in
theorem there_high (h : St w0 (schB p q r g n k :: L) w) (t : Int) (ht : (n : Int) ≤ t) :
    Calls Try.prog 21 #[.pointer (some ⟨p, 0, none⟩), .int .i64 t] w fun e w' => e = .returned (.bool false) ∧ w = w' := by
  have d0 : decide ((0 : Int) ≤ t) = true := decide_eq_true (by omega)
  have d1 : decide (t < (n : Int)) = false := decide_eq_false (by omega)
  obtain ⟨c0, c1, c2, c3, _⟩ := cells4s (h.cells 0 rfl)
  clear h
  go_enter Try.func21, Try.ntmps21
  go_wp2
  go_ret
  exact ⟨rfl, rfl⟩
theorem there_no (h : St w0 (schB p q r g n k :: L) w) (t : Int) (ht : t < 0 ∨ (n : Int) ≤ t) :
    Calls Try.prog 21 #[.pointer (some ⟨p, 0, none⟩), .int .i64 t] w fun e w' => e = .returned (.bool false) ∧ w = w' := by
  rcases ht with ht | ht
  · exact there_low h t ht
  · by_cases h0 : t < 0
    · exact there_low h t h0
    · exact there_high h t ht
set_option maxHeartbeats 4000000 in
theorem busy_none (h : St w0 (schB p q r g n k :: thR g n ts :: L) w) (t : Int) (ht : t < 0 ∨ (n : Int) ≤ t) :
    Calls Try.prog 13 #[.pointer (some ⟨p, 0, none⟩), .int .i64 t] w fun e w' => e = .returned (.bool false) ∧ w = w' := by
  have H := Lib.hid h
  obtain ⟨c0, c1, c2, c3, _⟩ := cells4s (h.cells 0 rfl)
  clear h
  go_enter Try.func13, Try.ntmps13
  go_wp2_with ((go_at_call 21; refine (there_no H.out t ht).mono ?_; rintro e w1 ⟨rfl, rfl⟩))
  go_ret
  exact ⟨rfl, rfl⟩
set_option maxHeartbeats 4000000 in
theorem busy_idle (h : St w0 (schB p q r g n k :: thR g n ts :: L) w) (t : Nat) (ht : t < n) (hx : ts[t]? = some .nilIface) :
    Calls Try.prog 13 #[.pointer (some ⟨p, 0, none⟩), .int .i64 t] w fun e w' => e = .returned (.bool false) ∧ w = w' := by
  have H := Lib.hid h
  obtain ⟨c0, c1, c2, c3, f3⟩ := cells4s (h.cells 0 rfl)
  obtain ⟨e0, f0⟩ := h.at_ 1 rfl t hx
  have t0 : (0 : Int) ≤ (t : Int) := by omega
  have t1 : (t : Int) < (n : Int) := by omega
  clear h
  go_enter Try.func13, Try.ntmps13
  go_wp2_with ((go_at_call 21; refine (there_yes H.out t ht).mono ?_; rintro e w1 ⟨rfl, rfl⟩))
  go_ret
  exact ⟨rfl, rfl⟩
set_option maxHeartbeats 4000000 in
theorem busy_yes (h : St w0 (schB p q r g n k :: thR g n ts :: L) w) (t : Nat) (ht : t < n) (T : TypeId) (v : Value) (hx : ts[t]? = some (.iface T v)) :
    Calls Try.prog 13 #[.pointer (some ⟨p, 0, none⟩), .int .i64 t] w fun e w' => e = .returned (.bool true) ∧ w = w' := by
  have H := Lib.hid h
  obtain ⟨c0, c1, c2, c3, f3⟩ := cells4s (h.cells 0 rfl)
  obtain ⟨e0, f0⟩ := h.at_ 1 rfl t hx
  have t0 : (0 : Int) ≤ (t : Int) := by omega
  have t1 : (t : Int) < (n : Int) := by omega
  clear h
  go_enter Try.func13, Try.ntmps13
  go_wp2_with ((go_at_call 21; refine (there_yes H.out t ht).mono ?_; rintro e w1 ⟨rfl, rfl⟩))
  go_ret
  exact ⟨rfl, rfl⟩
set_option maxHeartbeats 4000000 in
theorem begin_none (h : St w0 (schB p q r g n k :: thR g n ts :: L) w) (t : Int) (x : Value) (ht : t < 0 ∨ (n : Int) ≤ t) :
    Calls Try.prog 9 #[.pointer (some ⟨p, 0, none⟩), .int .i64 t, x] w fun e w' => e = .returned (.int .i64 4) ∧ w = w' := by
  have H := Lib.hid h
  obtain ⟨c0, c1, c2, c3, _⟩ := cells4s (h.cells 0 rfl)
  clear h
  go_enter Try.func9, Try.ntmps9
  go_wp2_with ((go_at_call 21; refine (there_no H.out t ht).mono ?_; rintro e w1 ⟨rfl, rfl⟩))
  go_ret
  exact ⟨rfl, rfl⟩
set_option maxHeartbeats 4000000 in
theorem begin_busy (h : St w0 (schB p q r g n k :: thR g n ts :: L) w) (t : Nat) (x : Value) (ht : t < n) (T : TypeId) (v : Value) (hx : ts[t]? = some (.iface T v)) :
    Calls Try.prog 9 #[.pointer (some ⟨p, 0, none⟩), .int .i64 t, x] w fun e w' => e = .returned (.int .i64 5) ∧ w = w' := by
  have H := Lib.hid h
  obtain ⟨c0, c1, c2, c3, f3⟩ := cells4s (h.cells 0 rfl)
  obtain ⟨e0, f0⟩ := h.at_ 1 rfl t hx
  have t0 : (0 : Int) ≤ (t : Int) := by omega
  have t1 : (t : Int) < (n : Int) := by omega
  clear h
  go_enter Try.func9, Try.ntmps9
  go_wp2_with (first | (go_at_call 13; refine (busy_yes H.out t ht T v hx).mono ?_; rintro e w2 ⟨rfl, rfl⟩) | (go_at_call 21; refine (there_yes H.out t ht).mono ?_; rintro e w1 ⟨rfl, rfl⟩))
  go_ret
  exact ⟨rfl, rfl⟩
set_option maxHeartbeats 4000000 in
theorem begin_nil (h : St w0 (schB p q r g n k :: thR g n ts :: L) w) (t : Nat) (ht : t < n) (hx : ts[t]? = some .nilIface) :
    Calls Try.prog 9 #[.pointer (some ⟨p, 0, none⟩), .int .i64 t, .nilIface] w fun e w' => e = .returned (.int .i64 1) ∧ w = w' := by
  have H := Lib.hid h
  obtain ⟨c0, c1, c2, c3, f3⟩ := cells4s (h.cells 0 rfl)
  obtain ⟨e0, f0⟩ := h.at_ 1 rfl t hx
  have t0 : (0 : Int) ≤ (t : Int) := by omega
  have t1 : (t : Int) < (n : Int) := by omega
  clear h
  go_enter Try.func9, Try.ntmps9
  go_wp2_with (first | (go_at_call 13; refine (busy_idle H.out t ht hx).mono ?_; rintro e w2 ⟨rfl, rfl⟩) | (go_at_call 21; refine (there_yes H.out t ht).mono ?_; rintro e w1 ⟨rfl, rfl⟩))
  go_ret
  exact ⟨rfl, rfl⟩
set_option maxHeartbeats 4000000 in
theorem begin_ok (h : St w0 (schB p q r g n k :: thR g n ts :: L) w) (t : Nat) (ht : t < n) (T : TypeId) (x : Nat) (hx : ts[t]? = some .nilIface) :
    Calls Try.prog 9 #[.pointer (some ⟨p, 0, none⟩), .int .i64 t, .iface T (.pointer (some ⟨x, 0, none⟩))] w fun e w' => e = .returned (.int .i64 0) ∧ St w0 (schB p q r g n k :: thR g n (ts.set t (.iface T (.pointer (some ⟨x, 0, none⟩)))) :: L) w' := by
  have H := Lib.hid h
  obtain ⟨c0, c1, c2, c3, f3⟩ := cells4s (h.cells 0 rfl)
  obtain ⟨e0, f0⟩ := h.at_ 1 rfl t hx
  have t0 : (0 : Int) ≤ (t : Int) := by omega
  have t1 : (t : Int) < (n : Int) := by omega
  clear h
  go_enter Try.func9, Try.ntmps9
  go_wp2_with (first | (go_at_call 13; refine (busy_idle H.out t ht hx).mono ?_; rintro e w2 ⟨rfl, rfl⟩) | (go_at_call 21; refine (there_yes H.out t ht).mono ?_; rintro e w1 ⟨rfl, rfl⟩))
  go_ret
  exact ⟨rfl, H.out.rowSet 1 rfl t (by omega) _⟩
set_option maxHeartbeats 4000000 in
theorem pick_none (h : St w0 (schB p q r g n k :: thR g n ts :: L) w) (t : Int) (ht : t < 0 ∨ (n : Int) ≤ t) :
    Calls Try.prog 10 #[.pointer (some ⟨p, 0, none⟩), .int .i64 t] w fun e w' => e = .returned (.tuple #[.int .i64 0, .int .u64 0, .int .i64 4]) ∧ w = w' := by
  have H := Lib.hid h
  obtain ⟨c0, c1, c2, c3, _⟩ := cells4s (h.cells 0 rfl)
  clear h
  go_enter Try.func10, Try.ntmps10
  go_wp2_with ((go_at_call 21; refine (there_no H.out t ht).mono ?_; rintro e w1 ⟨rfl, rfl⟩))
  go_returns
  exact ⟨rfl, rfl⟩
set_option maxHeartbeats 4000000 in
theorem pick_idle (h : St w0 (schB p q r g n k :: thR g n ts :: L) w) (t : Nat) (ht : t < n) (hx : ts[t]? = some .nilIface) :
    Calls Try.prog 10 #[.pointer (some ⟨p, 0, none⟩), .int .i64 t] w fun e w' => e = .returned (.tuple #[.int .i64 0, .int .u64 0, .int .i64 6]) ∧ w = w' := by
  have H := Lib.hid h
  obtain ⟨c0, c1, c2, c3, f3⟩ := cells4s (h.cells 0 rfl)
  obtain ⟨e0, f0⟩ := h.at_ 1 rfl t hx
  have t0 : (0 : Int) ≤ (t : Int) := by omega
  have t1 : (t : Int) < (n : Int) := by omega
  clear h
  go_enter Try.func10, Try.ntmps10
  go_wp2_with (first | (go_at_call 13; refine (busy_idle H.out t ht hx).mono ?_; rintro e w2 ⟨rfl, rfl⟩) | (go_at_call 21; refine (there_yes H.out t ht).mono ?_; rintro e w1 ⟨rfl, rfl⟩))
  go_returns
  exact ⟨rfl, rfl⟩
set_option maxHeartbeats 4000000 in
theorem draw_no {now : Int} {ds : List Int} (h : St w0 (schB p q r g n k :: srcA r now ds :: L) w) (d : Int) (hd : 64 ≤ d) :
    Calls Try.prog 17 #[.pointer (some ⟨p, 0, none⟩), .int .u64 d] w fun e w' => e = .returned (.int .i64 1) ∧ St w0 (schB p q r g n k :: srcA r now ds :: L) w' := by
  have H := Lib.hid h
  obtain ⟨c0, c1, c2, c3, _⟩ := cells4s (h.cells 0 rfl)
  clear h
  go_enter Try.func17, Try.ntmps17
  go_wp2_with ((go_at_call 23; refine (src_add_no d (H.out.swap) hd).mono ?_; rintro e w2 ⟨rfl, h⟩; (have H2 := Lib.hid h); clear h))
  go_ret
  exact ⟨rfl, H2.out.swap⟩
set_option maxHeartbeats 4000000 in
theorem draw_ok {now : Int} {ds : List Int} (h : St w0 (schB p q r g n k :: srcA r now ds :: L) w) (d : Int) (hd0 : 0 ≤ d) (hd : d < 64) (hl : ds.length ≤ 1000000000000) :
    Calls Try.prog 17 #[.pointer (some ⟨p, 0, none⟩), .int .u64 d] w fun e w' => e = .returned (.int .i64 0) ∧ St w0 (schB p q r g n k :: srcA r now (ds ++ [d]) :: L) w' := by
  have H := Lib.hid h
  obtain ⟨c0, c1, c2, c3, _⟩ := cells4s (h.cells 0 rfl)
  clear h
  go_enter Try.func17, Try.ntmps17
  go_wp2_with ((go_at_call 23; refine (src_add_ok d (H.out.swap) hd0 hd hl).mono ?_; rintro e w2 ⟨rfl, h⟩; (have H2 := Lib.hid h); clear h))
  go_ret
  exact ⟨rfl, H2.out.swap⟩
end Go.Proofs.Ytadphmpbhkhhfaa
