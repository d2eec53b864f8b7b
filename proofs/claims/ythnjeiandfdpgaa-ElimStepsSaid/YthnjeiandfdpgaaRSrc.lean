/-
  The document's source (hatstandref4), its layout (hatstandref6: Check, Slot), its policy (hatstandref11).
-/
import Derived.Test.YthnjeiandfdpgaaSrc
import Derived.Test.YthnjeiandfdpgaaPol
import Derived.Test.YthnjeiandfdpgaaLayout2
import Derived.Test.YthnjeiandfdpgaaRefM
namespace Go.Proofs.Ythnjeiandfdpgaa
open Go.RowKit
set_option linter.unusedVariables false
set_option linter.unusedSimpArgs false

abbrev usV (ds : List Int) : List Value := ds.map fun d => Value.int .u64 d
/-- A row that is only read: somewhere in a block. -/
def cutA (v : Value) (ds : List Int) : Asn := ⟨fun fp w => ∃ A c, v = .slice A ds.length c ∧ ds.length ≤ c ∧ c ≤ maxLen ∧ (ds = [] ∨ ∃ g o cur, A = some ⟨g, o, none⟩ ∧ fp g ∧ w.heap[g]? = some (.cells cur 35 (0, 0)) ∧ ∀ j u, (usV ds)[j]? = some u → cur[o + j]? = some u), fun {fp fp' w w'} h k => by
  obtain ⟨A, c, h1, h2, h3, h4⟩ := h
  refine ⟨A, c, h1, h2, h3, h4.imp id fun ⟨g, o, cur, e1, e2, e3, e4⟩ => ⟨g, o, cur, e1, (k g (lt_of_heap e3) e2).1, (k g (lt_of_heap e3) e2).2.trans e3, e4⟩⟩⟩
abbrev rsB (p : Nat) (now : Int) (v : Value) : Asn := boxA p #[.int .u64 now, v] 69
def rsA (p : Nat) (now : Int) (ds : List Int) : Asn := exA fun v : Value => starA [rsB p now v, cutA v ds]
theorem rsA_open {w0 w : World} {p : Nat} {now : Int} {ds : List Int} {L : List Asn} (h : St w0 (rsA p now ds :: L) w) : ∃ v, St w0 (rsB p now v :: cutA v ds :: L) w := by
  obtain ⟨v, h1⟩ := h.ex
  exact ⟨v, h1.unstar⟩
theorem rsA_close {w0 w : World} {p : Nat} {now : Int} {ds : List Int} {L : List Asn} {v : Value} (h : St w0 (rsB p now v :: cutA v ds :: L) w) : St w0 (rsA p now ds :: L) w := (h.star2).unex v
theorem St.cut {w0 w : World} {l : List Asn} (h : St w0 l w) (j : Nat) {v : Value} {ds : List Int} (he : l[j]? = some (cutA v ds)) :
    ∃ A c, v = .slice A ds.length c ∧ ds.length ≤ c ∧ c ≤ maxLen ∧ (ds = [] ∨ ∃ g o, A = some ⟨g, o, none⟩ ∧ g < w.heap.size ∧ ∀ j u, (usV ds)[j]? = some u → w.cell? ⟨g, o + j, none⟩ = some u) := by
  obtain ⟨_, F, _, hh⟩ := h
  obtain ⟨A, c, h1, h2, h3, h4⟩ := hh j _ he
  exact ⟨A, c, h1, h2, h3, h4.imp id fun ⟨g, o, cur, e1, e2, e3, e4⟩ => ⟨g, o, e1, lt_of_heap e3, fun j u hu => (cell_of e3 _).trans (e4 j u hu)⟩⟩
/-- Behind its first one. -/
theorem St.cutTail {w0 w : World} {l : List Asn} {A A' : Option Addr} {d : Int} {ds : List Int} {n m c c' : Nat} (h : St w0 (cutA (.slice A n c) (d :: ds) :: l) w) (hA : ∀ g o, A = some ⟨g, o, none⟩ → ds ≠ [] → A' = some ⟨g, o + 1, none⟩) (hm : m = ds.length) (h1 : ds.length ≤ c') (h2 : c' ≤ maxLen) : St w0 (cutA (.slice A' m c') ds :: l) w := by
  refine h.change fun fp hp => ⟨fp, ?_, fun b hb _ => hb, Str.refl w, fun b _ hb => rfl⟩
  obtain ⟨B, c2, e1, e2, e3, e4⟩ := hp
  simp only [Value.slice.injEq] at e1
  obtain ⟨rfl, _, rfl⟩ := e1
  refine ⟨A', c', by rw [hm], h1, h2, ?_⟩
  cases ds with
  | nil => exact .inl rfl
  | cons y ys =>
    rcases e4 with e4 | ⟨g, o, cur, f1, f2, f3, f4⟩
    · cases e4
    · refine .inr ⟨g, o + 1, cur, hA g o f1 (by simp), f2, f3, fun j u hu => ?_⟩
      have := f4 (j + 1) u (by simpa using hu)
      rwa [show o + (j + 1) = o + 1 + j by omega] at this
/-- An owned row, as one that is only read. -/
theorem St.toCut {w0 w : World} {l : List Asn} {g c n : Nat} {ds : List Int} (h : St w0 (rowG g c 35 1 n (usV ds) :: l) w) (hn : n = ds.length) : St w0 (cutA (.slice (some ⟨g, 0, none⟩) n c) ds :: l) w := by
  have hmx := (row_is (h.row 0 rfl))
  refine h.change fun fp hp => ⟨fp, ?_, fun b hb _ => hb, Str.refl w, fun b _ hb => rfl⟩
  subst hn
  obtain ⟨h1, h2 | ⟨g', cap, cur, hv, h0, hh, h3, h4, h5, h6⟩⟩ := hp.1
  · cases h2.1
  · simp only [Value.slice.injEq, Option.some.injEq, Addr.mk.injEq] at hv
    obtain ⟨⟨rfl, _⟩, _, rfl⟩ := hv
    refine ⟨_, _, rfl, h3, h4, .inr ⟨g, 0, cur, rfl, hp.2 g rfl, hh, fun j u hu => ?_⟩⟩
    have hj : j < ds.length * 1 := by have := (List.getElem?_eq_some_iff.1 hu).1; simpa using this
    rw [← h6, List.getElem?_take, if_pos hj] at hu
    simpa using hu
set_option maxHeartbeats 1000000 in
theorem rdeadline_any (now wait : Int) (w : World) (h0 : 0 ≤ now) (h1 : now < 18446744073709551616) (w0 : 0 ≤ wait) (w1 : wait < 18446744073709551616) :
    Calls Try.prog 50 #[.int .u64 now, .int .u64 wait] w fun e w' => e = .returned (.int .u64 (dlI now wait)) ∧ w = w' := by
  have e1 : (18446744073709551615 - now) % 18446744073709551616 = 18446744073709551615 - now := by omega
  by_cases c : 18446744073709551615 - now < wait
  · have e2 : dlI now wait = 18446744073709551615 := by unfold dlI; omega
    have c1 : decide (18446744073709551615 - now < wait) = true := decide_eq_true c
    rw [e2]
    go_enter Try.func50, Try.ntmps50
    go_wp2
    go_ret
    exact ⟨rfl, rfl⟩
  · have e2 : dlI now wait = now + wait := by unfold dlI; omega
    have c1 : decide (18446744073709551615 - now < wait) = false := decide_eq_false c
    have e3 : (now + wait) % 18446744073709551616 = now + wait := by omega
    rw [e2]
    go_enter Try.func50, Try.ntmps50
    go_wp2
    go_ret
    exact ⟨rfl, rfl⟩
set_option maxHeartbeats 1000000 in
theorem rsrc_tick {w0 w : World} {p : Nat} {now : Int} {ds : List Int} {L : List Asn} (k t : Int) (h : St w0 (rsA p now ds :: L) w) (h0 : 0 ≤ now) (h1 : now < 18446744073709551616) (k0 : 0 ≤ k) (k1 : k < 18446744073709551616) (ht : dlI now k = t) :
    Calls Try.prog 30 #[.pointer (some ⟨p, 0, none⟩), .int .u64 k] w fun e w' => e = .returned (.tuple #[]) ∧ St w0 (rsA p t ds :: L) w' := by
  subst ht
  obtain ⟨v, h1⟩ := rsA_open h
  obtain ⟨c0, c1, f0, f1⟩ := cells2 (h1.cells 0 rfl)
  have H := Lib.hid h1
  clear h h1
  go_enter Try.func30, Try.ntmps30
  go_wp2_with (go_at_call 50; refine (rdeadline_any now k _ (by assumption) (by assumption) k0 k1).mono ?_; rintro e w2 ⟨rfl, rfl⟩)
  go_end0
  exact ⟨rfl, rsA_close (H.out.setAt 0 rfl 0 _)⟩
theorem infoU8 : (Try.prog.info? 35).map (fun i => (i.zero, i.size, i.bytes)) = some (some (.int .u64 0), 1, 8) := by kernel_rfl
set_option maxHeartbeats 2000000 in
theorem rsrc_add_no {w0 w : World} {p : Nat} {now : Int} {ds : List Int} {L : List Asn} (d : Int) (h : St w0 (rsA p now ds :: L) w) (hd : 64 ≤ d) :
    Calls Try.prog 31 #[.pointer (some ⟨p, 0, none⟩), .int .u64 d] w fun e w' => e = .returned (.int .i64 1) ∧ St w0 (rsA p now ds :: L) w' := by
  have d0 : decide (63 < d) = true := decide_eq_true (by omega)
  have H := Lib.hid h
  clear h
  go_enter Try.func31, Try.ntmps31
  go_wp2
  go_ret
  exact ⟨rfl, H.out⟩
theorem rs_more {w0 w w' : World} {l : List Asn} {e : TypeId} {size n : Nat} {v : Value} {xs : List Value} (h : St w0 l w) (hb : Below w.heap.size w w') (ho : w'.ownsRow w.heap.size e size v n xs) : St w0 (rowA e size v n xs :: l) w' := by
  refine h.more hb ⟨⟨ho.1, ho.2.imp id fun ⟨g, cap, cur, x1, x2, x3⟩ => ⟨g, cap, cur, x1, Nat.zero_le _, x3⟩⟩, fun b e => ?_⟩
  rcases ho.2 with ⟨e1, _⟩ | ⟨g, cap, cur, x1, x2, x3⟩
  · rw [e1] at e; cases e
  · rw [x1] at e; cases e; exact x2
set_option maxRecDepth 100000 in
set_option maxHeartbeats 4000000 in
theorem rsrc_add_some {w0 w : World} {p : Nat} {now : Int} {ds : List Int} {L : List Asn} (d : Int) (h : St w0 (rsA p now ds :: L) w) (hd0 : 0 ≤ d) (hd : d < 64) (hl : ds.length ≤ 1000000000000) (hne : 0 < ds.length) :
    Calls Try.prog 31 #[.pointer (some ⟨p, 0, none⟩), .int .u64 d] w fun e w' => e = .returned (.int .i64 0) ∧ St w0 (rsA p now (ds ++ [d]) :: L) w' := by
  have d0 : decide (63 < d) = false := decide_eq_false (by omega)
  obtain ⟨i0, hi0, hz0, hz1, hz2⟩ : ∃ i, Try.prog.info? 35 = some i ∧ i.zero = some (.int .u64 0) ∧ i.size = 1 ∧ i.bytes = 8 := by
    have := infoU8
    cases hq : Try.prog.info? 35 with
    | none => rw [hq] at this; simp at this
    | some i => rw [hq] at this; simp at this; exact ⟨i, rfl, this⟩
  obtain ⟨v, h1⟩ := rsA_open h
  obtain ⟨c0, c1, f0, f1⟩ := cells2 (h1.cells 0 rfl)
  have lt0 := lt_of_heap (h1.cells 0 rfl)
  obtain ⟨A, c, rfl, hc1, hc2, hc3⟩ := h1.cut 1 rfl
  obtain ⟨g, o, rfl, hg, hcl⟩ := hc3.resolve_left (fun e => by rw [e] at hne; simp at hne)
  obtain ⟨n, hn⟩ : ∃ n, ds.length = n := ⟨_, rfl⟩
  have hul : (usV ds).length = n := by simp [hn]
  have HCL : Hid (∀ j u, (usV ds)[j]? = some u → (w.alloc (.cells #[] 35)).cell? ((⟨g, o, none⟩ : Addr).add j) = some u) := Lib.hid (fun j u hu => by
    have e : (⟨g, o, none⟩ : Addr).add j = ⟨g, o + j, none⟩ := by unfold Addr.add; split <;> simp_all
    rw [e]
    have := hcl j u hu
    have hb := bl_alloc (bl_refl w) (.cells #[] 35)
    exact (hb.cell (World.block_lt_of_cell? _ _ this)).trans this)
  have H := Lib.hid h1
  rw [hn] at c1 hc1 hl hne
  clear h h1 hcl hc3
  go_enter Try.func31, Try.ntmps31
  go_wp2_with (first | ((have _h := HA1); at_builtin; go_must (refine wpList_append_lies _ (by rfl) _ _ _ (by rfl) 0 35 i0 _ 1 8 Try.underlying44 hi0 hz0 hz1 hz2 rfl (by decide) (.slice (some ⟨g1, 0, none⟩) n cp1) n (usV ds) (by rfl) (((HA1.out.below (bl_alloc (bl_refl _) _)).rowOf 0 rfl)) ⟨wA.heap.size, 0, none⟩ 1 1 [.int .u64 d] (by rfl) rfl (by exact World.news_of_block (cs := #[.int .u64 d]) (t := 35) (fr := (0, 0)) (heap_new rfl)) (by simp [Value.oneCell']) (by decide) (by unfold maxLen; omega) (by omega) (Nat.zero_le _) _ rfl ?_); go_must (intro g cp wB hown hgrow hat hlt); (have HA2 := Lib.hid (((HA1.out.below (bl_alloc (bl_refl _) _)).append hown hgrow hat))); clear hown hgrow hat hlt _h; clear c0 c1 f0 f1; (obtain ⟨c0, c1, f0, f1⟩ := cells2 (HA2.out.cells 1 rfl))) | ((have _h := H); at_builtin; go_must (refine wpList_append_lies _ (by rfl) _ _ _ (by rfl) w.heap.size 35 i0 _ 1 8 Try.underlying44 hi0 hz0 hz1 hz2 rfl (by decide) (.slice (some ⟨w.heap.size, 0, none⟩) 0 0) 0 [] (by rfl) ⟨rfl, .inr ⟨_, 0, #[], rfl, Nat.le_refl _, heap_new rfl, by simp, by simp, by simp, by simp⟩⟩ ⟨g, o, none⟩ n c (usV ds) (by rfl) (by simp [hul]) HCL.out (u64_one ds) hne (by unfold maxLen; omega) (by omega) (by simp) _ rfl ?_); go_must (intro g1 cp1 wA hown hgrow hat hlt); (have HA1 := Lib.hid (rs_more H.out (rnew_below rfl hgrow) (by simpa only [Nat.zero_add, List.nil_append] using hown))); clear hown hgrow hat hlt _h H c0 c1 f0 f1; (obtain ⟨c0, c1, f0, f1⟩ := cells2 (HA1.out.cells 1 rfl))))
  go_ret
  refine ⟨rfl, rsA_close (v := .slice (some ⟨g, 0, none⟩) (n + 1) cp) ?_⟩
  have h9 := ((HA2.out.setAt 1 rfl 1 (.slice (some ⟨g, 0, none⟩) (n + 1) cp)).front 2 rfl).tail
  have h8 : St w0 (rowG g cp 35 1 (n + 1) (usV (ds ++ [d])) :: rsB p now (.slice (some ⟨g, 0, none⟩) (n + 1) cp) :: L) (wB.setCell ⟨p, 1, none⟩ (.slice (some ⟨g, 0, none⟩) (n + 1) cp)) := by
    rw [show usV (ds ++ [d]) = usV ds ++ [.int .u64 d] by simp]
    exact h9
  exact (h8.toCut (by simp [hn])).swap
set_option maxRecDepth 100000 in
set_option maxHeartbeats 4000000 in
theorem rsrc_add_none {w0 w : World} {p : Nat} {now : Int} {L : List Asn} (d : Int) (h : St w0 (rsA p now [] :: L) w) (hd0 : 0 ≤ d) (hd : d < 64) :
    Calls Try.prog 31 #[.pointer (some ⟨p, 0, none⟩), .int .u64 d] w fun e w' => e = .returned (.int .i64 0) ∧ St w0 (rsA p now [d] :: L) w' := by
  have d0 : decide (63 < d) = false := decide_eq_false (by omega)
  obtain ⟨i0, hi0, hz0, hz1, hz2⟩ : ∃ i, Try.prog.info? 35 = some i ∧ i.zero = some (.int .u64 0) ∧ i.size = 1 ∧ i.bytes = 8 := by
    have := infoU8
    cases hq : Try.prog.info? 35 with
    | none => rw [hq] at this; simp at this
    | some i => rw [hq] at this; simp at this; exact ⟨i, rfl, this⟩
  obtain ⟨v, h1⟩ := rsA_open h
  obtain ⟨c0, c1, f0, f1⟩ := cells2 (h1.cells 0 rfl)
  have lt0 := lt_of_heap (h1.cells 0 rfl)
  obtain ⟨A, c, rfl, hc1, hc2, hc3⟩ := h1.cut 1 rfl
  simp only [List.length_nil] at c1
  have HA1 := Lib.hid (rs_more (w' := w.alloc (.cells #[] 35)) (e := 35) (size := 1) (n := 0) (v := .slice (some ⟨w.heap.size, 0, none⟩) 0 0) (xs := []) h1 (bl_alloc (bl_refl w) _) ⟨rfl, .inr ⟨_, 0, #[], rfl, Nat.le_refl _, heap_new rfl, by simp, by simp, by simp, by simp⟩⟩)
  clear h h1 hc3
  cases A with
  | none =>
    go_enter Try.func31, Try.ntmps31
    go_wp2_with (((have _h := HA1); at_builtin; (refine wpList_append_lies _ (by rfl) _ _ _ (by rfl) 0 35 i0 _ 1 8 Try.underlying44 hi0 hz0 hz1 hz2 rfl (by decide) (.slice (some ⟨w.heap.size, 0, none⟩) 0 0) 0 [] (by rfl) (((HA1.out.below (bl_alloc (bl_refl _) _)).rowOf 0 rfl)) ⟨w.heap.size + 1, 0, none⟩ 1 1 [.int .u64 d] (by rfl) rfl (by exact World.news_of_block (cs := #[.int .u64 d]) (t := 35) (fr := (0, 0)) (heap_new (by simp))) (by simp [Value.oneCell']) (by decide) (by unfold maxLen; omega) (by omega) (Nat.zero_le _) _ rfl ?_); go_must (intro g cp wB hown hgrow hat hlt); (have HA2 := Lib.hid (((HA1.out.below (bl_alloc (bl_refl _) _)).append hown hgrow hat))); clear hown hgrow hat hlt _h; clear c0 c1 f0 f1; (obtain ⟨c0, c1, f0, f1⟩ := cells2 (HA2.out.cells 1 rfl))))
    go_ret
    refine ⟨rfl, rsA_close (v := .slice (some ⟨g, 0, none⟩) 1 cp) ?_⟩
    have h9 := ((HA2.out.setAt 1 rfl 1 (.slice (some ⟨g, 0, none⟩) 1 cp)).front 2 rfl).tail
    have h8 : St w0 (rowG g cp 35 1 1 (usV [d]) :: rsB p now (.slice (some ⟨g, 0, none⟩) 1 cp) :: L) (wB.setCell ⟨p, 1, none⟩ (.slice (some ⟨g, 0, none⟩) 1 cp)) := h9
    exact (h8.toCut rfl).swap
  | some ad =>
    go_enter Try.func31, Try.ntmps31
    go_wp2_with (((have _h := HA1); at_builtin; (refine wpList_append_lies _ (by rfl) _ _ _ (by rfl) 0 35 i0 _ 1 8 Try.underlying44 hi0 hz0 hz1 hz2 rfl (by decide) (.slice (some ⟨w.heap.size, 0, none⟩) 0 0) 0 [] (by rfl) (((HA1.out.below (bl_alloc (bl_refl _) _)).rowOf 0 rfl)) ⟨w.heap.size + 1, 0, none⟩ 1 1 [.int .u64 d] (by rfl) rfl (by exact World.news_of_block (cs := #[.int .u64 d]) (t := 35) (fr := (0, 0)) (heap_new (by simp))) (by simp [Value.oneCell']) (by decide) (by unfold maxLen; omega) (by omega) (Nat.zero_le _) _ rfl ?_); go_must (intro g cp wB hown hgrow hat hlt); (have HA2 := Lib.hid (((HA1.out.below (bl_alloc (bl_refl _) _)).append hown hgrow hat))); clear hown hgrow hat hlt _h; clear c0 c1 f0 f1; (obtain ⟨c0, c1, f0, f1⟩ := cells2 (HA2.out.cells 1 rfl))))
    go_ret
    refine ⟨rfl, rsA_close (v := .slice (some ⟨g, 0, none⟩) 1 cp) ?_⟩
    have h9 := ((HA2.out.setAt 1 rfl 1 (.slice (some ⟨g, 0, none⟩) 1 cp)).front 2 rfl).tail
    have h8 : St w0 (rowG g cp 35 1 1 (usV [d]) :: rsB p now (.slice (some ⟨g, 0, none⟩) 1 cp) :: L) (wB.setCell ⟨p, 1, none⟩ (.slice (some ⟨g, 0, none⟩) 1 cp)) := h9
    exact (h8.toCut rfl).swap
theorem rsrc_add {w0 w : World} {p : Nat} {now : Int} {ds : List Int} {L : List Asn} (d x : Int) (ds' : List Int) (h : St w0 (rsA p now ds :: L) w) (hd0 : 0 ≤ d) (hl : ds.length ≤ 1000000000000) (hx : addE d = x) (hd : addR ds d = ds') :
    Calls Try.prog 31 #[.pointer (some ⟨p, 0, none⟩), .int .u64 d] w fun e w' => e = .returned (.int .i64 x) ∧ St w0 (rsA p now ds' :: L) w' := by
  subst hx hd
  unfold addE addR
  by_cases c : 64 ≤ d
  · simp only [c, if_true]
    exact rsrc_add_no d h c
  · simp only [c, if_false]
    cases ds with
    | nil => exact rsrc_add_none d h hd0 (by omega)
    | cons y ys => exact rsrc_add_some d h hd0 (by omega) hl (by simp)
set_option maxHeartbeats 2000000 in
theorem rsrc_draw_low {w0 w : World} {p : Nat} {now : Int} {ds : List Int} {L : List Asn} (n : Int) (h : St w0 (rsA p now ds :: L) w) (hn : n < 1) :
    Calls Try.prog 53 #[.pointer (some ⟨p, 0, none⟩), .int .i64 n] w fun e w' => e = .returned (.int .i64 0) ∧ St w0 (rsA p now ds :: L) w' := by
  have d0 : decide (n < 1) = true := decide_eq_true hn
  have H := Lib.hid h
  clear h
  go_enter Try.func53, Try.ntmps53
  go_wp2
  go_ret
  exact ⟨rfl, H.out⟩
set_option maxHeartbeats 2000000 in
theorem rsrc_draw_none {w0 w : World} {p : Nat} {now : Int} {L : List Asn} (n : Int) (h : St w0 (rsA p now [] :: L) w) (hn : 1 ≤ n) :
    Calls Try.prog 53 #[.pointer (some ⟨p, 0, none⟩), .int .i64 n] w fun e w' => e = .returned (.int .i64 0) ∧ St w0 (rsA p now [] :: L) w' := by
  have d0 : decide (n < 1) = false := decide_eq_false (by omega)
  obtain ⟨v, h1⟩ := rsA_open h
  obtain ⟨c0, c1, f0, f1⟩ := cells2 (h1.cells 0 rfl)
  obtain ⟨A, c, rfl, _, _, _⟩ := h1.cut 1 rfl
  simp only [List.length_nil] at c1
  have H := Lib.hid h
  clear h h1
  go_enter Try.func53, Try.ntmps53
  go_wp2
  go_ret
  exact ⟨rfl, H.out⟩
set_option maxHeartbeats 4000000 in
theorem rsrc_draw_some {w0 w : World} {p : Nat} {now : Int} {L : List Asn} (d n : Int) (ys : List Int) (h : St w0 (rsA p now (d :: ys) :: L) w) (hn : 1 ≤ n) (hn2 : n < 9223372036854775808) (d0 : 0 ≤ d) (d1 : d < 64) :
    Calls Try.prog 53 #[.pointer (some ⟨p, 0, none⟩), .int .i64 n] w fun e w' => e = .returned (.int .i64 (d % n)) ∧ St w0 (rsA p now ys :: L) w' := by
  have hd : decide (n < 1) = false := decide_eq_false (by omega)
  have x1 : 0 ≤ d % n := Int.emod_nonneg _ (by omega)
  have x2 : d % n < n := Int.emod_lt_of_pos _ (by omega)
  have x3 : n % 18446744073709551616 = n := by omega
  obtain ⟨v, h1⟩ := rsA_open h
  obtain ⟨c0, c1, f0, f1⟩ := cells2 (h1.cells 0 rfl)
  obtain ⟨A, c, rfl, hc1, hc2, hc3⟩ := h1.cut 1 rfl
  obtain ⟨g, o, rfl, hg, hcl⟩ := hc3.resolve_left (by simp)
  have k0 := hcl 0 (.int .u64 d) rfl
  rw [Nat.add_zero] at k0
  obtain ⟨N, hN⟩ : ∃ N, ys.length + 1 = N := ⟨_, rfl⟩
  simp only [List.length_cons, hN] at c1 hc1
  unfold maxLen at hc2
  have r1 : (1 : Int) ≤ (N : Int) := by omega
  have r3 : ((N : Int) == 0) = false := by simp; omega
  have r4 : (0 : Int) < (N : Int) := by omega
  have r5 : (N : Int) ≤ (c : Int) := by omega
  have H := Lib.hid (show St w0 (rsB p now (.slice (some ⟨g, o, none⟩) N c) :: cutA (.slice (some ⟨g, o, none⟩) N c) (d :: ys) :: L) w from by rw [← hN]; exact h1)
  clear h h1 hcl hc3
  go_enter Try.func53, Try.ntmps53
  go_wp2
  · go_ret
    have hy : ys = [] := List.eq_nil_of_length_eq_zero (by omega)
    refine ⟨rfl, rsA_close (v := .slice (some ⟨g, o, none⟩) (N - 1) 0) ?_⟩
    exact ((H.out.swap.cutTail (A' := some ⟨g, o, none⟩) (m := N - 1) (c' := 0) (fun _ _ _ h => absurd hy h) (by omega) (by omega) (by unfold maxLen; omega)).swap.setAt 0 rfl 1 (.slice (some ⟨g, o, none⟩) (N - 1) 0))
  · go_ret
    refine ⟨rfl, rsA_close (v := .slice (some ⟨g, o + 1, none⟩) (N - 1) (c - 1)) ?_⟩
    exact ((H.out.swap.cutTail (A' := some ⟨g, o + 1, none⟩) (m := N - 1) (c' := c - 1) (fun g' o' e _ => by cases e; rfl) (by omega) (by omega) (by unfold maxLen; omega)).swap.setAt 0 rfl 1 (.slice (some ⟨g, o + 1, none⟩) (N - 1) (c - 1)))
theorem rsrc_draw {w0 w : World} {p : Nat} {now : Int} {ds : List Int} {L : List Asn} (n x : Int) (ds' : List Int) (h : St w0 (rsA p now ds :: L) w) (hok : DsOk ds) (hn : n < 9223372036854775808) (hx : drawI ds n = x) (hd : drawR ds n = ds') :
    Calls Try.prog 53 #[.pointer (some ⟨p, 0, none⟩), .int .i64 n] w fun e w' => e = .returned (.int .i64 x) ∧ St w0 (rsA p now ds' :: L) w' := by
  subst hx hd
  unfold drawI drawR
  by_cases hn1 : n < 1
  · simp only [hn1, if_true]
    exact rsrc_draw_low n h hn1
  · simp only [hn1, if_false]
    match ds, h, hok with
    | [], h, _ => exact rsrc_draw_none n h (by omega)
    | d :: ys, h, hok =>
      have := hok d (by simp)
      exact rsrc_draw_some d n ys h (by omega) hn this.1 this.2
theorem rsA_now {w0 w : World} {l : List Asn} (h : St w0 l w) (j : Nat) {p : Nat} {now : Int} {ds : List Int} (he : l[j]? = some (rsA p now ds)) : ∃ A c, w.cell? ⟨p, 0, none⟩ = some (.int .u64 now) ∧ w.cell? ⟨p, 1, none⟩ = some (.slice A ds.length c) := by
  obtain ⟨_, F, _, hh⟩ := h
  obtain ⟨v, G, _, _, hG⟩ := hh j _ he
  have h1 := (hG 0 _ rfl).2
  obtain ⟨A, c, e, _⟩ := hG 1 _ rfl
  exact ⟨A, c, cell_of h1 0, by rw [cell_of h1 1, ← e]; rfl⟩
abbrev cfgR (n s h t : Int) : Value := .agg #[.int .i64 n, .int .i64 s, .int .i64 h, .int .u32 t]
theorem rcheck_any (n s h t : Int) (w : World) :
    Calls Try.prog 51 #[cfgR n s h t] w fun e w' => e = .returned (.int .i64 (if okC n s h = true then 0 else 1)) ∧ Below w.heap.size w w' := by
  unfold okC
  by_cases h1 : n < 1
  · rw [if_neg (by simp; omega)]
    have d1 : decide (1 ≤ n) = false := decide_eq_false (by omega)
    go_enter Try.func51, Try.ntmps51
    go_wp2
    go_ret
    exact ⟨rfl, bl_alloc (bl_refl _) _⟩
  have d1 : decide (1 ≤ n) = true := decide_eq_true (by omega)
  by_cases h2 : 64 < n
  · rw [if_neg (by simp; omega)]
    have d2 : decide (n ≤ 64) = false := decide_eq_false (by omega)
    go_enter Try.func51, Try.ntmps51
    go_wp2
    go_ret
    exact ⟨rfl, bl_alloc (bl_refl _) _⟩
  have d2 : decide (n ≤ 64) = true := decide_eq_true (by omega)
  by_cases h3 : s < 0
  · rw [if_neg (by simp; omega)]
    have d3 : decide (0 ≤ s) = false := decide_eq_false (by omega)
    go_enter Try.func51, Try.ntmps51
    go_wp2
    go_ret
    exact ⟨rfl, bl_alloc (bl_refl _) _⟩
  have d3 : decide (0 ≤ s) = true := decide_eq_true (by omega)
  by_cases h4 : 16 < s
  · rw [if_neg (by simp; omega)]
    have d4 : decide (s ≤ 16) = false := decide_eq_false (by omega)
    go_enter Try.func51, Try.ntmps51
    go_wp2
    go_ret
    exact ⟨rfl, bl_alloc (bl_refl _) _⟩
  have d4 : decide (s ≤ 16) = true := decide_eq_true (by omega)
  by_cases h5 : h < 0
  · rw [if_neg (by simp; omega)]
    have d5 : decide (0 ≤ h) = false := decide_eq_false (by omega)
    go_enter Try.func51, Try.ntmps51
    go_wp2
    go_ret
    exact ⟨rfl, bl_alloc (bl_refl _) _⟩
  have d5 : decide (0 ≤ h) = true := decide_eq_true (by omega)
  by_cases h6 : 64 < h
  · rw [if_neg (by simp; omega)]
    have d6 : decide (h ≤ 64) = false := decide_eq_false (by omega)
    go_enter Try.func51, Try.ntmps51
    go_wp2
    go_ret
    exact ⟨rfl, bl_alloc (bl_refl _) _⟩
  · rw [if_pos (by simp; omega)]
    have d6 : decide (h ≤ 64) = true := decide_eq_true (by omega)
    go_enter Try.func51, Try.ntmps51
    go_wp2
    go_ret
    exact ⟨rfl, bl_alloc (bl_refl _) _⟩
theorem rcheck_is (n s h t : Int) (x : Int) (w : World) (hx : (if okC n s h = true then (0 : Int) else 1) = x) :
    Calls Try.prog 51 #[cfgR n s h t] w fun e w' => e = .returned (.int .i64 x) ∧ Below w.heap.size w w' := by
  subst hx
  exact rcheck_any n s h t w
/-- A slot's place, if the config is right and the slot is there. -/
theorem rslot_in (n s h t k : Int) (w : World) (hok : okC n s h = true) (k0 : 0 ≤ k) (ks : k < s) :
    Calls Try.prog 54 #[cfgR n s h t, .int .i64 k] w fun e w' => e = .returned (.int .i64 (atI n s h 1 k)) ∧ Below w.heap.size w w' := by
  have e1 : atI n s h 1 k = 2 + 2 * n + k := by unfold atI lenI loI; rw [if_pos ⟨hok, k0, by simpa using ks⟩]; simp
  rw [e1]
  obtain ⟨b1, b2, b3, b4, b5, b6⟩ := okC_bounds hok
  have d0 : decide (k < 0) = false := decide_eq_false (by omega)
  have d1 : decide (s ≤ k) = false := decide_eq_false (by omega)
  have HX : Hid ((if okC n s h = true then (0 : Int) else 1) = 0) := Lib.hid (if_pos hok)
  have H := Lib.hid ((St.nil w).alloc #[.int .i64 n, .int .i64 s, .int .i64 h, .int .u32 t] 75)
  clear hok
  go_enter Try.func54, Try.ntmps54
  go_wp2_with (go_at_call 51; refine (rcheck_is n s h t 0 _ HX.out).mono ?_; rintro e w1 ⟨rfl, hb⟩; (have H1 := Lib.hid (H.out.below hb)); clear hb; (obtain ⟨q0, q1, q2, q3⟩ := cells4 (H1.out.cells 0 rfl)))
  go_ret
  exact ⟨rfl, H1.out.bel⟩
end Go.Proofs.Ythnjeiandfdpgaa
