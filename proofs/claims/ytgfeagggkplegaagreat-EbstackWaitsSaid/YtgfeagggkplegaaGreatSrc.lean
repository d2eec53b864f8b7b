/-
  Package source: a clock and draws.
-/
import Derived.Test.YtgfeagggkplegaaGreatRow2
import Derived.Deep.QuietTactic
import Derived.Deep.RegionLaw
import Derived.Deep.AppendLies
import Derived.Laws.CopyOwn
import Derived.OwnWalk
import Derived.Lib.MinMax
namespace Go.Proofs.YtgfeagggkplegaaGreat
open Go.RowKit
set_option linter.unusedVariables false
set_option linter.unusedSimpArgs false

theorem step_copy_row {P : Program} {ops : Array Oper} {o : Oper} {a : Act} {w : World} {K : Act → World → Prop} {Q : Exit → Act → World → Prop} {E : Prop} (hgd : o.guard = none) (d s : Operand) (dT sT : TypeId)
    (ho : o.op = .call { callee := .builtin .copy, args := #[d, s], argTypes := #[dT, sT] }) (elem : TypeId) (hu : P.underlying dT = some (.slice elem)) (hsz : (P.info? elem).map (·.size) = some 1)
    (g off dLen dCap : Nat) (ad : Addr) (sLen sCap : Nat) (hd : a.eval d = .slice (some ⟨g, off, none⟩) dLen dCap) (hs : a.eval s = .slice (some ad) sLen sCap)
    (cur : Array Value) (t : TypeId) (hg : w.heap[g]? = some (.cells cur t (0, 0))) (cs : List Value) (hn : cs.length = Nat.min sLen dLen)
    (hsrc : ∀ j v, cs[j]? = some v → w.cell? (ad.add j) = some v) (hfit : off + cs.length ≤ cur.size) (h1 : ∀ v ∈ cs, v.oneCell' = true)
    (h : K (a.put o.dst (goInt cs.length)) (w.setRow g (cur.toList.take off ++ (cs ++ cur.toList.drop (off + cs.length))).toArray)) :
    if Region.wanted o (yielded ops a.tmps) = true then Oper.wp P o a w K Q else E := by
  have hw : Region.wanted o (yielded ops a.tmps) = true := by simp [Region.wanted, hgd]
  rw [if_pos hw]
  have hrun := run_copy_row (P := P) w dT sT o.type elem g off dLen dCap ad sLen sCap cur t cs hu hsz hg hn hsrc hfit h1
  unfold Oper.wp
  simp [execOp, ho, resolve, invoke, builtin, hd, hs, hrun, Result.andThen]
  exact h
theorem step_copy_zero {P : Program} {ops : Array Oper} {o : Oper} {a : Act} {w : World} {K : Act → World → Prop} {Q : Exit → Act → World → Prop} {E : Prop} (hgd : o.guard = none) (d s : Operand) (dT sT : TypeId)
    (ho : o.op = .call { callee := .builtin .copy, args := #[d, s], argTypes := #[dT, sT] }) (elem : TypeId) (hu : P.underlying dT = some (.slice elem)) (hsz : (P.info? elem).map (·.size) = some 1)
    (dp sp : Option Addr) (dLen dCap sLen sCap : Nat) (hd : a.eval d = .slice dp dLen dCap) (hs : a.eval s = .slice sp sLen sCap) (hn : Nat.min sLen dLen = 0)
    (h : K (a.put o.dst (goInt 0)) w) :
    if Region.wanted o (yielded ops a.tmps) = true then Oper.wp P o a w K Q else E := by
  have hw : Region.wanted o (yielded ops a.tmps) = true := by simp [Region.wanted, hgd]
  rw [if_pos hw]
  have hrun := run_copy_none (P := P) w dT sT o.type elem dp sp dLen dCap sLen sCap hu hsz hn
  unfold Oper.wp
  simp [execOp, ho, resolve, invoke, builtin, hd, hs, hrun, Result.andThen]
  exact h

abbrev dsV (ds : List Int) : List Value := ds.map fun d => Value.int .i64 d
abbrev srcB (p : Nat) (now : Int) (v : Value) : Asn := boxA p #[.int .u64 now, v] 116
/-- A source: its time, its draws. -/
def srcA (p : Nat) (now : Int) (ds : List Int) : Asn := exA fun v : Value => starA [srcB p now v, rowA 3 1 v ds.length (dsV ds)]
theorem St.star2 {w0 w : World} {a b : Asn} {L : List Asn} (h : St w0 (a :: b :: L) w) : St w0 (starA [a, b] :: L) w := h.star (m := [a, b])
theorem srcA_open {w0 w : World} {p : Nat} {now : Int} {ds : List Int} {L : List Asn} (h : St w0 (srcA p now ds :: L) w) : ∃ v, St w0 (srcB p now v :: rowA 3 1 v ds.length (dsV ds) :: L) w := by
  obtain ⟨v, h1⟩ := h.ex
  exact ⟨v, h1.unstar⟩
theorem srcA_close {w0 w : World} {p : Nat} {now : Int} {ds : List Int} {L : List Asn} {v : Value} (h : St w0 (srcB p now v :: rowA 3 1 v ds.length (dsV ds) :: L) w) : St w0 (srcA p now ds :: L) w := (h.star2).unex v
/-- A time some time later. -/
def dlI (now wait : Int) : Int := now + min wait (18446744073709551615 - now)
theorem dlI_rng {now wait : Int} (h0 : 0 ≤ now) (h1 : now < 18446744073709551616) (w0 : 0 ≤ wait) : 0 ≤ dlI now wait ∧ dlI now wait < 18446744073709551616 := by unfold dlI; omega
/-- A draw below n. -/
def drawI (ds : List Int) (n : Int) : Int := if n < 1 then 0 else match ds with | [] => 0 | d :: _ => d % n
def drawR (ds : List Int) (n : Int) : List Int := if n < 1 then ds else ds.tail
/-- Draws are small. -/
def DsOk (ds : List Int) : Prop := ∀ d ∈ ds, 0 ≤ d ∧ d < 64
set_option maxHeartbeats 1000000 in
theorem deadline_any (now wait : Int) (w : World) (h0 : 0 ≤ now) (h1 : now < 18446744073709551616) (w0 : 0 ≤ wait) (w1 : wait < 18446744073709551616) :
    Calls Tryz.prog 64 #[.int .u64 now, .int .u64 wait] w fun e w' => e = .returned (.int .u64 (dlI now wait)) ∧ w = w' := by
  have e1 : (18446744073709551615 - now) % 18446744073709551616 = 18446744073709551615 - now := by omega
  have e2 : (now + min wait (18446744073709551615 - now)) % 18446744073709551616 = now + min wait (18446744073709551615 - now) := by omega
  unfold dlI
  go_enter Tryz.func64, Tryz.ntmps64
  go_wp2
  go_ret
  exact ⟨rfl, rfl⟩
set_option maxHeartbeats 1000000 in
theorem src_now {w0 w : World} {p : Nat} {now : Int} {ds : List Int} {L : List Asn} (h : St w0 (srcA p now ds :: L) w) :
    Calls Tryz.prog 139 #[.pointer (some ⟨p, 0, none⟩)] w fun e w' => e = .returned (.int .u64 now) ∧ w = w' := by
  obtain ⟨v, h1⟩ := srcA_open h
  obtain ⟨c0, c1, f0, f1⟩ := cells2 (h1.cells 0 rfl)
  clear h h1
  go_enter Tryz.func139, Tryz.ntmps139
  go_wp2
  go_ret
  exact ⟨rfl, rfl⟩
set_option maxHeartbeats 1000000 in
theorem src_left {w0 w : World} {p : Nat} {now : Int} {ds : List Int} {L : List Asn} (n : Nat) (h : St w0 (srcA p now ds :: L) w) (hn : ds.length = n) :
    Calls Tryz.prog 30 #[.pointer (some ⟨p, 0, none⟩)] w fun e w' => e = .returned (.int .i64 n) ∧ w = w' := by
  subst hn
  obtain ⟨v, h1⟩ := srcA_open h
  obtain ⟨c0, c1, f0, f1⟩ := cells2 (h1.cells 0 rfl)
  obtain ⟨A, c, rfl, hm⟩ := row_is (h1.rowOf 1 rfl)
  unfold maxLen at hm
  clear h h1
  go_enter Tryz.func30, Tryz.ntmps30
  go_wp2
  go_ret
  exact ⟨rfl, rfl⟩
set_option maxHeartbeats 1000000 in
theorem src_new {w0 w : World} {L : List Asn} (h : St w0 L w) :
    Calls Tryz.prog 14 #[] w fun e w' => ∃ p, e = .returned (.pointer (some ⟨p, 0, none⟩)) ∧ St w0 (srcA p 0 [] :: L) w' := by
  have H := Lib.hid h
  clear h
  go_enter Tryz.func14, Tryz.ntmps14
  go_wp2
  go_ret
  exact ⟨_, rfl, srcA_close (v := .slice none 0 0) (((H.out.rowNil 3 1).alloc _ _))⟩
set_option maxHeartbeats 1000000 in
theorem src_tick {w0 w : World} {p : Nat} {now : Int} {ds : List Int} {L : List Asn} (k t : Int) (h : St w0 (srcA p now ds :: L) w) (h0 : 0 ≤ now) (h1 : now < 18446744073709551616) (k0 : 0 ≤ k) (k1 : k < 18446744073709551616) (ht : dlI now k = t) :
    Calls Tryz.prog 34 #[.pointer (some ⟨p, 0, none⟩), .int .u64 k] w fun e w' => e = .returned (.tuple #[]) ∧ St w0 (srcA p t ds :: L) w' := by
  subst ht
  obtain ⟨v, h1⟩ := srcA_open h
  obtain ⟨c0, c1, f0, f1⟩ := cells2 (h1.cells 0 rfl)
  have H := Lib.hid h1
  clear h h1
  go_enter Tryz.func34, Tryz.ntmps34
  go_wp2_with (go_at_call 64; refine (deadline_any now k _ (by assumption) (by assumption) k0 k1).mono ?_; rintro e w2 ⟨rfl, rfl⟩)
  go_end0
  exact ⟨rfl, srcA_close (H.out.setAt 0 rfl 0 _)⟩
theorem infoInt : (Tryz.prog.info? 3).map (fun i => (i.zero, i.size, i.bytes)) = some (some (.int .i64 0), 1, 8) := by kernel_rfl
set_option maxHeartbeats 2000000 in
theorem src_add_no {w0 w : World} {p : Nat} {now : Int} {ds : List Int} {L : List Asn} (d : Int) (h : St w0 (srcA p now ds :: L) w) (hd : 64 ≤ d) :
    Calls Tryz.prog 28 #[.pointer (some ⟨p, 0, none⟩), .int .u64 d] w fun e w' => e = .returned (.int .i64 1) ∧ St w0 (srcA p now ds :: L) w' := by
  have d0 : decide (64 ≤ d) = true := decide_eq_true hd
  have H := Lib.hid h
  clear h
  go_enter Tryz.func28, Tryz.ntmps28
  go_wp2
  go_ret
  exact ⟨rfl, H.out⟩
set_option maxRecDepth 100000 in
set_option maxHeartbeats 4000000 in
theorem src_add_ok {w0 w : World} {p : Nat} {now : Int} {ds : List Int} {L : List Asn} (d : Int) (h : St w0 (srcA p now ds :: L) w) (hd0 : 0 ≤ d) (hd : d < 64) (hl : ds.length ≤ 1000000000000) :
    Calls Tryz.prog 28 #[.pointer (some ⟨p, 0, none⟩), .int .u64 d] w fun e w' => e = .returned (.int .i64 0) ∧ St w0 (srcA p now (ds ++ [d]) :: L) w' := by
  have d0 : decide (64 ≤ d) = false := decide_eq_false (by omega)
  obtain ⟨i0, hi0, hz0, hz1, hz2⟩ : ∃ i, Tryz.prog.info? 3 = some i ∧ i.zero = some (.int .i64 0) ∧ i.size = 1 ∧ i.bytes = 8 := by
    have := infoInt
    cases hq : Tryz.prog.info? 3 with
    | none => rw [hq] at this; simp at this
    | some i => rw [hq] at this; simp at this; exact ⟨i, rfl, this⟩
  obtain ⟨v, h1⟩ := srcA_open h
  obtain ⟨c0, c1, f0, f1⟩ := cells2 (h1.cells 0 rfl)
  obtain ⟨A, c, rfl, hm⟩ := row_is (h1.rowOf 1 rfl)
  have H := Lib.hid h1
  have hlen : (dsV ds).length = ds.length := by simp
  clear h h1
  go_enter Tryz.func28, Tryz.ntmps28
  go_wp2_with (((have _h := H); at_builtin; go_must (refine wpList_append_lies _ (by rfl) _ _ _ (by rfl) 0 3 i0 _ 1 8 Tryz.underlying57 hi0 hz0 hz1 hz2 rfl (by decide) (.slice A ds.length c) ds.length (dsV ds) (by rfl) (((H.out.below (bl_alloc (bl_refl _) _)).rowOf 1 rfl)) ⟨w.heap.size, 0, none⟩ 1 1 [.int .i64 d] (by rfl) rfl (by exact World.news_of_block (cs := #[.int .i64 d]) (t := 3) (fr := (0, 0)) (heap_new rfl)) (by simp [Value.oneCell']) (by decide) (by unfold maxLen; omega) (by omega) (Nat.zero_le _) _ rfl ?_); go_must (intro g cp wA hown hgrow hat hlt); (have L2 := Lib.hid ((((H.out.below (bl_alloc (bl_refl _) _)).swap).append hown hgrow hat).swap)); clear hown hgrow hat hlt _h c0 c1 f0 f1; obtain ⟨c0, c1, f0, f1⟩ := cells2 (L2.out.cells 0 rfl)))
  go_ret
  refine ⟨rfl, srcA_close (v := .slice (some ⟨g, 0, none⟩) (ds.length + 1) cp) ?_⟩
  have h9 := L2.out.setAt 0 rfl 1 (.slice (some ⟨g, 0, none⟩) (ds.length + 1) cp)
  rw [show dsV (ds ++ [d]) = dsV ds ++ [.int .i64 d] by simp, List.length_append]
  exact h9
set_option maxHeartbeats 2000000 in
theorem src_draw_low {w0 w : World} {p : Nat} {now : Int} {ds : List Int} {L : List Asn} (n : Int) (h : St w0 (srcA p now ds :: L) w) (hn : n < 1) :
    Calls Tryz.prog 162 #[.pointer (some ⟨p, 0, none⟩), .int .i64 n] w fun e w' => e = .returned (.int .i64 0) ∧ St w0 (srcA p now ds :: L) w' := by
  have d0 : decide (n < 1) = true := decide_eq_true hn
  have H := Lib.hid h
  clear h
  go_enter Tryz.func162, Tryz.ntmps162
  go_wp2
  go_ret
  exact ⟨rfl, H.out⟩
set_option maxHeartbeats 2000000 in
theorem src_draw_none {w0 w : World} {p : Nat} {now : Int} {L : List Asn} (n : Int) (h : St w0 (srcA p now [] :: L) w) (hn : 1 ≤ n) :
    Calls Tryz.prog 162 #[.pointer (some ⟨p, 0, none⟩), .int .i64 n] w fun e w' => e = .returned (.int .i64 0) ∧ St w0 (srcA p now [] :: L) w' := by
  have d0 : decide (n < 1) = false := decide_eq_false (by omega)
  obtain ⟨v, h1⟩ := srcA_open h
  obtain ⟨c0, c1, f0, f1⟩ := cells2 (h1.cells 0 rfl)
  obtain ⟨A, c, rfl, hm⟩ := row_is (h1.rowOf 1 rfl)
  simp only [List.length_nil] at c1
  have H := Lib.hid h
  clear h h1
  go_enter Tryz.func162, Tryz.ntmps162
  go_wp2
  go_ret
  exact ⟨rfl, H.out⟩
theorem St.shift {w0 w : World} {g c k : Nat} {e : TypeId} {x : Value} {xs : List Value} {l : List Asn} (h : St w0 (rowG g c e 1 (k + 1) (x :: xs) :: l) w) (cur : Array Value) (hg : w.heap[g]? = some (.cells cur e (0, 0))) :
    St w0 (rowG g c e 1 k xs :: l) (w.setRow g (cur.toList.take 0 ++ (xs ++ cur.toList.drop (0 + xs.length))).toArray) := by
  refine h.change fun fp hp => ⟨fp, ⟨?_, hp.2⟩, fun b hb _ => hb, ⟨rfl, rfl, rfl, by simp [World.setRow]⟩, fun b _ hb => setRow_other w g b _ (fun e => hb (by rw [e]; exact hp.2 g rfl))⟩
  obtain ⟨h1, h2 | ⟨g', cap, cur', hv, h0, hh, h3, h4, h5, h6⟩⟩ := hp.1
  · cases h2.1
  · simp only [Value.slice.injEq, Option.some.injEq, Addr.mk.injEq] at hv
    obtain ⟨⟨rfl, _⟩, _, rfl⟩ := hv
    rw [hg] at hh
    simp only [Option.some.injEq, Obj.cells.injEq] at hh
    obtain ⟨rfl, _⟩ := hh
    have hxs : xs.length = k := by simpa using h1
    refine ⟨by simpa using hxs, .inr ⟨g, c, _, rfl, h0, setRow_heap w g cur _ e _ hg, by omega, h4, ?_, ?_⟩⟩
    · simp; omega
    · simp [hxs]
theorem St.shrink {w0 w : World} {g c : Nat} {e : TypeId} {x : Value} {l : List Asn} (h : St w0 (rowG g c e 1 1 [x] :: l) w) : St w0 (rowG g c e 1 0 [] :: l) w := by
  refine h.change fun fp hp => ⟨fp, ⟨?_, hp.2⟩, fun b hb _ => hb, Str.refl w, fun b _ hb => rfl⟩
  obtain ⟨h1, h2 | ⟨g', cap, cur', hv, h0, hh, h3, h4, h5, h6⟩⟩ := hp.1
  · cases h2.1
  · simp only [Value.slice.injEq, Option.some.injEq, Addr.mk.injEq] at hv
    obtain ⟨⟨rfl, _⟩, _, rfl⟩ := hv
    exact ⟨rfl, .inr ⟨g, c, cur', rfl, h0, hh, by omega, h4, h5, by simp⟩⟩
set_option maxRecDepth 100000 in
set_option maxHeartbeats 4000000 in
theorem src_draw_one {w0 w : World} {p : Nat} {now : Int} {L : List Asn} (d n : Int) (h : St w0 (srcA p now [d] :: L) w) (hn : 1 ≤ n) (d0 : 0 ≤ d) (d1 : d < 64) :
    Calls Tryz.prog 162 #[.pointer (some ⟨p, 0, none⟩), .int .i64 n] w fun e w' => e = .returned (.int .i64 (d % n)) ∧ St w0 (srcA p now [] :: L) w' := by
  have hd : decide (n < 1) = false := decide_eq_false (by omega)
  have hm : d.tmod n = d % n := Int.tmod_eq_emod_of_nonneg d0
  have huI : Tryz.prog.underlying 57 = some (.slice 3) := Tryz.underlying57
  have hzI : (Tryz.prog.info? 3).map (·.size) = some 1 := by kernel_rfl
  obtain ⟨v, h1⟩ := srcA_open h
  obtain ⟨c0, c1, f0, f1⟩ := cells2 (h1.cells 0 rfl)
  obtain ⟨g, c, rfl⟩ := row_some (h1.rowOf 1 rfl) Nat.one_pos
  obtain ⟨k0, _⟩ := h1.at_ 1 rfl 0 (u := .int .i64 d) rfl
  obtain ⟨_, hc⟩ := h1.row_lt 1 rfl
  simp only [List.length_cons, List.length_nil, Nat.zero_add] at c1 hc
  have H := Lib.hid h1
  clear h h1
  go_enter Tryz.func162, Tryz.ntmps162
  go_wp2
  go_region_law (refine step_copy_zero rfl _ _ _ _ (by rfl) 3 huI hzI _ _ _ _ _ _ (by rfl) (by rfl) (by first | rfl | simp) ?_)
  all_goals go_wp2
  all_goals go_region
  all_goals go_wp2
  all_goals go_ret
  all_goals first | (subst h; exact ⟨rfl, srcA_close (ds := []) (((H.out.swap.shrink.swap).setAt 0 rfl 1 _).drew.drew)⟩) | exact ⟨rfl, srcA_close (ds := []) (((H.out.swap.shrink.swap).setAt 0 rfl 1 _).drew.drew)⟩
set_option maxRecDepth 100000 in
set_option maxHeartbeats 4000000 in
theorem src_draw_more {w0 w : World} {p : Nat} {now : Int} {L : List Asn} (d n y : Int) (ys : List Int) (h : St w0 (srcA p now (d :: y :: ys) :: L) w) (hn : 1 ≤ n) (d0 : 0 ≤ d) (d1 : d < 64) :
    Calls Tryz.prog 162 #[.pointer (some ⟨p, 0, none⟩), .int .i64 n] w fun e w' => e = .returned (.int .i64 (d % n)) ∧ St w0 (srcA p now (y :: ys) :: L) w' := by
  have hd : decide (n < 1) = false := decide_eq_false (by omega)
  have hm : d.tmod n = d % n := Int.tmod_eq_emod_of_nonneg d0
  have huI : Tryz.prog.underlying 57 = some (.slice 3) := Tryz.underlying57
  have hzI : (Tryz.prog.info? 3).map (·.size) = some 1 := by kernel_rfl
  obtain ⟨v, h1⟩ := srcA_open h
  obtain ⟨c0, c1, f0, f1⟩ := cells2 (h1.cells 0 rfl)
  obtain ⟨g, c, rfl⟩ := row_some (h1.rowOf 1 rfl) (by simp)
  obtain ⟨A9, c9, e9, hmx⟩ := row_is (h1.rowOf 1 rfl)
  clear e9
  unfold maxLen at hmx
  obtain ⟨k0, _⟩ := h1.at_ 1 rfl 0 (u := .int .i64 d) rfl
  obtain ⟨_, hc⟩ := h1.row_lt 1 rfl
  obtain ⟨cur, hcur, _, hsz, htk, _⟩ := row_block (h1.row 1 rfl)
  have hsrc : ∀ j v, (dsV (y :: ys))[j]? = some v → w.cell? ((⟨g, 1, none⟩ : Addr).add j) = some v := fun j v hv => by
    have e : (⟨g, 1, none⟩ : Addr).add j = ⟨g, j + 1, none⟩ := by unfold Addr.add; split <;> simp_all <;> omega
    rw [e]
    exact (h1.at_ 1 rfl (j + 1) (u := v) (by simpa using hv)).1
  have hfit : 0 + (dsV (y :: ys)).length ≤ cur.size := by
    rw [hsz]
    simp only [List.length_map, List.length_cons] at hc ⊢
    omega
  have hone : ∀ u ∈ dsV (y :: ys), u.oneCell' = true := fun u hu => by
    obtain ⟨x, _, rfl⟩ := List.mem_map.1 hu
    rfl
  have H := Lib.hid h1
  obtain ⟨N, hN⟩ : ∃ N, ys.length + 1 + 1 = N := ⟨_, rfl⟩
  simp only [List.length_cons, hN] at c1 hc hmx
  have hcl : (dsV (y :: ys)).length = N - 1 := by simp; omega
  have r1 : (1 : Int) ≤ (N : Int) := by omega
  have r2 : ¬ c = 1 := by omega
  have r3 : ((N : Int) == 0) = false := by simp; omega
  have r4 : (0 : Int) < (N : Int) := by omega
  have r5 : (0 : Int) ≤ (N : Int) - 1 := by omega
  have r6 : (N : Int) - 1 ≤ (c : Int) := by omega
  have r7 : ((N : Int) - 1).toNat = N - 1 := by omega
  have HR := Lib.hid (show St w0 (rowG g c 3 1 (N - 1) (dsV (y :: ys)) :: srcB p now (.slice (some ⟨g, 0, none⟩) N c) :: L) (w.drew.setRow g (cur.toList.take 0 ++ (dsV (y :: ys) ++ cur.toList.drop (0 + (dsV (y :: ys)).length))).toArray) from by
    have h2 := h1.drew.swap
    simp only [List.length_cons] at h2
    have h3 := h2.shift (x := .int .i64 d) cur hcur
    rw [← hN]
    exact h3)
  have e0 : (N - 1 : Nat) = ys.length + 1 := by omega
  clear h h1
  go_enter Tryz.func162, Tryz.ntmps162
  go_wp2
  go_region_law ((refine step_copy_row rfl _ _ _ _ (by rfl) 3 huI hzI g 0 _ _ ⟨g, 1, none⟩ _ _ (by rfl) (by rfl) cur 3 hcur (dsV (y :: ys)) (by rw [hcl, e0]; exact (Nat.min_eq_left (show ys.length + 1 ≤ N by omega)).symm) hsrc hfit hone ?_))
  all_goals (generalize hG : World.setRow _ g _ = W1)
  all_goals have hG2 : w.drew.setRow g (cur.toList.take 0 ++ (dsV (y :: ys) ++ cur.toList.drop (0 + (dsV (y :: ys)).length))).toArray = W1 := by rw [← hG]; simp
  all_goals have hS := HR.out
  all_goals rw [hG2] at hS
  all_goals have HS := Lib.hid hS
  all_goals clear hS hG hG2 c0 c1 f0 f1 hcur hsrc
  all_goals obtain ⟨q0, q1, q2, q3⟩ := cells2 (HS.out.cells 1 rfl)
  all_goals go_wp2
  all_goals go_region
  all_goals go_wp2
  all_goals go_ret
  all_goals refine ⟨rfl, srcA_close (ds := y :: ys) (v := .slice (some ⟨g, 0, none⟩) (ys.length + 1) c) ?_⟩
  all_goals have h9 := (HS.out.swap.setAt 0 rfl 1 (.slice (some ⟨g, 0, none⟩) (ys.length + 1) c)).drew
  all_goals rw [e0] at h9
  all_goals exact h9
theorem src_draw {w0 w : World} {p : Nat} {now : Int} {ds : List Int} {L : List Asn} (n x : Int) (ds' : List Int) (h : St w0 (srcA p now ds :: L) w) (hok : DsOk ds) (hx : drawI ds n = x) (hd : drawR ds n = ds') :
    Calls Tryz.prog 162 #[.pointer (some ⟨p, 0, none⟩), .int .i64 n] w fun e w' => e = .returned (.int .i64 x) ∧ St w0 (srcA p now ds' :: L) w' := by
  subst hx hd
  unfold drawI drawR
  by_cases hn : n < 1
  · simp only [hn, if_true]
    exact src_draw_low n h hn
  · simp only [hn, if_false]
    match ds, h, hok with
    | [], h, _ => exact src_draw_none n h (by omega)
    | [d], h, hok =>
      have := hok d (by simp)
      exact src_draw_one d n h (by omega) this.1 this.2
    | d :: y :: ys, h, hok =>
      have := hok d (by simp)
      exact src_draw_more d n y ys h (by omega) this.1 this.2
/-- A draw more, if it is small. -/
def addE (d : Int) : Int := if 64 ≤ d then 1 else 0
def addR (ds : List Int) (d : Int) : List Int := if 64 ≤ d then ds else ds ++ [d]
theorem src_add {w0 w : World} {p : Nat} {now : Int} {ds : List Int} {L : List Asn} (d x : Int) (ds' : List Int) (h : St w0 (srcA p now ds :: L) w) (hd0 : 0 ≤ d) (hl : ds.length ≤ 1000000000000) (hx : addE d = x) (hd : addR ds d = ds') :
    Calls Tryz.prog 28 #[.pointer (some ⟨p, 0, none⟩), .int .u64 d] w fun e w' => e = .returned (.int .i64 x) ∧ St w0 (srcA p now ds' :: L) w' := by
  subst hx hd
  unfold addE addR
  by_cases c : 64 ≤ d
  · simp only [c, if_true]
    exact src_add_no d h c
  · simp only [c, if_false]
    exact src_add_ok d h hd0 (by omega) hl
theorem DsOk.add {ds : List Int} (h : DsOk ds) {d : Int} (hd : 0 ≤ d) : DsOk (addR ds d) := by
  unfold addR
  by_cases c : 64 ≤ d
  · simpa [c] using h
  · simp only [c, if_false]
    intro x hx
    rcases List.mem_append.1 hx with h1 | h1
    · exact h x h1
    · obtain rfl := List.mem_singleton.1 h1
      omega
theorem DsOk.draw {ds : List Int} (h : DsOk ds) (n : Int) : DsOk (drawR ds n) := by
  unfold drawR
  by_cases c : n < 1
  · simpa [c] using h
  · simp only [c, if_false]
    exact fun x hx => h x (List.mem_of_mem_tail hx)
theorem drawI_rng {ds : List Int} {n : Int} (h : 1 ≤ n) : 0 ≤ drawI ds n ∧ drawI ds n < n := by
  unfold drawI
  rw [if_neg (by omega)]
  cases ds with
  | nil => exact ⟨Int.le_refl _, by show (0 : Int) < n; omega⟩
  | cons d r => exact ⟨Int.emod_nonneg _ (by omega), Int.emod_lt_of_pos _ (by omega)⟩
end Go.Proofs.YtgfeagggkplegaaGreat
