/-
  slices.Concat of two rows of words, lifo.put, Pop, Push.
-/
import Derived.Test.YtgfeagggkplegaaGreatRe
import Derived.Test.YtgfeagggkplegaaGreatRow2
import Derived.Test.YtgfeagggkplegaaGreatFresh
import Derived.Deep.RegionLaw
import Derived.Deep.AppendLies
import Derived.Deep.LoopGhost
import Derived.Laws.IdiomCopy
import Derived.Lib.AppendZeros
import Derived.OwnWalk
import Derived.Deep.DeepCutAuto
import Derived.Deep.RegionHeld3
namespace Go.Proofs.YtgfeagggkplegaaGreat
open Go.RowKit
set_option linter.unusedVariables false
set_option linter.unusedSimpArgs false

/-- A row of words of its own. -/
def row64 (v : Value) (n : Nat) (l : List Int) : Asn := rowA 25 1 v n (wsV l)
theorem app64_none {P : Program} (w : World) (t ty e : TypeId) (i : TypeInfo) (ht : P.underlying t = some (.slice e)) (hi : P.info? e = some i) (B : Option Addr) (n cap : Nat) (hB : B = none → n = 0 ∧ cap = 0) (hn : n ≤ cap) (A : Option Addr) (c : Nat) :
    (Builtin.append_ #[t, t] ty #[.slice B n cap, .slice A 0 c]).run P w = .ok (.slice B n cap) w := by
  cases A with
  | none => cases B with
    | none => obtain ⟨rfl, rfl⟩ := hB rfl; simp [Builtin.append_, run_underlying ht, sizeOf, typeInfo, hi, Builtin.lenOf, go_sem]
    | some b => simp [Builtin.append_, run_underlying ht, sizeOf, typeInfo, hi, Builtin.lenOf, go_sem, hn]
  | some a =>
    have hfc := run_firstCells_some (P := P) w i.size 0 a 0 c [] (by simp) (fun j u h => by simp at h)
    cases B with
    | none => obtain ⟨rfl, rfl⟩ := hB rfl; simp [Builtin.append_, run_underlying ht, sizeOf, typeInfo, hi, Builtin.lenOf, hfc, go_sem]
    | some b =>
      have hst := run_storeCells_cells (P := P) b.block (b.off + 0) [] 0 w (by simp) (by simp) (by simp)
      simp [Builtin.append_, run_underlying ht, sizeOf, typeInfo, hi, Builtin.lenOf, hfc, go_sem, hn]
theorem infoA_u64 : (Tryz.prog.info? 25).map (fun i => (i.zero, i.size, i.bytes)) = some (some (.int .u64 0), 1, 8) := by kernel_rfl
/-- append(all, x...) of words: a row of one's own and a row that can be read, empty or not. -/
theorem wpList_app64 {ops : Array Oper} {rest : List Oper} {o : Oper} {a : Act} {w w0 : World} {L : List Asn} {Q : Exit → Act → World → Prop} (hg : o.guard = none) (s x : Operand)
    (ho : o.op = .call { callee := .builtin .append, args := #[s, x], argTypes := #[35, 35] }) (A0 : Option Addr) (k c0 : Nat) (l0 : List Int) (hs : a.eval s = .slice A0 k c0)
    (hS : St w0 (row64 (.slice A0 k c0) k l0 :: L) w) (A : Option Addr) (m c : Nat) (l : List Int) (hx : a.eval x = .slice A m c) (hr : RdU w A l) (hl : l.length = m) (hm : k + m ≤ 1000000)
    (h : ∀ A1 c1 w', St w0 (row64 (.slice A1 (k + m) c1) (k + m) (l0 ++ l) :: L) w' → wpList Tryz.prog ops Q rest (a.put o.dst (.slice A1 (k + m) c1)) w') : wpList Tryz.prog ops Q (o :: rest) a w := by
  obtain ⟨i0, hi0, hz0, hz1, hz2⟩ := info_parts infoA_u64
  have hw := hS.rowOf 0 rfl
  rcases Nat.eq_zero_or_pos m with rfl | hm0
  · refine wpList_plain hg fun _ hK => ?_
    have hcap : (A0 = none → k = 0 ∧ c0 = 0) ∧ k ≤ c0 := by
      rcases hw.2 with ⟨e, e0⟩ | ⟨g, cap, cur, e, _, _, h1, _⟩
      · simp only [Value.slice.injEq] at e
        exact ⟨fun _ => ⟨e0, e.2.2⟩, by omega⟩
      · simp only [Value.slice.injEq] at e
        exact ⟨fun e1 => (by rw [e.1] at e1; cases e1), by omega⟩
    have hrun := app64_none (P := Tryz.prog) w 35 o.type 25 i0 Tryz.underlying35 hi0 A0 k c0 hcap.1 hcap.2 A c
    unfold Oper.wp
    simp [execOp, ho, resolve, invoke, builtin, hs, hx, hrun, Result.andThen]
    have el : l = [] := List.length_eq_zero_iff.1 hl
    subst el
    refine hK _ _ (h A0 c0 w ?_)
    rw [List.append_nil]
    exact hS
  · obtain ⟨ad, rfl, hcc⟩ := hr.2 (by omega)
    refine wpList_append_lies _ hg s x _ ho 0 25 i0 _ 1 8 Tryz.underlying35 hi0 hz0 hz1 hz2 rfl (by decide) _ k (wsV l0) hs hw ad m c (wsV l) hx (by simp [wsV, hl]) hcc (fun u hu => by unfold wsV at hu; obtain ⟨x, _, rfl⟩ := List.mem_map.1 hu; rfl) hm0 (by unfold maxLen; omega) (by omega) (Nat.zero_le _) _ rfl ?_
    intro g cp w4 hown hgrow hat hlt
    refine h _ _ _ ?_
    have e : wsV l0 ++ wsV l = wsV (l0 ++ l) := by simp [wsV]
    rw [e] at hown
    exact hS.append hown hgrow hat
/-- Two states, one since the other's world. -/
theorem St.joined {w0 w w' : World} {L : List Asn} {a : Asn} (h : St w0 L w) (k : St w [a] w') : St w0 (a :: L) w' := by
  obtain ⟨hb, F, ho, hh⟩ := k
  exact h.more hb (a.mono (hh 0 a rfl) fun b _ hf => ⟨ho.lo 0 b hf, rfl⟩)
/-- slices.Grow of nothing. -/
theorem grow_zero (w : World) : Calls Tryz.prog 132 #[.slice none 0 0, .int .i64 0] w fun e w' => e = .returned (.slice none 0 0) ∧ w' = w := by
  go_enter Tryz.func132, Tryz.ntmps132
  go_wp2
  go_ret
  exact ⟨rfl, rfl⟩
theorem grow_some (n : Nat) (w : World) (h0 : 0 < n) (h1 : n ≤ 1000000) : Calls Tryz.prog 132 #[.slice none 0 0, .int .i64 n] w fun e w' => ∃ b c, e = .returned (.slice (some ⟨b, 0, none⟩) 0 c) ∧ St w [row64 (.slice (some ⟨b, 0, none⟩) 0 c) 0 []] w' := by
  obtain ⟨i0, hi0, hz0, hz1, hz2⟩ := info_parts infoA_u64
  have hrz : ∀ ty, (Builtin.append_ #[35, 3] ty #[.slice none 0 0, .int .i64 (n : Int)]).run Tryz.prog w =
      .ok (.slice (some ⟨w.heap.size, 0, none⟩) n (grownCap w n 0 25)) (w.drew.alloc (.cells (Builtin.zeroCells (Value.int .u64 0).cells n ++ Builtin.zeroCells (Value.int .u64 0).cells (grownCap w n 0 25 - n)) 25)) := fun ty =>
    Lib.run_append_nil_zeros w 35 3 ty 25 i0 (.int .u64 0) .i64 .i64 Tryz.underlying35 Tryz.underlying3 hi0 hz0 n h0 (by rw [hz1]; decide) (by omega) (by rw [hz2]; omega)
  have hGn : n ≤ grownCap w n 0 25 := grownCap_ge w _ _ _
  obtain ⟨G, hG⟩ : ∃ G, G = grownCap w n 0 25 := ⟨_, rfl⟩
  rw [← hG] at hrz hGn
  have hG63 : G ≤ maxLen := by rw [hG]; exact grownCap_le_maxLen w n 0 25 (by unfold maxLen; omega)
  have hG64 : G ≤ 9223372036854775807 := by unfold maxLen at hG63; omega
  have c1 : decide ((n : Int) < 0) = false := decide_eq_false (by omega)
  have c2 : decide (0 < (n : Int)) = true := decide_eq_true (by omega)
  have e1 : IntKind.i64.wrap ((n : Int) - 0) = (n : Int) := by rw [IntKind.wrap_i64]; omega
  have e2 : IntKind.i64.wrap (n : Int) = (n : Int) := by rw [IntKind.wrap_i64]; omega
  have hst : St w [row64 (.slice (some ⟨w.heap.size, 0, none⟩) 0 G) 0 []] (w.drew.alloc (.cells (Builtin.zeroCells (Value.int .u64 0).cells n ++ Builtin.zeroCells (Value.int .u64 0).cells (G - n)) 25)) :=
    (St.nil w).more (bl_alloc (bl_drew (bl_refl _)) _) ⟨⟨rfl, .inr ⟨_, G, _, rfl, Nat.zero_le _, heap_new rfl, by simp, by first | exact hG63 | (simp; exact hG63), by rw [Array.size_append, size_zeroCells, size_zeroCells]; show n * 1 + (G - n) * 1 = G * 1; omega, by simp [wsV]⟩⟩, fun b hb => by cases hb; exact Nat.le_refl _⟩
  have HST := Lib.hid hst
  clear hG hst
  go_enter Tryz.func132, Tryz.ntmps132
  go_wp2_with (at_builtin; refine Lib.wpList_append_run _ rfl _ _ _ _ rfl _ _ rfl rfl _ _ (hrz _) ?_)
  all_goals (go_ret; exact ⟨_, _, rfl, HST.out⟩)
set_option maxRecDepth 20000 in
set_option maxHeartbeats 8000000 in
/-- slices.Concat of two rows. -/
theorem concat_two {w0 w : World} {L : List Asn} (b : Nat) (A B : Option Addr) (n m c d : Nat) (vs us : List Int) (hS : St w0 L w) (hc : w.heap[b]? = some (.cells #[.slice A n c, .slice B m d] 35 (0, 0))) (hA : RdU w A vs) (hB : RdU w B us) (hn : vs.length = n) (hm : us.length = m) (n1 : n ≤ 100000) (m1 : m ≤ 100000) :
    Calls Tryz.prog 105 #[.slice (some ⟨b, 0, none⟩) 2 2] w fun e w' => ∃ A' c', e = .returned (.slice A' (n + m) c') ∧ St w0 (row64 (.slice A' (n + m) c') (n + m) (vs ++ us) :: L) w' ∧ Below w.heap.size w w' := by
  have H := Lib.hid hS
  have HA := Lib.hid hA
  have HB := Lib.hid hB
  have HN := Lib.hid hn
  have HM := Lib.hid hm
  have hb0 := cell_of hc 0
  have hb1 := cell_of hc 1
  have HC := Lib.hid hc
  have e0 : IntKind.i64.wrap (0 + (n : Int)) = (n : Int) := by rw [IntKind.wrap_i64]; omega
  have e1 : IntKind.i64.wrap ((n : Int) + (m : Int)) = ((n + m : Nat) : Int) := by rw [IntKind.wrap_i64]; omega
  have l0 : decide ((n : Int) < 0) = false := decide_eq_false (by omega)
  have l1 : decide (((n + m : Nat) : Int) < 0) = false := decide_eq_false (by omega)
  clear hS hA hB hn hm hc
  go_enter Tryz.func105, Tryz.ntmps105
  go_wp2
  go_loopg [3, 11] 2 (fun kq y z w' => w' = w ∧ ((kq = 2 ∧ y = .int .i64 0 ∧ z = .int .i64 0) ∨ (kq = 1 ∧ y = .int .i64 (n : Int) ∧ z = .int .i64 1) ∨ (kq = 0 ∧ y = .int .i64 ((n + m : Nat) : Int) ∧ z = .int .i64 2)))
  case atStart => exact ⟨rfl, .inl ⟨rfl, rfl, rfl⟩⟩
  case round =>
    obtain ⟨rfl, ⟨rfl, rfl, rfl⟩ | ⟨rfl, rfl, rfl⟩ | ⟨rfl, rfl, rfl⟩⟩ := hrel
    · go_wp2
      go_roundg 1
      case measure => omega
      case rel => exact ⟨rfl, .inr (.inl ⟨rfl, by rfl, by rfl⟩)⟩
    · go_wp2
      go_roundg 0
      case measure => omega
      case rel => exact ⟨rfl, .inr (.inr ⟨rfl, by rfl, by rfl⟩)⟩
    · have HG : Hid (∀ w : World, Calls Tryz.prog 132 #[.slice none 0 0, .int .i64 ((n + m : Nat) : Int)] w fun e w' => ∃ A c, e = .returned (.slice A 0 c) ∧ St w [row64 (.slice A 0 c) 0 []] w') := Lib.hid fun w => by
        rcases Nat.eq_zero_or_pos (n + m) with h | h
        · rw [h]
          refine (grow_zero w).mono ?_
          rintro e w' ⟨rfl, rfl⟩
          exact ⟨none, 0, rfl, (St.nil _).rowNil _ _⟩
        · refine (grow_some (n + m) w h (by omega)).mono ?_
          rintro e w' ⟨g, c, rfl, h2⟩
          exact ⟨_, _, rfl, h2⟩
      clear hb0 hb1
      go_wp2_with (go_at_call 132; refine (HG.out _).mono ?_; rintro e w1 ⟨A1, c1, rfl, h⟩; (have H1 := Lib.hid h); clear h)
      go_loopg [6, 27] 2 (fun kq y z w' => ∃ (A2 : Option Addr) (k2 c2 : Nat) (l2 : List Int), y = .slice A2 k2 c2 ∧ St wr [row64 (.slice A2 k2 c2) k2 l2] w' ∧ ((kq = 2 ∧ k2 = 0 ∧ l2 = [] ∧ z = .int .i64 0) ∨ (kq = 1 ∧ k2 = n ∧ l2 = vs ∧ z = .int .i64 1) ∨ (kq = 0 ∧ k2 = n + m ∧ l2 = vs ++ us ∧ z = .int .i64 2)))
      case atStart => exact ⟨A1, 0, c1, [], rfl, H1.out, .inl ⟨rfl, rfl, rfl, rfl⟩⟩
      case round =>
        obtain ⟨A2, k2, c2, l2, rfl, h, h5⟩ := hrel
        have hb0 := cell_of ((h.bel.block b (lt_of_heap HC.out)).trans HC.out) 0
        have hb1 := cell_of ((h.bel.block b (lt_of_heap HC.out)).trans HC.out) 1
        have HS := Lib.hid h
        have HRA := Lib.hid (HA.out.kept h.bel)
        have HRB := Lib.hid (HB.out.kept h.bel)
        clear h H1
        obtain ⟨rfl, rfl, rfl, rfl⟩ | ⟨rfl, rfl, rfl, rfl⟩ | ⟨rfl, rfl, rfl, rfl⟩ := h5
        · go_wp2_with (at_builtin; go_must (refine wpList_app64 (by rfl) _ _ (by rfl) A2 0 c2 [] (by rfl) HS.out A n c vs (by rfl) HRA.out HN.out (by omega) ?_); go_must (intro A3 c3 w3 h); (have H3 := Lib.hid h); clear h)
          go_roundg 1
          case measure => omega
          case rel => exact ⟨A3, n, c3, vs, by rfl, by have h9 := H3.out; simp only [Nat.zero_add, List.nil_append] at h9; exact h9, .inr (.inl ⟨rfl, rfl, rfl, by rfl⟩)⟩
        · go_wp2_with (at_builtin; go_must (refine wpList_app64 (by rfl) _ _ (by rfl) A2 _ c2 _ (by rfl) HS.out B m d us (by rfl) HRB.out HM.out (by omega) ?_); go_must (intro A3 c3 w3 h); (have H3 := Lib.hid h); clear h)
          go_roundg 0
          case measure => omega
          case rel => exact ⟨A3, _, c3, _, by rfl, H3.out, .inr (.inr ⟨rfl, rfl, rfl, by rfl⟩)⟩
        · go_wp2
          go_ret
          exact ⟨A2, c2, rfl, H.out.joined HS.out, HS.out.bel⟩
set_option maxRecDepth 20000 in
set_option maxHeartbeats 8000000 in
/-- lifo.put: a row, and what is put behind it. -/
theorem put_two {w0 w : World} {L : List Asn} (A B : Option Addr) (n m c d : Nat) (vs us : List Int) (hS : St w0 L w) (hA : RdU w A vs) (hB : RdU w B us) (hn : vs.length = n) (hm : us.length = m) (n1 : n ≤ 100000) (m1 : m ≤ 100000) :
    Calls Tryz.prog 81 #[.slice A n c, .slice B m d] w fun e w' => ∃ A' c', e = .returned (.slice A' (n + m) c') ∧ St w0 (row64 (.slice A' (n + m) c') (n + m) (vs ++ us) :: L) w' ∧ Below w.heap.size w w' := by
  have H := Lib.hid hS
  have HA := Lib.hid hA
  have HB := Lib.hid hB
  have HN := Lib.hid hn
  have HM := Lib.hid hm
  clear hS hA hB hn hm
  go_enter Tryz.func81, Tryz.ntmps81
  go_wp2_with (go_at_call 105; refine (concat_two _ A B n m c d vs us (H.out.below (bl_alloc (bl_refl _) _)) (heap_new rfl) (HA.out.kept (bl_alloc (bl_refl _) _)) (HB.out.kept (bl_alloc (bl_refl _) _)) HN.out HM.out n1 m1).mono ?_; rintro e w1 ⟨A', c', rfl, h, hb⟩; (have H1 := Lib.hid h); (have HB1 := Lib.hid ((bl_alloc (bl_refl w) _).trans (hb.mono (by simp)))); clear h hb)
  go_ret
  exact ⟨A', c', rfl, H1.out, HB1.out⟩
theorem RdU.nil_ (w : World) : RdU w none [] := ⟨fun _ => rfl, fun h => absurd h (by decide)⟩
theorem RdU.one {w : World} {b : Nat} {v : Int} {e : TypeId} (h : w.heap[b]? = some (.cells #[.int .u64 v] e (0, 0))) : RdU w (some ⟨b, 0, none⟩) [v] :=
  ⟨fun e => (by simp at e), fun _ => ⟨_, rfl, fun j u hu => by
    cases j with
    | zero => rw [add_zero', cell_of h]; simpa using hu
    | succ j => simp at hu⟩⟩
set_option maxHeartbeats 8000000 in
/-- lifo.Push. -/
theorem push_full {w0 w : World} {L : List Asn} (A : Option Addr) (n c : Nat) (vs : List Int) (most v : Int) (hS : St w0 L w) (hA : RdU w A vs) (hn : vs.length = n) (n1 : n ≤ 100000) (h : most ≤ n) :
    Calls Tryz.prog 49 #[.slice A n c, .int .i64 most, .int .u64 v] w fun e w' => ∃ A' c', e = .returned (.tuple #[.slice A' n c', .int .i64 2]) ∧ St w0 (row64 (.slice A' n c') n vs :: L) w' := by
  have HP := Lib.hid (fun w (h1 : St w0 L w) h2 => put_two A none n 0 c 0 vs [] h1 h2 (RdU.nil_ _) hn rfl n1 (by decide))
  have H := Lib.hid hS
  have HA := Lib.hid hA
  have c1 : decide (most ≤ (n : Int)) = true := decide_eq_true h
  clear hS hA hn
  go_enter Tryz.func49, Tryz.ntmps49
  go_wp2_with (go_at_call 81; refine (HP.out _ H.out HA.out).mono ?_; rintro e w1 ⟨A', c', rfl, h, hb⟩; (rw [List.append_nil] at h); (have H1 := Lib.hid h); clear h hb)
  go_ret2
  exact ⟨A', c', rfl, H1.out⟩
set_option maxHeartbeats 8000000 in
theorem push_room {w0 w : World} {L : List Asn} (A : Option Addr) (n c : Nat) (vs : List Int) (most v : Int) (hS : St w0 L w) (hA : RdU w A vs) (hn : vs.length = n) (n1 : n ≤ 100000) (h : n < most) :
    Calls Tryz.prog 49 #[.slice A n c, .int .i64 most, .int .u64 v] w fun e w' => ∃ A' c', e = .returned (.tuple #[.slice A' (n + 1) c', .int .i64 1]) ∧ St w0 (row64 (.slice A' (n + 1) c') (n + 1) (vs ++ [v]) :: L) w' := by
  have HP := Lib.hid (fun w (h1 : St w0 L w) h2 B d h3 => put_two A B n 1 c d vs [v] h1 h2 h3 hn rfl n1 (by decide))
  have H := Lib.hid hS
  have HA := Lib.hid hA
  have c1 : decide (most ≤ (n : Int)) = false := decide_eq_false (by omega)
  clear hS hA hn
  go_enter Tryz.func49, Tryz.ntmps49
  go_wp2_with (go_at_call 81; refine (HP.out _ (H.out.below (bl_alloc (bl_refl _) _)) (HA.out.kept (bl_alloc (bl_refl _) _)) _ _ (RdU.one (heap_new rfl))).mono ?_; rintro e w1 ⟨A', c', rfl, h, hb⟩; (have H1 := Lib.hid h); clear h hb)
  go_ret2
  exact ⟨A', c', rfl, H1.out⟩
set_option maxHeartbeats 8000000 in
/-- lifo.Pop. -/
theorem pop_none (A : Option Addr) (c : Nat) (w : World) :
    Calls Tryz.prog 48 #[.slice A 0 c] w fun e w' => e = .returned (.tuple #[.slice none 0 0, .int .u64 0, .int .i64 2]) ∧ w' = w := by
  go_enter Tryz.func48, Tryz.ntmps48
  go_wp2
  go_ret3
  exact ⟨rfl, rfl⟩
theorem wsV_get {ws : List Int} {j : Nat} (h : j < ws.length) : (wsV ws)[j]? = some (.int .u64 (ws[j]'h)) := by simp [wsV, h]
theorem RdU.take {w : World} {A : Option Addr} {ws : List Int} (h : RdU w A ws) (k : Nat) (hk : k ≤ ws.length) (hn : 0 < ws.length) : RdU w A (ws.take k) :=
  ⟨fun e => (by have := h.nil e; simp; omega), fun h0 => by
    obtain ⟨ad, e, hc⟩ := h.at_ hn
    refine ⟨ad, e, fun j u hu => hc j u ?_⟩
    rw [List.getElem?_map] at hu ⊢
    by_cases hj : j < k
    · rw [List.getElem?_take_of_lt hj] at hu; exact hu
    · rw [List.getElem?_take, if_neg hj] at hu; cases hu⟩
set_option maxRecDepth 20000 in
set_option maxHeartbeats 8000000 in
theorem pop_some {w0 w : World} {L : List Asn} (A : Option Addr) (n N c : Nat) (vs : List Int) (x : Int) (hN : N = n + 1) (hS : St w0 L w) (hA : RdU w A (vs ++ [x])) (hn : vs.length = n) (n1 : n ≤ 100000) (hc : N ≤ c) :
    Calls Tryz.prog 48 #[.slice A N c] w fun e w' => ∃ A' c', e = .returned (.tuple #[.slice A' n c', .int .u64 x, .int .i64 1]) ∧ St w0 (row64 (.slice A' n c') n vs :: L) w' := by
  obtain ⟨ad, rfl, hcc⟩ := hA.at_ (by simp)
  obtain ⟨ag, ao, asp⟩ := ad
  have hx := hcc n (.int .u64 x) (by rw [List.getElem?_map, List.getElem?_append_right (by omega)]; simp [hn])
  have hT := hA.take n (by simp; omega) (by simp)
  rw [List.take_append_of_le_length (by omega), List.take_of_length_le (by omega)] at hT
  have HX := Lib.hid hx
  have HP := Lib.hid (fun w (h1 : St w0 L w) (h2 : RdU w (some ⟨ag, ao, asp⟩) vs) => put_two (some ⟨ag, ao, asp⟩) none n 0 c 0 vs [] h1 h2 (RdU.nil_ _) hn rfl n1 (by decide))
  have H := Lib.hid hS
  have HA := Lib.hid hT
  have e1 : IntKind.i64.wrap ((N : Int) - 1) = (n : Int) := by rw [IntKind.wrap_i64]; omega
  have i0 : (0 : Int) ≤ (n : Int) := by omega
  have i1 : (n : Int) < (N : Int) := by omega
  have i2 : n < N := by omega
  have i3 : (n : Int) ≤ (c : Int) := by omega
  have i4 : n ≤ c := by omega
  have c1 : decide ((n : Int) < 0) = false := decide_eq_false (by omega)
  clear hS hA hn hcc hT hN
  go_enter Tryz.func48, Tryz.ntmps48
  go_upto_region 4 with (fail)
  go_region_held3 (fun w' => w'.cell? ((⟨ag, ao, asp⟩ : Addr).add n) = some (.int .u64 x)) (first | exact H1.out | exact HX.out) (first | (go_at_call 81; refine (HP.out _ (H.out.below (bl_drew (bl_refl _))) (HA.out.kept (bl_drew (bl_refl _)))).mono ?_; rintro e w1 ⟨A', c', rfl, h, hb⟩; (rw [List.append_nil] at h); (have H2 := Lib.hid h); (have H1 := Lib.hid (((bl_drew (bl_refl w)).trans hb).cell (World.block_lt_of_cell? _ _ HX.out) |>.trans HX.out)); clear h hb))
  go_wp2
  go_ret3
  exact ⟨A', c', rfl, H2.out⟩
end Go.Proofs.YtgfeagggkplegaaGreat
