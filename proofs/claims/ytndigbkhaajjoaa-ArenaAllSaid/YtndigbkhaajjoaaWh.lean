/-
  Rows of node numbers: one behind the other; each seen once.
-/
import Derived.Test.YtndigbkhaajjoaaClone32
import Derived.Test.YtndigbkhaajjoaaRe
import Derived.Deep.RegionLaw
import Derived.Deep.AppendLies
import Derived.Laws.IdiomCopy
namespace Go.Proofs.Ytndigbkhaajjoaa
open Go.RowKit
set_option linter.unusedVariables false
set_option linter.unusedSimpArgs false

theorem run_append_none {P : Program} (w : World) (t ty e : TypeId) (i : TypeInfo) (ht : P.underlying t = some (.slice e)) (hi : P.info? e = some i) (B : Option Addr) (n cap : Nat) (hB : B = none → n = 0 ∧ cap = 0) (hn : n ≤ cap) (A : Option Addr) (c : Nat) :
    (Builtin.append_ #[t, t] ty #[.slice B n cap, .slice A 0 c]).run P w = .ok (.slice B n cap) w := by
  cases A with
  | none => cases B with
    | none => obtain ⟨rfl, rfl⟩ := hB rfl; simp [Builtin.append_, run_underlying ht, sizeOf, typeInfo, hi, Builtin.lenOf, go_sem]
    | some b => simp [Builtin.append_, run_underlying ht, sizeOf, typeInfo, hi, Builtin.lenOf, go_sem, hn]
  | some a =>
    have hfc := run_firstCells_some (P := P) w i.size 0 a 0 c [] (by simp) (fun j u h => by simp at h)
    cases B with
    | none => obtain ⟨rfl, rfl⟩ := hB rfl; simp [Builtin.append_, run_underlying ht, sizeOf, typeInfo, hi, Builtin.lenOf, hfc, go_sem]
    | some b =>
      have hst := run_storeCells_cells (P := P) b.block (b.off + 0) [] 0 w (by simp) (by simp) (by simp)
      simp [Builtin.append_, run_underlying ht, sizeOf, typeInfo, hi, Builtin.lenOf, hfc, go_sem, hn]
theorem infoA_u32 : (Try.prog.info? 23).map (fun i => (i.zero, i.size, i.bytes)) = some (some (.int .u32 0), 1, 4) := by kernel_rfl
/-- append(all, x...), a row of one's own and a row that can be read, empty or not. -/
theorem wpList_app32 {ops : Array Oper} {rest : List Oper} {o : Oper} {a : Act} {w w0 : World} {L : List Asn} {Q : Exit → Act → World → Prop} (hg : o.guard = none) (s x : Operand)
    (ho : o.op = .call { callee := .builtin .append, args := #[s, x], argTypes := #[33, 33] }) (A0 : Option Addr) (k c0 : Nat) (l0 : List Int) (hs : a.eval s = .slice A0 k c0)
    (hS : St w0 (rowA 23 1 (.slice A0 k c0) k (l0.map u32V) :: L) w) (A : Option Addr) (m c : Nat) (l : List Int) (hx : a.eval x = .slice A m c) (hr : Rd32 w A l) (hl : l.length = m) (hm : k + m ≤ 1000000)
    (h : ∀ A1 c1 w', St w0 (rowA 23 1 (.slice A1 (k + m) c1) (k + m) ((l0 ++ l).map u32V) :: L) w' → wpList Try.prog ops Q rest (a.put o.dst (.slice A1 (k + m) c1)) w') : wpList Try.prog ops Q (o :: rest) a w := by
  obtain ⟨i0, hi0, hz0, hz1, hz2⟩ := info_parts infoA_u32
  have hw := hS.rowOf 0 rfl
  rcases Nat.eq_zero_or_pos m with rfl | hm0
  · refine wpList_plain hg fun _ hK => ?_
    have hcap : (A0 = none → k = 0 ∧ c0 = 0) ∧ k ≤ c0 := by
      rcases hw.2 with ⟨e, e0⟩ | ⟨g, cap, cur, e, _, _, h1, _⟩
      · simp only [Value.slice.injEq] at e
        exact ⟨fun _ => ⟨e0, e.2.2⟩, by omega⟩
      · simp only [Value.slice.injEq] at e
        exact ⟨fun e1 => (by rw [e.1] at e1; cases e1), by omega⟩
    have hrun := run_append_none (P := Try.prog) w 33 o.type 23 i0 Try.underlying33 hi0 A0 k c0 hcap.1 hcap.2 A c
    unfold Oper.wp
    simp [execOp, ho, resolve, invoke, builtin, hs, hx, hrun, Result.andThen]
    have el : l = [] := List.length_eq_zero_iff.1 hl
    subst el
    refine hK _ _ (h A0 c0 w ?_)
    rw [List.append_nil]
    exact hS
  · obtain ⟨ad, rfl, hcc⟩ := hr.2 (by omega)
    refine wpList_append_lies _ hg s x _ ho 0 23 i0 _ 1 4 Try.underlying33 hi0 hz0 hz1 hz2 rfl (by decide) _ k (l0.map u32V) hs hw ad m c (l.map u32V) hx (by simp [hl]) hcc (fun u hu => by obtain ⟨x, _, rfl⟩ := List.mem_map.1 hu; rfl) hm0 (by unfold maxLen; omega) (by omega) (Nat.zero_le _) _ rfl ?_
    intro g cp w4 hown hgrow hat hlt
    refine h _ _ _ ?_
    rw [List.map_append]
    exact hS.append hown hgrow hat
/-- An empty row that is written out. -/
theorem St.lit0 {w0 w : World} {L : List Asn} (h : St w0 L w) : St w0 (rowA 23 1 (.slice (some ⟨w.heap.size, 0, none⟩) 0 0) 0 (([] : List Int).map u32V) :: L) (w.alloc (.cells #[] 23)) :=
  h.more (bl_alloc (bl_refl _) _) ⟨⟨rfl, .inr ⟨_, 0, #[], rfl, Nat.zero_le _, heap_new rfl, by simp, by simp, by simp, by simp⟩⟩, fun b hb => by cases hb; exact Nat.le_refl _⟩
/-- How often each node was seen among the first i. -/
def seenR (nn : Nat) (all : List Int) (i : Nat) : List Value := (List.range (nn + 1)).map fun x : Nat => Value.int .i64 ((all.take i).count (x : Int) : Nat)
theorem seenR_get {nn : Nat} {all : List Int} {i k : Nat} (hk : k ≤ nn) (hn : all.Nodup) (hi : all[i]? = some (k : Int)) : (seenR nn all i)[k]? = some (.int .i64 0) := by
  have h0 : (all.take i).count (k : Int) = 0 := by
    refine List.count_eq_zero.2 fun hm => ?_
    obtain ⟨j, hj, e⟩ := List.mem_iff_getElem.1 hm
    have hji : j < i := by have := hj; rw [List.length_take] at this; omega
    have hil := (List.getElem?_eq_some_iff.1 hi).1
    have e2 := (List.getElem?_eq_some_iff.1 hi).2
    rw [List.getElem_take] at e
    have := (List.getElem_inj hn).1 (e.trans e2.symm)
    omega
  simp [seenR, List.getElem?_map, h0, show k < nn + 1 by omega]
theorem seenR_set {nn : Nat} {all : List Int} {i k : Nat} (hn : all.Nodup) (hi : all[i]? = some (k : Int)) (hk : k ≤ nn) : (seenR nn all i).set k (.int .i64 (0 + 1)) = seenR nn all (i + 1) := by
  have hg := seenR_get hk hn hi
  obtain ⟨hil, e⟩ := List.getElem?_eq_some_iff.1 hi
  have ht : all.take (i + 1) = all.take i ++ [(k : Int)] := by rw [List.take_add_one, hi]; rfl
  apply List.ext_getElem?
  intro j
  by_cases c : j = k
  · subst c
    rw [List.getElem?_set_self (List.getElem?_eq_some_iff.1 hg).1]
    have h0 : (all.take i).count (j : Int) = 0 := by
      have h1 : (seenR nn all i)[j]? = some (.int .i64 ((all.take i).count (j : Int) : Nat)) := by simp [seenR, List.getElem?_map, show j < nn + 1 by omega]
      rw [hg] at h1
      simp only [Option.some.injEq, Value.int.injEq, true_and] at h1
      omega
    simp [seenR, List.getElem?_map, ht, List.count_append, h0, show j < nn + 1 by omega]
  · rw [List.getElem?_set_ne (fun e => c e.symm)]
    by_cases d : j < nn + 1
    · have : ¬ (k : Int) = (j : Int) := by omega
      simp [seenR, List.getElem?_map, d, ht, List.count_append, List.count_cons, this]
    · simp [seenR, List.getElem?_map, d]
theorem seenR_zero (nn : Nat) (all : List Int) : seenR nn all 0 = List.replicate (nn + 1) (.int .i64 0) := by
  apply List.ext_getElem?
  intro j
  by_cases d : j < nn + 1
  · simp [seenR, List.getElem?_map, d, List.getElem?_replicate]
  · simp [seenR, List.getElem?_map, d, List.getElem?_replicate]
theorem seenR_len (nn : Nat) (all : List Int) (i : Nat) : (seenR nn all i).length = nn + 1 := by simp [seenR]
def nzL (hs : List Int) : List Int := hs.filter (fun h => h != 0)
theorem nzL_snoc (hs : List Int) {i : Nat} {x : Int} (h : hs[i]? = some x) : nzL (hs.take (i + 1)) = nzL (hs.take i) ++ (if x = 0 then [] else [x]) := by
  rw [List.take_add_one, h]
  unfold nzL
  rw [List.filter_append]
  by_cases c : x = 0 <;> simp [c]
end Go.Proofs.Ytndigbkhaajjoaa
