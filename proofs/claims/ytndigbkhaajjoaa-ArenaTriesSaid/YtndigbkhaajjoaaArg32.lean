/-
  A slice of u32 that came in; its copy by append; steps of arena's machines with a shelf.
-/
import Derived.Test.YtndigbkhaajjoaaShown8s
import Derived.Test.YtndigbkhaajjoaaRunA
import Derived.Test.YtndigbkhaajjoaaWf
import Derived.Test.YtndigbkhaajjoaaOpen
namespace Go.Proofs.Ytndigbkhaajjoaa
open Go.RowKit
set_option linter.unusedVariables false
set_option linter.unusedSimpArgs false

theorem IsRow.rd32 {w : World} {A : Option Addr} {len cap : Nat} {zs : List Int} (h : IsRow .u32 w A len cap zs) : Rd32 w A (zs.take len) ∧ (zs.take len).length = len ∧ len ≤ cap ∧ cap ≤ maxLen ∧ ∀ x ∈ zs.take len, 0 ≤ x ∧ x < 4294967296 := by
  rcases h with ⟨rfl, rfl, rfl, rfl⟩ | ⟨ad, rfl, hl, hm, hz, hc, hw⟩
  · exact ⟨⟨fun _ => rfl, fun h => by simp at h⟩, rfl, Nat.le_refl _, Nat.zero_le _, fun x hx => by simp at hx⟩
  · have hlen : (zs.take len).length = len := by rw [List.length_take]; omega
    refine ⟨⟨fun e => (by simp at e), fun _ => ⟨ad, rfl, fun j u hu => ?_⟩⟩, hlen, hl, hm, fun x hx => rngU32 (hw x (List.mem_of_mem_take hx))⟩
    rw [List.getElem?_map] at hu
    obtain ⟨v, hv, rfl⟩ := Option.map_eq_some_iff.1 hu
    rw [List.getElem?_take] at hv
    split at hv
    · have := hc j (List.getElem?_eq_some_iff.1 hv).1
      rw [List.getD_eq_getElem?_getD, hv] at this
      exact this
    · cases hv
theorem Rd32.pre {w : World} {A : Option Addr} {l r : List Int} (h : Rd32 w A (l ++ r)) : Rd32 w A l :=
  ⟨fun e => by have := h.1 e; simp at this; exact this.1, fun h0 => by
    obtain ⟨ad, e, hc⟩ := h.2 (by simp; omega)
    refine ⟨ad, e, fun j u hu => hc j u ?_⟩
    rw [List.map_append, List.getElem?_append_left (List.getElem?_eq_some_iff.1 hu).1]
    exact hu⟩
theorem Rd32.zero (w : World) (A : Option Addr) : Rd32 w A [] := ⟨fun _ => rfl, fun h => absurd h (by simp)⟩
theorem wpList_append_copy32 {ops : Array Oper} {rest : List Oper} {o : Oper} {a : Act} {w : World} {Q : Exit → Act → World → Prop} (hg : o.guard = none) (s x : Operand)
    (ho : o.op = .call { callee := .builtin .append, args := #[s, x], argTypes := #[33, 33] }) (hty : o.type = 33) (b : Nat) (A : Option Addr) (m c : Nat) (l : List Int)
    (hs : a.eval s = .slice (some ⟨b, 0, none⟩) 0 0) (hx : a.eval x = .slice A m c) (hb : w.heap[b]? = some (.cells #[] 23 (0, 0))) (hbl : b + 1 = w.heap.size) (hr : Rd32 w A l) (hl : l.length = m) (hm : m ≤ 1000000)
    (h : ∀ a' c' w', Rd32 w' a' l → Below b w w' → wpList Try.prog ops Q rest (a.put o.dst (.slice a' m c')) w') : wpList Try.prog ops Q (o :: rest) a w := by
  obtain ⟨i0, hi0, hz0, hz1, hz2⟩ := info_parts info32
  rcases Nat.eq_zero_or_pos m with rfl | hm0
  · refine wpList_plain hg fun _ hK => ?_
    have hrun := run_append_zero (P := Try.prog) w 33 o.type 23 i0 Try.underlying33 hi0 ⟨b, 0, none⟩ A c
    unfold Oper.wp
    simp [execOp, ho, resolve, invoke, builtin, hs, hx, hrun, Result.andThen]
    exact hK _ _ (h _ _ _ (by rw [List.length_eq_zero_iff.1 hl]; exact Rd32.zero _ _) (Below.refl _ _))
  · obtain ⟨ad, rfl, hcc⟩ := hr.2 (by omega)
    refine wpList_append_lies _ hg s x _ ho b 23 i0 _ 1 4 Try.underlying33 hi0 hz0 hz1 hz2 rfl (by decide) (.slice (some ⟨b, 0, none⟩) 0 0) 0 [] hs ⟨rfl, .inr ⟨_, 0, #[], rfl, Nat.le_refl _, hb, by simp, by simp, by simp, by simp⟩⟩ ad m c (l.map u32V) hx (by simp [hl]) hcc (fun u hu => by obtain ⟨x, _, rfl⟩ := List.mem_map.1 hu; rfl) hm0 (by unfold maxLen; omega) (by omega) (by omega) _ rfl ?_
    intro g cp w4 hown hgrow hat hlt
    have e0 : 0 + m = m := Nat.zero_add m
    rw [e0] at hown ⊢
    refine h _ _ _ (row32_rd (l := l) (c := cp) (by rw [hl]; exact hown)).1 ((Below.refl b w).grown hgrow (by omega) (fun k e => by cases e; exact Nat.le_refl _))
/-- A node of the shelf. -/
theorem AM.take_shelf (n s h t b : Int) (l : List Int) (x : Int) (ws : List Int) : (newAT n s h t b (l ++ [x])).step ws = ⟨1, x, { newAT n s h t b (l ++ [x]) with shelf := l, st := 1, i := x }, ws, []⟩ := by
  unfold AM.step AM.take newAT
  simp
theorem take_shelf8 {w0 w : World} {q p : Nat} {ws : List Int} {ns : List Note} {L : List Asn} (rp : Value) (n s h t b : Int) (l : List Int) (x : Int) (k : Nat) (hl : l.length = k) (hk : k < 1000000) (hb : b ≤ 9223372036854775807) (hrg : ∀ y ∈ l ++ [x], 0 ≤ y ∧ y < 4294967296) (hS : St w0 (memA q ws ns :: arA p (newAT n s h t b (l ++ [x])) :: L) w) (hns : ns.length ≤ 1000000000000) :
    Calls Try.prog 45 #[.agg #[.pointer (some ⟨p, 0, none⟩), .pointer none, rp], .pointer (some ⟨q, 0, none⟩)] w fun e w' => ∃ a c', e = .returned (.tuple #[.int .i64 1, .int .u32 x, .slice a k c']) ∧ Rd32 w' a l ∧ St w0 (memA q ws ns :: L) w' := by
  subst hl
  refine (pstep8_t rp (AM.take_shelf n s h t b l x ws) (List.append_nil ns) rfl hS (newAT_ok _ hb (by simp; omega) hrg) hns rfl (by show l.length ≤ _; omega)).mono ?_
  rintro e w' ⟨a, c', rfl, h⟩
  exact ⟨a, c', rfl, (row32_rd (l := l) (h.rowOf 0 rfl)).1, h.re 3 [1]⟩
end Go.Proofs.Ytndigbkhaajjoaa
