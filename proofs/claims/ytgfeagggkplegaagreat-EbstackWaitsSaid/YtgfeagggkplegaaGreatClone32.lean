/-
  slices.Clone at []uint32; rows of node numbers.
-/
import Derived.Test.YtgfeagggkplegaaGreatRow2
import Derived.WalkSpells
import Derived.Lib.SliceRun
namespace Go.Proofs.YtgfeagggkplegaaGreat
open Go.RowKit
set_option linter.unusedVariables false
set_option linter.unusedSimpArgs false

theorem infoC_u32 : (Tryz.prog.info? 22).map (fun i => (i.zero, i.size, i.bytes)) = some (some (.int .u32 0), 1, 4) := by kernel_rfl
set_option maxHeartbeats 1000000 in
theorem clone_nil_u32 (w : World) (n c : Nat) : Calls Tryz.prog 62 #[.slice none n c] w fun e w' => e = .returned (.slice none 0 0) ∧ w' = w := by
  have qT : ∀ (w : World) (a : Option Addr) (n c n' c' : Nat), (binOp .eql 41 (.slice a n c) (.slice none n' c')).run Tryz.prog w = .ok (.bool a.isNone) w := fun w a n c n' c' => Lib.run_eql_slice_nil w _ _ a n c n' c' Tryz.underlying41
  go_enter Tryz.func62, Tryz.ntmps62
  go_wp2
  go_ret
  exact ⟨rfl, rfl⟩
set_option maxHeartbeats 1000000 in
theorem clone_zero_u32 (ad : Addr) (c : Nat) (w : World) : Calls Tryz.prog 62 #[.slice (some ad) 0 c] w fun e w' => e = .returned (.slice (some ⟨w.heap.size, 0, none⟩) 0 0) ∧ w' = w.alloc (.cells #[] 22) := by
  have qT : ∀ (w : World) (a : Option Addr) (n c n' c' : Nat), (binOp .eql 41 (.slice a n c) (.slice none n' c')).run Tryz.prog w = .ok (.bool a.isNone) w := fun w a n c n' c' => Lib.run_eql_slice_nil w _ _ a n c n' c' Tryz.underlying41
  go_enter Tryz.func62, Tryz.ntmps62
  go_wp2
  go_ret
  exact ⟨rfl, rfl⟩
def ClonePost_u32 (w : World) (n : Nat) (xs : List Value) (e : Ending) (w' : World) : Prop :=
  ∃ v, e = .returned v ∧ w'.ownsRow w.heap.size 22 1 v n xs ∧ Below w.heap.size w w' ∧ ∃ a c, v = .slice a n c
set_option maxHeartbeats 1000000 in
theorem clone_some_u32 (ad : Addr) (n c : Nat) (xs : List Value) (w : World) (hn : 0 < n) (hl : xs.length = n * 1) (hc : ∀ j u, xs[j]? = some u → w.cell? (ad.add j) = some u) (h1 : ∀ u ∈ xs, u.oneCell' = true) (hb : n * 4 ≤ 140737488355328) (h63 : n ≤ maxLen) :
    Calls Tryz.prog 62 #[.slice (some ad) n c] w (ClonePost_u32 w n xs) := by
  have qT : ∀ (w : World) (a : Option Addr) (n c n' c' : Nat), (binOp .eql 41 (.slice a n c) (.slice none n' c')).run Tryz.prog w = .ok (.bool a.isNone) w := fun w a n c n' c' => Lib.run_eql_slice_nil w _ _ a n c n' c' Tryz.underlying41
  have own : (w.alloc (.cells #[] 22)).ownsRow w.heap.size 22 1 (.slice (some ⟨w.heap.size, 0, none⟩) 0 0) 0 [] := World.ownsRow_made w #[] 0 (Nat.le_refl _) (Nat.zero_le _) rfl
  have HC : Hid (∀ j u, xs[j]? = some u → (w.alloc (.cells #[] 22)).cell? (ad.add j) = some u) := Lib.hid fun j u h => by
    have h2 := hc j u h
    rw [World.cell?_alloc_lt _ _ _ (World.block_lt_of_cell? w _ h2)]
    exact h2
  have HL := Lib.hid hl
  have H1 := Lib.hid h1
  have HO := Lib.hid own
  have HB : 0 + n ≤ maxLen := by omega
  have HB2 : (0 + n) * 4 ≤ 140737488355328 := by omega
  clear hc hl h1 own
  obtain ⟨i0, hi, hz0, hz1, hz2⟩ := info_parts infoC_u32
  go_enter Tryz.func62, Tryz.ntmps62
  go_wp2_with (at_builtin; refine wpList_append_lies _ rfl _ _ _ rfl w.heap.size 22 i0 _ 1 4 Tryz.underlying41 hi hz0 hz1 hz2 rfl (by decide) (.slice (some ⟨w.heap.size, 0, none⟩) 0 0) 0 [] rfl HO.out ad n c xs rfl HL.out HC.out H1.out hn HB HB2 (by simp) _ rfl ?_; intro g cap w1 hown hgrow hat hlt; (have HG := Lib.hid hgrow); (have HW := Lib.hid hown); clear hown hgrow)
  go_ret
  refine ⟨_, rfl, ?_, ?_, _, _, rfl⟩
  · have := HW.out
    rw [Nat.zero_add, List.nil_append] at this
    exact this
  · exact (bl_alloc (bl_refl w) _).grown HG.out (by simp) (fun k e => by cases e; exact Nat.le_refl _)
/-- Whatever comes in: what it holds, in a row of its own. -/
theorem clone_any_u32 (A : Option Addr) (n c : Nat) (xs : List Value) (w : World) (hl : xs.length = n * 1) (hA : 0 < n → ∃ ad, A = some ad ∧ ∀ j u, xs[j]? = some u → w.cell? (ad.add j) = some u) (h1 : ∀ u ∈ xs, u.oneCell' = true) (hb : n * 4 ≤ 140737488355328) (h63 : n ≤ maxLen) (hnil : A = none → n = 0) :
    Calls Tryz.prog 62 #[.slice A n c] w (ClonePost_u32 w n xs) := by
  rcases Nat.eq_zero_or_pos n with rfl | hn
  · obtain rfl : xs = [] := List.eq_nil_of_length_eq_zero (by omega)
    cases A with
    | none => exact (clone_nil_u32 w 0 c).mono fun e w' ⟨h1, h2⟩ => ⟨_, h1, by subst h2; exact World.ownsRow_nil _ _ _ _, by subst h2; exact bl_refl _, _, _, rfl⟩
    | some ad => exact (clone_zero_u32 ad c w).mono fun e w' ⟨h1, h2⟩ => ⟨_, h1, by subst h2; exact World.ownsRow_made w #[] 0 (Nat.le_refl _) (Nat.zero_le _) rfl, by subst h2; exact bl_alloc (bl_refl _) _, _, _, rfl⟩
  · obtain ⟨ad, rfl, hc⟩ := hA hn
    exact clone_some_u32 ad n c xs w hn hl hc h1 hb h63

def u32V (x : Int) : Value := .int .u32 x
/-- A row of numbers that is of its own: empty or not. -/
abbrev row32 (v : Value) (l : List Int) : Asn := rowA 22 1 v l.length (l.map u32V)
/-- A slice that can be read: its cells hold l. -/
def Rd32 (w : World) (A : Option Addr) (l : List Int) : Prop := (A = none → l = []) ∧ (0 < l.length → ∃ ad, A = some ad ∧ ∀ j u, (l.map u32V)[j]? = some u → w.cell? (ad.add j) = some u)
theorem Rd32.kept {w w' : World} {A : Option Addr} {l : List Int} (h : Rd32 w A l) (hb : Below w.heap.size w w') : Rd32 w' A l :=
  ⟨h.1, fun h0 => by
    obtain ⟨ad, e, hc⟩ := h.2 h0
    exact ⟨ad, e, fun j u hu => by have := hc j u hu; exact (hb.cell (World.block_lt_of_cell? _ _ this)).trans this⟩⟩
theorem Rd32.nil (w : World) : Rd32 w none [] := ⟨fun _ => rfl, fun h => absurd h (by simp)⟩
theorem row32_rd {w : World} {b : Nat} {A : Option Addr} {c : Nat} {l : List Int} (ho : w.ownsRow b 22 1 (.slice A l.length c) l.length (l.map u32V)) : Rd32 w A l ∧ l.length ≤ c ∧ l.length ≤ maxLen := by
  rcases ho.2 with ⟨e, e0⟩ | ⟨g, cap, cur, e, hg, hh, h1, h2, h3, h4⟩
  · simp only [Value.slice.injEq] at e
    obtain ⟨rfl, _, rfl⟩ := e
    exact ⟨⟨fun _ => List.length_eq_zero_iff.1 e0, fun h => by omega⟩, by omega, by unfold maxLen; omega⟩
  · simp only [Value.slice.injEq] at e
    obtain ⟨rfl, _, rfl⟩ := e
    refine ⟨⟨fun e => (by simp at e), fun h0 => ⟨_, rfl, fun j u hu => ?_⟩⟩, by omega, by omega⟩
    rw [Nat.mul_one] at h4
    rw [add_zero', cell_of hh]
    rw [← h4] at hu
    have hj : j < l.length := by
      rcases Nat.lt_or_ge j l.length with h5 | h5
      · exact h5
      · rw [List.getElem?_take, if_neg (by omega)] at hu; cases hu
    rw [List.getElem?_take, if_pos hj] at hu
    simpa using hu
theorem Rd32.cell {w : World} {A : Option Addr} {l : List Int} (h : Rd32 w A l) {k : Nat} {x : Int} (hk : l[k]? = some x) : ∃ ad, A = some ad ∧ w.cell? (ad.add k) = some (.int .u32 x) := by
  obtain ⟨ad, e, hc⟩ := h.2 (by have := (List.getElem?_eq_some_iff.1 hk).1; omega)
  exact ⟨ad, e, hc k _ (by rw [List.getElem?_map, hk]; rfl)⟩
/-- A clone. -/
theorem clone32 {w0 w : World} {L : List Asn} (A : Option Addr) (n c : Nat) (l : List Int) (hS : St w0 L w) (hr : Rd32 w A l) (hn : l.length = n) (hl : n ≤ 1000000000000) :
    Calls Tryz.prog 62 #[.slice A n c] w fun e w' => ∃ a c', e = .returned (.slice a n c') ∧ St w0 (row32 (.slice a n c') l :: L) w' := by
  subst hn
  refine (clone_any_u32 A l.length c (l.map u32V) w (by simp) hr.2 (fun u hu => by obtain ⟨x, _, rfl⟩ := List.mem_map.1 hu; rfl) (by omega) (by unfold maxLen; omega) (fun e => by rw [hr.1 e]; rfl)).mono fun e w' k => ?_
  obtain ⟨v, rfl, ho, hb, a, c', rfl⟩ := k
  have hn2 : a = none ∨ ∃ g, a = some ⟨g, 0, none⟩ ∧ w.heap.size ≤ g := by
    rcases ho.2 with ⟨e, _⟩ | ⟨g, cap, cur, e, hg, _⟩
    · simp only [Value.slice.injEq] at e; exact .inl e.1
    · simp only [Value.slice.injEq] at e; exact .inr ⟨g, e.1, hg⟩
  obtain ⟨c2, e2⟩ : ∃ c2, Value.slice a l.length c' = .slice a l.length c2 := ⟨c', rfl⟩
  have hlen : ∃ n2, Value.slice a l.length c' = .slice a n2 c' := ⟨_, rfl⟩
  refine ⟨a, c', rfl, hS.more hb ⟨⟨ho.1, ho.2.imp id fun ⟨g, cap, cur, h1, h2, h3⟩ => ⟨g, cap, cur, h1, Nat.zero_le _, h3⟩⟩, fun b hb2 => ?_⟩⟩
  rcases hn2 with rfl | ⟨g, rfl, hg⟩
  · cases hb2
  · cases hb2; exact hg
end Go.Proofs.YtgfeagggkplegaaGreat
