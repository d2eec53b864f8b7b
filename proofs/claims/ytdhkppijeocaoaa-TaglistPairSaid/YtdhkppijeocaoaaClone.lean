/-
  slices.Clone: a new row that holds what the old one does.
-/
import Derived.Test.YtdhkppijeocaoaaMem
import Derived.WalkSpells
import Derived.Lib.SliceRun
namespace Go.Proofs.Ytdhkppijeocaoaa
open Go.RowKit
set_option linter.unusedVariables false
set_option linter.unusedSimpArgs false

theorem infoC_u64 : (Try.prog.info? 41).map (fun i => (i.zero, i.size, i.bytes)) = some (some (.int .u64 0), 1, 8) := by kernel_rfl
set_option maxHeartbeats 1000000 in
theorem clone_nil_u64 (w : World) (n c : Nat) : Calls Try.prog 34 #[.slice none n c] w fun e w' => e = .returned (.slice none 0 0) ∧ w' = w := by
  have qT : ∀ (w : World) (a : Option Addr) (n c n' c' : Nat), (binOp .eql 28 (.slice a n c) (.slice none n' c')).run Try.prog w = .ok (.bool a.isNone) w := fun w a n c n' c' => Lib.run_eql_slice_nil w _ _ a n c n' c' Try.underlying28
  go_enter Try.func34, Try.ntmps34
  go_wp2
  go_ret
  exact ⟨rfl, rfl⟩
set_option maxHeartbeats 1000000 in
theorem clone_zero_u64 (ad : Addr) (c : Nat) (w : World) : Calls Try.prog 34 #[.slice (some ad) 0 c] w fun e w' => e = .returned (.slice (some ⟨w.heap.size, 0, none⟩) 0 0) ∧ w' = w.alloc (.cells #[] 41) := by
  have qT : ∀ (w : World) (a : Option Addr) (n c n' c' : Nat), (binOp .eql 28 (.slice a n c) (.slice none n' c')).run Try.prog w = .ok (.bool a.isNone) w := fun w a n c n' c' => Lib.run_eql_slice_nil w _ _ a n c n' c' Try.underlying28
  go_enter Try.func34, Try.ntmps34
  go_wp2
  go_ret
  exact ⟨rfl, rfl⟩
def ClonePost_u64 (w : World) (n : Nat) (xs : List Value) (e : Ending) (w' : World) : Prop :=
  ∃ v, e = .returned v ∧ w'.ownsRow w.heap.size 41 1 v n xs ∧ Below w.heap.size w w' ∧ ∃ a c, v = .slice a n c
set_option maxHeartbeats 1000000 in
theorem clone_some_u64 (ad : Addr) (n c : Nat) (xs : List Value) (w : World) (hn : 0 < n) (hl : xs.length = n * 1) (hc : ∀ j u, xs[j]? = some u → w.cell? (ad.add j) = some u) (h1 : ∀ u ∈ xs, u.oneCell' = true) (hb : n * 8 ≤ 140737488355328) (h63 : n ≤ maxLen) :
    Calls Try.prog 34 #[.slice (some ad) n c] w (ClonePost_u64 w n xs) := by
  have qT : ∀ (w : World) (a : Option Addr) (n c n' c' : Nat), (binOp .eql 28 (.slice a n c) (.slice none n' c')).run Try.prog w = .ok (.bool a.isNone) w := fun w a n c n' c' => Lib.run_eql_slice_nil w _ _ a n c n' c' Try.underlying28
  have own : (w.alloc (.cells #[] 41)).ownsRow w.heap.size 41 1 (.slice (some ⟨w.heap.size, 0, none⟩) 0 0) 0 [] := World.ownsRow_made w #[] 0 (Nat.le_refl _) (Nat.zero_le _) rfl
  have HC : Hid (∀ j u, xs[j]? = some u → (w.alloc (.cells #[] 41)).cell? (ad.add j) = some u) := Lib.hid fun j u h => by
    have h2 := hc j u h
    rw [World.cell?_alloc_lt _ _ _ (World.block_lt_of_cell? w _ h2)]
    exact h2
  have HL := Lib.hid hl
  have H1 := Lib.hid h1
  have HO := Lib.hid own
  have HB : 0 + n ≤ maxLen := by omega
  have HB2 : (0 + n) * 8 ≤ 140737488355328 := by omega
  clear hc hl h1 own
  obtain ⟨i0, hi, hz0, hz1, hz2⟩ := info_parts infoC_u64
  go_enter Try.func34, Try.ntmps34
  go_wp2_with (at_builtin; refine wpList_append_lies _ rfl _ _ _ rfl w.heap.size 41 i0 _ 1 8 Try.underlying28 hi hz0 hz1 hz2 rfl (by decide) (.slice (some ⟨w.heap.size, 0, none⟩) 0 0) 0 [] rfl HO.out ad n c xs rfl HL.out HC.out H1.out hn HB HB2 (by simp) _ rfl ?_; intro g cap w1 hown hgrow hat hlt; (have HG := Lib.hid hgrow); (have HW := Lib.hid hown); clear hown hgrow)
  go_ret
  refine ⟨_, rfl, ?_, ?_, _, _, rfl⟩
  · have := HW.out
    rw [Nat.zero_add, List.nil_append] at this
    exact this
  · exact (bl_alloc (bl_refl w) _).grown HG.out (by simp) (fun k e => by cases e; exact Nat.le_refl _)
/-- Whatever comes in: what it holds, in a row of its own. -/
theorem clone_any_u64 (A : Option Addr) (n c : Nat) (xs : List Value) (w : World) (hl : xs.length = n * 1) (hA : 0 < n → ∃ ad, A = some ad ∧ ∀ j u, xs[j]? = some u → w.cell? (ad.add j) = some u) (h1 : ∀ u ∈ xs, u.oneCell' = true) (hb : n * 8 ≤ 140737488355328) (h63 : n ≤ maxLen) (hnil : A = none → n = 0) :
    Calls Try.prog 34 #[.slice A n c] w (ClonePost_u64 w n xs) := by
  rcases Nat.eq_zero_or_pos n with rfl | hn
  · obtain rfl : xs = [] := List.eq_nil_of_length_eq_zero (by omega)
    cases A with
    | none => exact (clone_nil_u64 w 0 c).mono fun e w' ⟨h1, h2⟩ => ⟨_, h1, by subst h2; exact World.ownsRow_nil _ _ _ _, by subst h2; exact bl_refl _, _, _, rfl⟩
    | some ad => exact (clone_zero_u64 ad c w).mono fun e w' ⟨h1, h2⟩ => ⟨_, h1, by subst h2; exact World.ownsRow_made w #[] 0 (Nat.le_refl _) (Nat.zero_le _) rfl, by subst h2; exact bl_alloc (bl_refl _) _, _, _, rfl⟩
  · obtain ⟨ad, rfl, hc⟩ := hA hn
    exact clone_some_u64 ad n c xs w hn hl hc h1 hb h63


end Go.Proofs.Ytdhkppijeocaoaa
