/-
  lifo's Pop and Push as a stack with bounds tells them.
-/
import Derived.Test.YtgfeagggkplegaaGreatLifo
import Derived.Test.YtgfeagggkplegaaGreatRunP
namespace Go.Proofs.YtgfeagggkplegaaGreat
open Go.RowKit
set_option linter.unusedVariables false
set_option linter.unusedSimpArgs false

theorem row64_rd {w : World} {A : Option Addr} {n c : Nat} {ws : List Int} (ho : w.ownsRow 0 25 1 (.slice A n c) n (wsV ws)) (hl : ws.length = n) : RdU w A ws ∧ n ≤ c := by
  subst hl
  exact row_rdU ho
theorem pop_any {w0 w : World} {L : List Asn} (A : Option Addr) (n c : Nat) (v a x : Int) (V V' : List Int) (fr : Bool) (hl : lifoA false v V fr = (a, x, V')) (hS : St w0 L w) (hA : RdU w A V.reverse) (hc : n ≤ c) (hn : V.length = n) (n1 : n ≤ 100000) :
    Calls Tryz.prog 48 #[.slice A n c] w fun e w' => ∃ A' n' c', e = .returned (.tuple #[.slice A' n' c', .int .u64 x, .int .i64 a]) ∧ V'.length = n' ∧ St w0 (row64 (.slice A' n' c') n' V'.reverse :: L) w' := by
  cases V with
  | nil =>
    simp [lifoA] at hl
    obtain ⟨rfl, rfl, rfl⟩ := hl
    obtain rfl : n = 0 := by simpa using hn.symm
    refine (pop_none A c w).mono ?_
    rintro e w' ⟨rfl, rfl⟩
    exact ⟨none, 0, 0, rfl, rfl, hS.rowNil _ _⟩
  | cons y V =>
    simp [lifoA] at hl
    obtain ⟨rfl, rfl, rfl⟩ := hl
    rw [List.reverse_cons] at hA
    refine (pop_some A V.length n c V.reverse y (by simpa using hn.symm) hS hA (by simp) (by simp at hn; omega) hc).mono ?_
    rintro e w' ⟨A', c', rfl, h⟩
    exact ⟨A', V.length, c', rfl, rfl, h⟩
theorem push_any {w0 w : World} {L : List Asn} (A : Option Addr) (n c : Nat) (most v a x : Int) (V V' : List Int) (fr : Bool) (hl : lifoA true v V fr = (a, x, V')) (hf : fr = true ↔ (n : Int) < most) (hS : St w0 L w) (hA : RdU w A V.reverse) (hc : n ≤ c) (hn : V.length = n) (n1 : n ≤ 100000) :
    Calls Tryz.prog 49 #[.slice A n c, .int .i64 most, .int .u64 v] w fun e w' => ∃ A' n' c', e = .returned (.tuple #[.slice A' n' c', .int .i64 a]) ∧ V'.length = n' ∧ St w0 (row64 (.slice A' n' c') n' V'.reverse :: L) w' := by
  cases fr with
  | false =>
    simp [lifoA] at hl
    obtain ⟨rfl, rfl, rfl⟩ := hl
    refine (push_full A n c V.reverse most v hS hA (by simpa using hn) n1 (by
      have : ¬ (n : Int) < most := fun h => by simpa using hf.2 h
      omega)).mono ?_
    rintro e w' ⟨A', c', rfl, h⟩
    exact ⟨A', n, c', rfl, hn, h⟩
  | true =>
    simp [lifoA] at hl
    obtain ⟨rfl, rfl, rfl⟩ := hl
    refine (push_room A n c V.reverse most v hS hA (by simpa using hn) n1 (hf.1 rfl)).mono ?_
    rintro e w' ⟨A', c', rfl, h⟩
    rw [← List.reverse_cons] at h
    exact ⟨A', n + 1, c', rfl, by simp [hn], h⟩
theorem lifoA_push0 {v : Int} {V V' : List Int} {a x : Int} {fr : Bool} (h : lifoA true v V fr = (a, x, V')) : x = 0 := by
  unfold lifoA at h
  cases fr <;> simp at h <;> exact h.2.1.symm
end Go.Proofs.YtgfeagggkplegaaGreat
