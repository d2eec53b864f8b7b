/-
  Lists of nodes: a beginning's; lists that go up, and down.
-/
import Derived.Test.YtgfeagggkplegaaGreatLst
import Derived.Test.YtgfeagggkplegaaGreatFresh
namespace Go.Proofs.YtgfeagggkplegaaGreat
open Go.RowKit
set_option linter.unusedVariables false
set_option linter.unusedSimpArgs false

/-- a, a + 1, .., n of them. -/
def upL (a : Int) : Nat → List Int
  | 0 => []
  | n + 1 => a :: upL (a + 1) n
/-- k, k - 1, .., 1. -/
def dnL : Nat → List Int
  | 0 => []
  | k + 1 => ((k : Int) + 1) :: dnL k
theorem upL_len : ∀ (n : Nat) (a : Int), (upL a n).length = n
  | 0, _ => rfl
  | n + 1, a => congrArg (· + 1) (upL_len n (a + 1))
theorem dnL_len : ∀ k : Nat, (dnL k).length = k
  | 0 => rfl
  | k + 1 => congrArg (· + 1) (dnL_len k)
theorem mem_upL : ∀ {n : Nat} {a x : Int}, x ∈ upL a n ↔ a ≤ x ∧ x < a + n
  | 0, a, x => by simp only [upL, List.not_mem_nil, false_iff]; omega
  | n + 1, a, x => by
    rw [upL, List.mem_cons, mem_upL]
    omega
theorem mem_dnL : ∀ {k : Nat} {x : Int}, x ∈ dnL k ↔ 1 ≤ x ∧ x ≤ k
  | 0, x => by simp only [dnL, List.not_mem_nil, false_iff]; omega
  | k + 1, x => by
    rw [dnL, List.mem_cons, mem_dnL]
    omega
theorem nodup_upL : ∀ (n : Nat) (a : Int), (upL a n).Nodup
  | 0, _ => List.nodup_nil
  | n + 1, a => List.nodup_cons.2 ⟨fun h => by have := mem_upL.1 h; omega, nodup_upL n _⟩
theorem hd_upL (a : Int) (n : Nat) : hdI (upL a n) = if n = 0 then 0 else a := by cases n <;> rfl
theorem hd_dnL (k : Nat) : hdI (dnL k) = k := by cases k with | zero => rfl | succ k => show (k : Int) + 1 = _; omega
theorem lk_upL {T : Int} {nn N ss : Nat} (hN : 2 + 2 * nn ≤ N) : ∀ (n : Nat) (a : Int), 1 ≤ a → a + n = nn + 1 → nn ≤ 64 → lk (frL T nn nn ss N) (upL a n)
  | 0, _, _, _, _ => trivial
  | n + 1, a, h1, h2, h3 => by
    refine ⟨?_, lk_upL hN n (a + 1) (by omega) (by omega) h3⟩
    rw [frL_rd _ _ _ _ _ (by omega), hd_upL]
    unfold frAt
    rw [if_neg (by omega), if_neg (by omega), if_pos (by omega)]
    by_cases c : n = 0
    · rw [if_pos c, if_neg (by omega)]
      rfl
    · rw [if_neg c, if_pos ⟨by omega, by omega⟩]
      omega
/-- A beginning: no node in the stack, all of them free. -/
theorem fresh_at0 {t T : Int} {nn N ss : Nat} (hT : t * 4294967296 = T) (t0 : 0 ≤ t) (t1 : t < 4294967296) (hN : 2 ≤ N) : AtL nn (frL T nn nn ss N) 0 [] t :=
  ⟨by rw [frL_rd _ _ _ _ _ (by omega)]; show T = 0 + t % 4294967296 * 4294967296; omega, trivial, (fun i h => by cases h), List.nodup_nil⟩
theorem fresh_at1 {t T : Int} {nn N ss : Nat} (hT : t * 4294967296 = T) (t0 : 0 ≤ t) (t1 : t < 4294967296) (hN : 2 + 2 * nn ≤ N) (hn : 1 ≤ nn) (hn2 : nn ≤ 64) : AtL nn (frL T nn nn ss N) 1 (upL 1 nn) t := by
  refine ⟨?_, lk_upL hN nn 1 (Int.le_refl _) (by omega) hn2, fun i h => ?_, nodup_upL _ _⟩
  · rw [frL_rd _ _ _ _ _ (by omega), hd_upL, if_neg (by omega)]
    show 1 + T = _
    omega
  · have := mem_upL.1 h
    omega
/-- Both lists, behind k nodes that were taken from the free ones, one behind the other, and given to the stack. -/
structure Moved (nn : Nat) (tg : Int) (k N : Nat) (ws : List Int) : Prop where
  free : AtL nn ws 1 (upL ((k : Int) + 1) (nn - k)) (tg + k)
  head : AtL nn ws 0 (dnL k) (tg + k)
  len : ws.length = N
  rng : ∀ x ∈ ws, 0 ≤ x ∧ x < 18446744073709551616
theorem set_rng {ws : List Int} (h : ∀ x ∈ ws, 0 ≤ x ∧ x < 18446744073709551616) {j : Nat} {v : Int} (v0 : 0 ≤ v) (v1 : v < 18446744073709551616) : ∀ x ∈ ws.set j v, 0 ≤ x ∧ x < 18446744073709551616 := fun x hx => by
  rcases List.mem_or_eq_of_mem_set hx with h1 | rfl
  · exact h x h1
  · exact ⟨v0, v1⟩
/-- A node is taken. -/
theorem Moved.take {nn : Nat} {tg : Int} {k N : Nat} {ws : List Int} (m : Moved nn tg k N ws) (hN : 2 + 2 * nn ≤ N) (hk : k < nn) (hn : nn ≤ 64) :
    ∃ ws1, (∃ S', Run3 (newTk nn 0 0 tg 1) ws S' ws1 ((k : Int) + 1)) ∧ AtL nn ws1 1 (upL ((k : Int) + 1 + 1) (nn - (k + 1))) (tg + k + 1) ∧ AtL nn ws1 0 (dnL k) (tg + k) ∧ ws1.length = N ∧ ∀ x ∈ ws1, 0 ≤ x ∧ x < 18446744073709551616 := by
  have hok : okC (nn : Int) 0 0 = true := by simp [okC]; omega
  have hf := m.free
  obtain ⟨d, hd⟩ : ∃ d, nn - k = d + 1 := ⟨nn - k - 1, by omega⟩
  rw [hd] at hf
  rw [show nn - (k + 1) = d by omega]
  have hl := m.len
  obtain ⟨S', hr⟩ := take3 (t := tg) hok hf (by omega) (by omega)
  have hh := hdI_rng (nn := nn) (l := upL ((k : Int) + 1 + 1) d) fun i h => by have := mem_upL.1 h; omega
  refine ⟨_, ⟨S', hr⟩, hf.pop (by omega) (by omega), m.head.other (by omega) (fun i h => by have := mem_dnL.1 h; omega), by simpa using hl, set_rng m.rng ?_ ?_⟩ <;> omega
/-- .. and given to the stack. -/
theorem Moved.give {nn : Nat} {tg : Int} {k N : Nat} {ws1 : List Int} (hf : AtL nn ws1 1 (upL ((k : Int) + 1 + 1) (nn - (k + 1))) (tg + k + 1)) (hh : AtL nn ws1 0 (dnL k) (tg + k)) (hl : ws1.length = N) (hv : ∀ x ∈ ws1, 0 ≤ x ∧ x < 18446744073709551616) (hN : 2 + 2 * nn ≤ N) (hk : k < nn) (hn : nn ≤ 64) :
    ∃ ws2, (∃ S', Run3 (newGv nn 0 0 tg 0 ((k : Int) + 1)) ws1 S' ws2 ((k : Int) + 1)) ∧ Moved nn tg (k + 1) N ws2 := by
  have hok : okC (nn : Int) 0 0 = true := by simp [okC]; omega
  obtain ⟨S', hr⟩ := give3 (t := tg) (i := (k : Int) + 1) hok hh (by omega) (by omega) (by omega) ⟨by omega, by omega⟩
  have hni : ((k : Int) + 1) ∉ dnL k := fun h => by have := mem_dnL.1 h; omega
  have e1 : tg + ((k + 1 : Nat) : Int) = tg + k + 1 := by omega
  have e2 : ((k + 1 : Nat) : Int) + 1 = (k : Int) + 1 + 1 := by omega
  refine ⟨_, ⟨S', hr⟩, ?_, ?_, by simpa using hl, set_rng (set_rng hv ?_ ?_) ?_ ?_⟩
  · rw [e1, e2]
    exact (hf.other (by omega) fun i h => by have := mem_upL.1 h; omega).other (by omega) fun i h => by have := mem_upL.1 h; omega
  · rw [e1]
    exact hh.push (by omega) (by omega) ⟨by omega, by omega⟩ hni (by omega) (by have := hdI_rng (nn := nn) hh.rng; omega)
  · have := hdI_rng (nn := nn) hh.rng; omega
  · have := hdI_rng (nn := nn) hh.rng; omega
  · omega
  · omega
end Go.Proofs.YtgfeagggkplegaaGreat
