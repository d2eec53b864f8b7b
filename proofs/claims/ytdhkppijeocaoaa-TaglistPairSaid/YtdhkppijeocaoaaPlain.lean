/-
  Plain facts on numbers and lists: fresh words of a config, the chain of nodes from a node.
-/
import Derived.Test.YtdhkppijeocaoaaCon
import Derived.Test.YtdhkppijeocaoaaWWords
namespace Go.Proofs.Ytdhkppijeocaoaa.Pl
open Go.RowKit Go.Proofs.Ytdhkppijeocaoaa Go.Proofs.YtdhkppijeocaoaaW.PrintWords
set_option linter.unusedVariables false

theorem w64 {x : Int} (h1 : -9223372036854775808 ≤ x) (h2 : x ≤ 9223372036854775807) : wrap64 x = x := by unfold wrap64; omega
theorem wf64 {x : Int} (h : (Lit.int .i64 x).wf = true) : -9223372036854775808 ≤ x ∧ x ≤ 9223372036854775807 := by
  have hmin : IntKind.i64.min = -9223372036854775808 := rfl
  have hmax : IntKind.i64.max = 9223372036854775807 := rfl
  simp only [Lit.wf, Bool.and_eq_true, decide_eq_true_eq] at h
  omega
theorem wfu32 {x : Int} (h : (Lit.int .u32 x).wf = true) : 0 ≤ x ∧ x ≤ 4294967295 := by
  have hmin : IntKind.u32.min = 0 := rfl
  have hmax : IntKind.u32.max = 4294967295 := rfl
  simp only [Lit.wf, Bool.and_eq_true, decide_eq_true_eq] at h
  omega
theorem wfu64 {x : Int} (h : (Lit.int .u64 x).wf = true) : 0 ≤ x ∧ x < 18446744073709551616 := by
  have hmin : IntKind.u64.min = 0 := rfl
  have hmax : IntKind.u64.max = 18446744073709551615 := rfl
  simp only [Lit.wf, Bool.and_eq_true, decide_eq_true_eq] at h
  omega
theorem at_of {n s h : Int} {p : Nat} {k : Int} (hk : okC n s h = true) (h0 : 0 ≤ k) (h1 : k < lenI n s h p) : atI n s h p k = loI n s p + k := by unfold atI; rw [if_pos ⟨hk, h0, h1⟩]
theorem at_low {n s h : Int} {p : Nat} {k : Int} (h0 : k < 0) : atI n s h p k = -1 := by unfold atI; rw [if_neg (by omega)]
theorem at_high {n s h : Int} {p : Nat} {k : Int} (h1 : lenI n s h p ≤ k) : atI n s h p k = -1 := by unfold atI; rw [if_neg (by omega)]
theorem at_bad {n s h : Int} {p : Nat} {k : Int} (h1 : okC n s h = false) : atI n s h p k = -1 := by unfold atI; rw [if_neg (by simp [h1])]
theorem okC_mk {n s h : Int} (h1 : 1 ≤ n) (h2 : n ≤ 64) (h3 : 0 ≤ s) (h4 : s ≤ 16) (h5 : 0 ≤ h) (h6 : h ≤ 64) : okC n s h = true := decide_eq_true ⟨h1, h2, h3, h4, h5, h6⟩
/-- The numbers from 0 on. -/
def ran (n : Nat) : List Int := (List.range n).map fun i : Nat => (i : Int)
theorem ran_succ (n : Nat) : ran (n + 1) = ran n ++ [(n : Int)] := by simp [ran, List.range_succ]
theorem ran_length (n : Nat) : (ran n).length = n := by simp [ran]
theorem rd_ran {n : Nat} {i : Nat} (h : i < n) : rd (ran n) (i : Int) = (i : Int) := by simp [rd, ran, h]

theorem word_or {a b : Int} (a0 : 0 ≤ a) (a1 : a < 4294967296) (b0 : 0 ≤ b) (b1 : b < 4294967296) :
    Go.bits .or .u64 (IntKind.u64.wrap a) (IntKind.u64.wrap (IntKind.u64.wrap b * 4294967296)) = a + b * 4294967296 := by
  rw [IntKind.wrap_u64, IntKind.wrap_u64, IntKind.wrap_u64, Int.emod_eq_of_lt (a := a) (by omega) (by omega), Int.emod_eq_of_lt (a := b) (by omega) (by omega), Int.emod_eq_of_lt (by omega) (by omega)]
  obtain ⟨x, rfl⟩ := Int.eq_ofNat_of_zero_le a0
  obtain ⟨y, rfl⟩ := Int.eq_ofNat_of_zero_le b0
  have hw : ∀ n : Int, 0 ≤ n → n < 2 ^ 64 → IntKind.u64.wrap n = n := fun n h0 h1 => by rw [IntKind.wrap_u64]; omega
  have e : ((y : Int) * 4294967296) = ((y * 4294967296 : Nat) : Int) := by omega
  rw [e, (bits_nat .u64 64 (by decide) hw x (y * 4294967296) (by omega) (by omega)).2, Nat.or_comm]
  have h2 := Nat.two_pow_add_eq_or_of_lt (i := 32) (b := x) (by omega) y
  rw [show (2 : Nat) ^ 32 = 4294967296 from rfl] at h2
  rw [Nat.mul_comm y, ← h2]
  omega

/-- What lies at place p of the words, nodes below i and slots below k being laid. -/
def fv (n : Nat) (t : Int) (i k : Nat) (p : Nat) : Int :=
  if p = 0 then t * 4294967296 else if p = 1 then 1 + t * 4294967296
  else if p < 2 + 2 * n then (if p % 2 = 0 ∧ p / 2 < i then ((p / 2 : Nat) : Int) + 1 else 0)
  else if p < 2 + 2 * n + k then t * 4294967296 else 0
def freshL (n s h : Nat) (t : Int) (i k : Nat) : List Int := (List.range (2 + 2 * n + s + h)).map (fv n t i k)
theorem freshL_length (n s h : Nat) (t : Int) (i k : Nat) : (freshL n s h t i k).length = 2 + 2 * n + s + h := by simp [freshL]
theorem rd_map {N : Nat} {f : Nat → Int} {p : Nat} (h : p < N) : rd ((List.range N).map f) (p : Int) = f p := by simp [rd, h]
theorem set_map {N : Nat} {f : Nat → Int} {p : Nat} {v : Int} : ((List.range N).map f).set p v = (List.range N).map fun q => if q = p then v else f q := by
  apply List.ext_getElem
  · simp
  · intro i h1 h2
    simp only [List.getElem_set, List.getElem_map, List.getElem_range]
    by_cases e : p = i
    · simp [e]
    · simp [e, show ¬ i = p from fun h => e h.symm]
theorem map_range_congr {N : Nat} {f g : Nat → Int} (h : ∀ q, q < N → f q = g q) : (List.range N).map f = (List.range N).map g :=
  List.map_congr_left fun q hq => h q (by simpa using hq)
theorem rd_fresh {n s h : Nat} {t : Int} {i k p : Nat} (hp : p < 2 + 2 * n + s + h) : rd (freshL n s h t i k) (p : Int) = fv n t i k p := rd_map hp
theorem fresh_node {n s h : Nat} {t : Int} {i : Nat} (h1 : 1 ≤ i) (h2 : i < n) : (freshL n s h t i 0).set (2 * i) ((i : Int) + 1) = freshL n s h t (i + 1) 0 := by
  unfold freshL
  rw [set_map]
  apply map_range_congr
  intro q hq
  unfold fv
  by_cases e : q = 2 * i
  · subst e
    rw [if_pos rfl, if_neg (by omega), if_neg (by omega), if_pos (by omega), if_pos ⟨by omega, by omega⟩]
    omega
  · rw [if_neg e]
    by_cases a : q = 0
    · simp [a]
    by_cases b : q = 1
    · simp [b]
    by_cases c : q < 2 + 2 * n
    · simp only [a, b, c, if_true, if_false]
      by_cases d : q % 2 = 0 ∧ q / 2 < i
      · rw [if_pos d, if_pos (by omega)]
      · rw [if_neg d, if_neg (by omega)]
    · simp only [a, b, c, if_false]
theorem fresh_slot {n s h : Nat} {t : Int} {k : Nat} (hk : k < s) : (freshL n s h t n k).set (2 + 2 * n + k) (t * 4294967296) = freshL n s h t n (k + 1) := by
  unfold freshL
  rw [set_map]
  apply map_range_congr
  intro q hq
  unfold fv
  by_cases e : q = 2 + 2 * n + k
  · subst e
    rw [if_pos rfl, if_neg (by omega), if_neg (by omega), if_neg (by omega), if_pos (by omega)]
  · rw [if_neg e]
    by_cases a : q = 0
    · simp [a]
    by_cases b : q = 1
    · simp [b]
    by_cases c : q < 2 + 2 * n
    · simp only [a, b, c, if_true, if_false]
    · simp only [a, b, c, if_false]
      by_cases d : q < 2 + 2 * n + k
      · rw [if_pos d, if_pos (by omega)]
      · rw [if_neg d, if_neg (by omega)]
theorem fresh_start {n s h : Nat} {t : Int} (hn : 1 ≤ n) : ((List.replicate (2 + 2 * n + s + h) (0 : Int)).set 0 (t * 4294967296)).set 1 (1 + t * 4294967296) = freshL n s h t 1 0 := by
  have e : List.replicate (2 + 2 * n + s + h) (0 : Int) = (List.range (2 + 2 * n + s + h)).map fun _ => 0 := by rw [List.map_const', List.length_range]
  rw [e, set_map, set_map]
  apply map_range_congr
  intro q hq
  unfold fv
  by_cases a : q = 0
  · simp [a]
  by_cases b : q = 1
  · simp [b]
  simp only [a, b, if_false]
  split
  · rw [if_neg (by omega)]
  · rw [if_neg (by omega)]

/-- The chain of nodes from i on, out being what was met ahead of it; f: how many more there may be. -/
def chainGo (n s h : Int) (words : List Int) : Nat → List Int → Int → List Int × Bool
  | 0, out, i => if i = 0 then (out, true) else ([], false)
  | f + 1, out, i => if i = 0 then (out, true) else if atI n s h 0 (2 * (i - 1)) < 0 then ([], false) else chainGo n s h words f (out ++ [i]) (rd words (atI n s h 0 (2 * (i - 1))) % 4294967296)
def chainP (n s h : Int) (words : List Int) (w : Int) : List Int × Bool :=
  if okC n s h = true ∧ (words.length : Int) = cellsI n s h then chainGo n s h words n.toNat [] (w % 4294967296) else ([], false)
theorem at0_range {n s h i : Int} (hk : okC n s h = true) (h0 : 0 ≤ i) (hi : ¬ atI n s h 0 (2 * (i - 1)) < 0) : 1 ≤ i ∧ i ≤ n ∧ atI n s h 0 (2 * (i - 1)) = 2 * i := by
  unfold atI at hi ⊢
  by_cases c : okC n s h = true ∧ 0 ≤ 2 * (i - 1) ∧ 2 * (i - 1) < lenI n s h 0
  · have c3 : 2 * (i - 1) < 2 * n := c.2.2
    rw [if_pos c] at hi ⊢
    refine ⟨by omega, by omega, ?_⟩
    show 2 + 2 * (i - 1) = 2 * i
    omega
  · rw [if_neg c] at hi
    omega
theorem at0_of {n s h i : Int} (hk : okC n s h = true) (h1 : 1 ≤ i) (h2 : i ≤ n) : atI n s h 0 (2 * (i - 1)) = 2 * i := by
  rw [at_of hk (by omega) (by show 2 * (i - 1) < 2 * n; omega)]
  show 2 + 2 * (i - 1) = 2 * i
  omega
theorem at0_bad {n s h i : Int} (h2 : i < 1 ∨ n < i) : atI n s h 0 (2 * (i - 1)) = -1 := by
  rcases h2 with h2 | h2
  · exact at_low (by omega)
  · exact at_high (by show 2 * n ≤ 2 * (i - 1); omega)
end Go.Proofs.Ytdhkppijeocaoaa.Pl
