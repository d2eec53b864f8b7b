/-
  The list of nodes that any words make, from any word, and the values of the stack's, are as the chapter says.
-/
import Derived.Test.YtckmcphphnoilaaPLayoutChainsx
import Derived.Test.YtckmcphphnoilaaCLayoutChains
import Derived.Test.YtckmcphphnoilaaPath
import Derived.Test.YtckmcphphnoilaaOpen
namespace Go.Proofs.Ytckmcphphnoilaa.Pure
open Go.RowKit Go.Proofs.Ytckmcphphnoilaa.PLayoutChains Go.Proofs.YtckmcphphnoilaaW.PrintWords Go.Proofs.YtckmcphphnoilaaW.PrintLast
open Go.Proofs.Ytckmcphphnoilaa Go.Proofs.Ytckmcphphnoilaa.Pl Go.Proofs.Ytckmcphphnoilaa.CLayoutChains
set_option linter.unusedVariables false

theorem same_l0 (l : List Int) (hl : l.length ≤ 10000) (d : Nat) : ∀ k i : Nat, i ≤ l.length → l.length - i = d → d < k → hatstandref2_SameWords.l0 k l l (i : Int) = some true := by
  intro k i hi hd hk
  induction d generalizing k i with
  | zero =>
    obtain ⟨k, rfl⟩ : ∃ m, k = m + 1 := ⟨k - 1, by omega⟩
    simp only [hatstandref2_SameWords.l0]
    rw [if_neg (by omega)]
  | succ d ih =>
    obtain ⟨k, rfl⟩ : ∃ m, k = m + 1 := ⟨k - 1, by omega⟩
    simp only [hatstandref2_SameWords.l0]
    rw [if_pos (by omega), if_pos (by omega), if_pos (by omega), if_pos trivial, w64 (by omega) (by omega)]
    exact ih k (i + 1) (by omega) (by omega) (by omega)
theorem same_eq (l : List Int) (hl : l.length ≤ 10000) (k : Nat) (hk : l.length < k) : hatstandref2_SameWords.f k l l = some true := by
  unfold hatstandref2_SameWords.f
  rw [if_pos rfl]
  exact same_l0 l hl l.length k 0 (by omega) (by omega) (by omega)
theorem sam_l0 (l : List Int) (hl : l.length ≤ 10000) (d : Nat) : ∀ k i : Nat, i ≤ l.length → l.length - i = d → d < k → hatstandref6_Same.l0 k l l (i : Int) = some true := by
  intro k i hi hd hk
  induction d generalizing k i with
  | zero =>
    obtain ⟨k, rfl⟩ : ∃ m, k = m + 1 := ⟨k - 1, by omega⟩
    simp only [hatstandref6_Same.l0]
    rw [if_neg (by omega)]
  | succ d ih =>
    obtain ⟨k, rfl⟩ : ∃ m, k = m + 1 := ⟨k - 1, by omega⟩
    simp only [hatstandref6_Same.l0]
    rw [if_pos (by omega), if_pos (by omega), if_pos (by omega), if_pos trivial, w64 (by omega) (by omega)]
    exact ih k (i + 1) (by omega) (by omega) (by omega)
theorem sam_eq (l : List Int) (hl : l.length ≤ 10000) (k : Nat) (hk : l.length < k) : hatstandref6_Same.f k l l = some true := by
  unfold hatstandref6_Same.f
  rw [if_pos rfl]
  exact sam_l0 l hl l.length k 0 (by omega) (by omega) (by omega)

theorem rcheck_eq (n s h t : Int) : hatstandref6_Check.f n s h t = some (if okC n s h = true then 0 else 1) := by
  unfold hatstandref6_Check.f okC
  simp only [decide_eq_true_eq]
  repeat' split
  all_goals first | rfl | (exfalso; omega)
theorem rnext_eq {n s h t i : Int} (i0 : 0 ≤ i) (i1 : i < 4294967296) : hatstandref6_Next.f n s h t i = some (atI n s h 0 (2 * (i - 1))) := by
  unfold hatstandref6_Next.f
  rw [rcheck_eq, Option.bind_some]
  cases hk : okC n s h with
  | false => rw [if_neg (by decide), at_bad hk]
  | true =>
    have hb := okC_bounds hk
    rw [if_pos rfl, if_pos rfl, show n % 4294967296 = n from by omega]
    by_cases c : i < 1
    · rw [if_pos c, at0_bad (by omega)]
    rw [if_neg c]
    by_cases d : i > n
    · rw [if_pos d, at0_bad (by omega)]
    rw [if_neg d, at0_of hk (by omega) (by omega), w64 (x := i) (by omega) (by omega), w64 (x := i - 1) (by omega) (by omega), w64 (x := 2 * (i - 1)) (by omega) (by omega), w64 (by omega) (by omega)]
    congr 1
    omega
theorem rvalue_of {n s h t i : Int} (hk : okC n s h = true) (i0 : 1 ≤ i) (i1 : i ≤ n) : hatstandref6_Value.f n s h t i = some (2 * i + 1) := by
  have hb := okC_bounds hk
  unfold hatstandref6_Value.f
  rw [rnext_eq (by omega) (by omega), Option.bind_some, at0_of hk i0 i1, if_neg (by omega), w64 (by omega) (by omega)]
theorem value_of {n s h t i : Int} (hk : okC n s h = true) (i0 : 1 ≤ i) (i1 : i ≤ n) : layout_Config_Value.f n s h t i = some (2 * i + 1) := by
  have hb := okC_bounds hk
  rw [value_eq (by omega) (by omega), if_neg (by omega), at_of hk (by omega) (by show 2 * (i - 1) + 1 < 2 * n; omega)]
  congr 1
  show 2 + (2 * (i - 1) + 1) = _
  omega
theorem rcells_eq (n s h t : Int) : hatstandref6_Cells.f n s h t = some (cellsI n s h) := by
  unfold hatstandref6_Cells.f cellsI
  rw [rcheck_eq, Option.bind_some]
  cases hk : okC n s h with
  | false => rw [if_neg (by decide), if_neg (by decide)]
  | true =>
    have hb := okC_bounds hk
    rw [if_pos rfl, if_pos rfl, if_pos rfl, w64 (x := 2 * n) (by omega) (by omega), w64 (x := 2 + 2 * n) (by omega) (by omega), w64 (x := 2 + 2 * n + s) (by omega) (by omega), w64 (by omega) (by omega)]
theorem tmod32 {x : Int} (h : 0 ≤ x) : (Int.tmod x 4294967296) % 4294967296 = x % 4294967296 := by rw [Int.tmod_eq_emod_of_nonneg h]; omega
theorem rd_nonneg {l : List Int} (h : ∀ x ∈ l, 0 ≤ x) (i : Int) : 0 ≤ rd l i := by
  unfold rd
  by_cases c : i.toNat < l.length
  · rw [List.getD_eq_getElem?_getD, List.getElem?_eq_getElem c, Option.getD_some]
    exact h _ (List.getElem_mem c)
  · rw [List.getD_eq_getElem?_getD, List.getElem?_eq_none (by omega), Option.getD_none]
    omega
theorem mem_of_rd {l : List Int} {j : Nat} (h : j < l.length) : rd l (j : Int) ∈ l := by
  simp only [rd, Int.toNat_natCast, List.getD_eq_getElem?_getD, List.getElem?_eq_getElem h, Option.getD_some]
  exact List.getElem_mem h

theorem arith_k {d k z : Nat} (h : (d + 1 + 1) * 100 < k + 1 + z + 1) (h1 : z ≤ 64) : (d + 1) * 100 < k := by
  rw [Nat.add_mul (d + 1) 1 100] at h
  generalize (d + 1) * 100 = y at *
  omega
theorem nodup_snoc {l : List Int} {x : Int} (h : l.Nodup) (hx : x ∉ l) : (l ++ [x]).Nodup := by
  rw [List.nodup_append]
  refine ⟨h, List.nodup_cons.2 ⟨by simp, List.nodup_nil⟩, fun a ha b hb e => ?_⟩
  rw [List.mem_singleton.1 hb] at e
  rw [e] at ha
  exact hx ha
def res (out : List Int) (x : Option (List Int)) : List Int × Bool := match x with | some l => (out ++ l, true) | none => ([], false)
theorem drop_at {l : List Int} {j : Nat} (h : j < l.length) : l.drop j = rd l (j : Int) :: l.drop (j + 1) := by
  rw [List.drop_eq_getElem_cons h]
  congr 1
  simp [rd, h]
section
variable (n s h t : Int) (words : List Int)
theorem rchain_mem (out : List Int) (i : Int) (hl : out.length ≤ 100) (d : Nat) : ∀ (k j : Nat), j ≤ out.length → out.length - j = d → d < k → i ∈ out.drop j →
    hatstandref6_Chain.l1 k words out i (j : Int) n s h t = some ([], false) := by
  intro k j hj hd hkk hm
  induction d generalizing k j with
  | zero =>
    rw [List.drop_eq_nil_of_le (by omega)] at hm
    cases hm
  | succ d ih =>
    obtain ⟨k, rfl⟩ : ∃ m, k = m + 1 := ⟨k - 1, by omega⟩
    simp only [hatstandref6_Chain.l1]
    rw [if_pos (by omega), if_pos (by omega)]
    by_cases c : rd out (j : Int) = i
    · rw [if_pos c]
    · rw [if_neg c, w64 (by omega) (by omega)]
      rw [drop_at (by omega)] at hm
      rcases List.mem_cons.1 hm with e | e
      · exact absurd e.symm c
      · exact ih k (j + 1) (by omega) (by omega) (by omega) e
theorem rchain_not (out : List Int) (i : Int) (hl : out.length ≤ 100) (hm : i ∉ out) (d : Nat) : ∀ (k j : Nat), j ≤ out.length → out.length - j = d →
    hatstandref6_Chain.l1 (k + d) words out i (j : Int) n s h t = hatstandref6_Chain.l1 k words out i (out.length : Int) n s h t := by
  intro k j hj hd
  induction d generalizing j with
  | zero =>
    obtain rfl : j = out.length := by omega
    rfl
  | succ d ih =>
    have c : rd out (j : Int) ≠ i := fun e => hm (e ▸ mem_of_rd (by omega))
    rw [show k + (d + 1) = (k + d) + 1 from rfl]
    rw [show hatstandref6_Chain.l1 ((k + d) + 1) words out i (j : Int) n s h t = hatstandref6_Chain.l1 (k + d) words out i ((j + 1 : Nat) : Int) n s h t from by
      conv => lhs; simp only [hatstandref6_Chain.l1]
      rw [if_pos (by omega), if_pos (by omega), if_neg c, w64 (by omega) (by omega)]
      rfl]
    exact ih (j + 1) (by omega) (by omega)
variable (hk : okC n s h = true) (hw : (words.length : Int) = 2 + 2 * n + s + h) (hp : ∀ x ∈ words, 0 ≤ x)
include hk hw hp
set_option maxHeartbeats 1600000 in
theorem rchain_l0 (d : Nat) : ∀ (k : Nat) (out : List Int) (i : Int), 0 ≤ i → i < 4294967296 → (out.length : Int) + d = n → out.Nodup → (∀ x ∈ out, 1 ≤ x ∧ x ≤ n) →
    (∃ i0, ∀ f l, pth (stepW words) (nodeV n) f i = some l → ∃ g, pth (stepW words) (nodeV n) g i0 = some (out ++ l)) → (d + 1) * 100 < k →
    hatstandref6_Chain.l0 k words out i n s h t = some (res out (pth (stepW words) (nodeV n) n.toNat i)) := by
  have hb := okC_bounds hk
  have hV : ∀ x, nodeV n x = true → 1 ≤ x ∧ x ≤ n.toNat := fun x hx => by have := nodeV_iff.1 hx; omega
  induction d with
  | zero =>
    intro k out i i0 i1 hl hnd hv hpre hkk
    obtain ⟨k, rfl⟩ : ∃ m, k = m + 1 := ⟨k - 1, by omega⟩
    simp only [hatstandref6_Chain.l0]
    by_cases e : i = 0
    · rw [if_pos e, e, pth_zero]
      simp [res]
    rw [if_neg e]
    by_cases hm : i ∈ out
    · rw [pth_in hm hpre n.toNat e]
      exact rchain_mem n s h t words out i (by omega) out.length k 0 (by omega) (by omega) (by omega) hm
    · have hbad : ¬ (1 ≤ i ∧ i ≤ n) := by
        intro hi
        have hn2 : (i :: out).Nodup := List.nodup_cons.2 ⟨hm, hnd⟩
        have := nodup_range hn2 n.toNat fun x hx => by
          rcases List.mem_cons.1 hx with rfl | hx
          · omega
          · have := hv x hx; omega
        simp at this
        omega
      have hq : pth (stepW words) (nodeV n) n.toNat i = none := by
        obtain ⟨m, hm'⟩ : ∃ m, n.toNat = m + 1 := ⟨n.toNat - 1, by omega⟩
        rw [hm']
        simp [pth, e, nodeV_iff, hbad]
      rw [hq]
      obtain ⟨k, rfl⟩ : ∃ m, k = (m + 1) + out.length := ⟨k - out.length - 1, by omega⟩
      rw [show (0 : Int) = ((0 : Nat) : Int) from rfl, rchain_not n s h t words out i (by omega) hm out.length (k + 1) 0 (by omega) (by omega)]
      simp only [hatstandref6_Chain.l1]
      rw [if_neg (by omega), if_pos (by omega)]
      rfl
  | succ d ih =>
    intro k out i i0 i1 hl hnd hv hpre hkk
    obtain ⟨k, rfl⟩ : ∃ m, k = m + 1 := ⟨k - 1, by omega⟩
    simp only [hatstandref6_Chain.l0]
    by_cases e : i = 0
    · rw [if_pos e, e, pth_zero]
      simp [res]
    rw [if_neg e]
    by_cases hm : i ∈ out
    · rw [pth_in hm hpre n.toNat e]
      exact rchain_mem n s h t words out i (by omega) out.length k 0 (by omega) (by omega) (by omega) hm
    · obtain ⟨k, rfl⟩ : ∃ m, k = (m + 1) + out.length := ⟨k - out.length - 1, by omega⟩
      rw [show (0 : Int) = ((0 : Nat) : Int) from rfl, rchain_not n s h t words out i (by omega) hm out.length (k + 1) 0 (by omega) (by omega)]
      simp only [hatstandref6_Chain.l1]
      rw [if_neg (by omega)]
      by_cases hi : i ≤ n
      · have hvi : nodeV n i = true := nodeV_iff.2 ⟨by omega, hi⟩
        rw [if_neg (by omega), if_pos (by omega), rnext_eq i0 i1, Option.bind_some, at0_of hk (by omega) hi, if_pos (by omega), if_pos (by omega), tmod32 (rd_nonneg hp _)]
        show hatstandref6_Chain.l0 k words (out ++ [i]) (stepW words i) n s h t = _
        have a1 : ((out ++ [i]).length : Int) + d = n := by rw [List.length_append]; simp only [List.length_cons, List.length_nil]; omega
        have a2 : ∀ x ∈ out ++ [i], 1 ≤ x ∧ x ≤ n := fun x hx => (List.mem_append.1 hx).elim (hv x) (fun hx => by rw [List.mem_singleton.1 hx]; omega)
        have a3 : 0 ≤ stepW words i ∧ stepW words i < 4294967296 := ⟨Int.emod_nonneg _ (by decide), Int.emod_lt_of_pos _ (by decide)⟩
        have a4 : (d + 1) * 100 < k := by
          have h1 : out.length ≤ 64 := by omega
          exact arith_k hkk h1
        have a5 : ∃ j0, ∀ f l, pth (stepW words) (nodeV n) f (stepW words i) = some l → ∃ g, pth (stepW words) (nodeV n) g j0 = some ((out ++ [i]) ++ l) := by
          obtain ⟨j0, hj⟩ := hpre
          refine ⟨j0, fun f l hf => ?_⟩
          obtain ⟨g, hg⟩ := hj (f + 1) (i :: l) (by rw [pth_cons e hvi, hf]; rfl)
          exact ⟨g, by rw [hg]; simp⟩
        have a6 := ih k (out ++ [i]) (stepW words i) a3.1 a3.2 a1 (nodup_snoc hnd hm) a2 a5 a4
        have a7 : pth (stepW words) (nodeV n) n.toNat i = (pth (stepW words) (nodeV n) n.toNat (stepW words i)).map (i :: ·) := pth_step (by omega) hV e hvi
        rw [a6, a7]
        cases pth (stepW words) (nodeV n) n.toNat (stepW words i) <;> simp [res]
      · rw [if_pos (by omega)]
        have hq : pth (stepW words) (nodeV n) n.toNat i = none := by
          obtain ⟨m, hm'⟩ : ∃ m, n.toNat = m + 1 := ⟨n.toNat - 1, by omega⟩
          rw [hm']
          simp [pth, e, nodeV_iff, show ¬ (1 ≤ i ∧ i ≤ n) from fun h => hi h.2]
        rw [hq]
        rfl
theorem rchain_eq (w : Int) (hw0 : 0 ≤ w) (k : Nat) (hkk : 7000 ≤ k) : hatstandref6_Chain.f k n s h t words w = some (chainP n s h words w) := by
  have hb := okC_bounds hk
  have hc : cellsI n s h = 2 + 2 * n + s + h := by unfold cellsI; rw [if_pos hk]
  obtain ⟨k, rfl⟩ : ∃ m, k = m + 1 := ⟨k - 1, by omega⟩
  unfold hatstandref6_Chain.f
  rw [rcheck_eq, Option.bind_some, if_pos hk, if_pos rfl, rcells_eq, Option.bind_some, show ((words.length : Int) != cellsI n s h) = false from by simp [hc, hw]]
  simp only [hatstandref6_Chain.j0]
  rw [if_neg (by decide), tmod32 hw0, chainP_eq hk words hw]
  rw [rchain_l0 n s h t words hk hw hp n.toNat k [] _ (Int.emod_nonneg _ (by decide)) (Int.emod_lt_of_pos _ (by decide)) (by simp; omega) List.nodup_nil (by simp) ⟨_, fun f l hf => ⟨f, hf⟩⟩ (by omega)]
  cases pth (stepW words) (nodeV n) n.toNat (w % 4294967296) <;> simp [res]
end
theorem rchain_bad (n s h t : Int) (words : List Int) (w : Int) (hbad : ¬ (okC n s h = true ∧ (words.length : Int) = cellsI n s h)) (k : Nat) (hkk : 3 ≤ k) : hatstandref6_Chain.f k n s h t words w = some (chainP n s h words w) := by
  obtain ⟨k, rfl⟩ : ∃ m, k = m + 1 := ⟨k - 1, by omega⟩
  unfold hatstandref6_Chain.f chainP
  rw [rcheck_eq, Option.bind_some, if_neg hbad]
  cases hk : okC n s h with
  | false =>
    rw [if_neg (by decide)]
    simp only [hatstandref6_Chain.j0]
    rw [if_pos trivial]
  | true =>
    rw [if_pos rfl, if_pos rfl, rcells_eq, Option.bind_some, show ((words.length : Int) != cellsI n s h) = true from by simp; exact fun e => hbad ⟨hk, e⟩]
    simp only [hatstandref6_Chain.j0]
    rw [if_pos trivial]
theorem chainP_bad {n s h : Int} {words : List Int} (hbad : ¬ (okC n s h = true ∧ (words.length : Int) = cellsI n s h)) (w : Int) : chainP n s h words w = ([], false) := by
  unfold chainP
  rw [if_neg hbad]
theorem chain_mem {n s h : Int} {words : List Int} (hk : okC n s h = true) (hw : (words.length : Int) = 2 + 2 * n + s + h) (w : Int) :
    (∀ x ∈ (chainP n s h words w).1, 1 ≤ x ∧ x ≤ n) ∧ (chainP n s h words w).1.length ≤ 64 := by
  have hb := okC_bounds hk
  rw [chainP_eq hk words hw]
  cases hp : pth (stepW words) (nodeV n) n.toNat (w % 4294967296) with
  | none => simp
  | some l => exact ⟨fun x hx => nodeV_iff.1 (pth_valid hp x hx), by have := pth_length hp; show l.length ≤ 64; omega⟩
def valW (words : List Int) (i : Int) : Int := rd words (2 * i + 1)
def stackP (n s h : Int) (words : List Int) : List Int × Bool := ((((chainP n s h words (rd words 0)).1).map (valW words)).reverse, (chainP n s h words (rd words 0)).2)

theorem set_rev (a : List Int) (m : Nat) (v : Int) : (List.replicate (m + 1) 0 ++ a).set m v = List.replicate m 0 ++ (v :: a) := by
  rw [List.replicate_succ', List.append_assoc, List.set_append, if_neg (by simp), List.length_replicate, Nat.sub_self]
  rfl
theorem stack_l0 (n s h t : Int) (words : List Int) (hk : okC n s h = true) (hw : (words.length : Int) = 2 + 2 * n + s + h) (l : List Int) (hl : ∀ x ∈ l, 1 ≤ x ∧ x ≤ n) (hn : l.length ≤ 64) (o : Bool) (d : Nat) : ∀ (k j : Nat), j ≤ l.length → l.length - j = d → d < k →
    layout_Stack.l0 k words l o (List.replicate d 0 ++ ((l.take j).map (valW words)).reverse) l (l.length : Int) (j : Int) n s h t = some ((l.map (valW words)).reverse, o) := by
  have hb := okC_bounds hk
  induction d with
  | zero =>
    intro k j hj hd hkk
    obtain ⟨k, rfl⟩ : ∃ m, k = m + 1 := ⟨k - 1, by omega⟩
    simp only [layout_Stack.l0]
    rw [if_neg (by omega), List.take_of_length_le (by omega)]
    rfl
  | succ d ih =>
    intro k j hj hd hkk
    obtain ⟨k, rfl⟩ : ∃ m, k = m + 1 := ⟨k - 1, by omega⟩
    have hlt : j < l.length := by omega
    obtain ⟨v1, v2⟩ := hl (rd l (j : Int)) (mem_of_rd hlt)
    simp only [layout_Stack.l0]
    rw [if_pos (by omega), if_pos (by omega), if_pos (by omega), value_of hk v1 v2, Option.bind_some, if_pos (by omega), if_pos (by omega), w64 (x := (l.length : Int) - 1) (by omega) (by omega), w64 (x := (l.length : Int) - 1 - j) (by omega) (by omega), w64 (x := (j : Int) + 1) (by omega) (by omega), if_pos (by omega)]
    rw [if_pos (by rw [List.length_append, List.length_replicate]; omega), show ((l.length : Int) - 1 - j).toNat = d from by omega, set_rev]
    have := ih k (j + 1) (by omega) (by omega) (by omega)
    rw [List.take_succ_eq_append_getElem hlt, List.map_append, List.reverse_append] at this
    rw [show l[j] = rd l (j : Int) from by simp [rd, hlt]] at this
    exact this
theorem stack_eq (n s h t : Int) (words : List Int) (k : Nat) (hkk : 400 ≤ k) : layout_Stack.f k n s h t words = some (stackP n s h words) := by
  unfold layout_Stack.f stackP
  by_cases hc : okC n s h = true ∧ (words.length : Int) = cellsI n s h
  · have hb := okC_bounds hc.1
    have hw : (words.length : Int) = 2 + 2 * n + s + h := by rw [hc.2]; unfold cellsI; rw [if_pos hc.1]
    obtain ⟨m1, m2⟩ := chain_mem hc.1 hw (rd words 0)
    rw [if_neg (by omega), if_pos (by omega), chain_eq _ _ _ _ _ _ _ (by omega), Option.bind_some]
    generalize chainP n s h words (rd words 0) = c at *
    obtain ⟨l, o⟩ := c
    dsimp only at *
    rw [if_pos (by omega), if_pos (by omega), Int.toNat_natCast]
    have := stack_l0 n s h t words hc.1 hw l m1 m2 o l.length k 0 (by omega) (by omega) (by omega)
    simp only [List.take_zero, List.map_nil, List.reverse_nil, List.append_nil] at this
    exact this
  · rw [chainP_bad hc]
    by_cases e : (words.length : Int) = 0
    · rw [if_pos e]
      rfl
    · rw [if_neg e, if_pos (by omega), chain_eq _ _ _ _ _ _ _ (by omega), Option.bind_some, chainP_bad hc]
      obtain ⟨k, rfl⟩ : ∃ m, k = m + 1 := ⟨k - 1, by omega⟩
      rw [if_pos (by simp), if_pos (by simp)]
      simp only [layout_Stack.l0]
      rw [if_neg (by simp)]
      rfl
theorem rstack_l0 (n s h t : Int) (words : List Int) (hk : okC n s h = true) (hw : (words.length : Int) = 2 + 2 * n + s + h) (l : List Int) (hl : ∀ x ∈ l, 1 ≤ x ∧ x ≤ n) (hn : l.length ≤ 64) (o : Bool) (d : Nat) : ∀ (k : Nat), d ≤ l.length → d < k →
    hatstandref6_Stack.l0 k words l o ((l.drop d).map (valW words)).reverse ((d : Int) - 1) n s h t = some ((l.map (valW words)).reverse, o) := by
  have hb := okC_bounds hk
  induction d with
  | zero =>
    intro k hj hkk
    obtain ⟨k, rfl⟩ : ∃ m, k = m + 1 := ⟨k - 1, by omega⟩
    simp only [hatstandref6_Stack.l0]
    rw [if_neg (by omega)]
    rfl
  | succ d ih =>
    intro k hj hkk
    obtain ⟨k, rfl⟩ : ∃ m, k = m + 1 := ⟨k - 1, by omega⟩
    have hlt : d < l.length := by omega
    obtain ⟨v1, v2⟩ := hl (rd l (d : Int)) (mem_of_rd hlt)
    simp only [hatstandref6_Stack.l0]
    rw [show ((d + 1 : Nat) : Int) - 1 = (d : Int) from by omega, if_pos (by omega), if_pos (by omega), if_pos (by omega), rvalue_of hk v1 v2, Option.bind_some, if_pos (by omega), if_pos (by omega), if_pos (by simp only [List.length_reverse, List.length_map, List.length_drop]; omega), w64 (by omega) (by omega)]
    have := ih k (by omega) (by omega)
    rw [drop_at hlt, List.map_cons, List.reverse_cons] at this
    exact this
theorem rstack_eq (n s h t : Int) (words : List Int) (hp : ∀ x ∈ words, 0 ≤ x) (k : Nat) (hkk : 8000 ≤ k) : hatstandref6_Stack.f k n s h t words = some (stackP n s h words) := by
  unfold hatstandref6_Stack.f stackP
  obtain ⟨k, rfl⟩ : ∃ m, k = m + 1 := ⟨k - 1, by omega⟩
  rw [rcheck_eq, Option.bind_some, rcells_eq]
  by_cases hc : okC n s h = true ∧ (words.length : Int) = cellsI n s h
  · have hb := okC_bounds hc.1
    have hw : (words.length : Int) = 2 + 2 * n + s + h := by rw [hc.2]; unfold cellsI; rw [if_pos hc.1]
    obtain ⟨m1, m2⟩ := chain_mem hc.1 hw (rd words 0)
    rw [if_pos hc.1, if_pos rfl, Option.bind_some, show ((words.length : Int) != cellsI n s h) = false from by simp [hc.2]]
    simp only [hatstandref6_Stack.j0]
    rw [if_neg (by decide), if_pos (by omega), rchain_eq n s h t words hc.1 hw hp _ (rd_nonneg hp 0) k (by omega), Option.bind_some]
    generalize chainP n s h words (rd words 0) = c at *
    obtain ⟨l, o⟩ := c
    dsimp only at *
    rw [w64 (by omega) (by omega)]
    have := rstack_l0 n s h t words hc.1 hw l m1 m2 o l.length k (by omega) (by omega)
    rw [List.drop_eq_nil_of_le (by omega)] at this
    exact this
  · rw [chainP_bad hc]
    cases hk : okC n s h with
    | false =>
      rw [if_neg (by decide)]
      show hatstandref6_Stack.j0 (k + 1) words true n s h t = _
      simp only [hatstandref6_Stack.j0]
      rw [if_pos trivial]
      rfl
    | true =>
      rw [if_pos rfl, if_pos rfl, Option.bind_some, show ((words.length : Int) != cellsI n s h) = true from by simp; exact fun e => hc ⟨hk, e⟩]
      simp only [hatstandref6_Stack.j0]
      rw [if_pos trivial]
      rfl

theorem LayoutChains (n s h t : Int) (words : List Int) (hp : ∀ x ∈ words, 0 ≤ x) (w : Int) (hw0 : 0 ≤ w) : ∃ K, hatstandlaw6_LayoutChains.f K n s h t words w = some true := by
  obtain ⟨K, hK⟩ : ∃ K : Nat, 10000 ≤ K := ⟨10000, by omega⟩
  refine ⟨K + 1, ?_⟩
  unfold hatstandlaw6_LayoutChains.f
  rw [shown_eq, Option.bind_some, if_pos rfl]
  simp only [hatstandlaw6_LayoutChains.j0]
  by_cases c : (words.length : Int) > 1100
  · rw [decide_eq_true c, if_pos rfl]
  rw [decide_eq_false c, if_neg (by decide), chain_eq _ _ _ _ _ _ _ (by omega), Option.bind_some, show hatstandlaw6_as.f n s h t = some (n, s, h, t) from rfl, Option.bind_some]
  dsimp only
  have e1 : hatstandref6_Chain.f K n s h t words w = some (chainP n s h words w) := by
    by_cases hc : okC n s h = true ∧ (words.length : Int) = cellsI n s h
    · have hw : (words.length : Int) = 2 + 2 * n + s + h := by rw [hc.2]; unfold cellsI; rw [if_pos hc.1]
      exact rchain_eq n s h t words hc.1 hw hp w hw0 K (by omega)
    · exact rchain_bad n s h t words w hc K (by omega)
  have hlen : ∀ x, (chainP n s h words x).1.length ≤ 64 := fun x => by
    by_cases hc : okC n s h = true ∧ (words.length : Int) = cellsI n s h
    · have hw : (words.length : Int) = 2 + 2 * n + s + h := by rw [hc.2]; unfold cellsI; rw [if_pos hc.1]
      exact (chain_mem hc.1 hw x).2
    · rw [chainP_bad hc]; simp
  have h1 := hlen w
  have h2 : (stackP n s h words).1.length ≤ 64 := by unfold stackP; simp only [List.length_reverse, List.length_map]; exact hlen _
  rw [e1, Option.bind_some, stack_eq _ _ _ _ _ _ (by omega), Option.bind_some, Option.bind_some, rstack_eq _ _ _ _ _ hp _ (by omega), Option.bind_some, sam_eq _ (by omega) _ (by omega), Option.bind_some, if_pos rfl, beq_self_eq_true, if_pos rfl, same_eq _ (by omega) _ (by omega), Option.bind_some, if_pos rfl, beq_self_eq_true]
theorem walk_LayoutChains (n s h t : Int) (a1 : Option Addr) (len1 cap1 : Nat) (z1 : List Int) (x : Int) (w : World) (w0 : (Lit.int .i64 n).wf = true) (w1 : (Lit.int .i64 s).wf = true) (w2 : (Lit.int .i64 h).wf = true) (w3 : (Lit.int .u32 t).wf = true) (w4 : IsRow .u64 w a1 len1 cap1 z1) (y4 : len1 * 8 ≤ 140737488351232) (w5 : (Lit.int .u64 x).wf = true) :
    Calls Try.prog 8 #[.agg #[.int .i64 n, .int .i64 s, .int .i64 h, .int .u32 t], .slice a1 len1 cap1, .int .u64 x] w fun e w' => e = .returned (.bool true) ∧ Below w.heap.size w w' := by
  obtain ⟨l1, rfl, hr1, hm1, hw1, hc1⟩ := ReadsInt.ofRowC w4
  obtain ⟨K, hK⟩ := LayoutChains n s h t l1 (fun y hy => (wfu64 (hw1 y hy)).1) x (wfu64 w5).1
  exact hatstandlaw6_LayoutChains.calls K n s h t a1 cap1 l1 x true w (Kd.C_of_reads (d := (0 : Int)) (h1 := fun _ => rfl) hr1) hc1 hK
end Go.Proofs.Ytckmcphphnoilaa.Pure
