/-
  Takes from a fresh list, one behind the other, and a give: the words and the steps, in plain terms.
-/
import Derived.Test.YtdhkppijeocaoaaFirstLaw
import Derived.Test.YtdhkppijeocaoaaGives
namespace Go.Proofs.Ytdhkppijeocaoaa
open Go.RowKit Go.Proofs.YtdhkppijeocaoaaW.PrintWords Go.Proofs.Ytdhkppijeocaoaa.Pl
set_option linter.unusedVariables false
set_option linter.unusedSimpArgs false

/-- The free list's head behind i takes. -/
def hd (n : Nat) (t : Int) (i : Nat) : Int := (if i < n then (i : Int) + 1 else 0) + (t + i) % 4294967296 * 4294967296
theorem hd_lo (n : Nat) (t : Int) (i : Nat) (hn : n ≤ 64) : hd n t i % 4294967296 = if i < n then (i : Int) + 1 else 0 := by
  unfold hd
  split <;> omega
theorem hd_hi (n : Nat) (t : Int) (i : Nat) (hn : n ≤ 64) : hd n t i / 4294967296 = (t + i) % 4294967296 := by
  unfold hd
  split <;> omega
theorem hd_rng (n : Nat) (t : Int) (i : Nat) (hn : n ≤ 64) : 0 ≤ hd n t i ∧ hd n t i < 18446744073709551616 := by
  unfold hd
  split <;> omega
/-- Fresh words, with another head of the free list. -/
def wsP (n s h : Nat) (t v : Int) : List Int := (freshL n s h t n s).set 1 v
theorem wsP_len (n s h : Nat) (t v : Int) : (wsP n s h t v).length = 2 + 2 * n + s + h := by simp [wsP, freshL_length]
theorem wsP_1 (n s h : Nat) (t v : Int) (hn : 1 ≤ n) : rdW (wsP n s h t v) 1 = v := set_same (by rw [freshL_length]; omega)
theorem wsP_node (n s h : Nat) (t v : Int) (i : Nat) (h1 : 1 ≤ i) (h2 : i ≤ n) : rdW (wsP n s h t v) (2 * i) = if i < n then (i : Int) + 1 else 0 := by
  rw [wsP, set_other (by omega), rdW_fresh (by omega)]
  unfold fv
  rw [if_neg (by omega), if_neg (by omega)]
  by_cases h3 : 2 * i < 2 + 2 * n
  · rw [if_pos h3]
    by_cases h4 : i < n
    · rw [if_pos ⟨by omega, by omega⟩, if_pos h4]
      omega
    · rw [if_neg (by omega), if_neg h4]
  · omega
theorem wsP_set (n s h : Nat) (t v u : Int) : (wsP n s h t v).set 1 u = wsP n s h t u := by simp [wsP]
theorem wsP_same (n s h : Nat) (t v : Int) (i : Nat) (h1 : 1 ≤ i) (h2 : i ≤ n) : (wsP n s h t v).set (2 * i) (if i < n then (i : Int) + 1 else 0) = wsP n s h t v := by
  rw [← wsP_node n s h t v i h1 h2]
  exact set_self (by rw [wsP_len]; omega)
theorem fresh_wsP (n s h : Nat) (t : Int) (hn : 1 ≤ n) (t0 : 0 ≤ t) (t1 : t < 4294967296) : freshL n s h t n s = wsP n s h t (hd n t 0) := by
  have e : hd n t 0 = rdW (freshL n s h t n s) 1 := by
    rw [rdW_fresh (by omega)]
    unfold hd fv
    rw [if_pos (by omega), if_neg (by omega), if_pos rfl]
    omega
  rw [wsP, e, set_self (by rw [freshL_length]; omega)]
/-- The steps of the take of node i + 1. -/
def tS (n s h : Nat) (t : Int) (i : Nat) : Nat → TM
  | 0 => ⟨n, s, h, t, 1, 0, 0, .first, 0⟩
  | 1 => ⟨n, s, h, t, 1, (i : Int) + 1, hd n t i, .second, 0⟩
  | 2 => ⟨n, s, h, t, 1, (i : Int) + 1, hd n t i, .last (if i + 1 < n then (i : Int) + 2 else 0), 0⟩
  | _ => ⟨n, s, h, t, 1, (i : Int) + 1, hd n t i, .last (if i + 1 < n then (i : Int) + 2 else 0), 1⟩
def tW (n s h : Nat) (t : Int) (i : Nat) (k : Nat) : List Int := wsP n s h t (if k = 3 then hd n t (i + 1) else hd n t i)
def tN (n : Nat) (t : Int) (i : Nat) (ns : List Note) : Nat → List Note
  | 0 => ns
  | 1 => ns ++ [⟨108, 1, hd n t i, hd n t i, true⟩]
  | 2 => (ns ++ [⟨108, 1, hd n t i, hd n t i, true⟩]) ++ [⟨108, 2 * ((i : Int) + 1), (if i + 1 < n then (i : Int) + 2 else 0), (if i + 1 < n then (i : Int) + 2 else 0), true⟩]
  | _ => ((ns ++ [⟨108, 1, hd n t i, hd n t i, true⟩]) ++ [⟨108, 2 * ((i : Int) + 1), (if i + 1 < n then (i : Int) + 2 else 0), (if i + 1 < n then (i : Int) + 2 else 0), true⟩]) ++ [⟨99, 1, hd n t i, hd n t (i + 1), true⟩]
theorem next_place {n s h : Nat} (hk : okC n s h = true) (i : Nat) (hi : i < n) : atI n s h 0 (2 * ((i : Int) + 1 - 1)) = ((2 * (i + 1) : Nat) : Int) := by
  rw [at0_of hk (by omega) (by omega)]
  omega
theorem hd_next (n : Nat) (t : Int) (i : Nat) (hn : n ≤ 64) (hi : i < n) : nextW (hd n t i) ((if i + 1 < n then (i : Int) + 2 else 0) % 4294967296) = hd n t (i + 1) := by
  unfold nextW
  rw [hd_hi n t i hn]
  unfold hd
  by_cases h : i + 1 < n
  · rw [if_pos h, if_pos h]
    omega
  · rw [if_neg h, if_neg h]
    omega
theorem take_steps {n s h : Nat} {t : Int} (hk : okC n s h = true) (i : Nat) (hi : i < n) (ns : List Note) : ∀ k, k < 3 → TkStep (tS n s h t i k) (tW n s h t i k) (tN n t i ns k) (if k = 2 then 1 else 0) (tS n s h t i (k + 1)) (tW n s h t i (k + 1)) (tN n t i ns (k + 1)) := by
  obtain ⟨b1, b2, b3, b4, b5, b6⟩ := okC_bounds hk
  have hn : n ≤ 64 := by omega
  have w1 := wsP_1 n s h t (hd n t i) (by omega)
  have w2 := wsP_node n s h t (hd n t i) (i + 1) (by omega) (by omega)
  have lo := hd_lo n t i hn
  rw [if_pos hi] at lo
  have hl := wsP_len n s h t (hd n t i)
  intro k hk3
  rcases (show k = 0 ∨ k = 1 ∨ k = 2 by omega) with rfl | rfl | rfl
  · have := TkStep.head (S := tS n s h t i 0) (ws := wsP n s h t (hd n t i)) (ns := ns) 1 ((2 * (i + 1) : Nat) : Int) rfl rfl rfl (by omega) (by rw [w1, lo]; try omega) (by rw [w1, lo]; exact next_place hk i hi) (by omega)
    rw [w1, lo] at this
    exact this
  · have := TkStep.second (S := tS n s h t i 1) (ws := wsP n s h t (hd n t i)) (ns := tN n t i ns 1) (2 * (i + 1)) rfl rfl (next_place hk i hi) (by omega)
    rw [w2] at this
    have e : (((i + 1 : Nat) : Int) + 1) = (i : Int) + 2 := by omega
    have e2 : ((2 * (i + 1) : Nat) : Int) = 2 * ((i : Int) + 1) := by omega
    rw [e, e2] at this
    exact this
  · have := TkStep.hit (S := tS n s h t i 2) (ws := wsP n s h t (hd n t i)) (ns := tN n t i ns 2) 1 _ rfl rfl rfl (by omega) w1
    rw [wsP_set] at this
    have e := hd_next n t i hn hi
    change TkStep _ _ _ 1 _ (wsP n s h t (nextW (hd n t i) _)) (_ ++ [⟨99, 1, hd n t i, nextW (hd n t i) _, true⟩]) at this
    rw [e] at this
    exact this
theorem tN_len (n : Nat) (t : Int) (i : Nat) (ns : List Note) (k : Nat) (hk : k ≤ 3) : (tN n t i ns k).length = ns.length + k := by
  rcases (show k = 0 ∨ k = 1 ∨ k = 2 ∨ k = 3 by omega) with rfl | rfl | rfl | rfl <;> simp [tN]
/-- The steps of the give of node i + 1, behind its take. -/
def gHd (t : Int) (i : Nat) : Int := (i : Int) + 1 + (t + i + 2) % 4294967296 * 4294967296
def gS (n s h : Nat) (t : Int) (i : Nat) : Nat → TM
  | 0 => ⟨n, s, h, t, 1, (i : Int) + 1, 0, .first, 0⟩
  | 1 => ⟨n, s, h, t, 1, (i : Int) + 1, hd n t (i + 1), .second, 0⟩
  | 2 => ⟨n, s, h, t, 1, (i : Int) + 1, hd n t (i + 1), .last 0, 0⟩
  | _ => ⟨n, s, h, t, 1, (i : Int) + 1, hd n t (i + 1), .last 0, 1⟩
def gW (n s h : Nat) (t : Int) (i : Nat) (k : Nat) : List Int := wsP n s h t (if k = 3 then gHd t i else hd n t (i + 1))
def gN (n : Nat) (t : Int) (i : Nat) (ns : List Note) : Nat → List Note
  | 0 => ns
  | 1 => ns ++ [⟨108, 1, hd n t (i + 1), hd n t (i + 1), true⟩]
  | 2 => (ns ++ [⟨108, 1, hd n t (i + 1), hd n t (i + 1), true⟩]) ++ [⟨115, 2 * ((i : Int) + 1), (if i + 1 < n then (i : Int) + 2 else 0), (if i + 1 < n then (i : Int) + 2 else 0), true⟩]
  | _ => ((ns ++ [⟨108, 1, hd n t (i + 1), hd n t (i + 1), true⟩]) ++ [⟨115, 2 * ((i : Int) + 1), (if i + 1 < n then (i : Int) + 2 else 0), (if i + 1 < n then (i : Int) + 2 else 0), true⟩]) ++ [⟨99, 1, hd n t (i + 1), gHd t i, true⟩]
theorem gN_len (n : Nat) (t : Int) (i : Nat) (ns : List Note) (k : Nat) (hk : k ≤ 3) : (gN n t i ns k).length = ns.length + k := by
  rcases (show k = 0 ∨ k = 1 ∨ k = 2 ∨ k = 3 by omega) with rfl | rfl | rfl | rfl <;> simp [gN]
theorem give_steps {n s h : Nat} {t : Int} (hk : okC n s h = true) (i : Nat) (hi : i < n) (ns : List Note) : ∀ k, k < 3 → GvStep (gS n s h t i k) (gW n s h t i k) (gN n t i ns k) (if k = 2 then 1 else 0) (gS n s h t i (k + 1)) (gW n s h t i (k + 1)) (gN n t i ns (k + 1)) := by
  obtain ⟨b1, b2, b3, b4, b5, b6⟩ := okC_bounds hk
  have hn : n ≤ 64 := by omega
  have w1 := wsP_1 n s h t (hd n t (i + 1)) (by omega)
  have w2 := wsP_node n s h t (hd n t (i + 1)) (i + 1) (by omega) (by omega)
  have ws := wsP_same n s h t (hd n t (i + 1)) (i + 1) (by omega) (by omega)
  have lo := hd_lo n t (i + 1) hn
  have hl := wsP_len n s h t (hd n t (i + 1))
  have e : (((i + 1 : Nat) : Int) + 1) = (i : Int) + 2 := by omega
  have e2 : ((2 * (i + 1) : Nat) : Int) = 2 * ((i : Int) + 1) := by omega
  rw [e] at w2 ws lo
  intro k hk3
  rcases (show k = 0 ∨ k = 1 ∨ k = 2 by omega) with rfl | rfl | rfl
  · have := GvStep.head (S := gS n s h t i 0) (ws := wsP n s h t (hd n t (i + 1))) (ns := ns) 1 ((2 * (i + 1) : Nat) : Int) rfl rfl rfl (by omega) (next_place hk i hi) (by omega)
    rw [w1] at this
    exact this
  · have := GvStep.second (S := gS n s h t i 1) (ws := wsP n s h t (hd n t (i + 1))) (ns := gN n t i ns 1) (2 * (i + 1)) rfl rfl (next_place hk i hi) (by omega)
    change GvStep _ _ _ 0 _ ((wsP n s h t (hd n t (i + 1))).set (2 * (i + 1)) (hd n t (i + 1) % 4294967296)) (_ ++ [⟨115, ((2 * (i + 1) : Nat) : Int), _, hd n t (i + 1) % 4294967296, true⟩]) at this
    rw [lo, w2, ws, e2] at this
    exact this
  · have := GvStep.hit (S := gS n s h t i 2) (ws := wsP n s h t (hd n t (i + 1))) (ns := gN n t i ns 2) 1 _ rfl rfl rfl (by omega) w1
    rw [wsP_set] at this
    have e3 : nextW (hd n t (i + 1)) ((i : Int) + 1) = gHd t i := by
      unfold nextW gHd
      rw [hd_hi n t (i + 1) hn]
      omega
    change GvStep _ _ _ 1 _ (wsP n s h t (nextW (hd n t (i + 1)) ((i : Int) + 1))) (_ ++ [⟨99, 1, hd n t (i + 1), nextW (hd n t (i + 1)) ((i : Int) + 1), true⟩]) at this
    rw [e3] at this
    exact this
theorem Pair1.done {w w1 w2 : World} {o : Nat → Nat} {q p1 : Nat} {S S' : TM} {ws ws' : List Int} {ns ns' : List Note} (h : Pair1 w o w1 q p1 S ws ns) (k : TkPost o 2 1 p1 q S' ws' ns' w1 w2) : ∃ o2, Solo w o2 w2 q ws' ns' := by
  obtain ⟨o2, f, ha, hm⟩ := k
  obtain ⟨h1, h2⟩ := Fr.bel h.bel h.tag f (by decide)
  exact ⟨o2, h1, h2, hm⟩
/-- A memory, a Take and a Give. -/
structure PG (w : World) (o : Nat → Nat) (w' : World) (q p1 p2 : Nat) (S1 S2 : TM) (ws : List Int) (ns : List Note) : Prop where
  bel : Below w.heap.size w w'
  tag : ∀ b, b < w.heap.size → o b = 0
  mem : IsMem o 1 w' q ws ns
  a : IsTake o 2 w' p1 S1
  g : IsGive o 3 w' p2 S2
theorem Pair1.give {w w1 w2 : World} {o : Nat → Nat} {q p1 : Nat} {S1 : TM} {n s h t a i : Int} {ws : List Int} {ns : List Note} {e : Ending} (k : Pair1 w o w1 q p1 S1 ws ns) (hm : GiveMade o 3 n s h t a i w1 e w2) : ∃ p2 o2, e = .returned (.pointer (some ⟨p2, 0, none⟩)) ∧ PG w o2 w2 q p1 p2 S1 ⟨n, s, h, t, a, i, 0, .first, 0⟩ ws ns := by
  obtain ⟨p, o2, rfl, hp, f, ht⟩ := hm
  obtain ⟨h1, h2⟩ := Fr.bel k.bel k.tag f (fun h => h)
  exact ⟨p, o2, rfl, h1, h2, k.mem.kept f (fun h => h), k.a.kept f (fun h => h), ht⟩
theorem PG.stepA {w w1 w2 : World} {o : Nat → Nat} {q p1 p2 : Nat} {S1 S2 S' : TM} {ws ws' : List Int} {ns ns' : List Note} (h : PG w o w1 q p1 p2 S1 S2 ws ns) (k : TkPost o 2 1 p1 q S' ws' ns' w1 w2) : ∃ o2, PG w o2 w2 q p1 p2 S' S2 ws' ns' := by
  obtain ⟨o2, f, ha, hm⟩ := k
  obtain ⟨h1, h2⟩ := Fr.bel h.bel h.tag f (by decide)
  exact ⟨o2, h1, h2, hm, ha, h.g.kept f (by decide)⟩
theorem PG.stepG {w w1 w2 : World} {o : Nat → Nat} {q p1 p2 : Nat} {S1 S2 S' : TM} {ws ws' : List Int} {ns ns' : List Note} (h : PG w o w1 q p1 p2 S1 S2 ws ns) (k : GvPost o 3 1 p2 q S' ws' ns' w1 w2) : ∃ o2, PG w o2 w2 q p1 p2 S1 S' ws' ns' := by
  obtain ⟨o2, f, ha, hm⟩ := k
  obtain ⟨h1, h2⟩ := Fr.bel h.bel h.tag f (by decide)
  exact ⟨o2, h1, h2, hm, h.a.kept f (by decide), ha⟩
theorem PG.below {w w1 w2 : World} {o : Nat → Nat} {q p1 p2 : Nat} {S1 S2 : TM} {ws : List Int} {ns : List Note} (h : PG w o w1 q p1 p2 S1 S2 ws ns) (hb : Below w1.heap.size w1 w2) : PG w o w2 q p1 p2 S1 S2 ws ns :=
  ⟨h.bel.trans (hb.mono h.bel.size), h.tag, h.mem.below hb, h.a.below hb, h.g.below hb⟩
theorem gHd_eq (t : Int) (k : Nat) (t0 : 0 ≤ t) (t1 : t < 4294967296) : (k : Int) + 1 + ((t + k) % 4294967296 + 2) % 4294967296 * 4294967296 = gHd t k := by
  unfold gHd
  omega
theorem wsP_other (n s h : Nat) (t u v : Int) (i : Nat) (hi : i ≠ 1) : rdW (wsP n s h t u) i = rdW (wsP n s h t v) i := by
  unfold wsP
  rw [set_other (fun e => hi e.symm), set_other (fun e => hi e.symm)]
end Go.Proofs.Ytdhkppijeocaoaa
