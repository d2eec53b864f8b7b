/-
  ArenaAll, the plain law: free nodes, those on shelves, and those that are held, are all nodes, each once, whatever step is done.
-/
import Derived.Test.YtndigbkhaajjoaaMi7
import Derived.Test.YtndigbkhaajjoaaArN
import Derived.Test.YtndigbkhaajjoaaWh
namespace Go.Proofs.Ytndigbkhaajjoaa
open Go.RowKit
set_option linter.unusedVariables false
set_option linter.unusedSimpArgs false

/-- What a machine that is under way knows. -/
structure AKn (nn : Nat) (tg : Int) (ws : List Int) (l : Nat → List Int) (T : Nat → Int) (S : AM) : Prop where
  n : S.n = (nn : Int)
  ok : okC S.n S.s S.h = true
  st : S.st = 0
  gv : S.give = true → 1 ≤ S.node ∧ S.node ≤ nn
  now : ∀ T1, S.now = some T1 → Kn nn tg ws l T 1 T1 ∧ T1.give = S.give ∧ (S.give = true → T1.i = S.node)
theorem AKn.try_ {nn : Nat} {tg : Int} {ws : List Int} {l : Nat → List Int} {T : Nat → Int} {S : AM} (h : AKn nn tg ws l T S) : Kn nn tg ws l T 1 S.try_ ∧ S.try_.give = S.give ∧ (S.give = true → S.try_.i = S.node) := by
  unfold AM.try_
  cases hn : S.now with
  | some T1 => exact h.now T1 hn
  | none =>
    show Kn nn tg ws l T 1 S.fresh ∧ S.fresh.give = S.give ∧ (S.give = true → S.fresh.i = S.node)
    unfold AM.fresh
    by_cases hg : S.give = true
    · rw [if_pos hg]
      exact ⟨⟨h.n, h.ok, rfl, rfl, by decide, fun _ => h.gv hg, .inl rfl⟩, hg.symm, fun _ => rfl⟩
    · rw [if_neg hg]
      exact ⟨⟨h.n, h.ok, rfl, rfl, by decide, fun c => (by cases c), .inl rfl⟩, (by simpa using hg : S.give = false).symm, fun c => absurd c hg⟩
theorem AKn.frame {nn : Nat} {tg : Int} {ws ws' : List Int} {l l' : Nat → List Int} {T T' : Nat → Int} {S : AM} (h : AKn nn tg ws l T S) (hf : ∀ S2, Kn nn tg ws l T 1 S2 → (S2.give = true → S.give = true ∧ S2.i = S.node) → Kn nn tg ws' l' T' 1 S2) : AKn nn tg ws' l' T' S :=
  ⟨h.n, h.ok, h.st, h.gv, fun T1 e => ⟨hf T1 (h.now T1 e).1 fun hg => ⟨(h.now T1 e).2.1.symm.trans hg, (h.now T1 e).2.2 ((h.now T1 e).2.1.symm.trans hg)⟩, (h.now T1 e).2⟩⟩
theorem AM.goOn_eq {S : AM} {ws ws' : List Int} {r : Int} {T1 : TM} {nt : List Note} (hst : S.st = 0) (he : S.try_.step ws = ⟨r, T1, ws', nt⟩) :
    S.goOn ws = if r = 3 then (if S.left = 0 then ⟨6, T1.told r, { S with now := none, st := 6, i := T1.told r, left := S.left - 1 }, ws', nt⟩ else ⟨0, T1.told r, { S with now := none, st := 0, i := T1.told r, left := S.left - 1 }, ws', nt⟩) else ⟨r, T1.told r, { S with now := some T1, st := r, i := T1.told r }, ws', nt⟩ := by
  unfold AM.goOn
  simp only [hst, ne_eq, not_true_eq_false, if_false, he]
theorem AM.step_run {S S1 : AM} {ws ws1 : List Int} {r z : Int} {nt : List Note} (ht : ¬ (S.give = false ∧ S.shelf ≠ [])) (hgo : S.goOn ws = ⟨r, z, S1, ws1, nt⟩) (hr : r ≠ 6) : S.step ws = ⟨r, z, S1, ws1, nt⟩ := by
  unfold AM.step AM.take AM.gives
  by_cases hg : S.give = true
  · rw [if_pos hg, hgo]
    dsimp only
    rw [if_neg hr]
  · rw [if_neg hg, if_neg (fun c => ht ⟨by simpa using hg, c.1⟩), hgo]
theorem AM.step_take {S S1 : AM} {ws ws1 : List Int} {r z : Int} {nt : List Note} (hg : S.give = false) (ht : ¬ (S.give = false ∧ S.shelf ≠ [])) (hgo : S.goOn ws = ⟨r, z, S1, ws1, nt⟩) : S.step ws = ⟨r, z, S1, ws1, nt⟩ := by
  unfold AM.step AM.take
  rw [if_neg (by simp [hg]), if_neg (fun c => ht ⟨hg, c.1⟩), hgo]
theorem AM.step_six {S S1 : AM} {ws ws1 : List Int} {z : Int} {nt : List Note} (hg : S.give = true) (hgo : S.goOn ws = ⟨6, z, S1, ws1, nt⟩) : S.step ws = ⟨1, S.node, { S1 with shelf := S.shelf ++ [S.node], st := 1, i := S.node }, ws1, nt⟩ := by
  unfold AM.step AM.gives
  rw [if_pos hg, hgo]
  dsimp only
  rw [if_pos rfl]
theorem nodup_len : ∀ {n : Nat} {y : List Int}, y.Nodup → (∀ x ∈ y, 1 ≤ x ∧ x ≤ n) → y.length ≤ n
  | 0, y, _, h => by
    cases y with
    | nil => exact Nat.le_refl _
    | cons a r => have := h a (by simp); omega
  | n + 1, y, hn, h => by
    have h1 := nodup_len (n := n) (y := y.erase ((n : Int) + 1)) (hn.erase _) fun x hx => by
      have h2 := (hn.mem_erase_iff).1 hx
      have h3 := h x h2.2
      have := h2.1
      omega
    have h4 : y.length ≤ (y.erase ((n : Int) + 1)).length + 1 := by rw [List.length_erase]; split <;> omega
    omega
abbrev Th8 := Option (Nat × Addr × AM)
def p8A : Th8 → Value
  | none => .pointer none
  | some (p, _, S) => if S.give = true then .pointer none else .pointer (some ⟨p, 0, none⟩)
def p8B : Th8 → Value
  | none => .pointer none
  | some (p, _, S) => if S.give = true then .pointer (some ⟨p, 0, none⟩) else .pointer none
def p8C : Th8 → Value
  | none => .pointer none
  | some (_, rb, _) => .pointer (some rb)
def pcs8 : List Th8 → List Value
  | [] => []
  | t :: r => p8A t :: p8B t :: p8C t :: pcs8 r
theorem pcs8_get : ∀ {l : List Th8} {k : Nat} {t : Th8}, l[k]? = some t → (pcs8 l)[k * 3]? = some (p8A t) ∧ (pcs8 l)[k * 3 + 1]? = some (p8B t) ∧ (pcs8 l)[k * 3 + 2]? = some (p8C t)
  | [], k, t, h => by simp at h
  | u :: r, 0, t, h => by
    simp only [List.getElem?_cons_zero, Option.some.injEq] at h
    subst h
    exact ⟨rfl, rfl, rfl⟩
  | u :: r, k + 1, t, h => by
    have := pcs8_get (l := r) (k := k) (t := t) (by simpa using h)
    rw [show (k + 1) * 3 = k * 3 + 1 + 1 + 1 by omega]
    exact this
theorem pcs8_set : ∀ {l : List Th8} {k : Nat} (t : Th8), k < l.length → (((pcs8 l).set (k * 3) (p8A t)).set (k * 3 + 1) (p8B t)).set (k * 3 + 2) (p8C t) = pcs8 (l.set k t)
  | [], k, t, h => by simp at h
  | u :: r, 0, t, h => rfl
  | u :: r, k + 1, t, h => by
    have := pcs8_set (l := r) (k := k) t (by simpa using h)
    rw [show (k + 1) * 3 = k * 3 + 1 + 1 + 1 by omega]
    exact congrArg (fun z => p8A u :: p8B u :: p8C u :: z) this
theorem pcs8_same {l : List Th8} {k : Nat} {t u : Th8} (h : l[k]? = some u) (ha : p8A t = p8A u) (hb : p8B t = p8B u) (hc : p8C t = p8C u) : pcs8 (l.set k t) = pcs8 l := by
  have hk := (List.getElem?_eq_some_iff.1 h).1
  obtain ⟨h0, h1, h2⟩ := pcs8_get h
  rw [← pcs8_set t hk, ha, hb, hc, set_same h0, set_same h1, set_same h2]
def cntS (shs : Nat → List Int) (x : Int) : Nat := (shs 0).count x + (shs 1).count x + (shs 2).count x + (shs 3).count x
theorem cntS_put (shs : Nat → List Int) {k : Nat} (hk : k < 4) (v : List Int) (x : Int) : cntS (upF shs k v) x + (shs k).count x = cntS shs x + v.count x := by
  unfold cntS
  rcases (show k = 0 ∨ k = 1 ∨ k = 2 ∨ k = 3 by omega) with rfl | rfl | rfl | rfl
  · rw [upF_self, upF_ne _ _ (by decide), upF_ne _ _ (by decide), upF_ne _ _ (by decide)]; omega
  · rw [upF_self, upF_ne _ _ (by decide), upF_ne _ _ (by decide), upF_ne _ _ (by decide)]; omega
  · rw [upF_self, upF_ne _ _ (by decide), upF_ne _ _ (by decide), upF_ne _ _ (by decide)]; omega
  · rw [upF_self, upF_ne _ _ (by decide), upF_ne _ _ (by decide), upF_ne _ _ (by decide)]; omega
structure MIx8 (nn N : Nat) (tg : Int) (B : Nat) (ws : List Int) (l : Nat → List Int) (T : Nat → Int) (ths : List Th8) (hs : List Int) (shs : Nat → List Int) : Prop where
  two : TwoL nn tg B ws l T
  l0 : l 0 = []
  len : ws.length = N
  tl : ths.length = 4
  hl : hs.length = 4
  kn : ∀ (k p : Nat) (rb : Addr) (S : AM), ths[k]? = some (some (p, rb, S)) → AKn nn tg ws l T S ∧ hs[k]? = some (if S.give = true then S.node else 0) ∧ S.shelf = shs k ∧ S.ok N
  cnt : ∀ x : Int, 1 ≤ x → x ≤ nn → (l 1).count x + hs.count x + cntS shs x = 1
  rg : ∀ h ∈ hs, 0 ≤ h ∧ h ≤ nn
  srg : ∀ k, ∀ x ∈ shs k, 1 ≤ x ∧ x ≤ nn
def MI8 (nn N : Nat) (tg : Int) (B : Nat) (ws : List Int) (ths : List Th8) (hs : List Int) (shs : Nat → List Int) : Prop := ∃ l T, MIx8 nn N tg B ws l T ths hs shs
theorem MIx8.put {nn N : Nat} {tg : Int} {B B' : Nat} {ws ws' : List Int} {l l' : Nat → List Int} {T T' : Nat → Int} {ths : List Th8} {hs hs' : List Int} {shs : Nat → List Int} (h : MIx8 nn N tg B ws l T ths hs shs) {k : Nat} (hk : k < 4) (t : Th8) (sh : List Int)
    (h2 : TwoL nn tg B' ws' l' T') (hl0 : l' 0 = []) (hl : ws'.length = N) (hh : hs' = hs ∨ ∃ v, hs' = hs.set k v ∧ 0 ≤ v ∧ v ≤ nn)
    (hf : ∀ (j p : Nat) (rb : Addr) (S : AM), j ≠ k → ths[j]? = some (some (p, rb, S)) → AKn nn tg ws l T S → AKn nn tg ws' l' T' S)
    (ht : ∀ (p : Nat) (rb : Addr) (S : AM), t = some (p, rb, S) → AKn nn tg ws' l' T' S ∧ hs'[k]? = some (if S.give = true then S.node else 0) ∧ S.shelf = sh ∧ S.ok N)
    (hs2 : ∀ x ∈ sh, 1 ≤ x ∧ x ≤ nn)
    (hc : ∀ x : Int, 1 ≤ x → x ≤ nn → (l' 1).count x + hs'.count x + cntS (upF shs k sh) x = 1) : MIx8 nn N tg B' ws' l' T' (ths.set k t) hs' (upF shs k sh) := by
  have hkl : k < ths.length := by rw [h.tl]; exact hk
  refine ⟨h2, hl0, hl, by rw [List.length_set]; exact h.tl, ?_, fun j p rb S hj => ?_, hc, fun x hx => ?_, fun j x hx => ?_⟩
  · rcases hh with e | ⟨v, e, _⟩
    · rw [e]; exact h.hl
    · rw [e, List.length_set]; exact h.hl
  · rcases set_get hj hkl with ⟨rfl, e⟩ | ⟨hne, hj⟩
    · rw [upF_self]
      exact ht p rb S e.symm
    · obtain ⟨a1, a2, a3, a4⟩ := h.kn j p rb S hj
      refine ⟨hf j p rb S hne hj a1, ?_, by rw [upF_ne _ _ hne]; exact a3, a4⟩
      rcases hh with e | ⟨v, e, _⟩
      · rw [e]; exact a2
      · rw [e, List.getElem?_set_ne (fun c => hne c.symm)]; exact a2
  · rcases hh with e | ⟨v, e, v0, v1⟩
    · rw [e] at hx; exact h.rg x hx
    · rw [e] at hx
      rcases List.mem_or_eq_of_mem_set hx with h4 | rfl
      · exact h.rg x h4
      · exact ⟨v0, v1⟩
  · by_cases e : j = k
    · subst e; rw [upF_self] at hx; exact hs2 x hx
    · rw [upF_ne _ _ e] at hx; exact h.srg j x hx
theorem MI8.make {nn N : Nat} {tg t bg : Int} {B : Nat} {ws : List Int} {ths : List Th8} {hs : List Int} {shs : Nat → List Int} (h : MI8 nn N tg B ws ths hs shs) {k : Nat} (hk : k < 4) {i : Int} (hh : hs[k]? = some i) (hok : okC (nn : Int) 0 0 = true) (hb : bg ≤ 9223372036854775807) (p : Nat) (rb : Addr) :
    MI8 nn N tg B ws (ths.set k (some (p, rb, if i = 0 then newAT nn 0 0 t bg (shs k) else newAG nn 0 0 t bg (shs k) i))) hs shs := by
  obtain ⟨l, T, h⟩ := h
  have hr := h.rg i (List.mem_of_getElem? hh)
  have hbb := okC_bounds hok
  have hcl : (shs k).length ≤ nn := by
    have h1 : (shs k).Nodup := List.nodup_iff_count.2 fun x => by
      by_cases c : x ∈ shs k
      · have h2 := h.srg k x c
        have h3 := h.cnt x h2.1 h2.2
        unfold cntS at h3
        rcases (show k = 0 ∨ k = 1 ∨ k = 2 ∨ k = 3 by omega) with rfl | rfl | rfl | rfl <;> omega
      · rw [List.count_eq_zero.2 c]; omega
    exact nodup_len h1 (h.srg k)
  have hsr : ∀ x ∈ shs k, 0 ≤ x ∧ x < 4294967296 := fun x hx => by have := h.srg k x hx; omega
  have e : upF shs k (shs k) = shs := funext fun j => by
    by_cases c : j = k
    · subst c; rw [upF_self]
    · rw [upF_ne _ _ c]
  have h9 := h.put hk (some (p, rb, if i = 0 then newAT nn 0 0 t bg (shs k) else newAG nn 0 0 t bg (shs k) i)) (shs k) h.two h.l0 h.len (.inl rfl) (fun _ _ _ _ _ _ k => k) (fun p' rb' S ee => by
    cases ee
    by_cases c : i = 0
    · simp only [c, if_true]
      exact ⟨⟨rfl, hok, rfl, fun c => (by cases c), fun T1 c => (by cases c)⟩, by rw [hh, c]; rfl, rfl, newAT_ok _ hb (by omega) hsr⟩
    · simp only [c, if_false]
      exact ⟨⟨rfl, hok, rfl, fun _ => by show 1 ≤ i ∧ i ≤ nn; omega, fun T1 c => (by cases c)⟩, hh, rfl, newAG_ok _ hb (by omega) hsr (by omega) (by omega)⟩) (h.srg k) (by rw [e]; exact h.cnt)
  rw [e] at h9
  exact ⟨l, T, h9⟩
/-- A thread's step. -/
theorem MI8.step {nn N : Nat} {tg : Int} {B : Nat} {ws : List Int} {ths : List Th8} {hs : List Int} {shs : Nat → List Int} (h : MI8 nn N tg B ws ths hs shs) {k p : Nat} {rb : Addr} {S : AM} (hk : ths[k]? = some (some (p, rb, S))) (hB : B < 4294967295) (hrg : ∀ i, i < ws.length → 0 ≤ rdW ws i ∧ rdW ws i < 18446744073709551616) :
    S.ok N ∧ ∃ r z S' ws' nt, S.step ws = ⟨r, z, S', ws', nt⟩ ∧ nt.length ≤ 1 ∧ S'.give = S.give ∧ S'.shelf.length ≤ 1000 ∧
      ((r = 0 ∧ MI8 nn N tg (B + 1) ws' (ths.set k (some (p, rb, S'))) hs (upF shs k S'.shelf)) ∨ ((r = 2 ∨ r = 6) ∧ S.give = false ∧ MI8 nn N tg (B + 1) ws' (ths.set k none) hs (upF shs k S'.shelf)) ∨
        (r = 1 ∧ S.give = false ∧ MI8 nn N tg (B + 1) ws' (ths.set k none) (hs.set k z) (upF shs k S'.shelf)) ∨ (r = 1 ∧ S.give = true ∧ MI8 nn N tg (B + 1) ws' (ths.set k none) (hs.set k 0) (upF shs k S'.shelf))) := by
  obtain ⟨l, T, h⟩ := h
  have hk4 : k < 4 := by have := (List.getElem?_eq_some_iff.1 hk).1; have := h.tl; omega
  obtain ⟨K, hgv, hsh, hok⟩ := h.kn k p rb S hk
  refine ⟨hok, ?_⟩
  have hn64 := okC_bounds K.ok
  rw [K.n] at hn64
  have hcl : ∀ y : List Int, (∀ x ∈ y, 1 ≤ x ∧ x ≤ nn) → (∀ x : Int, 1 ≤ x → x ≤ nn → y.count x ≤ 1) → y.length ≤ 1000 := fun y hy hc => by
    have h1 : y.Nodup := List.nodup_iff_count.2 fun x => by
      by_cases c : x ∈ y
      · exact hc x (hy x c).1 (hy x c).2
      · rw [List.count_eq_zero.2 c]; omega
    have h3 := nodup_len h1 hy
    omega
  have hcs : ∀ (f : Nat → List Int) (x : Int), (f k).count x ≤ cntS f x := fun f x => by
    unfold cntS
    rcases (show k = 0 ∨ k = 1 ∨ k = 2 ∨ k = 3 by omega) with rfl | rfl | rfl | rfl <;> omega
  have one : S.give = true → (l 0).count S.node + (l 1).count S.node = 0 := fun hg => by
    rw [if_pos hg] at hgv
    have h1 : 1 ≤ hs.count S.node := List.count_pos_iff.2 (List.mem_of_getElem? hgv)
    have h2 := K.gv hg
    have h3 := h.cnt S.node h2.1 h2.2
    rw [h.l0]
    simp only [List.count_nil]
    omega
  obtain ⟨KT, hTg, hTi⟩ := K.try_
  have hfree : S.try_.give = true → S.try_.i ∉ l 0 ∧ S.try_.i ∉ l 1 := fun hg => by
    rw [hTg] at hg
    rw [hTi hg]
    exact ⟨List.count_eq_zero.1 (by have := one hg; omega), List.count_eq_zero.1 (by have := one hg; omega)⟩
  have hne : ∀ (j p2 : Nat) (rb2 : Addr) (S2 : AM), j ≠ k → ths[j]? = some (some (p2, rb2, S2)) → S.give = true → S2.give = true → S2.node ≠ S.node := fun j p2 rb2 S2 hjk hj hg hg2 e => by
    have h2 := (h.kn j p2 rb2 S2 hj).2.1
    rw [if_pos hg2, e] at h2
    rw [if_pos hg] at hgv
    have h3 := K.gv hg
    have h4 := count_two (by omega) h2 hgv hjk
    have h5 := h.cnt S.node h3.1 h3.2
    omega
  have hselfn : upF shs k S.shelf = shs := funext fun j => by
    by_cases c : j = k
    · subst c; rw [upF_self, hsh]
    · rw [upF_ne _ _ c]
  have hshr : ∀ x ∈ S.shelf, 1 ≤ x ∧ x ≤ nn := by rw [hsh]; exact h.srg k
  have hshl : S.shelf.length ≤ 1000 := hcl _ hshr fun x x0 x1 => by
    have h3 := h.cnt x x0 x1
    have h4 := hcs shs x
    rw [hsh]
    omega
  have hG6 : S.give = true → S.st ≠ 6 := fun _ => by rw [K.st]; decide
  have hstepok := AM.step_ok (S := S) (ws := ws) (by rw [h.len]; exact hok) hG6 hrg
  by_cases ctop : S.give = false ∧ S.shelf ≠ []
  · -- from the shelf
    obtain ⟨hg, hne2⟩ := ctop
    have he : S.step ws = ⟨1, S.shelf.getLastD 0, { S with shelf := S.shelf.dropLast, st := 1, i := S.shelf.getLastD 0 }, ws, []⟩ := by
      unfold AM.step AM.take
      rw [if_neg (by simp [hg]), if_pos ⟨hne2, K.st⟩]
    have hcat : S.shelf = S.shelf.dropLast ++ [S.shelf.getLastD 0] := by
      rcases List.eq_nil_or_concat S.shelf with h0 | ⟨y, b, h0⟩
      · exact absurd h0 hne2
      · rw [h0]; simp
    obtain ⟨z, hz⟩ : ∃ z, S.shelf.getLastD 0 = z := ⟨_, rfl⟩
    rw [hz] at he hcat
    have hzr := hshr z (by rw [hcat]; simp)
    have hdr : ∀ x ∈ S.shelf.dropLast, 1 ≤ x ∧ x ≤ nn := fun x hx => hshr x (by rw [hcat]; exact List.mem_append_left _ hx)
    rw [if_neg (by simp [hg])] at hgv
    refine ⟨1, z, _, ws, [], he, by simp, rfl, by show S.shelf.dropLast.length ≤ _; rw [List.length_dropLast]; omega, .inr (.inr (.inl ⟨rfl, hg, l, T, h.put hk4 none _ (h.two.more (Nat.le_succ _)) h.l0 h.len (.inr ⟨z, rfl, by omega, hzr.2⟩) (fun _ _ _ _ _ _ k => k) (fun _ _ _ e => by cases e) hdr fun x x0 x1 => ?_⟩))⟩
    have h3 := h.cnt x x0 x1
    have h4 := count_put (b := z) hgv x
    rw [if_neg (show ¬ (0 : Int) = x by omega)] at h4
    have h5 := cntS_put shs hk4 S.shelf.dropLast x
    have h6 : (shs k).count x = S.shelf.dropLast.count x + (if z = x then 1 else 0) := by
      rw [← hsh]
      conv => lhs; rw [hcat]
      rw [List.count_append, List.count_cons]
      simp
    show (l 1).count x + (hs.set k z).count x + cntS (upF shs k S.shelf.dropLast) x = 1
    omega
  · obtain ⟨r0, T1, ws1, nt, he0, hg1, hend⟩ := KT.step h.two hB hfree
    have hgo := AM.goOn_eq K.st he0
    have hlen := TM.step_len S.try_ ws
    rw [he0] at hlen
    have hl' : ws1.length = N := hlen.trans h.len
    have frame0 : ∀ (j p2 : Nat) (rb2 : Addr) (S2 : AM), j ≠ k → ths[j]? = some (some (p2, rb2, S2)) → AKn nn tg ws l T S2 → ∀ {ws' : List Int}, (∀ b S3, Kn nn tg ws l T b S3 → (S.try_.give = true → S3.give = true → S3.i ≠ S.try_.i) → Kn nn tg ws' l T b S3) → AKn nn tg ws' l T S2 := fun j p2 rb2 S2 hjk hj kk ws' hf => kk.frame fun S3 k3 hgi => hf 1 S3 k3 fun hg hg3 => by
      obtain ⟨a, b⟩ := hgi hg3
      rw [hTg] at hg
      rw [b, hTi hg]
      exact hne j p2 rb2 S2 hjk hj hg a
    have cnt0 : ∀ x : Int, 1 ≤ x → x ≤ nn → (l 1).count x + hs.count x + cntS (upF shs k S.shelf) x = 1 := by rw [hselfn]; exact h.cnt
    have okS : ∀ o, S.step ws = o → o.S.ok N := fun o e => by
      have := hstepok.1
      rw [e, h.len] at this
      exact this
    cases hend with
    | run h2 k2 hi hf =>
      rw [if_neg (show ¬ (0 : Int) = 3 by decide)] at hgo
      have hS1 : S.step ws = ⟨0, 0, { S with now := some T1, st := 0, i := 0 }, ws1, [nt]⟩ := AM.step_run ctop hgo (by decide)
      refine ⟨0, 0, _, ws1, [nt], hS1, Nat.le_refl _, rfl, hshl, .inl ⟨rfl, l, T, h.put hk4 _ _ (h2.more (Nat.le_succ _)) h.l0 hl' (.inl rfl) (fun j p2 rb2 S2 hjk hj kk => frame0 j p2 rb2 S2 hjk hj kk hf) (fun p' rb' S2 e => ?_) hshr cnt0⟩⟩
      have hOK := okS _ hS1
      cases e
      exact ⟨⟨K.n, K.ok, rfl, K.gv, fun T2 e2 => by
        cases e2
        exact ⟨k2, hg1.trans hTg, fun hg => (hi (hTg.trans hg)).trans (hTi hg)⟩⟩, hgv, rfl, hOK⟩
    | none hg2 hnil =>
      have hg : S.give = false := hTg.symm.trans hg2
      rw [if_neg (show ¬ (2 : Int) = 3 by decide)] at hgo
      have hS1 : S.step ws = ⟨2, 0, { S with now := some T1, st := 2, i := 0 }, ws, [nt]⟩ := AM.step_run ctop hgo (by decide)
      exact ⟨2, 0, _, ws, [nt], hS1, Nat.le_refl _, rfl, hshl, .inr (.inl ⟨.inl rfl, hg, l, T, h.put hk4 none _ (h.two.more (Nat.le_succ _)) h.l0 hl' (.inl rfl) (fun _ _ _ _ _ _ k => k) (fun _ _ _ e => by cases e) hshr cnt0⟩)⟩
    | lost =>
      by_cases hl0 : S.left = 0
      · by_cases hg : S.give = true
        · rw [if_pos rfl, if_pos hl0] at hgo
          have hS1 : S.step ws = ⟨1, S.node, { S with now := none, st := 1, i := S.node, left := S.left - 1, shelf := S.shelf ++ [S.node] }, ws, [nt]⟩ := AM.step_six hg hgo
          have hgv2 := hgv
          rw [if_pos hg] at hgv2
          have hnr := K.gv hg
          have hsr2 : ∀ x ∈ S.shelf ++ [S.node], 1 ≤ x ∧ x ≤ nn := fun x hx => by
            rcases List.mem_append.1 hx with h1 | h1
            · exact hshr x h1
            · rw [List.mem_singleton.1 h1]; exact hnr
          refine ⟨1, S.node, _, ws, [nt], hS1, Nat.le_refl _, rfl, ?_, .inr (.inr (.inr ⟨rfl, hg, l, T, h.put hk4 none _ (h.two.more (Nat.le_succ _)) h.l0 hl' (.inr ⟨0, rfl, Int.le_refl _, by omega⟩) (fun _ _ _ _ _ _ k => k) (fun _ _ _ e => by cases e) hsr2 fun x x0 x1 => ?_⟩))⟩
          · refine hcl _ hsr2 fun x x0 x1 => ?_
            have h3 := h.cnt x x0 x1
            have h4 := hcs shs x
            rw [List.count_append, List.count_cons, hsh]
            by_cases c : S.node = x
            · have h1 : 1 ≤ hs.count x := List.count_pos_iff.2 (List.mem_of_getElem? (by rw [← c]; exact hgv2))
              simp [c]
              omega
            · simp [c]
              omega
          · have h3 := h.cnt x x0 x1
            have h4 := count_put (b := 0) hgv2 x
            rw [if_neg (show ¬ (0 : Int) = x by omega)] at h4
            have h5 := cntS_put shs hk4 (S.shelf ++ [S.node]) x
            have h6 : (S.shelf ++ [S.node]).count x = (shs k).count x + (if S.node = x then 1 else 0) := by
              rw [List.count_append, List.count_cons, hsh]
              simp
            show (l 1).count x + (hs.set k 0).count x + cntS (upF shs k (S.shelf ++ [S.node])) x = 1
            omega
        · have hg' : S.give = false := by simpa using hg
          rw [if_pos rfl, if_pos hl0] at hgo
          have hS1 : S.step ws = ⟨6, 0, { S with now := none, st := 6, i := 0, left := S.left - 1 }, ws, [nt]⟩ := AM.step_take hg' ctop hgo
          exact ⟨6, 0, _, ws, [nt], hS1, Nat.le_refl _, rfl, hshl, .inr (.inl ⟨.inr rfl, hg', l, T, h.put hk4 none _ (h.two.more (Nat.le_succ _)) h.l0 hl' (.inl rfl) (fun _ _ _ _ _ _ k => k) (fun _ _ _ e => by cases e) hshr cnt0⟩)⟩
      · rw [if_pos rfl, if_neg hl0] at hgo
        have hS1 : S.step ws = ⟨0, 0, { S with now := none, st := 0, i := 0, left := S.left - 1 }, ws, [nt]⟩ := AM.step_run ctop hgo (by decide)
        refine ⟨0, 0, _, ws, [nt], hS1, Nat.le_refl _, rfl, hshl, .inl ⟨rfl, l, T, h.put hk4 _ _ (h.two.more (Nat.le_succ _)) h.l0 hl' (.inl rfl) (fun _ _ _ _ _ _ k => k) (fun p' rb' S2 e => ?_) hshr cnt0⟩⟩
        have hOK := okS _ hS1
        cases e
        exact ⟨⟨K.n, K.ok, rfl, K.gv, fun T2 e2 => (by cases e2)⟩, hgv, rfl, hOK⟩
    | took hg2 hl h2 =>
      rename_i v r
      have hg : S.give = false := hTg.symm.trans hg2
      have hr := (h.two.at_ 1 (by decide)).rng T1.i (by rw [hl]; simp)
      rw [if_neg (by simp [hg])] at hgv
      rw [if_neg (show ¬ (1 : Int) = 3 by decide)] at hgo
      have hS1 : S.step ws = ⟨1, T1.i, { S with now := some T1, st := 1, i := T1.i }, ws.set 1 v, [nt]⟩ := AM.step_run ctop hgo (by decide)
      refine ⟨1, T1.i, _, _, [nt], hS1, Nat.le_refl _, rfl, hshl, .inr (.inr (.inl ⟨rfl, hg, _, _, h.put hk4 none _ h2 (by rw [upF_ne _ _ (by decide)]; exact h.l0) hl' (.inr ⟨_, rfl, by omega, hr.2⟩) (fun j p2 rb2 S2 _ _ kk => kk.frame fun S3 k3 _ => k3.turned (by decide)) (fun _ _ _ e => by cases e) hshr fun x x0 x1 => ?_⟩))⟩
      have h3 := h.cnt x x0 x1
      have h4 := count_put (b := T1.i) hgv x
      rw [if_neg (show ¬ (0 : Int) = x by omega)] at h4
      have h5 : (l 1).count x = r.count x + (if T1.i = x then 1 else 0) := by rw [hl, List.count_cons]; simp
      have e9 : cntS (upF shs k S.shelf) x = cntS shs x := by rw [hselfn]
      show (upF l 1 r 1).count x + _ + cntS (upF shs k S.shelf) x = 1
      rw [upF_self, e9]
      omega
    | gave hg2 hi h2 =>
      rename_i v
      have hg : S.give = true := hTg.symm.trans hg2
      have hgv2 := hgv
      rw [if_pos hg] at hgv2
      have hnr := K.gv hg
      have hin := hTi hg
      rw [if_neg (show ¬ (1 : Int) = 3 by decide)] at hgo
      have hS1 : S.step ws = ⟨1, T1.i, { S with now := some T1, st := 1, i := T1.i }, ws.set 1 v, [nt]⟩ := AM.step_run ctop hgo (by decide)
      refine ⟨1, T1.i, _, _, [nt], hS1, Nat.le_refl _, rfl, hshl, .inr (.inr (.inr ⟨rfl, hg, _, _, h.put hk4 none _ h2 (by rw [upF_ne _ _ (by decide)]; exact h.l0) hl' (.inr ⟨0, rfl, Int.le_refl _, by omega⟩) (fun j p2 rb2 S2 _ _ kk => kk.frame fun S3 k3 _ => k3.turned (by decide)) (fun _ _ _ e => by cases e) hshr fun x x0 x1 => ?_⟩))⟩
      have h3 := h.cnt x x0 x1
      have h4 := count_put (b := 0) hgv2 x
      rw [if_neg (show ¬ (0 : Int) = x by omega)] at h4
      have h5 : (S.try_.i :: l 1).count x = (l 1).count x + (if S.node = x then 1 else 0) := by rw [List.count_cons, hin]; simp
      have e9 : cntS (upF shs k S.shelf) x = cntS shs x := by rw [hselfn]
      show (upF l 1 (S.try_.i :: l 1) 1).count x + _ + cntS (upF shs k S.shelf) x = 1
      rw [upF_self, e9, h5]
      omega
/-- All of them, one behind the other. -/
def seg8 (hs : List Int) (shs : Nat → List Int) : Nat → List Int
  | 0 => []
  | i + 1 => (seg8 hs shs i ++ (if hs.getD i 0 = 0 then [] else [hs.getD i 0])) ++ shs i
theorem MI8.whole {nn N : Nat} {tg : Int} {B : Nat} {ws : List Int} {ths : List Th8} {hs : List Int} {shs : Nat → List Int} (h : MI8 nn N tg B ws ths hs shs) : ∃ l1 T1, AtL nn ws 1 l1 T1 ∧ AllN nn (l1 ++ seg8 hs shs 4) ∧ hs.length = 4 ∧ ws.length = N := by
  obtain ⟨l, T, h⟩ := h
  have hl := h.hl
  obtain ⟨a, b, c, d, rfl⟩ : ∃ a b c d, hs = [a, b, c, d] := by
    match hs, hl with
    | [a, b, c, d], _ => exact ⟨a, b, c, d, rfl⟩
  have ha := h.rg a (by simp)
  have hb := h.rg b (by simp)
  have hc := h.rg c (by simp)
  have hd := h.rg d (by simp)
  have one : ∀ (y : Int), 0 ≤ y → y ≤ nn → ∀ i ∈ (if y = 0 then [] else [y] : List Int), 1 ≤ i ∧ i ≤ nn := fun y y0 y1 i hi => by
    by_cases c : y = 0
    · simp [c] at hi
    · simp only [c, if_false, List.mem_singleton] at hi; omega
  have cone : ∀ (y x : Int), x ≠ 0 → (if y = 0 then [] else [y] : List Int).count x = if y = x then 1 else 0 := fun y x hx => by
    by_cases c : y = 0
    · have : ¬ y = x := fun e => hx (by omega)
      simp only [c, if_true, List.count_nil]
      rw [if_neg (by omega)]
    · simp only [c, if_false, List.count_cons, List.count_nil]
      simp
  refine ⟨l 1, T 1, h.two.at_ 1 (by decide), AllN.of (fun i hi => ?_) (fun x x0 x1 => ?_), rfl, h.len⟩
  · simp only [seg8, List.getD_cons_zero, List.getD_cons_succ, List.nil_append, List.mem_append] at hi
    rcases hi with h1 | (((((((h1 | h1) | h1) | h1) | h1) | h1) | h1) | h1)
    · exact (h.two.at_ 1 (by decide)).rng i h1
    · exact one a ha.1 ha.2 i h1
    · exact h.srg 0 i h1
    · exact one b hb.1 hb.2 i h1
    · exact h.srg 1 i h1
    · exact one c hc.1 hc.2 i h1
    · exact h.srg 2 i h1
    · exact one d hd.1 hd.2 i h1
    · exact h.srg 3 i h1
  · have h3 := h.cnt x x0 x1
    simp only [seg8, List.getD_cons_zero, List.getD_cons_succ, List.nil_append, List.count_append]
    rw [cone a x (by omega), cone b x (by omega), cone c x (by omega), cone d x (by omega)]
    unfold cntS at h3
    simp only [List.count_cons, List.count_nil, beq_iff_eq] at h3
    omega
/-- In the beginning. -/
theorem MI8.new {nn N : Nat} {tg T : Int} (hT : tg * 4294967296 = T) (t0 : 0 ≤ tg) (t1 : tg < 4294967296) (hN : N = 2 + 2 * nn) (hn : 1 ≤ nn) (hn2 : nn ≤ 64) : MI8 nn N tg 0 (frL T nn nn 0 N) [none, none, none, none] [0, 0, 0, 0] (fun _ => []) := by
  refine ⟨fun a => if a = 0 then [] else upL 1 nn, fun _ => tg, ⟨fun a ha => ?_, fun _ _ => Int.le_refl _, fun _ _ => by omega, by rw [frL_len]; omega⟩, rfl, frL_len _ _ _ _ _, rfl, rfl, fun k p rb S h => ?_, fun x x0 x1 => ?_, fun h hh => ?_, fun k x hx => by cases hx⟩
  · match a, ha with
    | 0, _ => exact fresh_at0 hT t0 t1 (by omega)
    | 1, _ => exact fresh_at1 hT t0 t1 (by omega) hn hn2
  · match k, h with
    | 0, h => cases h
    | 1, h => cases h
    | 2, h => cases h
    | 3, h => cases h
    | k + 4, h => simp at h
  · have h1 : x ∈ upL 1 nn := mem_upL.2 ⟨x0, by omega⟩
    have h2 := List.nodup_iff_count.1 (nodup_upL nn 1) x
    have h3 : 1 ≤ (upL 1 nn).count x := List.count_pos_iff.2 h1
    have h4 : ([0, 0, 0, 0] : List Int).count x = 0 := List.count_eq_zero.2 (by simp; omega)
    rw [h4]
    show (upL 1 nn).count x + 0 + cntS (fun _ => []) x = 1
    unfold cntS
    simp
    omega
  · simp at hh
    omega
end Go.Proofs.Ytndigbkhaajjoaa
