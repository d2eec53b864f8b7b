/-
  TaglistMeets, the plain law: both lists, and all that threads hold, are all nodes, each once, whatever step is done.
-/
import Derived.Test.YtndigbkhaajjoaaLi
namespace Go.Proofs.Ytndigbkhaajjoaa
open Go.RowKit
set_option linter.unusedVariables false
set_option linter.unusedSimpArgs false

/-- A thread: its machine, and where it lies. -/
abbrev Th := Option (Nat × TM)
def pcA : Th → Value
  | none => .pointer none
  | some (p, S) => if S.give = true then .pointer none else .pointer (some ⟨p, 0, none⟩)
def pcB : Th → Value
  | none => .pointer none
  | some (p, S) => if S.give = true then .pointer (some ⟨p, 0, none⟩) else .pointer none
/-- The row of all pairs. -/
def pcs : List Th → List Value
  | [] => []
  | t :: r => pcA t :: pcB t :: .pointer none :: pcs r
theorem pcs_len : ∀ l : List Th, (pcs l).length = l.length * 3
  | [] => rfl
  | t :: r => by
    show (pcs r).length + 1 + 1 + 1 = (r.length + 1) * 3
    rw [pcs_len r]
    omega
theorem pcs_get : ∀ {l : List Th} {k : Nat} {t : Th}, l[k]? = some t → (pcs l)[k * 3]? = some (pcA t) ∧ (pcs l)[k * 3 + 1]? = some (pcB t) ∧ (pcs l)[k * 3 + 2]? = some (.pointer none)
  | [], k, t, h => by simp at h
  | u :: r, 0, t, h => by
    simp only [List.getElem?_cons_zero, Option.some.injEq] at h
    subst h
    exact ⟨rfl, rfl, rfl⟩
  | u :: r, k + 1, t, h => by
    have := pcs_get (l := r) (k := k) (t := t) (by simpa using h)
    rw [show (k + 1) * 3 = k * 3 + 1 + 1 + 1 by omega]
    exact this
theorem pcs_set : ∀ {l : List Th} {k : Nat} (t : Th), k < l.length → (((pcs l).set (k * 3) (pcA t)).set (k * 3 + 1) (pcB t)).set (k * 3 + 2) (.pointer none) = pcs (l.set k t)
  | [], k, t, h => by simp at h
  | u :: r, 0, t, h => rfl
  | u :: r, k + 1, t, h => by
    have := pcs_set (l := r) (k := k) t (by simpa using h)
    rw [show (k + 1) * 3 = k * 3 + 1 + 1 + 1 by omega]
    exact congrArg (fun z => pcA u :: pcB u :: Value.pointer none :: z) this
/-- A thread in the heap. -/
def thA (_ : Nat) (t : Th) : Asn := match t with | none => factA True | some (p, S) => tlA p S

/-- A place that is another one. -/
theorem count_put {hs : List Int} {k : Nat} {a b : Int} (h : hs[k]? = some a) (x : Int) : (hs.set k b).count x + (if a = x then 1 else 0) = hs.count x + (if b = x then 1 else 0) := by
  obtain ⟨hk, he⟩ := List.getElem?_eq_some_iff.1 h
  rw [List.count_set hk, he]
  by_cases c : a = x
  · subst c
    have : 1 ≤ hs.count a := List.count_pos_iff.2 (List.mem_of_getElem? h)
    simp
    by_cases d : b = a <;> simp [d] <;> omega
  · by_cases d : b = x <;> simp [c, d]
theorem count_two {hs : List Int} {j k : Nat} {x : Int} (hx : x ≠ 0) (hj : hs[j]? = some x) (hk : hs[k]? = some x) (hne : j ≠ k) : 2 ≤ hs.count x := by
  have h1 := count_put (b := 0) hk x
  rw [if_pos rfl, if_neg (fun e => hx e.symm)] at h1
  have h2 : 1 ≤ (hs.set k 0).count x := List.count_pos_iff.2 (List.mem_of_getElem? (i := j) (by rw [List.getElem?_set_ne (fun e => hne e.symm)]; exact hj))
  omega
/-- What holds ahead of a turn. -/
structure MIx (nn N : Nat) (tg : Int) (B : Nat) (ws : List Int) (l : Nat → List Int) (T : Nat → Int) (ths : List Th) (hs : List Int) : Prop where
  two : TwoL nn tg B ws l T
  len : ws.length = N
  tl : ths.length = 4
  hl : hs.length = 4
  kn : ∀ (k p : Nat) (S : TM), ths[k]? = some (some (p, S)) → ∃ a, Kn nn tg ws l T a S
  gv : ∀ (k p : Nat) (S : TM), ths[k]? = some (some (p, S)) → hs[k]? = some (if S.give = true then S.i else 0)
  ok : ∀ (k p : Nat) (S : TM), ths[k]? = some (some (p, S)) → S.ok N
  cnt : ∀ x : Int, 1 ≤ x → x ≤ nn → (l 0).count x + (l 1).count x + hs.count x = 1
  rg : ∀ h ∈ hs, 0 ≤ h ∧ h ≤ nn
def MI7 (nn N : Nat) (tg : Int) (B : Nat) (ws : List Int) (ths : List Th) (hs : List Int) : Prop := ∃ l T, MIx nn N tg B ws l T ths hs
theorem set_th {ths : List Th} {k j : Nat} {t u : Th} (h : (ths.set k t)[j]? = some u) (hk : k < ths.length) : (j = k ∧ u = t) ∨ (j ≠ k ∧ ths[j]? = some u) := set_get h hk
/-- A thread's machine, a word or a node elsewhere. -/
theorem MIx.put {nn N : Nat} {tg : Int} {B B' : Nat} {ws ws' : List Int} {l l' : Nat → List Int} {T T' : Nat → Int} {ths : List Th} {hs hs' : List Int} (h : MIx nn N tg B ws l T ths hs) {k : Nat} (hk : k < 4) (t : Th)
    (h2 : TwoL nn tg B' ws' l' T') (hl : ws'.length = N) (hh : hs' = hs ∨ ∃ v, hs' = hs.set k v ∧ 0 ≤ v ∧ v ≤ nn)
    (hf : ∀ (j p : Nat) (S : TM) (a : Nat), j ≠ k → ths[j]? = some (some (p, S)) → Kn nn tg ws l T a S → Kn nn tg ws' l' T' a S)
    (ht : ∀ (p : Nat) (S : TM), t = some (p, S) → (∃ a, Kn nn tg ws' l' T' a S) ∧ hs'[k]? = some (if S.give = true then S.i else 0) ∧ S.ok N)
    (hc : ∀ x : Int, 1 ≤ x → x ≤ nn → (l' 0).count x + (l' 1).count x + hs'.count x = 1) : MIx nn N tg B' ws' l' T' (ths.set k t) hs' := by
  have hkl : k < ths.length := by rw [h.tl]; exact hk
  refine ⟨h2, hl, by rw [List.length_set]; exact h.tl, ?_, fun j p S hj => ?_, fun j p S hj => ?_, fun j p S hj => ?_, hc, fun x hx => ?_⟩
  · rcases hh with e | ⟨v, e, _⟩
    · rw [e]; exact h.hl
    · rw [e, List.length_set]; exact h.hl
  · rcases set_th hj hkl with ⟨rfl, e⟩ | ⟨hne, hj⟩
    · exact (ht p S e.symm).1
    · obtain ⟨a, ha⟩ := h.kn j p S hj
      exact ⟨a, hf j p S a hne hj ha⟩
  · rcases set_th hj hkl with ⟨rfl, e⟩ | ⟨hne, hj⟩
    · exact (ht p S e.symm).2.1
    · have h3 := h.gv j p S hj
      rcases hh with e | ⟨v, e, _⟩
      · rw [e]; exact h3
      · rw [e, List.getElem?_set_ne (fun c => hne c.symm)]; exact h3
  · rcases set_th hj hkl with ⟨rfl, e⟩ | ⟨hne, hj⟩
    · exact (ht p S e.symm).2.2
    · exact h.ok j p S hj
  · rcases hh with e | ⟨v, e, v0, v1⟩
    · rw [e] at hx; exact h.rg x hx
    · rw [e] at hx
      rcases List.mem_or_eq_of_mem_set hx with h4 | rfl
      · exact h.rg x h4
      · exact ⟨v0, v1⟩
/-- A thread begins. -/
theorem MI7.take {nn N : Nat} {tg t : Int} {B : Nat} {ws : List Int} {ths : List Th} {hs : List Int} (h : MI7 nn N tg B ws ths hs) {k : Nat} (hk : k < 4) (hh : hs[k]? = some 0) (hok : okC (nn : Int) 0 0 = true) {a : Nat} (ha : a < 2) (p : Nat) : MI7 nn N tg B ws (ths.set k (some (p, newTk nn 0 0 t a))) hs := by
  obtain ⟨l, T, h⟩ := h
  exact ⟨l, T, h.put hk _ h.two h.len (.inl rfl) (fun _ _ _ _ _ _ k => k) (fun p' S e => by cases e; exact ⟨⟨a, newTk_kn hok ha⟩, hh, newTk_ok _ _ _ _ _ _⟩) h.cnt⟩
theorem MI7.give {nn N : Nat} {tg t : Int} {B : Nat} {ws : List Int} {ths : List Th} {hs : List Int} (h : MI7 nn N tg B ws ths hs) {k : Nat} (hk : k < 4) {i : Int} (hh : hs[k]? = some i) (hi : i ≠ 0) (hok : okC (nn : Int) 0 0 = true) {a : Nat} (ha : a < 2) (p : Nat) : MI7 nn N tg B ws (ths.set k (some (p, newGv nn 0 0 t a i))) hs := by
  obtain ⟨l, T, h⟩ := h
  have hr := h.rg i (List.mem_of_getElem? hh)
  have hb := okC_bounds hok
  exact ⟨l, T, h.put hk _ h.two h.len (.inl rfl) (fun _ _ _ _ _ _ k => k) (fun p' S e => by cases e; exact ⟨⟨a, newGv_kn hok ha (by omega)⟩, hh, newGv_ok _ _ _ _ _ (by omega) (by omega) _⟩) h.cnt⟩
/-- A thread's step. -/
theorem MI7.step {nn N : Nat} {tg : Int} {B : Nat} {ws : List Int} {ths : List Th} {hs : List Int} (h : MI7 nn N tg B ws ths hs) {k p : Nat} {S : TM} (hk : ths[k]? = some (some (p, S))) (hB : B < 4294967295) (hrg : ∀ i, i < ws.length → 0 ≤ rdW ws i ∧ rdW ws i < 18446744073709551616) :
    S.ok N ∧ ∃ r S' ws' nt, S.step ws = ⟨r, S', ws', [nt]⟩ ∧ S'.give = S.give ∧
      ((r = 0 ∧ MI7 nn N tg (B + 1) ws' (ths.set k (some (p, S'))) hs) ∨ (r = 2 ∧ S.give = false ∧ MI7 nn N tg (B + 1) ws' (ths.set k none) hs) ∨ (r = 3 ∧ MI7 nn N tg (B + 1) ws' (ths.set k none) hs) ∨
        (r = 1 ∧ S.give = false ∧ MI7 nn N tg (B + 1) ws' (ths.set k none) (hs.set k S'.i)) ∨ (r = 1 ∧ S.give = true ∧ MI7 nn N tg (B + 1) ws' (ths.set k none) (hs.set k 0))) := by
  obtain ⟨l, T, h⟩ := h
  have hk4 : k < 4 := by have := (List.getElem?_eq_some_iff.1 hk).1; have := h.tl; omega
  obtain ⟨a, K⟩ := h.kn k p S hk
  have hgv := h.gv k p S hk
  have hok := h.ok k p S hk
  have one : S.give = true → (l 0).count S.i + (l 1).count S.i = 0 := fun hg => by
    rw [if_pos hg] at hgv
    have h1 : 1 ≤ hs.count S.i := List.count_pos_iff.2 (List.mem_of_getElem? hgv)
    have h2 := K.gv hg
    have h3 := h.cnt S.i h2.1 h2.2
    omega
  have hfree : S.give = true → S.i ∉ l 0 ∧ S.i ∉ l 1 := fun hg => ⟨List.count_eq_zero.1 (by have := one hg; omega), List.count_eq_zero.1 (by have := one hg; omega)⟩
  have hne : ∀ j p2 S2, j ≠ k → ths[j]? = some (some (p2, S2)) → S.give = true → S2.give = true → S2.i ≠ S.i := fun j p2 S2 hjk hj hg hg2 e => by
    have h2 := h.gv j p2 S2 hj
    rw [if_pos hg2, e] at h2
    rw [if_pos hg] at hgv
    have h3 := K.gv hg
    have h4 := count_two (by omega) h2 hgv hjk
    have h5 := h.cnt S.i h3.1 h3.2
    omega
  obtain ⟨r, S', ws', nt, he, hg, hend⟩ := K.step h.two hB hfree
  have hlen := TM.step_len S ws
  rw [he] at hlen
  have hok' : S'.ok N := by
    have := TM.step_ok (S := S) (ws := ws) (by rw [h.len]; exact hok) hrg
    rw [he, h.len] at this
    exact this
  refine ⟨hok, r, S', ws', nt, he, hg, ?_⟩
  have hl' : ws'.length = N := hlen.trans h.len
  cases hend with
  | run h2 k2 hi hf =>
    refine .inl ⟨rfl, l, T, h.put hk4 _ (h2.more (Nat.le_succ _)) hl' (.inl rfl) (fun j p2 S2 b hjk hj kk => hf b S2 kk (hne j p2 S2 hjk hj)) (fun p' S2 e => ?_) h.cnt⟩
    cases e
    refine ⟨⟨a, k2⟩, ?_, hok'⟩
    rw [hgv, hg]
    by_cases c : S.give = true
    · rw [if_pos c, if_pos c, hi c]
    · rw [if_neg c, if_neg c]
  | none hg2 hnil =>
    exact .inr (.inl ⟨rfl, hg2, l, T, h.put hk4 _ (h.two.more (Nat.le_succ _)) hl' (.inl rfl) (fun _ _ _ _ _ _ k => k) (fun p' S2 e => by cases e) h.cnt⟩)
  | lost =>
    exact .inr (.inr (.inl ⟨rfl, l, T, h.put hk4 _ (h.two.more (Nat.le_succ _)) hl' (.inl rfl) (fun _ _ _ _ _ _ k => k) (fun p' S2 e => by cases e) h.cnt⟩))
  | took hg2 hl h2 =>
    rename_i v r
    have hr := (h.two.at_ a K.a2).rng S'.i (by rw [hl]; simp)
    rw [if_neg (by simp [hg2])] at hgv
    refine .inr (.inr (.inr (.inl ⟨rfl, hg2, _, _, h.put hk4 _ h2 hl' (.inr ⟨_, rfl, by omega, hr.2⟩) (fun j p2 S2 b _ _ kk => kk.turned K.a2) (fun p' S2 e => by cases e) fun x x0 x1 => ?_⟩)))
    have h3 := h.cnt x x0 x1
    have h4 := count_put (b := S'.i) hgv x
    rw [if_neg (by omega)] at h4
    have h5 : (l a).count x = r.count x + (if S'.i = x then 1 else 0) := by rw [hl, List.count_cons]; simp
    rcases (show a = 0 ∨ a = 1 by have := K.a2; omega) with rfl | rfl
    · rw [upF_self, upF_ne _ _ (by decide)]; omega
    · rw [upF_self, upF_ne _ _ (by decide)]; omega
  | gave hg2 hi h2 =>
    rename_i v
    rw [if_pos hg2] at hgv
    have hir := K.gv hg2
    refine .inr (.inr (.inr (.inr ⟨rfl, hg2, _, _, h.put hk4 _ h2 hl' (.inr ⟨0, rfl, Int.le_refl _, by omega⟩) (fun j p2 S2 b _ _ kk => kk.turned K.a2) (fun p' S2 e => by cases e) fun x x0 x1 => ?_⟩)))
    have h3 := h.cnt x x0 x1
    have h4 := count_put (b := 0) hgv x
    rw [if_neg (show ¬ (0 : Int) = x by omega)] at h4
    have h5 : (S.i :: l a).count x = (l a).count x + (if S.i = x then 1 else 0) := by rw [List.count_cons]; simp
    rcases (show a = 0 ∨ a = 1 by have := K.a2; omega) with rfl | rfl
    · rw [upF_self, upF_ne _ _ (by decide), h5]; omega
    · rw [upF_self, upF_ne _ _ (by decide), h5]; omega
/-- All nodes, each once. -/
structure AllN (nn : Nat) (all : List Int) : Prop where
  nd : all.Nodup
  rg : ∀ i ∈ all, 1 ≤ i ∧ i ≤ nn
  len : all.length = nn
theorem AllN.of {nn : Nat} {all : List Int} (hr : ∀ i ∈ all, 1 ≤ i ∧ i ≤ nn) (hc : ∀ x : Int, 1 ≤ x → x ≤ nn → all.count x = 1) : AllN nn all := by
  have hp : all.Perm (upL 1 nn) := by
    refine List.perm_iff_count.2 fun x => ?_
    by_cases c : 1 ≤ x ∧ x ≤ nn
    · rw [hc x c.1 c.2]
      have h1 : x ∈ upL 1 nn := mem_upL.2 ⟨c.1, by omega⟩
      have h2 := List.nodup_iff_count.1 (nodup_upL nn 1) x
      have h3 : 1 ≤ (upL 1 nn).count x := List.count_pos_iff.2 h1
      omega
    · rw [List.count_eq_zero.2 fun h => c (hr x h), List.count_eq_zero.2 fun h => c (by have := mem_upL.1 h; omega)]
  exact ⟨hp.nodup_iff.2 (nodup_upL _ _), hr, by rw [hp.length_eq, upL_len]⟩
def nz (hs : List Int) : List Int := hs.filter (fun h => h != 0)
theorem MI7.whole {nn N : Nat} {tg : Int} {B : Nat} {ws : List Int} {ths : List Th} {hs : List Int} (h : MI7 nn N tg B ws ths hs) : ∃ l0 l1 T0 T1, AtL nn ws 0 l0 T0 ∧ AtL nn ws 1 l1 T1 ∧ AllN nn (l0 ++ l1 ++ nz hs) ∧ hs.length = 4 ∧ (∀ h ∈ hs, 0 ≤ h ∧ h ≤ nn) ∧ ws.length = N := by
  obtain ⟨l, T, h⟩ := h
  refine ⟨l 0, l 1, T 0, T 1, h.two.at_ 0 (by decide), h.two.at_ 1 (by decide), AllN.of (fun i hi => ?_) (fun x x0 x1 => ?_), h.hl, h.rg, h.len⟩
  · rcases List.mem_append.1 hi with h1 | h1
    · rcases List.mem_append.1 h1 with h1 | h1
      · exact (h.two.at_ 0 (by decide)).rng i h1
      · exact (h.two.at_ 1 (by decide)).rng i h1
    · obtain ⟨h2, h3⟩ := List.mem_filter.1 h1
      have := h.rg i h2
      have : i ≠ 0 := by simpa using h3
      omega
  · rw [List.count_append, List.count_append]
    have : (nz hs).count x = hs.count x := List.count_filter (by simp; omega)
    rw [this]
    exact h.cnt x x0 x1
/-- In the beginning. -/
theorem MI7.new {nn N : Nat} {tg T : Int} (hT : tg * 4294967296 = T) (t0 : 0 ≤ tg) (t1 : tg < 4294967296) (hN : N = 2 + 2 * nn) (hn : 1 ≤ nn) (hn2 : nn ≤ 64) : MI7 nn N tg 0 (frL T nn nn 0 N) [none, none, none, none] [0, 0, 0, 0] := by
  refine ⟨fun a => if a = 0 then [] else upL 1 nn, fun _ => tg, ⟨fun a ha => ?_, fun _ _ => Int.le_refl _, fun _ _ => by omega, by rw [frL_len]; omega⟩, frL_len _ _ _ _ _, rfl, rfl, fun k p S h => ?_, fun k p S h => ?_, fun k p S h => ?_, fun x x0 x1 => ?_, fun h hh => ?_⟩
  · match a, ha with
    | 0, _ => exact fresh_at0 hT t0 t1 (by omega)
    | 1, _ => exact fresh_at1 hT t0 t1 (by omega) hn hn2
  · match k, h with
    | 0, h => cases h
    | 1, h => cases h
    | 2, h => cases h
    | 3, h => cases h
    | k + 4, h => simp at h
  · match k, h with
    | 0, h => cases h
    | 1, h => cases h
    | 2, h => cases h
    | 3, h => cases h
    | k + 4, h => simp at h
  · match k, h with
    | 0, h => cases h
    | 1, h => cases h
    | 2, h => cases h
    | 3, h => cases h
    | k + 4, h => simp at h
  · have h1 : x ∈ upL 1 nn := mem_upL.2 ⟨x0, by omega⟩
    have h2 := List.nodup_iff_count.1 (nodup_upL nn 1) x
    have h3 : 1 ≤ (upL 1 nn).count x := List.count_pos_iff.2 h1
    have h4 : ([0, 0, 0, 0] : List Int).count x = 0 := List.count_eq_zero.2 (by simp; omega)
    rw [h4]
    show ([] : List Int).count x + (upL 1 nn).count x + 0 = 1
    simp
    omega
  · simp at hh
    omega
end Go.Proofs.Ytndigbkhaajjoaa
