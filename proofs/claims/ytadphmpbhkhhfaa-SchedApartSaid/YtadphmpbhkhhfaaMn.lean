/-
  Many adding machines, each behind so many steps of its own: a pick of one.
-/
import Derived.Test.YtadphmpbhkhhfaaSchL
namespace Go.Proofs.Ytadphmpbhkhhfaa
open Go.RowKit
set_option linter.unusedVariables false
set_option linter.unusedSimpArgs false

def upC (c : Nat → Nat) (t v : Nat) : Nat → Nat := fun s => if s = t then v else c s
theorem upC_self (c : Nat → Nat) (t v : Nat) : upC c t v t = v := if_pos rfl
theorem upC_ne (c : Nat → Nat) {t s : Nat} (v : Nat) (h : s ≠ t) : upC c t v s = c s := if_neg h
def sumC : Nat → (Nat → Nat) → Nat
  | 0, _ => 0
  | n + 1, c => sumC n c + c n
theorem sumC_same : ∀ {n : Nat} {c d : Nat → Nat}, (∀ t, t < n → c t = d t) → sumC n c = sumC n d
  | 0, _, _, _ => rfl
  | n + 1, c, d, h => by
    show sumC n c + c n = sumC n d + d n
    rw [sumC_same (n := n) fun t ht => h t (by omega), h n (by omega)]
theorem sumC_up : ∀ {n t : Nat} (c : Nat → Nat), t < n → sumC n (upC c t (c t + 1)) = sumC n c + 1
  | 0, t, c, h => by omega
  | n + 1, t, c, h => by
    show sumC n (upC c t (c t + 1)) + upC c t (c t + 1) n = sumC n c + c n + 1
    by_cases e : t = n
    · subst e
      rw [upC_self, sumC_same (d := c) fun s hs => upC_ne _ _ (by omega)]
      omega
    · rw [upC_ne _ _ (fun c => e c.symm), sumC_up c (by omega)]
      omega
theorem sumC_le : ∀ {n : Nat} {c : Nat → Nat} {b : Nat}, (∀ t, t < n → c t ≤ b) → sumC n c ≤ n * b
  | 0, _, _, _ => by simp [sumC]
  | n + 1, c, b, h => by
    have h1 := sumC_le (n := n) (c := c) (b := b) fun t ht => h t (by omega)
    have h2 := h n (by omega)
    show sumC n c + c n ≤ (n + 1) * b
    rw [Nat.succ_mul]
    omega
def rngL {α : Type} (n : Nat) (f : Nat → α) : List α := (List.range n).map f
theorem rngL_len {α : Type} (n : Nat) (f : Nat → α) : (rngL n f).length = n := by simp [rngL]
theorem rngL_get {α : Type} {n : Nat} {f : Nat → α} {k : Nat} (h : k < n) : (rngL n f)[k]? = some (f k) := by simp [rngL, List.getElem?_map, h]
theorem rngL_same {α : Type} {n : Nat} {f f' : Nat → α} (h : ∀ j, j < n → f j = f' j) : rngL n f = rngL n f' := by
  apply List.ext_getElem?
  intro j
  by_cases c : j < n
  · rw [rngL_get c, rngL_get c, h j c]
  · rw [List.getElem?_eq_none (by rw [rngL_len]; omega), List.getElem?_eq_none (by rw [rngL_len]; omega)]
theorem rngL_set {α : Type} {n : Nat} {f f' : Nat → α} {k : Nat} {v : α} (h : k < n) (hv : f' k = v) (hs : ∀ j, j < n → j ≠ k → f' j = f j) : (rngL n f).set k v = rngL n f' := by
  subst hv
  apply List.ext_getElem?
  intro j
  by_cases c : j = k
  · subst c
    rw [List.getElem?_set_self (by rw [rngL_len]; exact h), rngL_get h]
  · rw [List.getElem?_set_ne (fun e => c e.symm)]
    by_cases d : j < n
    · rw [rngL_get d, rngL_get d, hs j d c]
    · rw [List.getElem?_eq_none (by rw [rngL_len]; omega), List.getElem?_eq_none (by rw [rngL_len]; omega)]
theorem rngL_snoc {α : Type} (n : Nat) (f : Nat → α) : rngL (n + 1) f = rngL n f ++ [f n] := by simp [rngL, List.range_succ]
theorem rngL_const {α : Type} (n : Nat) (a : α) : rngL n (fun _ => a) = List.replicate n a := by
  apply List.ext_getElem?
  intro j
  by_cases d : j < n
  · rw [rngL_get d, List.getElem?_replicate, if_pos d]
  · rw [List.getElem?_eq_none (by rw [rngL_len]; omega), List.getElem?_eq_none (by simp; omega)]
theorem St.pick3 {w0 w : World} {m : Asn} {A : List Asn} {σ : Type} {f : Nat → σ → Asn} {ps : List Nat} {Ss : List σ} {k p : Nat} {S : σ} (h : St w0 (m :: (A ++ manyA f ps Ss)) w) (hp : ps[k]? = some p) (hS : Ss[k]? = some S) :
    ∃ R, St w0 (f p S :: m :: (A ++ R)) w ∧ ∀ w1 w' m' (A' : List Asn) S', St w1 (f p S' :: m' :: (A' ++ R)) w' → St w1 (m' :: (A' ++ manyA f ps (Ss.set k S'))) w' := by
  have e : (m :: (A ++ manyA f ps Ss))[1 + A.length + k]? = some (f p S) := by
    rw [show 1 + A.length + k = (A.length + k) + 1 by omega, List.getElem?_cons_succ, List.getElem?_append_right (by omega), show A.length + k - A.length = k by omega]
    exact many_get hp hS
  have hk : k < (manyA f ps Ss).length := (List.getElem?_eq_some_iff.1 (many_get (f := f) hp hS)).1
  have h1 := h.front _ e
  have e2 : (m :: (A ++ manyA f ps Ss)).eraseIdx (1 + A.length + k) = m :: (A ++ (manyA f ps Ss).eraseIdx k) := by
    rw [show 1 + A.length + k = (A.length + k) + 1 by omega, List.eraseIdx_cons_succ, List.eraseIdx_append_of_length_le (by omega), show A.length + k - A.length = k by omega]
  rw [e2] at h1
  refine ⟨(manyA f ps Ss).eraseIdx k, h1, fun w1 w' m' A' S' h3 => ?_⟩
  have e3 : (m' :: (A' ++ manyA f ps Ss)).eraseIdx (1 + A'.length + k) = m' :: (A' ++ (manyA f ps Ss).eraseIdx k) := by
    rw [show 1 + A'.length + k = (A'.length + k) + 1 by omega, List.eraseIdx_cons_succ, List.eraseIdx_append_of_length_le (by omega), show A'.length + k - A'.length = k by omega]
  rw [← e3] at h3
  have h4 := h3.back (1 + A'.length + k) (by simp; omega)
  rw [show 1 + A'.length + k = (A'.length + k) + 1 by omega, List.set_cons_succ, List.set_append_right _ _ (by omega), show A'.length + k - A'.length = k by omega, many_set hp] at h4
  exact h4
/-- A machine behind c steps: the word that it wrote last. -/
def adW (t c : Nat) : Int := (((t + 1) * (c / 2) : Nat) : Int)
def adS (K : Nat → Nat) (t c : Nat) : Ad := ⟨t, K t, (t : Int) + 1, decide (c % 2 = 1), if c % 2 = 1 then adW t c else adW t (c - 1), (c / 2 : Nat)⟩
def tuV (K : Nat → Nat) (xs : List Nat) (c : Nat → Nat) (t : Nat) : Value := if c t < 2 * K t then adV (xs.getD t 0) else .nilIface
structure TuC (n : Nat) (K c : Nat → Nat) : Prop where
  n8 : n ≤ 8
  k1 : ∀ t, t < n → 1 ≤ K t ∧ K t ≤ 10
  le : ∀ t, t < n → c t ≤ 2 * K t
def TuSt (w0 : World) (p q r g n : Nat) (K : Nat → Nat) (xs : List Nat) (L : List Asn) (c : Nat → Nat) (w : World) : Prop :=
  ∃ ns, ns.length = sumC n c ∧ St w0 (schB p q r g n (sumC n c : Nat) :: ((thR g n (rngL n (tuV K xs c)) :: memA q (rngL n fun t => adW t (c t)) ns :: L) ++ manyA (fun x S => adA x S) xs (rngL n fun t => adS K t (c t)))) w
theorem adW_le {t c : Nat} (ht : t < 8) (hc : c ≤ 22) : 0 ≤ adW t c ∧ adW t c ≤ 100 := by
  have h1 : (t + 1) * (c / 2) ≤ 8 * 11 := Nat.mul_le_mul (by omega) (by omega)
  unfold adW
  omega
theorem tuV_at {K : Nat → Nat} {xs : List Nat} {c : Nat → Nat} {t x : Nat} (hx : xs[t]? = some x) (h : c t < 2 * K t) : tuV K xs c t = adV x := by
  unfold tuV
  rw [if_pos h, List.getD_eq_getElem?_getD, hx]
  rfl
theorem tu_next {n : Nat} {K c : Nat → Nat} (h : TuC n K c) {t : Nat} (ht : t < n) (hc : c t < 2 * K t) : TuC n K (upC c t (c t + 1)) := ⟨h.n8, h.k1, fun s hs => by
  by_cases e : s = t
  · subst e; rw [upC_self]; omega
  · rw [upC_ne _ _ e]; exact h.le s hs⟩
theorem tu_pick {w0 w : World} {p q r g n : Nat} {K : Nat → Nat} {xs : List Nat} {L : List Asn} {c : Nat → Nat} (hC : TuC n K c) (hxs : xs.length = n) (t : Nat) (ht : t < n) (h : TuSt w0 p q r g n K xs L c w) :
    Calls Try.prog 10 #[.pointer (some ⟨p, 0, none⟩), .int .i64 t] w fun e w' => ∃ s v er, e = .returned (.tuple #[.int .i64 s, .int .u64 v, .int .i64 er]) ∧ TuSt w0 p q r g n K xs L (if c t < 2 * K t then upC c t (c t + 1) else c) w' := by
  obtain ⟨ns, hns, hS⟩ := h
  have hsum := sumC_le (n := n) (c := c) (b := 20) fun s hs => by have := hC.le s hs; have := hC.k1 s hs; omega
  have h8 := hC.n8
  have hk := hC.k1 t ht
  have hsm : sumC n c ≤ 160 := by have : n * 20 ≤ 8 * 20 := Nat.mul_le_mul_right _ h8; omega
  by_cases hc : c t < 2 * K t
  · rw [if_pos hc]
    obtain ⟨x, hx⟩ := getE (l := xs) (k := t) (by omega)
    obtain ⟨R, hR1, hR2⟩ := hS.pick3 hx (rngL_get (f := fun t => adS K t (c t)) ht)
    have hR3 : St w0 (schB p q r g n (sumC n c : Nat) :: thR g n (rngL n (tuV K xs c)) :: adA x (adS K t (c t)) :: memA q (rngL n fun t => adW t (c t)) ns :: (L ++ R)) w := hR1.re 4 [1, 2, 0, 3]
    have htx : (rngL n (tuV K xs c))[t]? = some (adV x) := by rw [rngL_get ht, tuV_at hx hc]
    have hrd : rdW (rngL n fun t => adW t (c t)) t = adW t (c t) := by unfold rdW; rw [List.getD_eq_getElem?_getD, rngL_get ht]; rfl
    have hnl : ns.length ≤ 1000000000000 := by omega
    have hwl : t < (rngL n fun t => adW t (c t)).length := by rw [rngL_len]; exact ht
    have e1 : ((sumC n (upC c t (c t + 1)) : Nat) : Int) = (sumC n c : Nat) + 1 := by rw [sumC_up c ht]; omega
    have hb := adW_le (t := t) (c := c t) (by omega) (by omega)
    have eS : (rngL n fun t => adS K t (c t)).set t (adS K t (c t + 1)) = rngL n fun s => adS K s (upC c t (c t + 1) s) := rngL_set ht (by rw [upC_self]) fun j hj hne => by rw [upC_ne _ _ hne]
    by_cases ho : c t % 2 = 1
    · -- it writes
      have ea : adS K t (c t) = ⟨t, K t, (t : Int) + 1, true, adW t (c t), (c t / 2 : Nat)⟩ := by unfold adS; simp [ho]
      rw [ea] at hR3
      have hz : (adW t (c t) + ((t : Int) + 1)) % 18446744073709551616 = adW t (c t + 1) := by
        have : adW t (c t + 1) = adW t (c t) + ((t : Int) + 1) := by
          unfold adW
          rw [show (c t + 1) / 2 = c t / 2 + 1 by omega, Nat.mul_succ]
          omega
        rw [this]
        omega
      have eb : adS K t (c t + 1) = ⟨t, K t, (t : Int) + 1, false, adW t (c t), ((c t / 2 : Nat) : Int) + 1⟩ := by
        unfold adS
        have h1 : ¬ (c t + 1) % 2 = 1 := by omega
        have h2 : (c t + 1) / 2 = c t / 2 + 1 := by omega
        simp [h1, h2]
      have eW : (rngL n fun t => adW t (c t)).set t (adW t (c t + 1)) = rngL n fun s => adW s (upC c t (c t + 1) s) := rngL_set ht (by rw [upC_self]) fun j hj hne => by rw [upC_ne _ _ hne]
      by_cases he : c t + 1 < 2 * K t
      · refine (pick_ad_go t t (K t) ((t : Int) + 1) (adW t (c t)) (adW t (c t)) (adW t (c t + 1)) ((c t / 2 : Nat) : Int) hR3 ht htx (by omega) (by omega) hwl (Lib.hid hrd) (Lib.hid hz) (by omega) (by omega) (by omega) hnl).mono ?_
        rintro e w' ⟨rfl, h⟩
        refine ⟨_, _, _, rfl, ns ++ [stN t (adW t (c t)) (adW t (c t + 1))], by rw [List.length_append, sumC_up c ht]; show _ + 1 = _; omega, ?_⟩
        rw [← eb, eW, ← e1] at h
        have eV : rngL n (tuV K xs c) = rngL n (tuV K xs (upC c t (c t + 1))) := rngL_same fun j hj => by
          unfold tuV
          by_cases e : j = t
          · subst e; rw [upC_self, if_pos hc, if_pos he]
          · rw [upC_ne _ _ e]
        rw [eV] at h
        rw [← eS]
        exact hR2 _ _ _ (thR g n _ :: memA q _ _ :: L) _ (h.re 4 [2, 0, 1, 3])
      · refine (pick_ad_end t t (K t) ((t : Int) + 1) (adW t (c t)) (adW t (c t)) (adW t (c t + 1)) ((c t / 2 : Nat) : Int) hR3 ht htx (by omega) (by omega) hwl (Lib.hid hrd) (Lib.hid hz) (by omega) (by omega) (by omega) hnl).mono ?_
        rintro e w' ⟨rfl, h⟩
        refine ⟨_, _, _, rfl, ns ++ [stN t (adW t (c t)) (adW t (c t + 1))], by rw [List.length_append, sumC_up c ht]; show _ + 1 = _; omega, ?_⟩
        rw [← eb, eW, ← e1] at h
        have eV : (rngL n (tuV K xs c)).set t .nilIface = rngL n (tuV K xs (upC c t (c t + 1))) := rngL_set ht (by unfold tuV; rw [upC_self, if_neg he]) fun j hj hne => by unfold tuV; rw [upC_ne _ _ hne]
        rw [eV] at h
        rw [← eS]
        exact hR2 _ _ _ (thR g n _ :: memA q _ _ :: L) _ (h.re 4 [2, 0, 1, 3])
    · -- it reads
      have ea : adS K t (c t) = ⟨t, K t, (t : Int) + 1, false, adW t (c t - 1), (c t / 2 : Nat)⟩ := by unfold adS; simp [ho]
      rw [ea] at hR3
      have e2 : adW t (c t + 1) = adW t (c t) := by unfold adW; rw [show (c t + 1) / 2 = c t / 2 by omega]
      have eb : adS K t (c t + 1) = ⟨t, K t, (t : Int) + 1, true, adW t (c t), ((c t / 2 : Nat) : Int)⟩ := by
        unfold adS
        have h1 : (c t + 1) % 2 = 1 := by omega
        have h2 : (c t + 1) / 2 = c t / 2 := by omega
        rw [e2]
        simp [h1, h2]
      have eW : (rngL n fun t => adW t (c t)) = rngL n fun s => adW s (upC c t (c t + 1) s) := rngL_same fun j hj => by
        by_cases e : j = t
        · subst e; rw [upC_self, e2]
        · rw [upC_ne _ _ e]
      refine (pick_ad_load t t (K t) ((t : Int) + 1) (adW t (c t)) (adW t (c t - 1)) ((c t / 2 : Nat) : Int) hR3 ht htx (by omega) (by omega) hwl (Lib.hid hrd) hnl).mono ?_
      rintro e w' ⟨rfl, h⟩
      refine ⟨_, _, _, rfl, ns ++ [ldN t (adW t (c t))], by rw [List.length_append, sumC_up c ht]; show _ + 1 = _; omega, ?_⟩
      rw [← eb, eW, ← e1] at h
      have eV : rngL n (tuV K xs c) = rngL n (tuV K xs (upC c t (c t + 1))) := rngL_same fun j hj => by
        unfold tuV
        by_cases e : j = t
        · subst e; rw [upC_self, if_pos hc, if_pos (by omega)]
        · rw [upC_ne _ _ e]
      rw [eV] at h
      rw [← eS]
      exact hR2 _ _ _ (thR g n _ :: memA q _ _ :: L) _ (h.re 4 [2, 0, 1, 3])
  · rw [if_neg hc]
    refine (pick_idle hS t ht (by rw [rngL_get ht]; unfold tuV; rw [if_neg hc])).mono ?_
    rintro e w' ⟨rfl, rfl⟩
    exact ⟨_, _, _, rfl, ns, hns, hS⟩
def occ (T m k : Nat) : Nat → Nat
  | 0 => 0
  | d + 1 => occ T m k d + (if (T + d) % m = k then 1 else 0)
theorem occ_shift (T m k : Nat) : ∀ d, occ T m k (d + 1) = (if T % m = k then 1 else 0) + occ (T + 1) m k d
  | 0 => by simp [occ]
  | d + 1 => by
    have := occ_shift T m k d
    simp only [occ] at this ⊢
    rw [this, show T + 1 + d = T + (d + 1) by omega]
    omega
theorem occ_add (T m k d : Nat) : ∀ e, occ T m k (d + e) = occ T m k d + occ (T + d) m k e
  | 0 => by simp [occ]
  | e + 1 => by
    have := occ_add T m k d e
    rw [show d + (e + 1) = (d + e) + 1 by omega]
    simp only [occ]
    rw [this, show T + (d + e) = T + d + e by omega]
    omega
theorem occ_zero (m k : Nat) (hk : k < m) : ∀ d, d ≤ m → occ 0 m k d = if k < d then 1 else 0
  | 0, _ => by simp [occ]
  | d + 1, h => by
    simp only [occ]
    rw [occ_zero m k hk d (by omega), Nat.zero_add, Nat.mod_eq_of_lt (by omega)]
    split <;> split <;> split <;> omega
theorem occ_round (m k : Nat) (hk : k < m) : ∀ T, occ T m k m = 1
  | 0 => by rw [occ_zero m k hk m (Nat.le_refl _), if_pos hk]
  | T + 1 => by
    have h1 := occ_round m k hk T
    obtain ⟨m', rfl⟩ : ∃ m', m = m' + 1 := ⟨m - 1, by omega⟩
    rw [occ_shift] at h1
    simp only [occ]
    rw [show T + 1 + m' = T + (m' + 1) by omega, Nat.add_mod_right]
    omega
theorem occ_rounds (m k : Nat) (hk : k < m) (T : Nat) : ∀ r, occ T m k (r * m) = r
  | 0 => by simp [occ]
  | r + 1 => by rw [Nat.succ_mul, occ_add, occ_rounds m k hk T r, occ_round m k hk]
end Go.Proofs.Ytadphmpbhkhhfaa
