/-
  Many counting machines: a pick of one.
-/
import Derived.Test.YtadphmpbhkhhfaaMn
namespace Go.Proofs.Ytadphmpbhkhhfaa
open Go.RowKit
set_option linter.unusedVariables false
set_option linter.unusedSimpArgs false

def slS (M : Nat → Nat) (t c : Nat) : Sl := ⟨c, M t, t⟩
def apV (M : Nat → Nat) (xs : List Nat) (c : Nat → Nat) (t : Nat) : Value := if c t < M t then slV (xs.getD t 0) else .nilIface
structure ApC (n : Nat) (M c : Nat → Nat) : Prop where
  n8 : n ≤ 8
  m1 : ∀ t, t < n → 1 ≤ M t ∧ M t ≤ 20
  le : ∀ t, t < n → c t ≤ M t
abbrev apL (p q r g n : Nat) (M : Nat → Nat) (xs : List Nat) (L : List Asn) (c : Nat → Nat) : List Asn := schB p q r g n (sumC n c : Nat) :: ((thR g n (rngL n (apV M xs c)) :: L) ++ manyA (fun x S => slA x S) xs (rngL n fun t => slS M t (c t)))
theorem apV_at {M : Nat → Nat} {xs : List Nat} {c : Nat → Nat} {t x : Nat} (hx : xs[t]? = some x) (h : c t < M t) : apV M xs c t = slV x := by
  unfold apV
  rw [if_pos h, List.getD_eq_getElem?_getD, hx]
  rfl
theorem ap_next {n : Nat} {M c : Nat → Nat} (h : ApC n M c) {t : Nat} (ht : t < n) (hc : c t < M t) : ApC n M (upC c t (c t + 1)) := ⟨h.n8, h.m1, fun s hs => by
  by_cases e : s = t
  · subst e; rw [upC_self]; omega
  · rw [upC_ne _ _ e]; exact h.le s hs⟩
section
variable {w0 w : World} {p q r g n : Nat} {M : Nat → Nat} {xs : List Nat} {L : List Asn} {c : Nat → Nat}
theorem ap_sum (hC : ApC n M c) : sumC n c ≤ 160 := by
  have hsum := sumC_le (n := n) (c := c) (b := 20) fun s hs => by have := hC.le s hs; have := hC.m1 s hs; omega
  have h8 := hC.n8
  have : n * 20 ≤ 8 * 20 := Nat.mul_le_mul_right _ h8
  omega
theorem ap_at {t : Nat} (hx : c t < M t) (ht : t < n) (hxs : xs.length = n) : ∃ x, xs[t]? = some x ∧ (rngL n (apV M xs c))[t]? = some (slV x) := by
  obtain ⟨x, hx2⟩ := getE (l := xs) (k := t) (by omega)
  exact ⟨x, hx2, by rw [rngL_get ht, apV_at hx2 hx]⟩
theorem ap_idle (t : Nat) (ht : t < n) (hc : ¬ c t < M t) : (rngL n (apV M xs c))[t]? = some .nilIface := by
  rw [rngL_get ht]
  unfold apV
  rw [if_neg hc]
theorem ap_go (hC : ApC n M c) (hxs : xs.length = n) (t : Nat) (ht : t < n) (hc : c t + 1 < M t) (hS : St w0 (apL p q r g n M xs L c) w) :
    Calls Try.prog 10 #[.pointer (some ⟨p, 0, none⟩), .int .i64 t] w fun e w' => e = .returned (.tuple #[.int .i64 0, .int .u64 0, .int .i64 0]) ∧ St w0 (apL p q r g n M xs L (upC c t (c t + 1))) w' := by
  have hsm := ap_sum hC
  have hk := hC.m1 t ht
  obtain ⟨x, hx, htx⟩ := ap_at (xs := xs) (c := c) (show c t < M t by omega) ht hxs
  obtain ⟨R, hR1, hR2⟩ := hS.pick3 hx (rngL_get (f := fun t => slS M t (c t)) ht)
  have hR3 : St w0 (schB p q r g n (sumC n c : Nat) :: thR g n (rngL n (apV M xs c)) :: slA x ⟨c t, M t, t⟩ :: (L ++ R)) w := hR1.re 3 [1, 2, 0]
  have e1 : ((sumC n (upC c t (c t + 1)) : Nat) : Int) = (sumC n c : Nat) + 1 := by rw [sumC_up c ht]; omega
  have eS : (rngL n fun t => slS M t (c t)).set t (slS M t (c t + 1)) = rngL n fun s => slS M s (upC c t (c t + 1) s) := rngL_set ht (by rw [upC_self]) fun j hj hne => by rw [upC_ne _ _ hne]
  have eb : slS M t (c t + 1) = ⟨(c t : Int) + 1, M t, t⟩ := by unfold slS; simp
  refine (pick_sl_go t (c t) (M t) t hR3 ht htx (by omega) (by omega) (by omega) (by omega) (by omega)).mono ?_
  rintro e w' ⟨rfl, h⟩
  refine ⟨rfl, ?_⟩
  rw [← eb, ← e1] at h
  have eV : rngL n (apV M xs c) = rngL n (apV M xs (upC c t (c t + 1))) := rngL_same fun j hj => by
    unfold apV
    by_cases e : j = t
    · subst e; rw [upC_self, if_pos (by omega), if_pos (by omega)]
    · rw [upC_ne _ _ e]
  rw [eV] at h
  unfold apL
  rw [← eS]
  exact hR2 _ _ _ (thR g n _ :: L) _ (h.re 3 [2, 0, 1])
theorem ap_end (hC : ApC n M c) (hxs : xs.length = n) (t : Nat) (ht : t < n) (hc : c t + 1 = M t) (hS : St w0 (apL p q r g n M xs L c) w) :
    Calls Try.prog 10 #[.pointer (some ⟨p, 0, none⟩), .int .i64 t] w fun e w' => e = .returned (.tuple #[.int .i64 1, .int .u64 t, .int .i64 0]) ∧ St w0 (apL p q r g n M xs L (upC c t (c t + 1))) w' := by
  have hsm := ap_sum hC
  have hk := hC.m1 t ht
  obtain ⟨x, hx, htx⟩ := ap_at (xs := xs) (c := c) (show c t < M t by omega) ht hxs
  obtain ⟨R, hR1, hR2⟩ := hS.pick3 hx (rngL_get (f := fun t => slS M t (c t)) ht)
  have hR3 : St w0 (schB p q r g n (sumC n c : Nat) :: thR g n (rngL n (apV M xs c)) :: slA x ⟨c t, M t, t⟩ :: (L ++ R)) w := hR1.re 3 [1, 2, 0]
  have e1 : ((sumC n (upC c t (c t + 1)) : Nat) : Int) = (sumC n c : Nat) + 1 := by rw [sumC_up c ht]; omega
  have eS : (rngL n fun t => slS M t (c t)).set t (slS M t (c t + 1)) = rngL n fun s => slS M s (upC c t (c t + 1) s) := rngL_set ht (by rw [upC_self]) fun j hj hne => by rw [upC_ne _ _ hne]
  have eb : slS M t (c t + 1) = ⟨(c t : Int) + 1, M t, t⟩ := by unfold slS; simp
  refine (pick_sl_end t (c t) (M t) t hR3 ht htx (by omega) (by omega) (by omega) (by omega) (by omega)).mono ?_
  rintro e w' ⟨rfl, h⟩
  refine ⟨rfl, ?_⟩
  rw [← eb, ← e1] at h
  have eV : (rngL n (apV M xs c)).set t .nilIface = rngL n (apV M xs (upC c t (c t + 1))) := rngL_set ht (by unfold apV; rw [upC_self, if_neg (by omega)]) fun j hj hne => by unfold apV; rw [upC_ne _ _ hne]
  rw [eV] at h
  unfold apL
  rw [← eS]
  exact hR2 _ _ _ (thR g n _ :: L) _ (h.re 3 [2, 0, 1])
/-- The cells of a machine. -/
theorem ap_cells (hxs : xs.length = n) {t : Nat} (ht : t < n) (hS : St w0 (apL p q r g n M xs L c) w) : ∃ x, xs[t]? = some x ∧ w.cell? ⟨x, 0, none⟩ = some (.int .i64 (c t)) ∧ w.cell? ⟨x, 1, none⟩ = some (.int .i64 (M t)) := by
  obtain ⟨x, hx⟩ := getE (l := xs) (k := t) (by omega)
  obtain ⟨R, hR1, _⟩ := hS.pick3 hx (rngL_get (f := fun t => slS M t (c t)) ht)
  obtain ⟨c0, c1, _⟩ := cells3s (hR1.cells 0 rfl)
  exact ⟨x, hx, c0, c1⟩
end
end Go.Proofs.Ytadphmpbhkhhfaa
