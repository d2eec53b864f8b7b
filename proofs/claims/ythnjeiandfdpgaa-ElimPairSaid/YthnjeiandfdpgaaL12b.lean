/-
  Chapter 12: a visit alone at an empty slot; where slots are. No program here.
-/
import Derived.Test.YthnjeiandfdpgaaLaw12
import Derived.Test.YthnjeiandfdpgaaWf
namespace Go.Proofs.Ythnjeiandfdpgaa
open Go.RowKit
set_option linter.unusedVariables false
set_option linter.unusedSimpArgs false

theorem rngOf {ws : List Int} (h : ∀ x ∈ ws, 0 ≤ x ∧ x < 18446744073709551616) : ∀ i, i < ws.length → 0 ≤ rdW ws i ∧ rdW ws i < 18446744073709551616 := fun i hi => rdW_rng h hi
/-- The slots' words in a beginning of three nodes. -/
theorem fr_slot {T : Int} {n k N : Nat} (hN : N = 8 + n) (hk : k < n) : rdW (frL T 3 3 n N) (8 + k) = T := by
  rw [frL_rd _ _ _ _ _ (by omega)]
  unfold frAt
  rw [if_neg (by omega), if_neg (by omega), if_neg (by omega), if_pos (by omega)]
theorem okC3 {n : Nat} (h : n ≤ 16) : okC (3 : Int) (n : Int) 0 = true := by simp [okC]; omega
theorem at3 {n k : Nat} (h : n ≤ 16) (hk : k < n) : atI (3 : Int) (n : Int) 0 1 (k : Int) = ((8 + k : Nat) : Int) := by
  unfold atI lenI loI
  rw [if_pos ⟨okC3 h, by omega, by simp; omega⟩]
  simp
theorem meets_empty {x : Int} {push : Bool} (h : sSt x = 0) : sMeets x push = false := by
  unfold sMeets
  rw [h]
  cases push <;> decide
theorem vm_first {ws : List Int} {a : Nat} {x now d k i : Int} {push : Bool} (hx : rdW ws a = x) (ha : a < ws.length) (h0 : sSt x = 0) :
    (newVM a push i d k).step ws now = ⟨0, ⟨a, push, i, d, max k 1, x, .offer, 0, false⟩, ws, [ldN a x]⟩ := by
  have h1 : ¬ ((a : Int) < 0 ∨ (ws.length : Int) ≤ (a : Int)) := by omega
  simp [VM.step, newVM, VM.go, h1, hx, meets_empty h0, h0]
  exact ha
theorem vm_offer {ws : List Int} {a : Nat} {x now d l i : Int} {push : Bool} (hx : rdW ws a = x) (ha : a < ws.length) :
    VM.step ⟨a, push, i, d, l, x, .offer, 0, false⟩ ws now = ⟨0, ⟨a, push, i, d, l, sOffer x push i, .look, 0, true⟩, ws.set a (sOffer x push i), [swN a x (sOffer x push i)]⟩ := by
  have h1 : ¬ ((a : Int) < 0 ∨ (ws.length : Int) ≤ (a : Int)) := by omega
  simp [VM.step, VM.go, h1, hx]
  exact ha
theorem vm_look {ws : List Int} {a : Nat} {x now d l i : Int} {push : Bool} (hx : rdW ws a = x) (ha : a < ws.length) (hl : 1 < l) (hd : now < d) :
    VM.step ⟨a, push, i, d, l, x, .look, 0, true⟩ ws now = ⟨0, ⟨a, push, i, d, l - 1, x, .look, 0, true⟩, ws, [ldN a x]⟩ := by
  have h1 : ¬ ((a : Int) < 0 ∨ (ws.length : Int) ≤ (a : Int)) := by omega
  have h2 : ¬ (l - 1 ≤ 0 ∨ d ≤ now) := by omega
  simp only [VM.step, VM.go, h1, hx, ne_eq, not_true_eq_false, if_false, Int.toNat_natCast, if_true, h2]
theorem vm_last {ws : List Int} {a : Nat} {x now d l i : Int} {push : Bool} (hx : rdW ws a = x) (ha : a < ws.length) (hl : l ≤ 1 ∨ d ≤ now) :
    VM.step ⟨a, push, i, d, l, x, .look, 0, true⟩ ws now = ⟨0, ⟨a, push, i, d, l - 1, x, .withdraw, 0, true⟩, ws, [ldN a x]⟩ := by
  have h1 : ¬ ((a : Int) < 0 ∨ (ws.length : Int) ≤ (a : Int)) := by omega
  have h2 : l - 1 ≤ 0 ∨ d ≤ now := by omega
  simp only [VM.step, VM.go, h1, hx, ne_eq, not_true_eq_false, if_false, Int.toNat_natCast, if_true, h2]
theorem vm_withdraw {ws : List Int} {a : Nat} {x now d l i : Int} {push : Bool} (hx : rdW ws a = x) (ha : a < ws.length) :
    VM.step ⟨a, push, i, d, l, x, .withdraw, 0, true⟩ ws now = ⟨4, ⟨a, push, i, d, l, x, .look, 4, true⟩, ws.set a (sClear x), [swN a x (sClear x)]⟩ := by
  have h1 : ¬ ((a : Int) < 0 ∨ (ws.length : Int) ≤ (a : Int)) := by omega
  simp [VM.step, VM.go, h1, hx]
  exact ha
theorem e_stateV {w0 w : World} {l : List Asn} {p : Nat} {S : EM} (h : St w0 l w) (j : Nat) (he : l[j]? = some (emA p S)) (a b : Int) (ha : S.rg = a) (hb : S.ex = b) :
    Calls Try.prog 18 #[.pointer (some ⟨p, 0, none⟩)] w fun e w' => e = .returned (polV a b) ∧ Below w.heap.size w w' := by
  subst ha hb
  exact e_state h j he
theorem e_placeV {w0 w : World} {l : List Asn} {p : Nat} {S : EM} (h : St w0 l w) (j : Nat) (he : l[j]? = some (emA p S)) (a : Int) (ha : S.pl = a) :
    Calls Try.prog 19 #[.pointer (some ⟨p, 0, none⟩)] w fun e w' => e = .returned (.int .i64 a) ∧ w = w' := by
  subst ha
  exact e_place h j he
end Go.Proofs.Ythnjeiandfdpgaa
