/-
  A visit's Step, as the machine of numbers does it.
-/
import Derived.Test.YtgfeagggkplegaaGreatVm
namespace Go.Proofs.YtgfeagggkplegaaGreat
open Go.RowKit
set_option linter.unusedVariables false
set_option linter.unusedSimpArgs false

theorem visA_open {w0 w : World} {m : Asn} {l : List Asn} {p : Nat} {S : VM} (h : St w0 (m :: visA p S :: l) w) :
    ∃ nx X, St w0 (m :: vB p S.at_ S.push S.i S.d S.looks S.w nx S.st S.off :: (X ++ l)) w ∧ ∀ w1 w' m', St w1 (m' :: vB p S.at_ S.push S.i S.d S.looks S.w nx S.st S.off :: (X ++ l)) w' → St w1 (m' :: visA p S :: l) w' := by
  obtain ⟨a, push, i, d, lk, x, ph, st, off⟩ := S
  cases ph with
  | first => exact ⟨_, [], h, fun _ _ _ k => k⟩
  | claim => exact ⟨_, [], h, fun _ _ _ k => k⟩
  | offer => exact ⟨_, [], h, fun _ _ _ k => k⟩
  | look => exact ⟨_, [], h, fun _ _ _ k => k⟩
  | withdraw => exact ⟨_, [], h, fun _ _ _ k => k⟩
  | found y =>
    obtain ⟨⟨b3, b4⟩, h1⟩ := h.ex1
    exact ⟨_, [bxP b3 p, bxU b4 y], h1.unstar3, fun _ _ _ k => k.star3.unex1 (b3, b4)⟩
/-- What a step of a visit leaves. -/
def VisPost (w0 : World) (q p : Nat) (ns : List Note) (L : List Asn) (o : VOut) (e : Ending) (w' : World) : Prop :=
  e = .returned (.tuple #[.int .i64 o.r, .int .u32 (o.S.told o.r)]) ∧ St w0 (memA q o.ws (ns ++ o.nt) :: visA p o.S :: L) w'
theorem visit_step {w0 w : World} {q p : Nat} {ws : List Int} {ns : List Note} {L : List Asn} {S : VM} (now : Int) (h : St w0 (memA q ws ns :: visA p S :: L) w) (hok : S.ok ws.length ns.length) (hk : ns.length ≤ 1000000000000) :
    Calls Tryz.prog 138 #[.pointer (some ⟨p, 0, none⟩), .pointer (some ⟨q, 0, none⟩), .int .u64 now] w (VisPost w0 q p ns L (S.step ws now)) := by
  rcases Decidable.em (S.st = 0) with hst | hst
  rotate_left
  · obtain ⟨nx, X, h1, h2⟩ := visA_open h
    have e : S.step ws now = ⟨S.st, S, ws, []⟩ := by simp [VM.step, hst]
    rw [e]
    refine (v_step_over S.push S.at_ S.i S.d S.looks S.w S.st (S.told S.st) nx S.off now h1 hst rfl).mono fun e w' k => ⟨k.1, ?_⟩
    show St w0 (memA q ws (ns ++ []) :: visA p S :: L) w'
    rw [List.append_nil]
    exact h2 _ _ _ k.2
  have hl0 := hok.l0
  have hl1 := hok.l1
  have hl0' : -9223372036854775807 ≤ S.looks := by omega
  by_cases hat : S.at_ < 0 ∨ (ws.length : Int) ≤ S.at_
  · have hph : S.ph = .first := by
      by_cases c : S.ph = .first
      · exact c
      · have := hok.pl hst c; omega
    have e : S.step ws now = ⟨5, { S with st := 5 }, ws, []⟩ := by simp [VM.step, hst, hat]
    rw [e]
    clear e hok hl0 hl1 hl0'
    obtain ⟨a, push, i, d, lk, x, ph, st, off⟩ := S
    dsimp only at hst hat hph
    subst hst hph
    refine (v_step_first push push a i d lk x a i d lk x 5 _ _ off off now h rfl rfl (v_first_out push a i d lk x 0 _ off now h hat)).mono fun e w' k => ⟨k.1, ?_⟩
    show St w0 (memA q ws (ns ++ []) :: visA p ⟨a, push, i, d, lk, x, .first, 5, off⟩ :: L) w'
    rw [List.append_nil]
    exact k.2
  obtain ⟨a, ha0⟩ := Int.eq_ofNat_of_zero_le (show 0 ≤ S.at_ by omega)
  have ha : a < ws.length := by omega
  have e : S.step ws now = S.go ws a now := by simp only [VM.step, hst, hat]; rw [ha0]; simp
  rw [e]
  clear e hat
  obtain ⟨i0, i1, d0, d1, x0, x1, _, _, _, _, hph⟩ := hok
  obtain ⟨at_, push, i, d, lk, x, ph, st, off⟩ := S
  dsimp only at hst ha0 hph i0 i1 d0 d1 x0 x1 hl0 hl1 hl0'
  subst hst ha0
  have hry := h.rng ha
  obtain ⟨y, hy⟩ : ∃ y, rdW ws a = y := ⟨_, rfl⟩
  rw [hy] at hry
  cases ph with
  | first =>
    by_cases c1 : sMeets y push = true
    · have e : VM.go ⟨a, push, i, d, lk, x, .first, 0, off⟩ ws a now = ⟨0, ⟨a, push, i, d, lk, y, .claim, 0, off⟩, ws, [ldN a y]⟩ := by simp only [VM.go, hy, c1, if_true]
      rw [e]
      exact v_step_first push push a i d lk x a i d lk y 0 _ _ off off now h rfl rfl (v_first_meets push i d lk x 0 _ off a y now h ha hy hk c1)
    have c1' : sMeets y push = false := by simpa using c1
    by_cases c2 : sSt y = 0
    · have e : VM.go ⟨a, push, i, d, lk, x, .first, 0, off⟩ ws a now = ⟨0, ⟨a, push, i, d, lk, y, .offer, 0, off⟩, ws, [ldN a y]⟩ := by simp only [VM.go, hy, c1', Bool.false_eq_true, c2, if_true, if_false]
      rw [e]
      exact v_step_first push push a i d lk x a i d lk y 0 _ _ off off now h rfl rfl (v_first_empty push i d lk x 0 _ off a y now h ha hy hk c1' c2)
    · have e : VM.go ⟨a, push, i, d, lk, x, .first, 0, off⟩ ws a now = ⟨3, ⟨a, push, i, d, lk, y, .first, 3, off⟩, ws, [ldN a y]⟩ := by simp only [VM.go, hy, c1', Bool.false_eq_true, c2, if_false]
      rw [e]
      exact v_step_first push push a i d lk x a i d lk y 3 _ _ off off now h rfl rfl (v_first_other push i d lk x 0 _ off a y now h ha hy hk c1' (sSt y) rfl (by simpa using c2))
  | claim =>
    by_cases c1 : y = x
    · subst c1
      have e : VM.go ⟨a, push, i, d, lk, y, .claim, 0, off⟩ ws a now = ⟨1, ⟨a, push, sIx (sClaim y push i), d, lk, y, .claim, 1, off⟩, ws.set a (sClaim y push i), [swN a y (sClaim y push i)]⟩ := by simp only [VM.go, hy, if_true]
      rw [e]
      exact v_step_claim push push a i d lk y a (sIx (sClaim y push i)) d lk y 1 _ _ off off now h rfl rfl (v_claim_hit push i d lk y 0 _ off a _ now h ha hk x0 x1 i0 i1 hph rfl hy)
    · have e : VM.go ⟨a, push, i, d, lk, x, .claim, 0, off⟩ ws a now = ⟨3, ⟨a, push, i, d, lk, x, .claim, 3, off⟩, ws, [noN a y]⟩ := by simp only [VM.go, hy, c1, if_false]
      rw [e]
      exact v_step_claim push push a i d lk x a i d lk x 3 _ _ off off now h rfl rfl (v_claim_lost push i d lk x 0 _ off a _ now h ha hk x0 x1 i0 i1 hph rfl y hy (by simpa using c1))
  | offer =>
    by_cases c1 : y = x
    · subst c1
      have e : VM.go ⟨a, push, i, d, lk, y, .offer, 0, off⟩ ws a now = ⟨0, ⟨a, push, i, d, lk, sOffer y push i, .look, 0, true⟩, ws.set a (sOffer y push i), [swN a y (sOffer y push i)]⟩ := by simp only [VM.go, hy, if_true]
      rw [e]
      exact v_step_offer push push a i d lk y a i d lk (sOffer y push i) 0 _ _ off true now h rfl rfl (v_offer_hit push i d lk y 0 _ off a _ now h ha hk x0 x1 i0 i1 hph rfl hy)
    · have e : VM.go ⟨a, push, i, d, lk, x, .offer, 0, off⟩ ws a now = ⟨3, ⟨a, push, i, d, lk, x, .offer, 3, off⟩, ws, [noN a y]⟩ := by simp only [VM.go, hy, c1, if_false]
      rw [e]
      exact v_step_offer push push a i d lk x a i d lk x 3 _ _ off off now h rfl rfl (v_offer_lost push i d lk x 0 _ off a _ now h ha hk x0 x1 i0 i1 hph rfl y hy (by simpa using c1))
  | look =>
    by_cases c1 : y = x
    · subst c1
      by_cases c2 : lk - 1 ≤ 0
      · have e : VM.go ⟨a, push, i, d, lk, y, .look, 0, off⟩ ws a now = ⟨0, ⟨a, push, i, d, lk - 1, y, .withdraw, 0, off⟩, ws, [ldN a y]⟩ := by simp only [VM.go, hy, c2, if_true, true_or]
        rw [e]
        exact v_step_look push push a i d lk y a i d (lk - 1) y 0 _ _ off off now h rfl rfl (v_look_end push i d lk y 0 _ off a now h x0 x1 ha hy hk hl0' hl1 (decide_eq_true c2))
      by_cases c3 : d ≤ now
      · have e : VM.go ⟨a, push, i, d, lk, y, .look, 0, off⟩ ws a now = ⟨0, ⟨a, push, i, d, lk - 1, y, .withdraw, 0, off⟩, ws, [ldN a y]⟩ := by simp only [VM.go, hy, c3, if_true, or_true]
        rw [e]
        exact v_step_look push push a i d lk y a i d (lk - 1) y 0 _ _ off off now h rfl rfl (v_look_late push i d lk y 0 _ off a now h x0 x1 ha hy hk hl0' hl1 (decide_eq_false c2) (decide_eq_true c3))
      · have e : VM.go ⟨a, push, i, d, lk, y, .look, 0, off⟩ ws a now = ⟨0, ⟨a, push, i, d, lk - 1, y, .look, 0, off⟩, ws, [ldN a y]⟩ := by simp only [VM.go, hy, c2, c3, if_true, or_false, if_false]
        rw [e]
        exact v_step_look push push a i d lk y a i d (lk - 1) y 0 _ _ off off now h rfl rfl (v_look_on push i d lk y 0 _ off a now h x0 x1 ha hy hk hl0' hl1 (decide_eq_false c2) (decide_eq_false c3))
    · have c1' : (y != x) = true := by simpa using c1
      by_cases c2 : sSt y = 3
      · have c2' : (sSt y != 3) = false := by simpa using c2
        by_cases c3 : sTp y = sTp x
        · have e : VM.go ⟨a, push, i, d, lk, x, .look, 0, off⟩ ws a now = ⟨0, ⟨a, push, sIx y, d, lk, x, .found y, 0, off⟩, ws, [ldN a y]⟩ := by simp only [VM.go, hy, c1, c2, c3, and_self, if_true, if_false]
          rw [e]
          exact (v_step_look_ok push i d lk x off a y now h x0 x1 ha hy hk c1' c2' (by simpa using c3)).mono fun e w' k => ⟨k.1, by obtain ⟨b3, b4, k2⟩ := k.2; exact visA_found k2⟩
        · have e : VM.go ⟨a, push, i, d, lk, x, .look, 0, off⟩ ws a now = ⟨5, ⟨a, push, i, d, lk, x, .look, 5, off⟩, ws, [ldN a y]⟩ := by simp only [VM.go, hy, c1, c3, and_false, if_false]
          rw [e]
          exact v_step_look push push a i d lk x a i d lk x 5 _ _ off off now h rfl rfl (v_look_stamp push i d lk x 0 _ off a y now h x0 x1 ha hy hk c1' c2' (by simpa using c3))
      · have e : VM.go ⟨a, push, i, d, lk, x, .look, 0, off⟩ ws a now = ⟨5, ⟨a, push, i, d, lk, x, .look, 5, off⟩, ws, [ldN a y]⟩ := by simp only [VM.go, hy, c1, c2, false_and, if_false]
        rw [e]
        exact v_step_look push push a i d lk x a i d lk x 5 _ _ off off now h rfl rfl (v_look_not push i d lk x 0 _ off a y now h x0 x1 ha hy hk c1' (by simpa using c2))
  | withdraw =>
    by_cases c1 : y = x
    · subst c1
      have e : VM.go ⟨a, push, i, d, lk, y, .withdraw, 0, off⟩ ws a now = ⟨4, ⟨a, push, i, d, lk, y, .look, 4, off⟩, ws.set a (sClear y), [swN a y (sClear y)]⟩ := by simp only [VM.go, hy, if_true]
      rw [e]
      exact v_step_withdraw push push a i d lk y a i d lk y 4 _ _ off off now h rfl rfl (v_withdraw_hit push i d lk y 0 _ off a _ now h ha hk x0 x1 rfl hy)
    · have e : VM.go ⟨a, push, i, d, lk, x, .withdraw, 0, off⟩ ws a now = ⟨0, ⟨a, push, i, d, lk, x, .look, 0, off⟩, ws, [noN a y]⟩ := by simp only [VM.go, hy, c1, if_false]
      rw [e]
      exact v_step_withdraw push push a i d lk x a i d lk x 0 _ _ off off now h rfl rfl (v_withdraw_lost push i d lk x 0 _ off a _ now h ha hk x0 x1 rfl y hy (by simpa using c1))
  | found z =>
    obtain ⟨⟨b3, b4⟩, h1⟩ := h.ex1
    have h2 := h1.unstar3
    have e : VM.go ⟨a, push, i, d, lk, x, .found z, 0, off⟩ ws a now = ⟨1, ⟨a, push, i, d, lk, x, .found z, 1, off⟩, ws.set a (sClear z), [stN a y (sClear z)]⟩ := by simp only [VM.go, hy]
    rw [e]
    refine (v_step_found push push a i d lk x a i d lk x 1 _ _ off off now b3 b4 h2 rfl rfl (v_clear push i d lk x 0 _ off a b3 b4 z y _ now h2 hph.1 hph.2 ha hk hy rfl)).mono fun e w' k => ⟨k.1, visA_found k.2⟩
end Go.Proofs.YtgfeagggkplegaaGreat
