/-
  The document's visit: its Step, as the machine of numbers does it; whether it met another one.
-/
import Derived.Test.YthnjeiandfdpgaaSVB
import Derived.Test.YthnjeiandfdpgaaSVC
import Derived.Test.YthnjeiandfdpgaaVisitE
namespace Go.Proofs.Ythnjeiandfdpgaa
open Go.RowKit
set_option linter.unusedVariables false
set_option linter.unusedSimpArgs false
variable {Y : Nat → Value}

def rpc (S : VM) : Int := if S.st = 0 then (match S.ph with | .first => 0 | .claim => 1 | .offer => 2 | .look => 3 | .withdraw => 4 | .found _ => 5) else 6
def RFit (S : VM) (n : Nat) (pl lk fd : Int) : Prop := S.looks = max pl 1 - lk ∧ 0 ≤ lk ∧ lk ≤ n ∧ ∀ y, S.ph = .found y → fd = y
def svA (Y : Nat → Value) (p n : Nat) (S : VM) : Asn := exA fun z : Int × Int × Int => starA [svB Y p S.at_ S.push S.i S.d z.1 (rpc S) z.2.1 S.w z.2.2 S.st S.off, factA (RFit S n z.1 z.2.1 z.2.2)]
theorem svA_open {w0 w : World} {m : Asn} {l : List Asn} {p n : Nat} {S : VM} (h : St w0 (m :: svA Y p n S :: l) w) :
    ∃ pl lk fd, RFit S n pl lk fd ∧ St w0 (m :: svB Y p S.at_ S.push S.i S.d pl (rpc S) lk S.w fd S.st S.off :: l) w := by
  obtain ⟨⟨pl, lk, fd⟩, h1⟩ := h.ex1
  have h2 := h1.swap.unstar
  exact ⟨pl, lk, fd, h2.swap.fact, h2.swap.tail.swap⟩
theorem svA_close {w0 w : World} {m : Asn} {l : List Asn} {p n : Nat} {S : VM} {pl lk fd : Int} (hf : RFit S n pl lk fd) (h : St w0 (m :: svB Y p S.at_ S.push S.i S.d pl (rpc S) lk S.w fd S.st S.off :: l) w) : St w0 (m :: svA Y p n S :: l) w := by
  have h1 : St w0 ([svB Y p S.at_ S.push S.i S.d pl (rpc S) lk S.w fd S.st S.off, factA (RFit S n pl lk fd)] ++ m :: l) w := (h.swap.factI hf).swap
  exact (h1.star.swap).unex1 (pl, lk, fd)
/-- What a step of the document's visit leaves. -/
def SVisPost (Y : Nat → Value) (w0 : World) (q p n : Nat) (ns : List Note) (L : List Asn) (o : VOut) (e : Ending) (w' : World) : Prop :=
  e = .returned (.tuple #[.int .i64 o.r, .int .u32 (o.S.told o.r)]) ∧ St w0 (refA q o.ws (ns ++ o.nt) :: svA Y p n o.S :: L) w'
theorem spost {w0 : World} {q p n : Nat} {ns ns' : List Note} {ws' : List Int} {L : List Asn} {o : VOut} {r z a i d pl pc lk x fd st : Int} {push off : Bool}
    (ho : o.S.at_ = a ∧ o.S.push = push ∧ o.S.i = i ∧ o.S.d = d ∧ o.S.w = x ∧ o.S.st = st ∧ o.S.off = off ∧ o.ws = ws' ∧ ns ++ o.nt = ns') (hr : o.r = r) (hz : o.S.told o.r = z) (hp : rpc o.S = pc) (hf : RFit o.S n pl lk fd) {e : Ending} {w' : World} (k : e = .returned (.tuple #[.int .i64 r, .int .u32 z]) ∧ St w0 (refA q ws' ns' :: svB Y p a push i d pl pc lk x fd st off :: L) w') : SVisPost Y w0 q p n ns L o e w' := by
  obtain ⟨rfl, rfl, rfl, rfl, rfl, rfl, rfl, rfl, rfl⟩ := ho
  subst hr hz hp
  exact ⟨k.1, svA_close hf k.2⟩
theorem svisit_step {w0 w : World} {q p n : Nat} {ws : List Int} {ns : List Note} {L : List Asn} {S : VM} (now : Int) (h : St w0 (refA q ws ns :: svA Y p n S :: L) w) (hok : S.ok ws.length ns.length) (hk : ns.length ≤ 1000000000000) (hn : n ≤ 1000000000000) :
    Calls Try.prog 56 #[.pointer (some ⟨p, 12, none⟩), .pointer (some ⟨q, 0, none⟩), .int .u64 now] w (SVisPost Y w0 q p (n + 1) ns L (S.step ws now)) := by
  obtain ⟨pl, lk, fd, hfit, h1⟩ := svA_open h
  replace h := h1
  clear h1
  obtain ⟨f1, f2, f3, f4⟩ := hfit
  rcases Decidable.em (S.st = 0) with hst | hst
  rotate_left
  · have hp : rpc S = 6 := by simp [rpc, hst]
    rw [hp] at h
    have e : S.step ws now = ⟨S.st, S, ws, []⟩ := by simp [VM.step, hst]
    rw [e]
    exact (sv_over S.push S.at_ S.i S.d pl lk S.w fd S.st S.off now (S.told S.st) h rfl).mono fun e w' k => spost ⟨rfl, rfl, rfl, rfl, rfl, rfl, rfl, rfl, List.append_nil _⟩ rfl rfl hp ⟨f1, f2, by omega, f4⟩ k
  by_cases hat : S.at_ < 0 ∨ (ws.length : Int) ≤ S.at_
  · have hph : S.ph = .first := by
      by_cases c : S.ph = .first
      · exact c
      · have := hok.pl hst c; omega
    have e : S.step ws now = ⟨5, { S with st := 5 }, ws, []⟩ := by simp [VM.step, hst, hat]
    rw [e]
    have hp : rpc S = 0 := by simp [rpc, hst, hph]
    rw [hp] at h
    exact (sv_first_out S.push S.at_ S.i S.d pl lk S.w fd S.st S.off now h hat).mono fun e w' k => spost ⟨rfl, rfl, rfl, rfl, rfl, rfl, rfl, rfl, List.append_nil _⟩ rfl (by simp [VM.told]) (by simp [rpc]) ⟨f1, f2, by omega, f4⟩ k
  obtain ⟨a, ha0⟩ := Int.eq_ofNat_of_zero_le (show 0 ≤ S.at_ by omega)
  have ha : a < ws.length := by omega
  have e : S.step ws now = S.go ws a now := by simp only [VM.step, hst, hat]; rw [ha0]; simp
  rw [e]
  clear e hat
  obtain ⟨i0, i1, d0, d1, x0, x1, _, _, _, _, hph⟩ := hok
  obtain ⟨at_, push, i, d, lks, x, ph, st, off⟩ := S
  dsimp only at hst ha0 hph i0 i1 d0 d1 x0 x1 f1 f4 h
  subst hst ha0
  have hry := h.rrng ha
  obtain ⟨y, hy⟩ : ∃ y, rdW ws a = y := ⟨_, rfl⟩
  rw [hy] at hry
  cases ph with
  | first =>
    have hp : rpc ⟨a, push, i, d, lks, x, .first, 0, off⟩ = 0 := by simp [rpc]
    rw [hp] at h
    by_cases c1 : sMeets y push = true
    · have e : VM.go ⟨a, push, i, d, lks, x, .first, 0, off⟩ ws a now = ⟨0, ⟨a, push, i, d, lks, y, .claim, 0, off⟩, ws, [ldN a y]⟩ := by simp only [VM.go, hy, c1, if_true]
      rw [e]
      exact (sv_first_meets push i d pl lk x fd 0 off a y now h ha hy hk c1).mono fun e w' k => spost ⟨rfl, rfl, rfl, rfl, rfl, rfl, rfl, rfl, rfl⟩ rfl (by simp [VM.told]) (by simp [rpc]) ⟨f1, f2, by omega, fun _ e => by cases e⟩ k
    have c1' : sMeets y push = false := by simpa using c1
    by_cases c2 : sSt y = 0
    · have e : VM.go ⟨a, push, i, d, lks, x, .first, 0, off⟩ ws a now = ⟨0, ⟨a, push, i, d, lks, y, .offer, 0, off⟩, ws, [ldN a y]⟩ := by simp only [VM.go, hy, c1', Bool.false_eq_true, c2, if_true, if_false]
      rw [e]
      exact (sv_first_empty push i d pl lk x fd 0 off a y now h ha hy hk c1' c2).mono fun e w' k => spost ⟨rfl, rfl, rfl, rfl, rfl, rfl, rfl, rfl, rfl⟩ rfl (by simp [VM.told]) (by simp [rpc]) ⟨f1, f2, by omega, fun _ e => by cases e⟩ k
    · have e : VM.go ⟨a, push, i, d, lks, x, .first, 0, off⟩ ws a now = ⟨3, ⟨a, push, i, d, lks, y, .first, 3, off⟩, ws, [ldN a y]⟩ := by simp only [VM.go, hy, c1', Bool.false_eq_true, c2, if_false]
      rw [e]
      exact (sv_first_other push i d pl lk x fd 0 off a y now h ha hy hk c1' (sSt y) rfl (by simpa using c2)).mono fun e w' k => spost ⟨rfl, rfl, rfl, rfl, rfl, rfl, rfl, rfl, rfl⟩ rfl (by simp [VM.told]) (by simp [rpc]) ⟨f1, f2, by omega, fun _ e => by cases e⟩ k
  | claim =>
    have hp : rpc ⟨a, push, i, d, lks, x, .claim, 0, off⟩ = 1 := by simp [rpc]
    rw [hp] at h
    by_cases c1 : y = x
    · subst c1
      have e : VM.go ⟨a, push, i, d, lks, y, .claim, 0, off⟩ ws a now = ⟨1, ⟨a, push, sIx (sClaim y push i), d, lks, y, .claim, 1, off⟩, ws.set a (sClaim y push i), [swN a y (sClaim y push i)]⟩ := by simp only [VM.go, hy, if_true]
      rw [e]
      exact (sv_claim_hit push i d pl lk y fd 0 off a _ now (VM.told ⟨a, push, sIx (sClaim y push i), d, lks, y, .claim, 1, off⟩ 1) h ha hk x0 x1 i0 i1 hph rfl (by simp [VM.told]) hy).mono fun e w' k => spost ⟨rfl, rfl, rfl, rfl, rfl, rfl, rfl, rfl, rfl⟩ rfl rfl (by simp [rpc]) ⟨f1, f2, by omega, fun _ e => by cases e⟩ k
    · have e : VM.go ⟨a, push, i, d, lks, x, .claim, 0, off⟩ ws a now = ⟨3, ⟨a, push, i, d, lks, x, .claim, 3, off⟩, ws, [noN a y]⟩ := by simp only [VM.go, hy, c1, if_false]
      rw [e]
      exact (sv_claim_lost push i d pl lk x fd 0 off a _ now h ha hk x0 x1 i0 i1 hph rfl y hy (by simpa using c1)).mono fun e w' k => spost ⟨rfl, rfl, rfl, rfl, rfl, rfl, rfl, rfl, rfl⟩ rfl (by simp [VM.told]) (by simp [rpc]) ⟨f1, f2, by omega, fun _ e => by cases e⟩ k
  | offer =>
    have hp : rpc ⟨a, push, i, d, lks, x, .offer, 0, off⟩ = 2 := by simp [rpc]
    rw [hp] at h
    by_cases c1 : y = x
    · subst c1
      have e : VM.go ⟨a, push, i, d, lks, y, .offer, 0, off⟩ ws a now = ⟨0, ⟨a, push, i, d, lks, sOffer y push i, .look, 0, true⟩, ws.set a (sOffer y push i), [swN a y (sOffer y push i)]⟩ := by simp only [VM.go, hy, if_true]
      rw [e]
      exact (sv_offer_hit push i d pl lk y fd 0 off a _ now h ha hk x0 x1 i0 i1 hph rfl hy).mono fun e w' k => spost ⟨rfl, rfl, rfl, rfl, rfl, rfl, rfl, rfl, rfl⟩ rfl (by simp [VM.told]) (by simp [rpc]) ⟨f1, f2, by omega, fun _ e => by cases e⟩ k
    · have e : VM.go ⟨a, push, i, d, lks, x, .offer, 0, off⟩ ws a now = ⟨3, ⟨a, push, i, d, lks, x, .offer, 3, off⟩, ws, [noN a y]⟩ := by simp only [VM.go, hy, c1, if_false]
      rw [e]
      exact (sv_offer_lost push i d pl lk x fd 0 off a _ now h ha hk x0 x1 i0 i1 hph rfl y hy (by simpa using c1)).mono fun e w' k => spost ⟨rfl, rfl, rfl, rfl, rfl, rfl, rfl, rfl, rfl⟩ rfl (by simp [VM.told]) (by simp [rpc]) ⟨f1, f2, by omega, fun _ e => by cases e⟩ k
  | look =>
    have hp : rpc ⟨a, push, i, d, lks, x, .look, 0, off⟩ = 3 := by simp [rpc]
    rw [hp] at h
    have l1 : lk < 1000000000001 := by omega
    by_cases c1 : y = x
    · subst c1
      by_cases c2 : lks - 1 ≤ 0
      · have e : VM.go ⟨a, push, i, d, lks, y, .look, 0, off⟩ ws a now = ⟨0, ⟨a, push, i, d, lks - 1, y, .withdraw, 0, off⟩, ws, [ldN a y]⟩ := by simp only [VM.go, hy, c2, if_true, true_or]
        rw [e]
        exact (sv_step_look push a i d pl lk y fd 0 off 0 0 now _ h (sv_look_end push i d pl lk y fd 0 off a now h f2 l1 ha hy hk (decide_eq_true (by omega)))).mono fun e w' k => spost ⟨rfl, rfl, rfl, rfl, rfl, rfl, rfl, rfl, rfl⟩ rfl (by simp [VM.told]) (by simp [rpc]) ⟨by dsimp only; omega, by omega, by omega, fun _ e => by cases e⟩ k
      by_cases c3 : d ≤ now
      · have e : VM.go ⟨a, push, i, d, lks, y, .look, 0, off⟩ ws a now = ⟨0, ⟨a, push, i, d, lks - 1, y, .withdraw, 0, off⟩, ws, [ldN a y]⟩ := by simp only [VM.go, hy, c3, if_true, or_true]
        rw [e]
        exact (sv_step_look push a i d pl lk y fd 0 off 0 0 now _ h (sv_look_late push i d pl lk y fd 0 off a now h f2 l1 ha hy hk (decide_eq_false (by omega)) (decide_eq_true c3))).mono fun e w' k => spost ⟨rfl, rfl, rfl, rfl, rfl, rfl, rfl, rfl, rfl⟩ rfl (by simp [VM.told]) (by simp [rpc]) ⟨by dsimp only; omega, by omega, by omega, fun _ e => by cases e⟩ k
      · have e : VM.go ⟨a, push, i, d, lks, y, .look, 0, off⟩ ws a now = ⟨0, ⟨a, push, i, d, lks - 1, y, .look, 0, off⟩, ws, [ldN a y]⟩ := by simp only [VM.go, hy, c2, c3, if_true, or_false, if_false]
        rw [e]
        exact (sv_step_look push a i d pl lk y fd 0 off 0 0 now _ h (sv_look_on push i d pl lk y fd 0 off a now h f2 l1 ha hy hk (decide_eq_false (by omega)) (decide_eq_false c3))).mono fun e w' k => spost ⟨rfl, rfl, rfl, rfl, rfl, rfl, rfl, rfl, rfl⟩ rfl (by simp [VM.told]) (by simp [rpc]) ⟨by dsimp only; omega, by omega, by omega, fun _ e => by cases e⟩ k
    · have c1' : (y == x) = false := by simpa using c1
      by_cases c2 : sSt y = 3
      · have c2' : (sSt y != 3) = false := by simpa using c2
        by_cases c3 : sTp y = sTp x
        · have e : VM.go ⟨a, push, i, d, lks, x, .look, 0, off⟩ ws a now = ⟨0, ⟨a, push, sIx y, d, lks, x, .found y, 0, off⟩, ws, [ldN a y]⟩ := by simp only [VM.go, hy, c1, c2, c3, and_self, if_true, if_false]
          rw [e]
          exact (sv_step_look push a i d pl lk x fd 0 off 0 0 now _ h (sv_look_ok push i d pl 3 lk x fd 0 off a y now h x0 x1 ha hy hk c1' c2' (by simpa using c3))).mono fun e w' k => spost ⟨rfl, rfl, rfl, rfl, rfl, rfl, rfl, rfl, rfl⟩ rfl (by simp [VM.told]) (by simp [rpc]) ⟨f1, f2, by omega, fun _ e => by cases e; rfl⟩ k
        · have e : VM.go ⟨a, push, i, d, lks, x, .look, 0, off⟩ ws a now = ⟨5, ⟨a, push, i, d, lks, x, .look, 5, off⟩, ws, [ldN a y]⟩ := by simp only [VM.go, hy, c1, c3, and_false, if_false]
          rw [e]
          exact (sv_step_look push a i d pl lk x fd 0 off 5 0 now _ h (sv_look_stamp push i d pl 3 lk x fd 0 off a y now h x0 x1 ha hy hk c1' c2' (by simpa using c3))).mono fun e w' k => spost ⟨rfl, rfl, rfl, rfl, rfl, rfl, rfl, rfl, rfl⟩ rfl (by simp [VM.told]) (by simp [rpc]) ⟨f1, f2, by omega, fun _ e => by cases e⟩ k
      · have e : VM.go ⟨a, push, i, d, lks, x, .look, 0, off⟩ ws a now = ⟨5, ⟨a, push, i, d, lks, x, .look, 5, off⟩, ws, [ldN a y]⟩ := by simp only [VM.go, hy, c1, c2, false_and, if_false]
        rw [e]
        exact (sv_step_look push a i d pl lk x fd 0 off 5 0 now _ h (sv_look_not push i d pl 3 lk x fd 0 off a y now h x0 x1 ha hy hk c1' (by simpa using c2))).mono fun e w' k => spost ⟨rfl, rfl, rfl, rfl, rfl, rfl, rfl, rfl, rfl⟩ rfl (by simp [VM.told]) (by simp [rpc]) ⟨f1, f2, by omega, fun _ e => by cases e⟩ k
  | withdraw =>
    have hp : rpc ⟨a, push, i, d, lks, x, .withdraw, 0, off⟩ = 4 := by simp [rpc]
    rw [hp] at h
    by_cases c1 : y = x
    · subst c1
      have e : VM.go ⟨a, push, i, d, lks, y, .withdraw, 0, off⟩ ws a now = ⟨4, ⟨a, push, i, d, lks, y, .look, 4, off⟩, ws.set a (sClear y), [swN a y (sClear y)]⟩ := by simp only [VM.go, hy, if_true]
      rw [e]
      exact (sv_withdraw_hit push i d pl lk y fd 0 off a _ now h ha hk x0 x1 rfl hy).mono fun e w' k => spost ⟨rfl, rfl, rfl, rfl, rfl, rfl, rfl, rfl, rfl⟩ rfl (by simp [VM.told]) (by simp [rpc]) ⟨f1, f2, by omega, fun _ e => by cases e⟩ k
    · have e : VM.go ⟨a, push, i, d, lks, x, .withdraw, 0, off⟩ ws a now = ⟨0, ⟨a, push, i, d, lks, x, .look, 0, off⟩, ws, [noN a y]⟩ := by simp only [VM.go, hy, c1, if_false]
      rw [e]
      exact (sv_withdraw_lost push i d pl lk x fd 0 off a _ now h ha hk x0 x1 rfl y hy (by simpa using c1)).mono fun e w' k => spost ⟨rfl, rfl, rfl, rfl, rfl, rfl, rfl, rfl, rfl⟩ rfl (by simp [VM.told]) (by simp [rpc]) ⟨f1, f2, by omega, fun _ e => by cases e⟩ k
  | found z =>
    have hp : rpc ⟨a, push, i, d, lks, x, .found z, 0, off⟩ = 5 := by simp [rpc]
    rw [hp] at h
    obtain rfl : fd = z := f4 z rfl
    have e : VM.go ⟨a, push, i, d, lks, x, .found fd, 0, off⟩ ws a now = ⟨1, ⟨a, push, i, d, lks, x, .found fd, 1, off⟩, ws.set a (sClear fd), [stN a y (sClear fd)]⟩ := by simp only [VM.go, hy]
    rw [e]
    exact (sv_found push i d pl lk x fd 0 off a y _ now (VM.told ⟨a, push, i, d, lks, x, .found fd, 1, off⟩ 1) h ha hk hph.1 hph.2 hy rfl rfl).mono fun e w' k => spost ⟨rfl, rfl, rfl, rfl, rfl, rfl, rfl, rfl, rfl⟩ rfl rfl (by simp [rpc]) ⟨f1, f2, by omega, fun _ e => by cases e; rfl⟩ k
/-- A visit of the document that is made. -/
theorem svA_new {w0 w : World} {m : Asn} {l : List Asn} {p : Nat} {a i d k : Int} {push : Bool} (h : St w0 (m :: svB Y p a push i d k 0 0 0 0 0 false :: l) w) : St w0 (m :: svA Y p 0 (newVM a push i d k) :: l) w :=
  svA_close (S := newVM a push i d k) (pl := k) (lk := 0) (fd := 0) ⟨by show max k 1 = max k 1 - 0; omega, by decide, by decide, fun y e => by cases e⟩ h
set_option maxHeartbeats 4000000 in
theorem sv_met_over {w0 w : World} {m : Asn} {l : List Asn} {p : Nat} (push : Bool) (a i d pl lk x fd st : Int) (off : Bool) (A : Option Addr) (n c : Nat) (h : St w0 (m :: svB Y p a push i d pl 6 lk x fd st off :: l) w) :
    Calls Try.prog 58 #[.pointer (some ⟨p, 12, none⟩), .slice A n c] w fun e w' => e = .returned (.bool (st == 1)) ∧ Below w.heap.size w w' := by
  obtain ⟨⟨c0, c1, c2, c3, c4, c5, c6, c7, c8, c9, c10⟩, _, lt0⟩ := cellsS (h.cells 1 rfl)
  clear h
  go_enter Try.func58, Try.ntmps58
  go_wp2
  go_ret
  exact ⟨rfl, bl_refl _⟩
set_option maxHeartbeats 4000000 in
theorem sv_met_off {w0 w : World} {m : Asn} {l : List Asn} {p : Nat} (push : Bool) (a i d pl pc lk x fd st : Int) (A : Option Addr) (n c : Nat) (h : St w0 (m :: svB Y p a push i d pl pc lk x fd st false :: l) w) (hp : (pc == 6) = false) :
    Calls Try.prog 58 #[.pointer (some ⟨p, 12, none⟩), .slice A n c] w fun e w' => e = .returned (.bool false) ∧ Below w.heap.size w w' := by
  obtain ⟨⟨c0, c1, c2, c3, c4, c5, c6, c7, c8, c9, c10⟩, _, lt0⟩ := cellsS (h.cells 1 rfl)
  clear h
  go_enter Try.func58, Try.ntmps58
  go_wp2
  go_quiet (fail)
  go_wp2
  go_ret
  exact ⟨rfl, bl_drewN (bl_refl _) _⟩
set_option maxHeartbeats 4000000 in
theorem sv_met_far {w0 w : World} {m : Asn} {l : List Asn} {p : Nat} (push : Bool) (a i d pl pc lk x fd st : Int) (A : Option Addr) (n c : Nat) (h : St w0 (m :: svB Y p a push i d pl pc lk x fd st true :: l) w) (hp : (pc == 6) = false) (ha : decide (a < n) = false) :
    Calls Try.prog 58 #[.pointer (some ⟨p, 12, none⟩), .slice A n c] w fun e w' => e = .returned (.bool false) ∧ Below w.heap.size w w' := by
  obtain ⟨⟨c0, c1, c2, c3, c4, c5, c6, c7, c8, c9, c10⟩, _, lt0⟩ := cellsS (h.cells 1 rfl)
  clear h
  go_enter Try.func58, Try.ntmps58
  go_wp2
  go_quiet (fail)
  go_wp2
  go_ret
  exact ⟨rfl, bl_drewN (bl_refl _) _⟩
set_option maxHeartbeats 4000000 in
theorem sv_met_there {w0 w : World} {m : Asn} {l : List Asn} {p : Nat} (push : Bool) (i d pl pc lk x fd st y : Int) (a n c : Nat) (ad : Addr) (h : St w0 (m :: svB Y p a push i d pl pc lk x fd st true :: l) w) (hp : (pc == 6) = false) (hy : w.cell? (ad.add a) = some (.int .u64 y)) (ha : a < n) :
    Calls Try.prog 58 #[.pointer (some ⟨p, 12, none⟩), .slice (some ad) n c] w fun e w' => e = .returned (.bool (y != x)) ∧ Below w.heap.size w w' := by
  obtain ⟨⟨c0, c1, c2, c3, c4, c5, c6, c7, c8, c9, c10⟩, _, lt0⟩ := cellsS (h.cells 1 rfl)
  have ha0 : decide ((a : Int) < n) = true := decide_eq_true (by omega)
  have ha1 : (0 : Int) ≤ (a : Int) := by omega
  have ha2 : (a : Int) < (n : Int) := by omega
  clear h
  go_enter Try.func58, Try.ntmps58
  go_wp2
  go_quiet (fail)
  go_wp2
  go_ret
  exact ⟨rfl, bl_drewN (bl_refl _) _⟩
theorem svisit_met {w0 w : World} {m : Asn} {l : List Asn} {p nn : Nat} {S : VM} (A : Option Addr) (n c N k : Nat) (ws : List Int) (b : Bool) (h : St w0 (m :: svA Y p nn S :: l) w) (hok : S.ok N k) (hr : RdU w A ws) (hn : ws.length = n) (hb : S.met ws = b) :
    Calls Try.prog 58 #[.pointer (some ⟨p, 12, none⟩), .slice A n c] w fun e w' => e = .returned (.bool b) ∧ Below w.heap.size w w' := by
  obtain ⟨pl, lk, fd, _, h1⟩ := svA_open h
  subst hb hn
  have hof := hok.of
  have hpl := hok.pl
  clear h hok
  by_cases c1 : S.st = 0
  · have hp : (rpc S == 6) = false := by
      have : rpc S ≠ 6 := by
        unfold rpc
        rw [if_pos c1]
        cases S.ph <;> simp
      simpa using this
    obtain ⟨at_, push, i, d, lks, x, ph, st, off⟩ := S
    dsimp only at h1 hof hpl c1
    subst c1
    cases off with
    | false =>
      have e : VM.met ⟨at_, push, i, d, lks, x, ph, 0, false⟩ ws = false := by simp [VM.met]
      rw [e]
      exact sv_met_off push at_ i d pl _ lk x fd 0 A _ c h1 hp
    | true =>
      by_cases c2 : at_ < (ws.length : Int)
      · have hph := hof rfl
        obtain ⟨a0, _⟩ := hpl rfl hph
        obtain ⟨a, rfl⟩ := Int.eq_ofNat_of_zero_le a0
        have ha : a < ws.length := by omega
        obtain ⟨ad, rfl, hc⟩ := hr.cellA ha
        have e : VM.met ⟨a, push, i, d, lks, x, ph, 0, true⟩ ws = (rdW ws a != x) := by simp [VM.met, ha]
        rw [e]
        exact sv_met_there push i d pl _ lk x fd 0 _ a _ c ad h1 hp hc ha
      · have e : VM.met ⟨at_, push, i, d, lks, x, ph, 0, true⟩ ws = false := by simp [VM.met, c2]
        rw [e]
        exact sv_met_far push at_ i d pl _ lk x fd 0 A _ c h1 hp (decide_eq_false c2)
  · have hp : rpc S = 6 := by simp [rpc, c1]
    rw [hp] at h1
    have e : S.met ws = (S.st == 1) := by simp [VM.met, c1]
    rw [e]
    exact sv_met_over S.push S.at_ S.i S.d pl lk S.w fd S.st S.off A _ c h1
end Go.Proofs.Ythnjeiandfdpgaa
