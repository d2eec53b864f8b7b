/-
  hatstandref12.Visit: its Place, and whether it met another one.
-/
import Derived.Test.YthnjeiandfdpgaaRElM
import Derived.Test.YthnjeiandfdpgaaLaw12
namespace Go.Proofs.Ythnjeiandfdpgaa
open Go.RowKit
set_option linter.unusedVariables false
set_option linter.unusedSimpArgs false

theorem rfA_box {w0 w : World} {l : List Asn} (h : St w0 l w) (j : Nat) {p k : Nat} {S : EM} (he : l[j]? = some (rfA p k S)) :
    w.cell? ⟨p, 4, none⟩ = some (.int .i64 S.rg) ∧ w.cell? ⟨p, 5, none⟩ = some (.int .i64 S.ex) ∧ w.cell? ⟨p, 10, none⟩ = some (.bool S.V.isSome) ∧ (∀ V, S.V = some V → w.cell? ⟨p, 12, none⟩ = some (.int .i64 V.at_)) := by
  obtain ⟨n, s, hh, t, rg, ex, push, i, base, wait, pl, en, V⟩ := S
  cases V with
  | none =>
    obtain ⟨⟨c0, c1, c2, c3, c4, c5, c6, c7, c8, c9, c10, _⟩, _⟩ := cellsF (h.cells j he)
    exact ⟨c4, c5, c10, fun V e => by cases e⟩
  | some V =>
    obtain ⟨⟨c0, c1, c2, c3, c4, c5, c6, c7, c8, c9, c10, c11, c23⟩, _, c12, _⟩ := sv_cellsY n s hh t rg ex push i base wait true false (en != 0) h j he
    exact ⟨c4, c5, c10, fun V e => by cases e; exact c12⟩
set_option maxHeartbeats 2000000 in
theorem rf_place {w0 w : World} {l : List Asn} {p k N m : Nat} {S : EM} (h : St w0 l w) (j : Nat) (he : l[j]? = some (rfA p k S)) (hok : S.ok N m) :
    Calls Try.prog 33 #[.pointer (some ⟨p, 0, none⟩)] w fun e w' => e = .returned (.int .i64 S.pl) ∧ w = w' := by
  obtain ⟨_, _, c10, c12⟩ := rfA_box h j he
  cases hV : S.V with
  | none =>
    rw [hV] at c10
    have e1 := (hok.non hV).2
    rw [e1]
    clear h he hok c12
    simp only [Option.isSome_none] at c10
    go_enter Try.func33, Try.ntmps33
    go_wp2
    go_ret
    exact ⟨rfl, rfl⟩
  | some V =>
    rw [hV] at c10
    have e1 := (hok.vok V hV).2.1
    have c12' := c12 V hV
    rw [e1] at c12'
    clear h he hok c12
    simp only [Option.isSome_some] at c10
    go_enter Try.func33, Try.ntmps33
    go_wp2
    go_ret
    exact ⟨rfl, rfl⟩
set_option maxHeartbeats 2000000 in
theorem rf_met {w0 w : World} {m a : Asn} {L : List Asn} {p kk : Nat} {S : EM} (A : Option Addr) (n c N k : Nat) (ws : List Int) (b : Bool) (h : St w0 (m :: a :: rfA p kk S :: L) w) (hok : S.ok N k) (hr : RdU w A ws) (hn : ws.length = n) (hb : S.met ws = b) :
    Calls Try.prog 34 #[.pointer (some ⟨p, 0, none⟩), .slice A n c] w fun e w' => e = .returned (.bool b) ∧ Below w.heap.size w w' := by
  obtain ⟨_, _, c10, _⟩ := rfA_box h 2 rfl
  cases hV : S.V with
  | none =>
    rw [hV] at c10
    have e : S.met ws = false := by unfold EM.met; rw [hV]
    rw [← hb, e]
    clear h hok hr hn hb e
    simp only [Option.isSome_none] at c10
    go_enter Try.func34, Try.ntmps34
    go_wp2
    go_ret
    exact ⟨rfl, bl_refl _⟩
  | some V =>
    rw [hV] at c10
    have e : S.met ws = V.met ws := by unfold EM.met; rw [hV]
    have hv := (hok.vok V hV).1
    obtain ⟨n2, s, hh, t, rg, ex, push, i, base, wait, pl, en, V'⟩ := S
    dsimp only at hV
    subst hV
    have H := Lib.hid (show St w0 (m :: a :: svA (yv n2 s hh t rg ex push i base wait true false (en != 0)) p kk V :: L) w from h)
    have HR := Lib.hid hr
    have HB := Lib.hid (e ▸ hb)
    have HO := Lib.hid hv
    have HN := Lib.hid hn
    simp only [Option.isSome_some] at c10
    clear h hok hr hn hb e hv
    go_enter Try.func34, Try.ntmps34
    go_wp2_with (go_at_call 58; refine (svisit_met A n c N k ws b H.out.tail HO.out HR.out HN.out HB.out).mono ?_; rintro e w2 ⟨rfl, hb⟩; (have H2 := Lib.hid hb); clear hb)
    go_ret
    exact ⟨rfl, H2.out⟩
end Go.Proofs.Ythnjeiandfdpgaa
