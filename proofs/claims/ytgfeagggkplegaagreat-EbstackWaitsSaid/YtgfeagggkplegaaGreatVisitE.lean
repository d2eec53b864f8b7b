/-
  A visit that is made; whether it met another one.
-/
import Derived.Test.YtgfeagggkplegaaGreatVisitD
namespace Go.Proofs.YtgfeagggkplegaaGreat
open Go.RowKit
set_option linter.unusedVariables false
set_option linter.unusedSimpArgs false

/-- A visit that is made. -/
def newVM (a : Int) (push : Bool) (i d k : Int) : VM := ⟨a, push, i, d, max k 1, 0, .first, 0, false⟩
theorem newVM_ok {a : Int} {push : Bool} {i d k : Int} (N n : Nat) (i0 : 0 ≤ i) (i1 : i < 4294967296) (d0 : 0 ≤ d) (d1 : d < 18446744073709551616) (k1 : k ≤ 9223372036854775807) : (newVM a push i d k).ok N n :=
  ⟨i0, i1, d0, d1, by show (0 : Int) ≤ 0; decide, by show (0 : Int) < _; decide, by show 0 ≤ max k 1 + (n : Int); omega, by show max k 1 ≤ _; omega, fun _ h => (h rfl).elim, fun h => (by cases h), trivial⟩
def VisNew (w0 : World) (m : Asn) (S : VM) (l : List Asn) (e : Ending) (w' : World) : Prop := ∃ p, e = .returned (.pointer (some ⟨p, 0, none⟩)) ∧ St w0 (m :: visA p S :: l) w'
set_option maxHeartbeats 2000000 in
theorem visit_new {w0 w : World} {m : Asn} {l : List Asn} (a : Int) (push : Bool) (i d k : Int) (h : St w0 (m :: l) w) :
    Calls Tryz.prog 163 #[.int .i64 a, .bool push, .int .u32 i, .int .u64 d, .int .i64 k] w (VisNew w0 m (newVM a push i d k) l) := by
  have hmf : ∀ (fn : Fn) (first cap : Array Value) (w : World), (Instr.makeFunc fn first cap).run Tryz.prog w = .ok (.func fn first cap) w := fun _ _ _ _ => rfl
  have H := Lib.hid h
  clear h
  go_enter Tryz.func163, Tryz.ntmps163
  go_wp2
  · go_ret
    refine ⟨_, rfl, ?_⟩
    show St w0 (m :: vB w.heap.size a push i d (max k 1) 0 _ 0 false :: l) _
    rw [show max k 1 = 1 by omega]
    exact (H.out.alloc _ _).swap
  · go_ret
    refine ⟨_, rfl, ?_⟩
    show St w0 (m :: vB w.heap.size a push i d (max k 1) 0 _ 0 false :: l) _
    rw [show max k 1 = k by omega]
    exact (H.out.alloc _ _).swap
/-- Whether it met another one, if these are the words. -/
def VM.met (S : VM) (ws : List Int) : Bool := if S.st ≠ 0 ∨ S.off = false then S.st == 1 else decide (S.at_ < ws.length) && (rdW ws S.at_.toNat != S.w)
set_option maxHeartbeats 4000000 in
theorem v_met_over {w0 w : World} {m : Asn} {l : List Asn} {p : Nat} (push : Bool) (a i d lk x st : Int) (nx : Value) (off : Bool) (A : Option Addr) (n c : Nat) (h : St w0 (m :: vB p a push i d lk x nx st off :: l) w) (hs : (st != 0) = true) :
    Calls Tryz.prog 93 #[.pointer (some ⟨p, 0, none⟩), .slice A n c] w fun e w' => e = .returned (.bool (st == 1)) ∧ Below w.heap.size w w' := by
  obtain ⟨⟨c0, c1, c2, c3, c4, c5, c6, c7, c8⟩, _, lt0⟩ := cellsV (h.cells 1 rfl)
  clear h
  go_enter Tryz.func93, Tryz.ntmps93
  go_wp2
  go_ret
  exact ⟨rfl, bl_refl _⟩
set_option maxHeartbeats 4000000 in
theorem v_met_off {w0 w : World} {m : Asn} {l : List Asn} {p : Nat} (push : Bool) (a i d lk x : Int) (nx : Value) (A : Option Addr) (n c : Nat) (h : St w0 (m :: vB p a push i d lk x nx 0 false :: l) w) :
    Calls Tryz.prog 93 #[.pointer (some ⟨p, 0, none⟩), .slice A n c] w fun e w' => e = .returned (.bool false) ∧ Below w.heap.size w w' := by
  obtain ⟨⟨c0, c1, c2, c3, c4, c5, c6, c7, c8⟩, _, lt0⟩ := cellsV (h.cells 1 rfl)
  clear h
  go_enter Tryz.func93, Tryz.ntmps93
  go_wp2
  go_ret
  exact ⟨rfl, bl_refl _⟩
set_option maxHeartbeats 4000000 in
theorem v_met_far {w0 w : World} {m : Asn} {l : List Asn} {p : Nat} (push : Bool) (a i d lk x : Int) (nx : Value) (A : Option Addr) (n c : Nat) (h : St w0 (m :: vB p a push i d lk x nx 0 true :: l) w) (ha : decide (a < n) = false) :
    Calls Tryz.prog 93 #[.pointer (some ⟨p, 0, none⟩), .slice A n c] w fun e w' => e = .returned (.bool false) ∧ Below w.heap.size w w' := by
  obtain ⟨⟨c0, c1, c2, c3, c4, c5, c6, c7, c8⟩, _, lt0⟩ := cellsV (h.cells 1 rfl)
  clear h
  go_enter Tryz.func93, Tryz.ntmps93
  go_wp2
  go_quiet (fail)
  go_wp2
  go_ret
  exact ⟨rfl, bl_drewN (bl_refl _) _⟩
set_option maxHeartbeats 4000000 in
theorem v_met_there {w0 w : World} {m : Asn} {l : List Asn} {p : Nat} (push : Bool) (i d lk x y : Int) (nx : Value) (a n c : Nat) (ad : Addr) (h : St w0 (m :: vB p a push i d lk x nx 0 true :: l) w) (hy : w.cell? (ad.add a) = some (.int .u64 y)) (ha : a < n) :
    Calls Tryz.prog 93 #[.pointer (some ⟨p, 0, none⟩), .slice (some ad) n c] w fun e w' => e = .returned (.bool (y != x)) ∧ Below w.heap.size w w' := by
  obtain ⟨⟨c0, c1, c2, c3, c4, c5, c6, c7, c8⟩, _, lt0⟩ := cellsV (h.cells 1 rfl)
  have ha0 : decide ((a : Int) < n) = true := decide_eq_true (by omega)
  have ha1 : (0 : Int) ≤ (a : Int) := by omega
  have ha2 : (a : Int) < (n : Int) := by omega
  clear h
  go_enter Tryz.func93, Tryz.ntmps93
  go_wp2
  go_quiet (fail)
  go_wp2
  go_ret
  exact ⟨rfl, bl_drewN (bl_refl _) _⟩
theorem visit_met {w0 w : World} {m : Asn} {l : List Asn} {p : Nat} {S : VM} (A : Option Addr) (n c N k : Nat) (ws : List Int) (b : Bool) (h : St w0 (m :: visA p S :: l) w) (hok : S.ok N k) (hr : RdU w A ws) (hn : ws.length = n) (hb : S.met ws = b) :
    Calls Tryz.prog 93 #[.pointer (some ⟨p, 0, none⟩), .slice A n c] w fun e w' => e = .returned (.bool b) ∧ Below w.heap.size w w' := by
  obtain ⟨nx, X, h1, _⟩ := visA_open h
  subst hb hn
  have hof := hok.of
  have hpl := hok.pl
  clear h hok
  obtain ⟨at_, push, i, d, lk, x, ph, st, off⟩ := S
  dsimp only at h1 hof hpl
  by_cases c1 : st = 0
  · subst c1
    cases off with
    | false =>
      have e : VM.met ⟨at_, push, i, d, lk, x, ph, 0, false⟩ ws = false := by simp [VM.met]
      rw [e]
      exact v_met_off push at_ i d lk x nx A _ c h1
    | true =>
      by_cases c2 : at_ < (ws.length : Int)
      · have hph := hof rfl
        obtain ⟨a0, _⟩ := hpl rfl hph
        obtain ⟨a, rfl⟩ := Int.eq_ofNat_of_zero_le a0
        have ha : a < ws.length := by omega
        obtain ⟨ad, rfl, hc⟩ := hr.cellA ha
        have e : VM.met ⟨a, push, i, d, lk, x, ph, 0, true⟩ ws = (rdW ws a != x) := by simp [VM.met, ha]
        rw [e]
        exact v_met_there push i d lk x _ nx a _ c ad h1 hc ha
      · have e : VM.met ⟨at_, push, i, d, lk, x, ph, 0, true⟩ ws = false := by simp [VM.met, c2]
        rw [e]
        exact v_met_far push at_ i d lk x nx A _ c h1 (decide_eq_false c2)
  · have e : VM.met ⟨at_, push, i, d, lk, x, ph, st, off⟩ ws = (st == 1) := by simp [VM.met, c1]
    rw [e]
    exact v_met_over push at_ i d lk x st nx off A _ c h1 (by simpa using c1)
end Go.Proofs.YtgfeagggkplegaaGreat
