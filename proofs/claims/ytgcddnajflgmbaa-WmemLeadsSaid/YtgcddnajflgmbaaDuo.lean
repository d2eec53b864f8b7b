/-
  Both memories, side by side, from where a law began; the acts that came in.
-/
import Derived.Test.YtgcddnajflgmbaaActs
import Derived.Deep.Slices
namespace Go.Proofs.Ytgcddnajflgmbaa
open Go.ChangeShapes Go.WideShapes Go.ChangeAt Go.RowKit Go.Joins Go.Proofs.YtgcddnajflgmbaaW.PrintWords
set_option linter.unusedVariables false
set_option linter.unusedSimpArgs false

theorem rnew_any (own : Nat → Nat) (t : Nat) (A : Option Addr) (c : Nat) (ws : List Int) (w : World) (hr : RdU w A ws) (hl : ws.length ≤ 1024) (hv : ∀ x ∈ ws, 0 ≤ x ∧ x < 18446744073709551616) :
    Calls Try.prog 18 #[.slice A ws.length c] w (RNewPost own t w ws) := by
  rcases Nat.eq_zero_or_pos ws.length with h0 | h0
  · obtain rfl := List.eq_nil_of_length_eq_zero h0
    exact rnew_zero own t A c w
  · obtain ⟨ad, rfl, _⟩ := hr.at_ h0
    exact rnew_ok own t ad c ws w hr hl h0 hv
/-- One memory that is new since a law began. -/
structure Solo (w : World) (o : Nat → Nat) (w' : World) (p : Nat) (ws : List Int) (ns : List Note) : Prop where
  bel : Below w.heap.size w w'
  tag : ∀ b, b < w.heap.size → o b = 0
  mem : IsMem o 1 w' p ws ns
/-- Both memories, with the same words and the same notes. -/
structure Duo (w : World) (o : Nat → Nat) (w' : World) (p q : Nat) (ws : List Int) (ns : List Note) : Prop where
  bel : Below w.heap.size w w'
  tag : ∀ b, b < w.heap.size → o b = 0
  mem : IsMem o 1 w' p ws ns
  ref : IsRef o 2 w' q ws ns
theorem solo_of {w w1 w2 : World} {ws : List Int} {e : Ending} (hb : Below w.heap.size w w1) (h : NewPost (fun _ => 0) 1 w1 ws e w2) : ∃ p o, e = .returned (.tuple #[.pointer (some ⟨p, 0, none⟩), .int .i64 0]) ∧ Solo w o w2 p ws [] := by
  obtain ⟨p, o, rfl, hp, hf, hm⟩ := h.elim
  refine ⟨p, o, rfl, hb.trans ⟨hf.str.os, hf.str.tape, hf.str.output, hf.str.size, fun b hb' => hf.keep b (by have := hb.size; omega) (fun h => h)⟩, fun b hb' => ?_, hm⟩
  have := hb.size
  exact hf.ext b (by omega)
theorem Solo.duo {w w1 w2 : World} {o : Nat → Nat} {p : Nat} {ws vs : List Int} {ns : List Note} {e : Ending} (h : Solo w o w1 p ws ns) (hr : RNewPost o 2 w1 vs e w2) : ∃ q o2, e = .returned (.tuple #[.pointer (some ⟨q, 0, none⟩), .int .i64 0]) ∧ Below w.heap.size w w2 ∧ (∀ b, b < w.heap.size → o2 b = 0) ∧ IsMem o2 1 w2 p ws ns ∧ IsRef o2 2 w2 q vs [] := by
  obtain ⟨q, o2, rfl, hq, hf, hm⟩ := hr
  have hs := h.bel.size
  refine ⟨q, o2, rfl, h.bel.trans ⟨hf.str.os, hf.str.tape, hf.str.output, hf.str.size, fun b hb' => hf.keep b (by omega) (fun h => h)⟩, fun b hb' => ?_, h.mem.kept hf (fun h => h), hm⟩
  exact (hf.ext b (by omega)).trans (h.tag b hb')
theorem Duo.below {w w1 w2 : World} {o : Nat → Nat} {p q : Nat} {ws : List Int} {ns : List Note} (h : Duo w o w1 p q ws ns) (hb : Below w1.heap.size w1 w2) : Duo w o w2 p q ws ns :=
  ⟨h.bel.trans (hb.mono h.bel.size), h.tag, h.mem.below hb, h.ref.below hb⟩
theorem Duo.does {w w1 w2 : World} {o : Nat → Nat} {p q : Nat} {ws : List Int} {ns : List Note} (h : Duo w o w1 p q ws ns) (hp : DoesPost o p q ws ns w1 w2) : ∃ o2 ws2 ns2, Duo w o2 w2 p q ws2 ns2 ∧ Step ws ns ws2 ns2 := by
  obtain ⟨o2, ws2, ns2, hf, hm, hr, hs⟩ := hp
  have hsz := h.bel.size
  refine ⟨o2, ws2, ns2, ⟨h.bel.trans ⟨hf.str.os, hf.str.tape, hf.str.output, hf.str.size, fun b hb => hf.keep b (by omega) ?_⟩, fun b hb => (hf.ext b (by omega)).trans (h.tag b hb), hm, hr⟩, hs⟩
  rw [h.tag b hb]
  exact fun c => by rcases c with c | c <;> cases c
/-- An act that came in. -/
structure PAct where
  op : Int
  at_ : Int
  kd : Int
  old : Int
  new : Int
def PAct.ok (a : PAct) : Prop := (Lit.int .i64 a.op).wf = true ∧ (0 ≤ a.new ∧ a.new < 18446744073709551616)
/-- The acts that came in: m of them. -/
def RdActs (w : World) (A : Option Addr) (m : Nat) (F : Nat → PAct) : Prop :=
  ∀ i, i < m → ∃ ad, A = some ad ∧ ad.block < w.heap.size ∧ w.cell? (ad.add (i * 5)) = some (.int .i64 (F i).op) ∧ w.cell? (ad.add (i * 5 + 1)) = some (.int .i64 (F i).at_) ∧ w.cell? (ad.add (i * 5 + 2)) = some (.int .i64 (F i).kd) ∧ w.cell? (ad.add (i * 5 + 3)) = some (.int .u64 (F i).old) ∧ w.cell? (ad.add (i * 5 + 4)) = some (.int .u64 (F i).new) ∧ (F i).ok
instance : Inhabited PAct := ⟨⟨0, 0, 0, 0, 0⟩⟩
section
variable {H : Type} {enc : TypeId × Value → H} {w : World} {base : Nat} {spare : Nat → Bool} {held : Bool}
theorem open_act {fuel : Nat} {cs : List Value} {x : DataW H × List MemPlace} (h : DataW.trod enc Try.prog w base spare held fuel 48 cs = some x) :
    ∃ a : PAct, cs = [.int .i64 a.op, .int .i64 a.at_, .int .i64 a.kd, .int .u64 a.old, .int .u64 a.new] ∧ a.ok := by
  have z5 : Try.prog.cellsOf 48 = 5 := by kernel_rfl
  have z1 : Try.prog.cellsOf 3 = 1 := by kernel_rfl
  have z2 : Try.prog.cellsOf 23 = 1 := by kernel_rfl
  obtain ⟨xs, n, _, _, hcl, hl, hall⟩ := DataW.trod_struct Try.underlying48 h
  obtain ⟨x0, x1, x2, x3, x4, rfl⟩ : ∃ x0 x1 x2 x3 x4, xs = [x0, x1, x2, x3, x4] := by
    match xs, hl with
    | [x0, x1, x2, x3, x4], _ => exact ⟨x0, x1, x2, x3, x4, rfl⟩
  rw [z5] at hcl
  obtain ⟨c0, c1, c2, c3, c4, rfl⟩ : ∃ c0 c1 c2 c3 c4, cs = [c0, c1, c2, c3, c4] := by
    match cs, hcl with
    | [c0, c1, c2, c3, c4], _ => exact ⟨c0, c1, c2, c3, c4, rfl⟩
  obtain ⟨a, e0, _, wa⟩ := DataW.trod_int Try.underlying3 (hall 0 _ rfl)
  obtain ⟨b, e1, _, _⟩ := DataW.trod_int Try.underlying3 (hall 1 _ rfl)
  obtain ⟨c, e2, _, _⟩ := DataW.trod_int Try.underlying3 (hall 2 _ rfl)
  obtain ⟨d, e3, _, _⟩ := DataW.trod_int Try.underlying23 (hall 3 _ rfl)
  obtain ⟨e, e4, _, we⟩ := DataW.trod_int Try.underlying23 (hall 4 _ rfl)
  simp [z1, z2] at e0 e1 e2 e3 e4
  subst e0 e1 e2 e3 e4
  exact ⟨⟨a, b, c, d, e⟩, rfl, wa, u64_wf we⟩
theorem open_acts {fuel len cap : Nat} {A : Option Addr} {x : DataW H × List MemPlace} (h : DataW.trod enc Try.prog w base spare held fuel 42 [.slice A len cap] = some x) :
    ∃ F, RdActs w A len F := by
  rcases Deep.open_slice Try.underlying42 h with ⟨hcs, _⟩ | ⟨ad, len', cap', m, n, D, Pl, hcs, _, hl, hm, hmm, _, hx⟩
  · simp at hcs
    obtain ⟨rfl, rfl, rfl⟩ := hcs
    exact ⟨fun _ => default, fun i hi => by omega⟩
  · simp at hcs
    obtain ⟨rfl, rfl, rfl⟩ := hcs
    have z5 : Try.prog.cellsOf 48 = 5 := by kernel_rfl
    have hlm : len ≤ m := by rw [hmm]; split <;> omega
    obtain ⟨F, hF⟩ := Deep.choose_lt (α := PAct) (n := len) (p := fun i a => (∀ j v, [Value.int .i64 a.op, .int .i64 a.at_, .int .i64 a.kd, .int .u64 a.old, .int .u64 a.new][j]? = some v → w.cell? (ad.add (i * 5 + j)) = some v) ∧ a.ok) (fun i hi => by
      obtain ⟨cs', h1, h2⟩ := hx i (by omega)
      obtain ⟨a, rfl, ha⟩ := open_act h2
      refine ⟨a, fun j v hv => ?_, ha⟩
      rw [z5] at h1
      obtain ⟨_, hlen, hc⟩ := World.cells?_some h1
      have hj : j < 5 := (List.getElem?_eq_some_iff.1 hv).1
      have := hc j hj
      rw [Deep.add_add] at this
      rw [this]
      exact hv)
    refine ⟨F, fun i hi => ?_⟩
    obtain ⟨h1, h2⟩ := hF i hi
    exact ⟨ad, rfl, (by have := World.block_lt_of_cell? w _ (h1 0 _ rfl); unfold Addr.add at this; split at this <;> exact this), h1 0 _ rfl, h1 1 _ rfl, h1 2 _ rfl, h1 3 _ rfl, h1 4 _ rfl, h2⟩
end
theorem RdActs.kept {w w' : World} {A : Option Addr} {m : Nat} {F : Nat → PAct} (h : RdActs w A m F) (hb : Below w.heap.size w w') : RdActs w' A m F := by
  intro i hi
  obtain ⟨ad, rfl, hlt, h0, h1, h2, h3, h4, h5⟩ := h i hi
  have hs := hb.size
  have hc : ∀ j, w'.cell? (ad.add j) = w.cell? (ad.add j) := fun j => hb.cell (by unfold Addr.add; split <;> exact hlt)
  exact ⟨ad, rfl, by omega, (hc _).trans h0, (hc _).trans h1, (hc _).trans h2, (hc _).trans h3, (hc _).trans h4, h5⟩
theorem add_at (ad : Addr) (i j : Nat) (hj : j ≠ 0) : (⟨(ad.add i).block, (ad.add i).off + j, none⟩ : Addr) = ad.add (i + j) := by
  rw [← Deep.add_add]
  show _ = Addr.add _ _
  rw [show ∀ a : Addr, a.add j = ⟨a.block, a.off + j, none⟩ from fun a => by simp [Addr.add, hj]]
/-- An act's cells, as a walk asks for them. -/
theorem RdActs.at_ {w : World} {A : Option Addr} {m : Nat} {F : Nat → PAct} (h : RdActs w A m F) {i : Nat} (hi : i < m) : ∃ ad, A = some ad ∧ w.cell? (ad.add (i * 5)) = some (.int .i64 (F i).op) ∧ w.cell? ⟨(ad.add (i * 5)).block, (ad.add (i * 5)).off + 1, none⟩ = some (.int .i64 (F i).at_) ∧
    w.cell? ⟨(ad.add (i * 5)).block, (ad.add (i * 5)).off + 2, none⟩ = some (.int .i64 (F i).kd) ∧ w.cell? ⟨(ad.add (i * 5)).block, (ad.add (i * 5)).off + 3, none⟩ = some (.int .u64 (F i).old) ∧ w.cell? ⟨(ad.add (i * 5)).block, (ad.add (i * 5)).off + 4, none⟩ = some (.int .u64 (F i).new) ∧ (F i).ok := by
  obtain ⟨ad, rfl, hlt, h0, h1, h2, h3, h4, h5⟩ := h i hi
  refine ⟨ad, rfl, h0, ?_, ?_, ?_, ?_, h5⟩ <;> rw [add_at _ _ _ (by decide)] <;> assumption
end Go.Proofs.Ytgcddnajflgmbaa
