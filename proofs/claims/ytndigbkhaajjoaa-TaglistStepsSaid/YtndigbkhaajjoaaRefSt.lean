/-
  The document's memory as a thing in a state.
-/
import Derived.Test.YtndigbkhaajjoaaRefM
namespace Go.Proofs.Ytndigbkhaajjoaa
open Go.RowKit
set_option linter.unusedVariables false
set_option linter.unusedSimpArgs false

noncomputable def refA (q : Nat) (ws : List Int) (ns : List Note) : Asn := ⟨fun fp w => ∃ own : Nat → Nat, (∀ b, own b = 1 → fp b) ∧ IsRef own 1 w q ws ns, fun {fp fp' w w'} h k => by
  obtain ⟨own, h1, h2⟩ := h
  classical
  obtain ⟨A, c, nv, hP, hn, hb, hg⟩ := h2.body
  have lp := lt_of_heap hP
  refine ⟨fun b => if b < w.heap.size then own b else 0, fun b e => ?_, ⟨h2.len, h2.rng, by simp only [lp, if_true]; exact h2.mine, A, c, nv, (k q lp (h1 q h2.mine)).2.trans hP, own_of_block hn fun b e => (k b (hn.lt b e).2 (h1 b (hb b e).1)).2, fun b e => ⟨by have := (hn.lt b e).2; simp only [this, if_true]; exact (hb b e).1, (hb b e).2⟩, ?_⟩⟩
  · by_cases c : b < w.heap.size
    · simp only [c, if_true] at e
      exact (k b c (h1 b e)).1
    · simp only [c, if_false] at e; omega
  · rcases hg with e | ⟨g, cur, e1, e2, e3, e4, e5, e6⟩
    · exact .inl e
    · have lg := lt_of_heap e4
      exact .inr ⟨g, cur, e1, by simp only [lg, if_true]; exact e2, e3, (k g lg (h1 g e2)).2.trans e4, e5, e6⟩⟩
theorem St.ref {w0 w : World} {q : Nat} {ws : List Int} {ns : List Note} {l : List Asn} (h : St w0 (refA q ws ns :: l) w) : ∃ own : Nat → Nat, IsRef own 1 w q ws ns ∧ ∀ ws' ns' w', RefLeft own 1 w q ws' ns' w' → St w0 (refA q ws' ns' :: l) w' := by
  obtain ⟨fp, ⟨own, h1, h2⟩, hc⟩ := h.opens
  refine ⟨own, h2, fun ws' ns' w' hp => hc _ _ ?_⟩
  obtain ⟨o, hf, hm⟩ := hp
  exact ⟨fun b => o b = 1, ⟨o, fun _ e => e, hm⟩, fun b e hb => h1 b (by rw [← hf.ext b hb]; exact e), hf.str, fun b hb hn => hf.keep b hb fun e => hn (h1 b e)⟩
theorem St.rrng {w0 w : World} {q : Nat} {ws : List Int} {ns : List Note} {l : List Asn} (h : St w0 (refA q ws ns :: l) w) {i : Nat} (hi : i < ws.length) : 0 ≤ rdW ws i ∧ rdW ws i < 18446744073709551616 := by
  obtain ⟨own, h1, _⟩ := h.ref
  exact rdW_rng h1.rng hi
theorem rload_st {w0 w : World} {q : Nat} {ws : List Int} {ns : List Note} {l : List Asn} (h : St w0 (refA q ws ns :: l) w) (i : Nat) (x : Int) (hx : rdW ws i = x) (hi : i < ws.length) (hk : ns.length ≤ 1000000000000) :
    Calls Try.prog 63 #[.pointer (some ⟨q, 0, none⟩), .int .i64 i] w fun e w' => e = .returned (.tuple #[.int .u64 x, .int .i64 0]) ∧ St w0 (refA q ws (ns ++ [⟨108, i, x, x, true⟩]) :: l) w' := by
  obtain ⟨own, h1, h2⟩ := h.ref
  exact (rload_in own 1 q ws ns i x w h1 hx hi hk).mono fun e w' k => ⟨k.1, h2 _ _ _ k.2⟩
theorem rload_no {w0 w : World} {q : Nat} {ws : List Int} {ns : List Note} {l : List Asn} (h : St w0 (refA q ws ns :: l) w) (i : Int) (hi : i < 0 ∨ (ws.length : Int) ≤ i) :
    Calls Try.prog 63 #[.pointer (some ⟨q, 0, none⟩), .int .i64 i] w fun e w' => e = .returned (.tuple #[.int .u64 0, .int .i64 2]) ∧ St w0 (refA q ws ns :: l) w' := by
  obtain ⟨own, h1, h2⟩ := h.ref
  exact (rload_out own 1 q ws ns i w h1 hi).mono fun e w' k => ⟨k.1, h.below k.2⟩
theorem rstore_st {w0 w : World} {q : Nat} {ws : List Int} {ns : List Note} {l : List Asn} (h : St w0 (refA q ws ns :: l) w) (i : Nat) (x v : Int) (hx : rdW ws i = x) (hi : i < ws.length) (hk : ns.length ≤ 1000000000000) (v0 : 0 ≤ v) (v1 : v < 18446744073709551616) :
    Calls Try.prog 60 #[.pointer (some ⟨q, 0, none⟩), .int .i64 i, .int .u64 v] w fun e w' => e = .returned (.int .i64 0) ∧ St w0 (refA q (ws.set i v) (ns ++ [⟨115, i, x, v, true⟩]) :: l) w' := by
  obtain ⟨own, h1, h2⟩ := h.ref
  exact (rstore_in own 1 q ws ns i x v w h1 hx hi hk v0 v1).mono fun e w' k => ⟨k.1, h2 _ _ _ k.2⟩
theorem rstore_no {w0 w : World} {q : Nat} {ws : List Int} {ns : List Note} {l : List Asn} (h : St w0 (refA q ws ns :: l) w) (i v : Int) (hi : i < 0 ∨ (ws.length : Int) ≤ i) :
    Calls Try.prog 60 #[.pointer (some ⟨q, 0, none⟩), .int .i64 i, .int .u64 v] w fun e w' => e = .returned (.int .i64 2) ∧ St w0 (refA q ws ns :: l) w' := by
  obtain ⟨own, h1, h2⟩ := h.ref
  exact (rstore_out own 1 q ws ns i v w h1 hi).mono fun e w' k => ⟨k.1, h.below k.2⟩
theorem rswap_st {w0 w : World} {q : Nat} {ws : List Int} {ns : List Note} {l : List Asn} (h : St w0 (refA q ws ns :: l) w) (i : Nat) (x v : Int) (hx : rdW ws i = x) (hi : i < ws.length) (hk : ns.length ≤ 1000000000000) (v0 : 0 ≤ v) (v1 : v < 18446744073709551616) :
    Calls Try.prog 64 #[.pointer (some ⟨q, 0, none⟩), .int .i64 i, .int .u64 x, .int .u64 v] w fun e w' => e = .returned (.tuple #[.bool true, .int .i64 0]) ∧ St w0 (refA q (ws.set i v) (ns ++ [⟨99, i, x, v, true⟩]) :: l) w' := by
  obtain ⟨own, h1, h2⟩ := h.ref
  exact (rhit_in own 1 q ws ns i x v w h1 hx hi hk v0 v1).mono fun e w' k => ⟨k.1, h2 _ _ _ k.2⟩
theorem rswap_lost {w0 w : World} {q : Nat} {ws : List Int} {ns : List Note} {l : List Asn} (h : St w0 (refA q ws ns :: l) w) (i : Nat) (x old v : Int) (hx : rdW ws i = x) (hi : i < ws.length) (hk : ns.length ≤ 1000000000000) (hne : (x == old) = false) :
    Calls Try.prog 64 #[.pointer (some ⟨q, 0, none⟩), .int .i64 i, .int .u64 old, .int .u64 v] w fun e w' => e = .returned (.tuple #[.bool false, .int .i64 0]) ∧ St w0 (refA q ws (ns ++ [⟨99, i, x, x, false⟩]) :: l) w' := by
  obtain ⟨own, h1, h2⟩ := h.ref
  exact (rmiss_in own 1 q ws ns i x old v w h1 hx hi hk hne).mono fun e w' k => ⟨k.1, h2 _ _ _ k.2⟩
theorem rswap_no {w0 w : World} {q : Nat} {ws : List Int} {ns : List Note} {l : List Asn} (h : St w0 (refA q ws ns :: l) w) (i u v : Int) (hi : i < 0 ∨ (ws.length : Int) ≤ i) :
    Calls Try.prog 64 #[.pointer (some ⟨q, 0, none⟩), .int .i64 i, .int .u64 u, .int .u64 v] w fun e w' => e = .returned (.tuple #[.bool false, .int .i64 2]) ∧ St w0 (refA q ws ns :: l) w' := by
  obtain ⟨own, h1, h2⟩ := h.ref
  exact (rswap_out own 1 q ws ns i u v w h1 hi).mono fun e w' k => ⟨k.1, h.below k.2⟩
/-- What lies in the document's memory, as a walk asks for it. -/
theorem St.refCells {w0 w : World} {l : List Asn} (h : St w0 l w) (j : Nat) {q : Nat} {ws : List Int} {ns : List Note} (he : l[j]? = some (refA q ws ns)) :
    ∃ A c B d, w.cell? ⟨q, 0, none⟩ = some (.slice A ws.length c) ∧ w.cell? ⟨q, 1, none⟩ = some (.slice B ns.length d) ∧ RdU w A ws ∧ ws.length ≤ 1024 := by
  obtain ⟨_, F, _, hh⟩ := h
  obtain ⟨own, _, hr⟩ := hh j _ he
  obtain ⟨A, c, nv, hP, hn, hb, hg⟩ := hr.body
  obtain ⟨c0, c1, _, _⟩ := cells2 hP
  obtain ⟨B, d, e⟩ : ∃ B d, nv = .slice B ns.length d := by
    rcases hn.2 with ⟨e, e0⟩ | ⟨g, cap, cur, e, _⟩
    · exact ⟨none, 0, by rw [e, e0]⟩
    · exact ⟨_, _, e⟩
  refine ⟨A, c, B, d, c0, by rw [← e]; exact c1, ⟨fun e => ?_, fun h0 => ?_⟩, hr.len⟩
  · rcases hg with e1 | ⟨g, cur, e1, _⟩
    · rw [e1]; rfl
    · rw [e] at e1; cases e1
  · rcases hg with e1 | ⟨g, cur, rfl, e2, e3, e4, e5, e6⟩
    · rw [e1] at h0; cases h0
    · refine ⟨_, rfl, fun j u hu => ?_⟩
      rw [add_zero', cell_of e4]
      rw [← e5] at hu
      have hj : j < ws.length := by
        rcases Nat.lt_or_ge j ws.length with h1 | h1
        · exact h1
        · rw [List.getElem?_take, if_neg (by omega)] at hu; cases hu
      rw [List.getElem?_take, if_pos hj] at hu
      simpa using hu
/-- A document's memory that is made. -/
theorem rnew_st {w0 w : World} {l : List Asn} (h : St w0 l w) (A : Option Addr) (c N : Nat) (ws : List Int) (hr : RdU w A ws) (hl : N ≤ 1024) (hv : ∀ x ∈ ws, 0 ≤ x ∧ x < 18446744073709551616) (hN : ws.length = N) :
    Calls Try.prog 27 #[.slice A N c] w fun e w' => ∃ q, e = .returned (.tuple #[.pointer (some ⟨q, 0, none⟩), .int .i64 0]) ∧ St w0 (refA q ws [] :: l) w' := by
  subst hN
  have key : ∀ e w', RNewPost (fun _ => 0) 1 w ws e w' → ∃ q, e = .returned (.tuple #[.pointer (some ⟨q, 0, none⟩), .int .i64 0]) ∧ St w0 (refA q ws [] :: l) w' := by
    rintro e w' ⟨p, o, rfl, hp, hf, hm⟩
    have hb : Below w.heap.size w w' := ⟨hf.str.os, hf.str.tape, hf.str.output, hf.str.size, fun b hb => hf.keep b hb (fun h => h)⟩
    refine ⟨p, rfl, h.more hb ⟨o, fun b e => ?_, hm⟩⟩
    rcases Nat.lt_or_ge b w.heap.size with h1 | h1
    · have := hf.ext b h1; omega
    · exact h1
  cases ws with
  | nil => exact (rnew_zero (fun _ => 0) 1 A c w).mono key
  | cons x ws =>
    obtain ⟨ad, rfl, _⟩ := hr.at_ (by simp)
    exact (rnew_ok (fun _ => 0) 1 ad c (x :: ws) w hr hl (by simp) hv).mono key
end Go.Proofs.Ytndigbkhaajjoaa
