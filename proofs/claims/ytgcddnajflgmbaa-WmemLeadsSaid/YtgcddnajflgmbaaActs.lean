/-
  An act on both memories: what an act may leave, and what holds on the way.
  An act that loads.
  An act that loads, or stores.
  An act that swaps.
  Any act, on both memories: it tells true, and both are as they were, or have one note more.
-/
import Derived.Test.YtgcddnajflgmbaaSince
import Derived.Test.YtgcddnajflgmbaaRef
import Derived.Test.YtgcddnajflgmbaaSwaps
namespace Go.Proofs.Ytgcddnajflgmbaa
open Go.RowKit Go.Proofs.YtgcddnajflgmbaaW.PrintWords
set_option linter.unusedVariables false
set_option linter.unusedSimpArgs false

/-- What an act may do to the words and the notes: nothing, or one note, of what was there, and what is. -/
def Step (ws : List Int) (ns : List Note) (ws' : List Int) (ns' : List Note) : Prop :=
  (ws' = ws ∧ ns' = ns) ∨ ∃ (i : Nat) (a : Note), i < ws.length ∧ a.at_ = i ∧ a.old = rdW ws i ∧ ns' = ns ++ [a] ∧ ws' = ws.set i a.new ∧
    (a.kind = 108 ∧ a.new = a.old ∧ a.ok = true ∨ a.kind = 115 ∧ a.ok = true ∨ a.kind = 99 ∧ (a.ok = true ∨ a.new = a.old ∧ a.ok = false))
theorem Step.len {ws ws' : List Int} {ns ns' : List Note} (h : Step ws ns ws' ns') : ws'.length = ws.length := by
  rcases h with ⟨rfl, _⟩ | ⟨i, a, _, _, _, _, rfl, _⟩
  · rfl
  · simp
theorem Step.notes {ws ws' : List Int} {ns ns' : List Note} (h : Step ws ns ws' ns') : ns'.length ≤ ns.length + 1 := by
  rcases h with ⟨_, rfl⟩ | ⟨i, a, _, _, _, rfl, _, _⟩
  · omega
  · simp
theorem Step.more {ws ws' : List Int} {ns ns' : List Note} (h : Step ws ns ws' ns') : ns.length ≤ ns'.length := by
  rcases h with ⟨_, rfl⟩ | ⟨i, a, _, _, _, rfl, _, _⟩
  · exact Nat.le_refl _
  · simp
def Both (n : Nat) : Prop := n = 1 ∨ n = 2
/-- What holds behind an act. -/
def DoesPost (own : Nat → Nat) (p q : Nat) (ws : List Int) (ns : List Note) (w w' : World) : Prop :=
  ∃ o ws' ns', Fr own o Both w w' ∧ IsMem o 1 w' p ws' ns' ∧ IsRef o 2 w' q ws' ns' ∧ Step ws ns ws' ns'
/-- What holds on the way through an act: its box is as it was. -/
structure DoSt (b : Nat) (box : Array Value) (own o : Nat → Nat) (w w' : World) (p q : Nat) (ws : List Int) (ns : List Note) (vs : List Int) (ms : List Note) : Prop where
  lt : b < w'.heap.size
  fr : Fr own o Both w w'
  mem : IsMem o 1 w' p ws ns
  ref : IsRef o 2 w' q vs ms
  box : w'.heap[b]? = some (.cells box 48 (0, 0))
  tag : o b = 0
theorem DoSt.start {box : Array Value} {own : Nat → Nat} {w w' : World} {p q : Nat} {ws : List Int} {ns : List Note} (hm : IsMem own 1 w p ws ns) (hr : IsRef own 2 w q ws ns) (hb : Below (w.heap.size + 1) (w.alloc (.cells box 48)) w') :
    ∃ o, DoSt w.heap.size box own o w w' p q ws ns ws ns := by
  have hb1 : Below w.heap.size w w' := (bl_alloc (bl_refl w) (.cells box 48)).trans (hb.mono (by omega))
  have hf := Below.fr_new (own := own) (t := 0) hb1
  have hs : w.heap.size < w'.heap.size := by have := hb.size; simp at this; omega
  exact ⟨_, hs, hf.more (fun _ h => h.elim), hm.kept hf (fun h => h), hr.kept hf (fun h => h), (hb.block _ (by omega)).trans (heap_new rfl), by simp⟩
theorem DoSt.below {b : Nat} {box : Array Value} {own o : Nat → Nat} {w w1 w2 : World} {p q : Nat} {ws vs : List Int} {ns ms : List Note} (h : DoSt b box own o w w1 p q ws ns vs ms) (hb : Below w1.heap.size w1 w2) : DoSt b box own o w w2 p q ws ns vs ms :=
  ⟨Nat.lt_of_lt_of_le h.lt hb.size, h.fr.trans (Fr.below hb), h.mem.below hb, h.ref.below hb, (hb.block _ h.lt).trans h.box, h.tag⟩
theorem DoSt.drew {b : Nat} {box : Array Value} {own o : Nat → Nat} {w w1 : World} {p q : Nat} {ws vs : List Int} {ns ms : List Note} (h : DoSt b box own o w w1 p q ws ns vs ms) : DoSt b box own o w w1.drew p q ws ns vs ms := h.below (Below.refl _ _).drew
theorem DoSt.drewN {b : Nat} {box : Array Value} {own o : Nat → Nat} {w w1 : World} {p q : Nat} {ws vs : List Int} {ns ms : List Note} (h : DoSt b box own o w w1 p q ws ns vs ms) (n : Nat) : DoSt b box own o w (w1.drewN n) p q ws ns vs ms := h.below ⟨rfl, rfl, rfl, Nat.le_refl _, fun _ _ => rfl⟩
theorem DoSt.mstep {b : Nat} {box : Array Value} {own o : Nat → Nat} {w w1 w2 : World} {p q : Nat} {ws vs ws' : List Int} {ns ms ns' : List Note} (h : DoSt b box own o w w1 p q ws ns vs ms) (hp : MemPost o 1 w1 p ws' ns' w2) : ∃ o2, DoSt b box own o2 w w2 p q ws' ns' vs ms := by
  obtain ⟨o2, hf, hm⟩ := hp
  refine ⟨o2, Nat.lt_of_lt_of_le h.lt hf.str.size, h.fr.trans (hf.more fun _ e => Or.inl e), hm, h.ref.kept hf (by decide), (hf.keep _ h.lt (by rw [h.tag]; decide)).trans h.box, (hf.ext _ h.lt).trans h.tag⟩
theorem DoSt.rstep {b : Nat} {box : Array Value} {own o : Nat → Nat} {w w1 w2 : World} {p q : Nat} {ws vs vs' : List Int} {ns ms ms' : List Note} (h : DoSt b box own o w w1 p q ws ns vs ms) (hp : RefLeft o 2 w1 q vs' ms' w2) : ∃ o2, DoSt b box own o2 w w2 p q ws ns vs' ms' := by
  obtain ⟨o2, hf, hm⟩ := hp
  refine ⟨o2, Nat.lt_of_lt_of_le h.lt hf.str.size, h.fr.trans (hf.more fun _ e => Or.inr e), h.mem.kept hf (by decide), hm, (hf.keep _ h.lt (by rw [h.tag]; decide)).trans h.box, (hf.ext _ h.lt).trans h.tag⟩
theorem DoSt.cells {b : Nat} {v0 v1 v2 v3 v4 : Value} {own o : Nat → Nat} {w w1 : World} {p q : Nat} {ws vs : List Int} {ns ms : List Note} (h : DoSt b #[v0, v1, v2, v3, v4] own o w w1 p q ws ns vs ms) :
    w1.cell? ⟨b, 0, none⟩ = some v0 ∧ w1.cell? ⟨b, 1, none⟩ = some v1 ∧ w1.cell? ⟨b, 2, none⟩ = some v2 ∧ w1.cell? ⟨b, 3, none⟩ = some v3 ∧ w1.cell? ⟨b, 4, none⟩ = some v4 :=
  ⟨cell_of h.box 0, cell_of h.box 1, cell_of h.box 2, cell_of h.box 3, cell_of h.box 4⟩
theorem DoSt.done {b : Nat} {box : Array Value} {own o : Nat → Nat} {w w1 : World} {p q : Nat} {ws vs : List Int} {ns ms : List Note} (h : DoSt b box own o w w1 p q vs ms vs ms) (hs : Step ws ns vs ms) : DoesPost own p q ws ns w w1 := ⟨o, vs, ms, h.fr, h.mem, h.ref, hs⟩
end Go.Proofs.Ytgcddnajflgmbaa
namespace Go.Proofs.Ytgcddnajflgmbaa
open Go.RowKit Go.Proofs.YtgcddnajflgmbaaW.PrintWords
set_option linter.unusedVariables false
set_option linter.unusedSimpArgs false

set_option maxHeartbeats 1000000 in
theorem does_load (own : Nat → Nat) (p q i k : Nat) (ws : List Int) (ns : List Note) (op kd old v x : Int) (w : World) (hm : IsMem own 1 w p ws ns) (hr : IsRef own 2 w q ws ns) (hp : PWmemReads.hatstandlaw2_pick.f op 5 = some (k : Int)) (hk : k < 2) (hi : i < ws.length) (hx : rdW ws i = x) (hn : ns.length ≤ 1000000000000) :
    Calls Try.prog 19 #[.pointer (some ⟨p, 0, none⟩), .pointer (some ⟨q, 0, none⟩), .agg #[.int .i64 op, .int .i64 (i : Int), .int .i64 kd, .int .u64 old, .int .u64 v]] w fun e w' => e = .returned (.bool true) ∧ DoesPost own p q ws ns w w' := by
  have d0 : decide ((k : Int) < 2) = true := decide_eq_true (by omega)
  have HP := Lib.hid hp
  have HM := Lib.hid hm
  have HR := Lib.hid hr
  have HX := Lib.hid hx
  clear hp hm hr hx hk
  go_enter Try.func19, Try.ntmps19
  go_wp2_with (first | (go_at_call 11; refine (pick_ok op 5 k _ HP.out).mono ?_; rintro e w2 ⟨rfl, hb⟩; obtain ⟨o2, h2⟩ := DoSt.start HM.out HR.out (hb.mono (by simp)); (have H2 := Lib.hid h2); obtain ⟨q0, q1, q2, q3, q4⟩ := h2.cells; clear hb h2) | (go_at_call 13; refine (load_it o2 1 p ws ns i x _ H2.out.mem HX.out hi hn).mono ?_; rintro e w3 ⟨rfl, hp⟩; obtain ⟨o3, h3⟩ := H2.out.mstep hp; (have H3 := Lib.hid h3); clear hp q0 q1 q2 q3 q4; obtain ⟨q0, q1, q2, q3, q4⟩ := h3.cells; clear h3) | (go_at_call 25; refine (rload_in o3 2 q ws ns i x _ H3.out.ref HX.out hi hn).mono ?_; rintro e w4 ⟨rfl, hp⟩; obtain ⟨o4, h4⟩ := H3.out.rstep hp; (have H4 := Lib.hid h4); clear hp q0 q1 q2 q3 q4; obtain ⟨q0, q1, q2, q3, q4⟩ := h4.cells; clear h4))
  go_ret
  exact ⟨rfl, H4.out.done (Or.inr ⟨i, ⟨108, i, x, x, true⟩, hi, rfl, HX.out.symm, rfl, (by rw [← HX.out, set_self hi]), Or.inl ⟨rfl, rfl, rfl⟩⟩)⟩
end Go.Proofs.Ytgcddnajflgmbaa
namespace Go.Proofs.Ytgcddnajflgmbaa
open Go.RowKit Go.Proofs.YtgcddnajflgmbaaW.PrintWords
set_option linter.unusedVariables false
set_option linter.unusedSimpArgs false

set_option maxHeartbeats 1000000 in
theorem does_load_out (own : Nat → Nat) (p q k : Nat) (a : Int) (ws : List Int) (ns : List Note) (op kd old v x : Int) (w : World) (hm : IsMem own 1 w p ws ns) (hr : IsRef own 2 w q ws ns) (hp : PWmemReads.hatstandlaw2_pick.f op 5 = some (k : Int)) (hk : k < 2) (hi : a < 0 ∨ (ws.length : Int) ≤ a) (hn : ns.length ≤ 1000000000000) :
    Calls Try.prog 19 #[.pointer (some ⟨p, 0, none⟩), .pointer (some ⟨q, 0, none⟩), .agg #[.int .i64 op, .int .i64 a, .int .i64 kd, .int .u64 old, .int .u64 v]] w fun e w' => e = .returned (.bool true) ∧ DoesPost own p q ws ns w w' := by
  have d0 : decide ((k : Int) < 2) = true := decide_eq_true (by omega)
  clear hk
  have HP := Lib.hid hp
  have HM := Lib.hid hm
  have HR := Lib.hid hr
  clear hp hm hr
  go_enter Try.func19, Try.ntmps19
  go_wp2_with (first | (go_at_call 11; refine (pick_ok op 5 k _ HP.out).mono ?_; rintro e w2 ⟨rfl, hb⟩; obtain ⟨o2, h2⟩ := DoSt.start HM.out HR.out (hb.mono (by simp)); (have H2 := Lib.hid h2); obtain ⟨q0, q1, q2, q3, q4⟩ := h2.cells; clear hb h2) | (go_at_call 13; refine (load_out o2 1 p ws ns a _ H2.out.mem hi).mono ?_; rintro e w3 ⟨rfl, hp⟩; (have h3 := H2.out.below hp); (have H3 := Lib.hid h3); clear hp q0 q1 q2 q3 q4; obtain ⟨q0, q1, q2, q3, q4⟩ := h3.cells; clear h3) | (go_at_call 25; refine (rload_out o2 2 q ws ns a _ H3.out.ref hi).mono ?_; rintro e w4 ⟨rfl, hp⟩; (have h4 := H3.out.below hp); (have H4 := Lib.hid h4); clear hp q0 q1 q2 q3 q4; obtain ⟨q0, q1, q2, q3, q4⟩ := h4.cells; clear h4))
  go_ret
  exact ⟨rfl, H4.out.done (Or.inl ⟨rfl, rfl⟩)⟩

theorem sto_it (own : Nat → Nat) (t p : Nat) (ws : List Int) (ns : List Note) (i : Nat) (x v : Int) (w : World) (h : IsMem own t w p ws ns) (hx : rdW ws i = x) (hi : i < ws.length) (hk : ns.length ≤ 1000000000000) (v0 : 0 ≤ v) (v1 : v < 18446744073709551616) :
    Calls Try.prog 17 #[.pointer (some ⟨p, 0, none⟩), .int .i64 i, .int .u64 v] w fun e w' => e = .returned (.int .i64 0) ∧ MemPost own t w p (ws.set i v) (ns ++ [⟨115, i, x, v, true⟩]) w' := by
  subst hx
  exact store_in own t p ws ns i v w h hi hk v0 v1
set_option maxHeartbeats 1000000 in
theorem does_store (own : Nat → Nat) (p q k : Nat) (i : Nat) (ws : List Int) (ns : List Note) (op kd old v x : Int) (w : World) (hm : IsMem own 1 w p ws ns) (hr : IsRef own 2 w q ws ns) (hp : PWmemReads.hatstandlaw2_pick.f op 5 = some (k : Int)) (hk : k = 2) (hi : i < ws.length) (hx : rdW ws i = x) (v0 : 0 ≤ v) (v1 : v < 18446744073709551616) (hn : ns.length ≤ 1000000000000) :
    Calls Try.prog 19 #[.pointer (some ⟨p, 0, none⟩), .pointer (some ⟨q, 0, none⟩), .agg #[.int .i64 op, .int .i64 (i : Int), .int .i64 kd, .int .u64 old, .int .u64 v]] w fun e w' => e = .returned (.bool true) ∧ DoesPost own p q ws ns w w' := by
  have d0 : decide ((k : Int) < 2) = false := decide_eq_false (by omega)
  have d1 : ((k : Int) == 2) = true := by simp [hk]
  clear hk
  have HX := Lib.hid hx
  clear hx
  have HP := Lib.hid hp
  have HM := Lib.hid hm
  have HR := Lib.hid hr
  clear hp hm hr
  go_enter Try.func19, Try.ntmps19
  go_wp2_with (first | (go_at_call 11; refine (pick_ok op 5 k _ HP.out).mono ?_; rintro e w2 ⟨rfl, hb⟩; obtain ⟨o2, h2⟩ := DoSt.start HM.out HR.out (hb.mono (by simp)); (have H2 := Lib.hid h2); obtain ⟨q0, q1, q2, q3, q4⟩ := h2.cells; clear hb h2))
  go_region_held3 (fun w' => w'.cell? ⟨w.heap.size, 1, none⟩ = some (.int .i64 (i : Int)) ∧ w'.cell? ⟨w.heap.size, 4, none⟩ = some (.int .u64 v)) (first | exact ⟨q1, q4⟩) (first | (go_at_call 17; refine (sto_it o2 1 p ws ns i x v _ H2.out.drew.mem HX.out hi hn v0 v1).mono ?_; rintro e w3 ⟨rfl, hp⟩; obtain ⟨o3, h3⟩ := H2.out.drew.mstep hp; (have H3 := Lib.hid h3); clear hp q0 q1 q2 q3 q4; obtain ⟨q0, q1, q2, q3, q4⟩ := h3.cells; clear h3) | (go_at_call 26; refine (rstore_in o3 2 q ws ns i x v _ H3.out.ref HX.out hi hn v0 v1).mono ?_; rintro e w4 ⟨rfl, hp⟩; obtain ⟨o4, h4⟩ := H3.out.rstep hp; (have H4 := Lib.hid h4); clear hp q0 q1 q2 q3 q4; obtain ⟨q0, q1, q2, q3, q4⟩ := h4.cells; clear h4))
  all_goals go_wp2
  all_goals go_ret
  all_goals exact ⟨rfl, H4.out.done (Or.inr ⟨i, ⟨115, i, x, v, true⟩, hi, rfl, HX.out.symm, rfl, rfl, Or.inr (Or.inl ⟨rfl, rfl⟩)⟩)⟩

set_option maxHeartbeats 1000000 in
theorem does_store_out (own : Nat → Nat) (p q k : Nat) (a : Int) (ws : List Int) (ns : List Note) (op kd old v x : Int) (w : World) (hm : IsMem own 1 w p ws ns) (hr : IsRef own 2 w q ws ns) (hp : PWmemReads.hatstandlaw2_pick.f op 5 = some (k : Int)) (hk : k = 2) (hi : a < 0 ∨ (ws.length : Int) ≤ a) (hn : ns.length ≤ 1000000000000) :
    Calls Try.prog 19 #[.pointer (some ⟨p, 0, none⟩), .pointer (some ⟨q, 0, none⟩), .agg #[.int .i64 op, .int .i64 a, .int .i64 kd, .int .u64 old, .int .u64 v]] w fun e w' => e = .returned (.bool true) ∧ DoesPost own p q ws ns w w' := by
  have d0 : decide ((k : Int) < 2) = false := decide_eq_false (by omega)
  have d1 : ((k : Int) == 2) = true := by simp [hk]
  clear hk
  have HP := Lib.hid hp
  have HM := Lib.hid hm
  have HR := Lib.hid hr
  clear hp hm hr
  go_enter Try.func19, Try.ntmps19
  go_wp2_with (first | (go_at_call 11; refine (pick_ok op 5 k _ HP.out).mono ?_; rintro e w2 ⟨rfl, hb⟩; obtain ⟨o2, h2⟩ := DoSt.start HM.out HR.out (hb.mono (by simp)); (have H2 := Lib.hid h2); obtain ⟨q0, q1, q2, q3, q4⟩ := h2.cells; clear hb h2))
  go_region_held3 (fun w' => w'.cell? ⟨w.heap.size, 1, none⟩ = some (.int .i64 a) ∧ w'.cell? ⟨w.heap.size, 4, none⟩ = some (.int .u64 v)) (first | exact ⟨q1, q4⟩) (first | (go_at_call 17; refine (store_out o2 1 p ws ns a v _ H2.out.drew.mem hi).mono ?_; rintro e w3 ⟨rfl, hp⟩; (have h3 := H2.out.drew.below hp); (have H3 := Lib.hid h3); clear hp q0 q1 q2 q3 q4; obtain ⟨q0, q1, q2, q3, q4⟩ := h3.cells; clear h3) | (go_at_call 26; refine (rstore_out o2 2 q ws ns a v _ H3.out.ref hi).mono ?_; rintro e w4 ⟨rfl, hp⟩; (have h4 := H3.out.below hp); (have H4 := Lib.hid h4); clear hp q0 q1 q2 q3 q4; obtain ⟨q0, q1, q2, q3, q4⟩ := h4.cells; clear h4))
  all_goals go_wp2
  all_goals go_ret
  all_goals exact ⟨rfl, H4.out.done (Or.inl ⟨rfl, rfl⟩)⟩

end Go.Proofs.Ytgcddnajflgmbaa
namespace Go.Proofs.Ytgcddnajflgmbaa
open Go.RowKit Go.Proofs.YtgcddnajflgmbaaW.PrintWords
set_option linter.unusedVariables false
set_option linter.unusedSimpArgs false

set_option maxHeartbeats 1000000 in
theorem does_even (own : Nat → Nat) (p q k : Nat) (i : Nat) (ws : List Int) (ns : List Note) (op kd old v x : Int) (w : World) (hm : IsMem own 1 w p ws ns) (hr : IsRef own 2 w q ws ns) (hp : PWmemReads.hatstandlaw2_pick.f op 5 = some (k : Int)) (hk : 3 ≤ k) (hq : (kd.tmod 2 == 0) = true) (hi : i < ws.length) (hx : rdW ws i = x) (v0 : 0 ≤ v) (v1 : v < 18446744073709551616) (hn : ns.length ≤ 1000000000000) :
    Calls Try.prog 19 #[.pointer (some ⟨p, 0, none⟩), .pointer (some ⟨q, 0, none⟩), .agg #[.int .i64 op, .int .i64 (i : Int), .int .i64 kd, .int .u64 old, .int .u64 v]] w fun e w' => e = .returned (.bool true) ∧ DoesPost own p q ws ns w w' := by
  have d0 : decide ((k : Int) < 2) = false := decide_eq_false (by omega)
  have d1 : ((k : Int) == 2) = false := beq_eq_false_iff_ne.mpr (by omega)
  clear hk
  have c0 : decide ((0 : Int) ≤ (i : Int)) = true := decide_eq_true (by omega)
  have c1 : decide ((i : Int) < (ws.length : Int)) = true := decide_eq_true (by omega)
  have HX := Lib.hid hx
  have HP := Lib.hid hp
  have HM := Lib.hid hm
  have HR := Lib.hid hr
  clear hp hm hr
  go_enter Try.func19, Try.ntmps19
  go_wp2_with (first | (go_at_call 11; refine (pick_ok op 5 k _ HP.out).mono ?_; rintro e w2 ⟨rfl, hb⟩; obtain ⟨o2, h2⟩ := DoSt.start HM.out HR.out (hb.mono (by simp)); (have H2 := Lib.hid h2); obtain ⟨q0, q1, q2, q3, q4⟩ := h2.cells; obtain ⟨g, c, nv, cur, ra⟩ := h2.ref.at_ hi; (have hq0 := (cells2 ra.hP).1); (have hgc := (cell_of ra.hG i).trans (cur_at ra.hcur hi)); rw [hx] at hgc; clear ra; clear hb h2))
  clear hx
  go_quiet (fail)
  go_wp2
  go_quiet (fail)
  go_wp2_with (first | (go_at_call 12; refine (swap_hit o2 1 p ws ns i x v _ ((H2.out.drewN _)).mem HX.out hi hn v0 v1).mono ?_; rintro e w3 ⟨rfl, hp⟩; obtain ⟨o3, h3⟩ := (H2.out.drewN _).mstep hp; (have H3 := Lib.hid h3); clear hp q0 q1 q2 q3 q4; obtain ⟨q0, q1, q2, q3, q4⟩ := h3.cells; clear h3) | (go_at_call 27; refine (rhit_in o3 2 q ws ns i x v _ H3.out.ref HX.out hi hn v0 v1).mono ?_; rintro e w4 ⟨rfl, hp⟩; obtain ⟨o4, h4⟩ := H3.out.rstep hp; (have H4 := Lib.hid h4); clear hp q0 q1 q2 q3 q4; obtain ⟨q0, q1, q2, q3, q4⟩ := h4.cells; clear h4))
  go_ret
  exact ⟨rfl, H4.out.done (Or.inr ⟨i, ⟨99, i, x, v, true⟩, hi, rfl, HX.out.symm, rfl, rfl, Or.inr (Or.inr ⟨rfl, Or.inl rfl⟩)⟩)⟩

set_option maxHeartbeats 1000000 in
theorem does_hit (own : Nat → Nat) (p q k : Nat) (i : Nat) (ws : List Int) (ns : List Note) (op kd old v x : Int) (w : World) (hm : IsMem own 1 w p ws ns) (hr : IsRef own 2 w q ws ns) (hp : PWmemReads.hatstandlaw2_pick.f op 5 = some (k : Int)) (hk : 3 ≤ k) (hq : (kd.tmod 2 == 0) = false) (hi : i < ws.length) (hx : rdW ws i = x) (he : old = x) (v0 : 0 ≤ v) (v1 : v < 18446744073709551616) (hn : ns.length ≤ 1000000000000) :
    Calls Try.prog 19 #[.pointer (some ⟨p, 0, none⟩), .pointer (some ⟨q, 0, none⟩), .agg #[.int .i64 op, .int .i64 (i : Int), .int .i64 kd, .int .u64 old, .int .u64 v]] w fun e w' => e = .returned (.bool true) ∧ DoesPost own p q ws ns w w' := by
  have d0 : decide ((k : Int) < 2) = false := decide_eq_false (by omega)
  have d1 : ((k : Int) == 2) = false := beq_eq_false_iff_ne.mpr (by omega)
  clear hk
  subst he
  have c0 : decide ((0 : Int) ≤ (i : Int)) = true := decide_eq_true (by omega)
  have c1 : decide ((i : Int) < (ws.length : Int)) = true := decide_eq_true (by omega)
  have HX := Lib.hid hx
  have HP := Lib.hid hp
  have HM := Lib.hid hm
  have HR := Lib.hid hr
  clear hp hm hr
  go_enter Try.func19, Try.ntmps19
  go_wp2_with (first | (go_at_call 11; refine (pick_ok op 5 k _ HP.out).mono ?_; rintro e w2 ⟨rfl, hb⟩; obtain ⟨o2, h2⟩ := DoSt.start HM.out HR.out (hb.mono (by simp)); (have H2 := Lib.hid h2); obtain ⟨q0, q1, q2, q3, q4⟩ := h2.cells; clear hb h2))
  clear hx
  go_quiet (fail)
  go_wp2_with (first | (go_at_call 12; refine (swap_hit o2 1 p ws ns i old v _ ((H2.out.drewN _)).mem HX.out hi hn v0 v1).mono ?_; rintro e w3 ⟨rfl, hp⟩; obtain ⟨o3, h3⟩ := (H2.out.drewN _).mstep hp; (have H3 := Lib.hid h3); clear hp q0 q1 q2 q3 q4; obtain ⟨q0, q1, q2, q3, q4⟩ := h3.cells; clear h3) | (go_at_call 27; refine (rhit_in o3 2 q ws ns i old v _ H3.out.ref HX.out hi hn v0 v1).mono ?_; rintro e w4 ⟨rfl, hp⟩; obtain ⟨o4, h4⟩ := H3.out.rstep hp; (have H4 := Lib.hid h4); clear hp q0 q1 q2 q3 q4; obtain ⟨q0, q1, q2, q3, q4⟩ := h4.cells; clear h4))
  go_ret
  exact ⟨rfl, H4.out.done (Or.inr ⟨i, ⟨99, i, old, v, true⟩, hi, rfl, HX.out.symm, rfl, rfl, Or.inr (Or.inr ⟨rfl, Or.inl rfl⟩)⟩)⟩

set_option maxHeartbeats 1000000 in
theorem does_miss (own : Nat → Nat) (p q k : Nat) (i : Nat) (ws : List Int) (ns : List Note) (op kd old v x : Int) (w : World) (hm : IsMem own 1 w p ws ns) (hr : IsRef own 2 w q ws ns) (hp : PWmemReads.hatstandlaw2_pick.f op 5 = some (k : Int)) (hk : 3 ≤ k) (hq : (kd.tmod 2 == 0) = false) (hi : i < ws.length) (hx : rdW ws i = x) (he : (x == old) = false) (hn : ns.length ≤ 1000000000000) :
    Calls Try.prog 19 #[.pointer (some ⟨p, 0, none⟩), .pointer (some ⟨q, 0, none⟩), .agg #[.int .i64 op, .int .i64 (i : Int), .int .i64 kd, .int .u64 old, .int .u64 v]] w fun e w' => e = .returned (.bool true) ∧ DoesPost own p q ws ns w w' := by
  have d0 : decide ((k : Int) < 2) = false := decide_eq_false (by omega)
  have d1 : ((k : Int) == 2) = false := beq_eq_false_iff_ne.mpr (by omega)
  clear hk
  have c0 : decide ((0 : Int) ≤ (i : Int)) = true := decide_eq_true (by omega)
  have c1 : decide ((i : Int) < (ws.length : Int)) = true := decide_eq_true (by omega)
  have HX := Lib.hid hx
  have HP := Lib.hid hp
  have HM := Lib.hid hm
  have HR := Lib.hid hr
  clear hp hm hr
  go_enter Try.func19, Try.ntmps19
  go_wp2_with (first | (go_at_call 11; refine (pick_ok op 5 k _ HP.out).mono ?_; rintro e w2 ⟨rfl, hb⟩; obtain ⟨o2, h2⟩ := DoSt.start HM.out HR.out (hb.mono (by simp)); (have H2 := Lib.hid h2); obtain ⟨q0, q1, q2, q3, q4⟩ := h2.cells; clear hb h2))
  clear hx
  go_quiet (fail)
  go_wp2_with (first | (go_at_call 12; refine (swap_lost o2 1 p ws ns i x old v _ (H2.out.drewN _).mem HX.out hi hn he).mono ?_; rintro e w3 ⟨rfl, hp⟩; obtain ⟨o3, h3⟩ := (H2.out.drewN _).mstep hp; (have H3 := Lib.hid h3); clear hp q0 q1 q2 q3 q4; obtain ⟨q0, q1, q2, q3, q4⟩ := h3.cells; clear h3) | (go_at_call 27; refine (rmiss_in o3 2 q ws ns i x old v _ H3.out.ref HX.out hi hn he).mono ?_; rintro e w4 ⟨rfl, hp⟩; obtain ⟨o4, h4⟩ := H3.out.rstep hp; (have H4 := Lib.hid h4); clear hp q0 q1 q2 q3 q4; obtain ⟨q0, q1, q2, q3, q4⟩ := h4.cells; clear h4))
  go_ret
  exact ⟨rfl, H4.out.done (Or.inr ⟨i, ⟨99, i, x, x, false⟩, hi, rfl, HX.out.symm, rfl, (by rw [← HX.out, set_self hi]), Or.inr (Or.inr ⟨rfl, Or.inr ⟨rfl, rfl⟩⟩)⟩)⟩

set_option maxHeartbeats 1000000 in
theorem does_odd_out (own : Nat → Nat) (p q k : Nat) (a : Int) (ws : List Int) (ns : List Note) (op kd old v x : Int) (w : World) (hm : IsMem own 1 w p ws ns) (hr : IsRef own 2 w q ws ns) (hp : PWmemReads.hatstandlaw2_pick.f op 5 = some (k : Int)) (hk : 3 ≤ k) (hq : (kd.tmod 2 == 0) = false) (hi : a < 0 ∨ (ws.length : Int) ≤ a) (hn : ns.length ≤ 1000000000000) :
    Calls Try.prog 19 #[.pointer (some ⟨p, 0, none⟩), .pointer (some ⟨q, 0, none⟩), .agg #[.int .i64 op, .int .i64 a, .int .i64 kd, .int .u64 old, .int .u64 v]] w fun e w' => e = .returned (.bool true) ∧ DoesPost own p q ws ns w w' := by
  have d0 : decide ((k : Int) < 2) = false := decide_eq_false (by omega)
  have d1 : ((k : Int) == 2) = false := beq_eq_false_iff_ne.mpr (by omega)
  clear hk
  have HP := Lib.hid hp
  have HM := Lib.hid hm
  have HR := Lib.hid hr
  clear hp hm hr
  go_enter Try.func19, Try.ntmps19
  go_wp2_with (first | (go_at_call 11; refine (pick_ok op 5 k _ HP.out).mono ?_; rintro e w2 ⟨rfl, hb⟩; obtain ⟨o2, h2⟩ := DoSt.start HM.out HR.out (hb.mono (by simp)); (have H2 := Lib.hid h2); obtain ⟨q0, q1, q2, q3, q4⟩ := h2.cells; clear hb h2))
  go_quiet (fail)
  go_wp2_with (first | (go_at_call 12; refine (swap_out o2 1 p ws ns a old v _ (H2.out.drewN _).mem hi).mono ?_; rintro e w3 ⟨rfl, hp⟩; (have h3 := (H2.out.drewN _).below hp); (have H3 := Lib.hid h3); clear hp q0 q1 q2 q3 q4; obtain ⟨q0, q1, q2, q3, q4⟩ := h3.cells; clear h3) | (go_at_call 27; refine (rswap_out o2 2 q ws ns a old v _ H3.out.ref hi).mono ?_; rintro e w4 ⟨rfl, hp⟩; (have h4 := H3.out.below hp); (have H4 := Lib.hid h4); clear hp q0 q1 q2 q3 q4; obtain ⟨q0, q1, q2, q3, q4⟩ := h4.cells; clear h4))
  go_ret
  exact ⟨rfl, H4.out.done (Or.inl ⟨rfl, rfl⟩)⟩

set_option maxHeartbeats 1000000 in
theorem does_low_out (own : Nat → Nat) (p q k : Nat) (a : Int) (ws : List Int) (ns : List Note) (op kd old v x : Int) (w : World) (hm : IsMem own 1 w p ws ns) (hr : IsRef own 2 w q ws ns) (hp : PWmemReads.hatstandlaw2_pick.f op 5 = some (k : Int)) (hk : 3 ≤ k) (hq : (kd.tmod 2 == 0) = true) (ha : a < 0) (hn : ns.length ≤ 1000000000000) :
    Calls Try.prog 19 #[.pointer (some ⟨p, 0, none⟩), .pointer (some ⟨q, 0, none⟩), .agg #[.int .i64 op, .int .i64 a, .int .i64 kd, .int .u64 old, .int .u64 v]] w fun e w' => e = .returned (.bool true) ∧ DoesPost own p q ws ns w w' := by
  have d0 : decide ((k : Int) < 2) = false := decide_eq_false (by omega)
  have d1 : ((k : Int) == 2) = false := beq_eq_false_iff_ne.mpr (by omega)
  clear hk
  have c0 : decide ((0 : Int) ≤ a) = false := decide_eq_false (by omega)
  have hi : a < 0 ∨ (ws.length : Int) ≤ a := Or.inl ha
  clear ha
  have HP := Lib.hid hp
  have HM := Lib.hid hm
  have HR := Lib.hid hr
  clear hp hm hr
  go_enter Try.func19, Try.ntmps19
  go_wp2_with (first | (go_at_call 11; refine (pick_ok op 5 k _ HP.out).mono ?_; rintro e w2 ⟨rfl, hb⟩; obtain ⟨o2, h2⟩ := DoSt.start HM.out HR.out (hb.mono (by simp)); (have H2 := Lib.hid h2); obtain ⟨q0, q1, q2, q3, q4⟩ := h2.cells; clear hb h2))
  go_quiet (fail)
  go_wp2_with (first | (go_at_call 12; refine (swap_out o2 1 p ws ns a old v _ (H2.out.drewN _).mem hi).mono ?_; rintro e w3 ⟨rfl, hp⟩; (have h3 := (H2.out.drewN _).below hp); (have H3 := Lib.hid h3); clear hp q0 q1 q2 q3 q4; obtain ⟨q0, q1, q2, q3, q4⟩ := h3.cells; clear h3) | (go_at_call 27; refine (rswap_out o2 2 q ws ns a old v _ H3.out.ref hi).mono ?_; rintro e w4 ⟨rfl, hp⟩; (have h4 := H3.out.below hp); (have H4 := Lib.hid h4); clear hp q0 q1 q2 q3 q4; obtain ⟨q0, q1, q2, q3, q4⟩ := h4.cells; clear h4))
  go_ret
  exact ⟨rfl, H4.out.done (Or.inl ⟨rfl, rfl⟩)⟩

set_option maxHeartbeats 1000000 in
theorem does_high_out (own : Nat → Nat) (p q k : Nat) (a : Int) (ws : List Int) (ns : List Note) (op kd old v x : Int) (w : World) (hm : IsMem own 1 w p ws ns) (hr : IsRef own 2 w q ws ns) (hp : PWmemReads.hatstandlaw2_pick.f op 5 = some (k : Int)) (hk : 3 ≤ k) (hq : (kd.tmod 2 == 0) = true) (ha : (ws.length : Int) ≤ a) (hn : ns.length ≤ 1000000000000) :
    Calls Try.prog 19 #[.pointer (some ⟨p, 0, none⟩), .pointer (some ⟨q, 0, none⟩), .agg #[.int .i64 op, .int .i64 a, .int .i64 kd, .int .u64 old, .int .u64 v]] w fun e w' => e = .returned (.bool true) ∧ DoesPost own p q ws ns w w' := by
  have d0 : decide ((k : Int) < 2) = false := decide_eq_false (by omega)
  have d1 : ((k : Int) == 2) = false := beq_eq_false_iff_ne.mpr (by omega)
  clear hk
  have c0 : decide ((0 : Int) ≤ a) = true := decide_eq_true (by omega)
  have c1 : decide (a < (ws.length : Int)) = false := decide_eq_false (by omega)
  have hi : a < 0 ∨ (ws.length : Int) ≤ a := Or.inr ha
  clear ha
  have HP := Lib.hid hp
  have HM := Lib.hid hm
  have HR := Lib.hid hr
  clear hp hm hr
  go_enter Try.func19, Try.ntmps19
  go_wp2_with (first | (go_at_call 11; refine (pick_ok op 5 k _ HP.out).mono ?_; rintro e w2 ⟨rfl, hb⟩; obtain ⟨o2, h2⟩ := DoSt.start HM.out HR.out (hb.mono (by simp)); (have H2 := Lib.hid h2); obtain ⟨q0, q1, q2, q3, q4⟩ := h2.cells; obtain ⟨A, c, nv, ra, _⟩ := h2.ref.body; (have hq0 := (cells2 ra).1); clear ra; clear hb h2))
  go_quiet (fail)
  go_wp2_with (first | (go_at_call 12; refine (swap_out o2 1 p ws ns a old v _ (H2.out.drewN _).mem hi).mono ?_; rintro e w3 ⟨rfl, hp⟩; (have h3 := (H2.out.drewN _).below hp); (have H3 := Lib.hid h3); clear hp q0 q1 q2 q3 q4; obtain ⟨q0, q1, q2, q3, q4⟩ := h3.cells; clear h3) | (go_at_call 27; refine (rswap_out o2 2 q ws ns a old v _ H3.out.ref hi).mono ?_; rintro e w4 ⟨rfl, hp⟩; (have h4 := H3.out.below hp); (have H4 := Lib.hid h4); clear hp q0 q1 q2 q3 q4; obtain ⟨q0, q1, q2, q3, q4⟩ := h4.cells; clear h4))
  go_ret
  exact ⟨rfl, H4.out.done (Or.inl ⟨rfl, rfl⟩)⟩

end Go.Proofs.Ytgcddnajflgmbaa
namespace Go.Proofs.Ytgcddnajflgmbaa
open Go.RowKit Go.Proofs.YtgcddnajflgmbaaW.PrintWords
set_option linter.unusedVariables false
set_option linter.unusedSimpArgs false

theorem does_any (own : Nat → Nat) (p q : Nat) (ws : List Int) (ns : List Note) (op a kd old v : Int) (w : World) (hm : IsMem own 1 w p ws ns) (hr : IsRef own 2 w q ws ns) (wop : (Lit.int .i64 op).wf = true) (v0 : 0 ≤ v) (v1 : v < 18446744073709551616) (hn : ns.length ≤ 1000000000000) :
    Calls Try.prog 19 #[.pointer (some ⟨p, 0, none⟩), .pointer (some ⟨q, 0, none⟩), .agg #[.int .i64 op, .int .i64 a, .int .i64 kd, .int .u64 old, .int .u64 v]] w fun e w' => e = .returned (.bool true) ∧ DoesPost own p q ws ns w w' := by
  obtain ⟨k, hk, hp⟩ := pick_eq op 5 (by decide) wop
  have hp : PWmemReads.hatstandlaw2_pick.f op 5 = some (k : Int) := hp
  by_cases hin : 0 ≤ a ∧ a < ws.length
  · obtain ⟨i, rfl⟩ : ∃ i : Nat, a = i := ⟨a.toNat, by omega⟩
    have hi : i < ws.length := by omega
    obtain ⟨x, hx⟩ : ∃ x, rdW ws i = x := ⟨_, rfl⟩
    rcases Nat.lt_or_ge k 2 with h2 | h2
    · exact does_load own p q i k ws ns op kd old v x w hm hr hp h2 hi hx hn
    rcases Nat.lt_or_ge k 3 with h3 | h3
    · exact does_store own p q k i ws ns op kd old v x w hm hr hp (by omega) hi hx v0 v1 hn
    cases hq : (kd.tmod 2 == 0) with
    | true => exact does_even own p q k i ws ns op kd old v x w hm hr hp h3 hq hi hx v0 v1 hn
    | false =>
      cases he : (x == old) with
      | true => exact does_hit own p q k i ws ns op kd old v x w hm hr hp h3 hq hi hx (eq_of_beq he).symm v0 v1 hn
      | false => exact does_miss own p q k i ws ns op kd old v x w hm hr hp h3 hq hi hx he hn
  · have hi : a < 0 ∨ (ws.length : Int) ≤ a := by omega
    rcases Nat.lt_or_ge k 2 with h2 | h2
    · exact does_load_out own p q k a ws ns op kd old v 0 w hm hr hp h2 hi hn
    rcases Nat.lt_or_ge k 3 with h3 | h3
    · exact does_store_out own p q k a ws ns op kd old v 0 w hm hr hp (by omega) hi hn
    cases hq : (kd.tmod 2 == 0) with
    | false => exact does_odd_out own p q k a ws ns op kd old v 0 w hm hr hp h3 hq hi hn
    | true =>
      rcases hi with hi | hi
      · exact does_low_out own p q k a ws ns op kd old v 0 w hm hr hp h3 hq hi hn
      · exact does_high_out own p q k a ws ns op kd old v 0 w hm hr hp h3 hq hi hn
end Go.Proofs.Ytgcddnajflgmbaa
