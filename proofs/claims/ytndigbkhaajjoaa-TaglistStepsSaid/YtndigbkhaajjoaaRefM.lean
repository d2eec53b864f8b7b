/-
  The document's memory as an object.
  The document's Load.
  The document's Store.
  The document's Swap.
  The methods of the document's memory.
  The methods of the document's memory at places that are none.
  The document's memory that is made.
  The document's memory without a word.
-/
import Derived.Test.YtndigbkhaajjoaaRow
import Derived.Deep.RegionLaw
import Derived.Deep.AppendLies
import Derived.OwnWalk
namespace Go.Proofs.Ytndigbkhaajjoaa
open Go.RowKit
set_option linter.unusedVariables false
set_option linter.unusedSimpArgs false

theorem infoRef : (Try.prog.info? 141).map (fun i => (i.zero, i.size, i.bytes)) = some (some (.agg #[.int .u8 0, .int .i64 0, .int .u64 0, .int .u64 0, .bool false]), 5, 40) := by kernel_rfl
/-- What is behind an access: the word and the note; all else is as it was. -/
structure RefPost (w w' : World) (p g : Nat) (wv nv : Value) (cur : Array Value) (k : Nat) (ns : List Value) (at_ : Nat) (u : Value) (note : List Value) : Prop where
  str : Str w w'
  words : w'.heap[g]? = some (.cells (cur.setIfInBounds at_ u) 35 (0, 0))
  notes : ∃ nv', w'.heap[p]? = some (.cells #[wv, nv'] 66 (0, 0)) ∧ w'.ownsRow 0 141 5 nv' (k + 1) (ns ++ note) ∧ ∃ b, nv'.ownBlock = some b ∧ (nv.ownBlock = some b ∨ w.heap.size ≤ b)
  keep : ∀ b, b < w.heap.size → b ≠ p → b ≠ g → some b ≠ nv.ownBlock → w'.heap[b]? = w.heap[b]?

structure IsRef (own : Nat → Nat) (t : Nat) (w : World) (p : Nat) (ws : List Int) (ns : List Note) : Prop where
  len : ws.length ≤ 1024
  rng : ∀ x ∈ ws, 0 ≤ x ∧ x < 18446744073709551616
  mine : own p = t
  body : ∃ A c nv, w.heap[p]? = some (.cells #[.slice A ws.length c, nv] 66 (0, 0)) ∧ w.ownsRow 0 141 5 nv ns.length (noteCells ns) ∧ (∀ b, nv.ownBlock = some b → own b = t ∧ b ≠ p) ∧
    (ws = [] ∨ ∃ g cur, A = some ⟨g, 0, none⟩ ∧ own g = t ∧ p ≠ g ∧ w.heap[g]? = some (.cells cur 35 (0, 0)) ∧ cur.toList.take ws.length = ws.map (fun x => .int .u64 x) ∧ nv.ownBlock ≠ some g)

theorem IsRef.kept {own own' : Nat → Nat} {t : Nat} {T : Nat → Prop} {w w' : World} {p : Nat} {ws : List Int} {ns : List Note} (h : IsRef own t w p ws ns) (f : Fr own own' T w w') (ht : ¬ T t) : IsRef own' t w' p ws ns := by
  obtain ⟨A, c, nv, hP, hn, hb, hg⟩ := h.body
  have lp := lt_of_heap hP
  refine ⟨h.len, h.rng, (f.ext p lp).trans h.mine, A, c, nv, (f.keep p lp (by rw [h.mine]; exact ht)).trans hP, own_of_block hn fun b e => f.keep b (hn.lt b e).2 (by rw [(hb b e).1]; exact ht), fun b e => ⟨(f.ext b (hn.lt b e).2).trans (hb b e).1, (hb b e).2⟩, ?_⟩
  rcases hg with e | ⟨g, cur, e1, e2, e3, e4, e5, e6⟩
  · exact .inl e
  · have lg := lt_of_heap e4
    exact .inr ⟨g, cur, e1, (f.ext g lg).trans e2, e3, (f.keep g lg (by rw [e2]; exact ht)).trans e4, e5, e6⟩
theorem IsRef.below {own : Nat → Nat} {t : Nat} {w w' : World} {p : Nat} {ws : List Int} {ns : List Note} (h : IsRef own t w p ws ns) (f : Below w.heap.size w w') : IsRef own t w' p ws ns :=
  h.kept (T := fun _ => False) (Fr.below f) (fun h => h)

/-- What an access within the memory leaves. -/
theorem IsRef.acc {own : Nat → Nat} {t : Nat} {w w' : World} {p g c : Nat} {nv : Value} {cur : Array Value} {ws : List Int} {ns : List Note} {i : Nat} {x : Int} {a : Note}
    (h : IsRef own t w p ws ns) (hn : w.ownsRow 0 141 5 nv ns.length (noteCells ns)) (hb : ∀ b, nv.ownBlock = some b → own b = t ∧ b ≠ p) (hg : own g = t) (lg : g < w.heap.size) (lp : p < w.heap.size) (hpg : p ≠ g) (hng : nv.ownBlock ≠ some g)
    (hcur : cur.toList.take ws.length = ws.map (fun x => .int .u64 x)) (hi : i < ws.length) (x0 : 0 ≤ x) (x1 : x < 18446744073709551616)
    (post : RefPost w w' p g (.slice (some ⟨g, 0, none⟩) ws.length c) nv cur ns.length (noteCells ns) i (.int .u64 x) a.cells) :
    ∃ own', Fr own own' (· = t) w w' ∧ IsRef own' t w' p (ws.set i x) (ns ++ [a]) := by
  obtain ⟨nv', k1, k2, b, k3, k4⟩ := post.notes
  have hex : ∀ b, b < w.heap.size → (fun b => if b < w.heap.size then own b else t) b = own b := fun b hb => by simp [hb]
  have hbn : own b = t ∨ w.heap.size ≤ b := k4.imp (fun e => (hb b e).1) id
  refine ⟨fun b => if b < w.heap.size then own b else t, ⟨post.str, fun b hb' ht => post.keep b hb' (fun e => ht (e ▸ h.mine)) (fun e => ht (e ▸ hg)) (fun e => ht (hb b e.symm).1), hex⟩, ?_⟩
  refine ⟨by rw [List.length_set]; exact h.len, fun y hy => ?_, (hex p lp).trans h.mine, some ⟨g, 0, none⟩, c, nv', by rw [List.length_set]; exact k1, by rw [noteCells_snoc, List.length_append]; exact k2, fun b' e => ?_, .inr ⟨g, cur.setIfInBounds i (.int .u64 x), rfl, (hex g lg).trans hg, hpg, post.words, ?_, ?_⟩⟩
  · rcases List.mem_or_eq_of_mem_set hy with h1 | h1
    · exact h.rng y h1
    · subst h1; exact ⟨x0, x1⟩
  · rw [k3] at e
    obtain rfl := Option.some.inj e
    refine ⟨?_, fun e => ?_⟩
    · by_cases c : b < w.heap.size
      · simp only [c, if_true]
        exact hbn.elim id fun h => by omega
      · simp only [c, if_false]
    · subst e
      exact k4.elim (fun e => (hb _ e).2 rfl) fun e => by omega
  · rw [Array.toList_setIfInBounds, List.length_set, take_set _ hi, hcur, List.map_set]
  · rw [k3]
    intro e
    obtain rfl := Option.some.inj e
    exact k4.elim (fun e => hng e) fun e => by omega
/-- What is asked of a memory to be accessed at place i. -/
structure RAt (own : Nat → Nat) (t : Nat) (w : World) (p : Nat) (ws : List Int) (ns : List Note) (g c : Nat) (nv : Value) (cur : Array Value) : Prop where
  hP : w.heap[p]? = some (.cells #[.slice (some ⟨g, 0, none⟩) ws.length c, nv] 66 (0, 0))
  hn : w.ownsRow 0 141 5 nv ns.length (noteCells ns)
  hb : ∀ b, nv.ownBlock = some b → own b = t ∧ b ≠ p
  hg : own g = t
  hpg : p ≠ g
  hG : w.heap[g]? = some (.cells cur 35 (0, 0))
  hcur : cur.toList.take ws.length = ws.map (fun x => .int .u64 x)
  hng : nv.ownBlock ≠ some g
theorem RAt.np {own : Nat → Nat} {t : Nat} {w : World} {p : Nat} {ws : List Int} {ns : List Note} {g c : Nat} {nv : Value} {cur : Array Value} (a : RAt own t w p ws ns g c nv cur) : nv.ownBlock ≠ some p := fun e => (a.hb p e).2 rfl
theorem IsRef.at_ {own : Nat → Nat} {t : Nat} {w : World} {p : Nat} {ws : List Int} {ns : List Note} (h : IsRef own t w p ws ns) {i : Nat} (hi : i < ws.length) : ∃ g c nv cur, RAt own t w p ws ns g c nv cur := by
  obtain ⟨A, c, nv, hP, hn, hb, hg⟩ := h.body
  rcases hg with e | ⟨g, cur, rfl, e2, e3, e4, e5, e6⟩
  · subst e; cases hi
  · exact ⟨g, c, nv, cur, hP, hn, hb, e2, e3, e4, e5, e6⟩
theorem RAt.after {own : Nat → Nat} {t : Nat} {w w' : World} {p : Nat} {ws : List Int} {ns : List Note} {g c : Nat} {nv : Value} {cur : Array Value} (a : RAt own t w p ws ns g c nv cur) (h : IsRef own t w p ws ns) {i : Nat} (hi : i < ws.length) {x : Int} {nt : Note} (x0 : 0 ≤ x) (x1 : x < 18446744073709551616)
    (post : RefPost w w' p g (.slice (some ⟨g, 0, none⟩) ws.length c) nv cur ns.length (noteCells ns) i (.int .u64 x) nt.cells) : ∃ own', Fr own own' (· = t) w w' ∧ IsRef own' t w' p (ws.set i x) (ns ++ [nt]) :=
  h.acc a.hn a.hb a.hg (lt_of_heap a.hG) (lt_of_heap a.hP) a.hpg a.hng a.hcur hi x0 x1 post
/-- What a method that accesses leaves. -/
def RefLeft (own : Nat → Nat) (t : Nat) (w : World) (p : Nat) (ws : List Int) (ns : List Note) (w' : World) : Prop := ∃ own', Fr own own' (· = t) w w' ∧ IsRef own' t w' p ws ns
theorem RefLeft.below {own : Nat → Nat} {t : Nat} {w w1 w2 : World} {p : Nat} {ws : List Int} {ns : List Note} (h : RefLeft own t w p ws ns w1) (b : Below w1.heap.size w1 w2) : RefLeft own t w p ws ns w2 := by
  obtain ⟨o, f, m⟩ := h
  exact ⟨o, f.trans (Fr.below b), m.below b⟩

end Go.Proofs.Ytndigbkhaajjoaa
namespace Go.Proofs.Ytndigbkhaajjoaa
open Go.RowKit
set_option linter.unusedVariables false
set_option linter.unusedSimpArgs false

theorem grow_drew {w w1 : World} {row : Option Nat} (h : w.drew.grownBy w1 row) : w.grownBy w1 row := ⟨h.os, h.tape, h.output, h.size, h.block⟩
theorem arr_set_same {cur : Array Value} {i : Nat} {x : Value} (h : cur[i]? = some x) : cur.setIfInBounds i x = cur := by
  apply Array.ext_getElem?
  intro j
  rw [Array.getElem?_setIfInBounds]
  split
  · rename_i e
    subst e
    have : i < cur.size := by
      rcases Nat.lt_or_ge i cur.size with h1 | h1
      · exact h1
      · rw [Array.getElem?_eq_none h1] at h; cases h
    rw [if_pos this, h]
  · rfl
/-- What the append of a note leaves, ahead of the store of the new row. -/
structure RefMid (w w1 : World) (p g g' cap : Nat) (wv nv : Value) (cur : Array Value) (k : Nat) (ns note : List Value) : Prop where
  str : Str w w1
  bp : w1.heap[p]? = some (.cells #[wv, nv] 66 (0, 0))
  bg : w1.heap[g]? = some (.cells cur 35 (0, 0))
  bk : ∀ b, b < w.heap.size → some b ≠ nv.ownBlock → w1.heap[b]? = w.heap[b]?
  row : w1.ownsRow 0 141 5 (.slice (some ⟨g', 0, none⟩) (k + 1) cap) (k + 1) (ns ++ note)
  hat : nv.ownBlock = some g' ∨ w.heap.size ≤ g'
theorem ref_mid {w w1 : World} {p g g' cap : Nat} {wv nv : Value} {cur : Array Value} {k : Nat} {ns note : List Value} {o : Obj}
    (hP : w.heap[p]? = some (.cells #[wv, nv] 66 (0, 0))) (hG : w.heap[g]? = some (.cells cur 35 (0, 0))) (hnp : nv.ownBlock ≠ some p) (hng : nv.ownBlock ≠ some g)
    (hown : w1.ownsRow 0 141 5 (.slice (some ⟨g', 0, none⟩) (k + 1) cap) (k + 1) (ns ++ note)) (hgrow : (w.alloc o).grownBy w1 nv.ownBlock) (hat : nv.ownBlock = some g' ∨ g' = (w.alloc o).heap.size) :
    RefMid w w1 p g g' cap wv nv cur k ns note := by
  have lt0 := lt_of_heap hP
  have lt1 := lt_of_heap hG
  have bk : ∀ b, b < w.heap.size → some b ≠ nv.ownBlock → w1.heap[b]? = w.heap[b]? := fun b h1 h2 => (hgrow.block b (by simp only [World.size_alloc]; omega) h2).trans (heap_old h1)
  exact ⟨Str.grown (Str.alloc (Str.refl _) _) hgrow, (bk p lt0 (fun e => hnp e.symm)).trans hP, (bk g lt1 (fun e => hng e.symm)).trans hG, bk, hown, hat.imp id (fun e => by rw [e]; simp only [World.size_alloc]; omega)⟩
theorem RefMid.load {w w1 : World} {p g g' cap : Nat} {wv nv : Value} {cur : Array Value} {k : Nat} {ns note : List Value} (m : RefMid w w1 p g g' cap wv nv cur k ns note) {at_ : Nat} {x : Value} (hx : cur[at_]? = some x) (lp : p < w.heap.size) (hpg : p ≠ g) (hnp : nv.ownBlock ≠ some p) :
    RefPost w (w1.setCell ⟨p, 1, none⟩ (.slice (some ⟨g', 0, none⟩) (k + 1) cap)) p g wv nv cur k ns at_ x note := by
  have hgp' : g' ≠ p := fun e => m.hat.elim (fun h => hnp (by rw [h, e])) (fun h => by omega)
  refine ⟨m.str.set _ _, ?_, ⟨_, heap_set m.bp, own_of_block m.row fun b hb => ?_, g', rfl, m.hat⟩, fun b h1 h2 h3 h4 => (heap_set_ne h2).trans (m.bk b h1 h4)⟩
  · rw [arr_set_same hx, heap_set_ne hpg.symm]
    exact m.bg
  · obtain rfl : g' = b := Option.some.inj hb
    exact heap_set_ne hgp'
theorem RefMid.store {w w1 : World} {p g g' cap : Nat} {wv nv : Value} {cur : Array Value} {k : Nat} {ns note : List Value} (m : RefMid w w1 p g g' cap wv nv cur k ns note) {at_ : Nat} (u : Value) (lp : p < w.heap.size) (lg : g < w.heap.size) (hpg : p ≠ g) (hnp : nv.ownBlock ≠ some p) (hng : nv.ownBlock ≠ some g) :
    RefPost w ((w1.setCell ⟨p, 1, none⟩ (.slice (some ⟨g', 0, none⟩) (k + 1) cap)).setCell ⟨g, at_, none⟩ u) p g wv nv cur k ns at_ u note := by
  have hgp' : g' ≠ p := fun e => m.hat.elim (fun h => hnp (by rw [h, e])) (fun h => by omega)
  have hgg' : g' ≠ g := fun e => m.hat.elim (fun h => hng (by rw [h, e])) (fun h => by omega)
  refine ⟨(m.str.set _ _).set _ _, ?_, ⟨_, (heap_set_ne hpg).trans (heap_set m.bp), own_of_block m.row fun b hb => ?_, g', rfl, m.hat⟩, fun b h1 h2 h3 h4 => (heap_set_ne h3).trans ((heap_set_ne h2).trans (m.bk b h1 h4))⟩
  · exact heap_set ((heap_set_ne hpg.symm).trans m.bg)
  · obtain rfl : g' = b := Option.some.inj hb
    exact (heap_set_ne hgg').trans (heap_set_ne hgp')
set_option maxHeartbeats 4000000 in
set_option maxRecDepth 100000 in
theorem ref_load (p g n c : Nat) (nv : Value) (cur : Array Value) (k : Nat) (ns : List Value) (at_ : Nat) (x : Int) (w : World)
    (hP : w.heap[p]? = some (.cells #[.slice (some ⟨g, 0, none⟩) n c, nv] 66 (0, 0))) (hG : w.heap[g]? = some (.cells cur 35 (0, 0))) (hx : cur[at_]? = some (.int .u64 x)) (hlt : at_ < n) (hm : n ≤ 9223372036854775807) (hpg : p ≠ g)
    (hn : w.ownsRow 0 141 5 nv k ns) (hnp : nv.ownBlock ≠ some p) (hng : nv.ownBlock ≠ some g) (hk : k ≤ 1000000000000) :
    Calls Try.prog 63 #[.pointer (some ⟨p, 0, none⟩), .int .i64 at_] w fun e w' => e = .returned (.tuple #[.int .u64 x, .int .i64 0]) ∧ RefPost w w' p g (.slice (some ⟨g, 0, none⟩) n c) nv cur k ns at_ (.int .u64 x) [.int .u8 108, .int .i64 at_, .int .u64 x, .int .u64 x, .bool true] := by
  have d0 : decide ((at_ : Int) < 0) = false := decide_eq_false (by omega)
  have d1 : decide ((n : Int) ≤ at_) = false := decide_eq_false (by omega)
  obtain ⟨hp0, hp1, hf0, hf1⟩ := cells2 hP
  have hg0 : w.cell? ⟨g, at_, none⟩ = some (.int .u64 x) := (cell_of hG at_).trans hx
  have lt0 : p < w.heap.size := lt_of_heap hP
  have lt1 : g < w.heap.size := lt_of_heap hG
  have HG := Lib.hid hG
  have HP := Lib.hid hP
  have HX := Lib.hid hx
  clear hG hP hx
  go_enter Try.func63, Try.ntmps63
  obtain ⟨i0, hi, hz0, hz1, hz2⟩ := info_parts infoRef
  go_wp2_with (first | (at_builtin; go_must (refine wpList_append_lies _ (by rfl) _ _ _ (by rfl) 0 141 i0 _ 5 40 Try.underlying64 hi hz0 hz1 hz2 rfl (by decide) nv k ns (by rfl) (hn.alloc _) ⟨w.heap.size, 0, none⟩ 1 1 [.int .u8 108, .int .i64 at_, .int .u64 x, .int .u64 x, .bool true] (by rfl) rfl (by exact World.news_of_block (cs := #[.int .u8 108, .int .i64 at_, .int .u64 x, .int .u64 x, .bool true]) (t := 141) (fr := (0, 0)) (heap_new rfl)) (by simp [Value.oneCell']) (by decide) (by unfold maxLen; omega) (by omega) (Nat.zero_le _) _ rfl ?_); intro g' cap w1 hown hgrow hat hltg; (have MID := Lib.hid (ref_mid HP.out HG.out hnp hng hown hgrow hat)); (obtain ⟨cp0, cp1, cp2, cp3⟩ := cells2 MID.out.bp); clear hown hgrow hat))
  go_ret2
  exact ⟨rfl, MID.out.load HX.out lt0 hpg hnp⟩
end Go.Proofs.Ytndigbkhaajjoaa
namespace Go.Proofs.Ytndigbkhaajjoaa
open Go.RowKit
set_option linter.unusedVariables false
set_option linter.unusedSimpArgs false

set_option maxHeartbeats 4000000 in
set_option maxRecDepth 100000 in
theorem ref_store (p g n c : Nat) (nv : Value) (cur : Array Value) (k : Nat) (ns : List Value) (at_ : Nat) (x v : Int) (w : World)
    (hP : w.heap[p]? = some (.cells #[.slice (some ⟨g, 0, none⟩) n c, nv] 66 (0, 0))) (hG : w.heap[g]? = some (.cells cur 35 (0, 0))) (hx : cur[at_]? = some (.int .u64 x)) (hlt : at_ < n) (hm : n ≤ 9223372036854775807) (hpg : p ≠ g)
    (hn : w.ownsRow 0 141 5 nv k ns) (hnp : nv.ownBlock ≠ some p) (hng : nv.ownBlock ≠ some g) (hk : k ≤ 1000000000000) :
    Calls Try.prog 60 #[.pointer (some ⟨p, 0, none⟩), .int .i64 at_, .int .u64 v] w fun e w' => e = .returned (.int .i64 0) ∧ RefPost w w' p g (.slice (some ⟨g, 0, none⟩) n c) nv cur k ns at_ (.int .u64 v) [.int .u8 115, .int .i64 at_, .int .u64 x, .int .u64 v, .bool true] := by
  have d0 : decide ((at_ : Int) < 0) = false := decide_eq_false (by omega)
  have d1 : decide ((n : Int) ≤ at_) = false := decide_eq_false (by omega)
  obtain ⟨hp0, hp1, hf0, hf1⟩ := cells2 hP
  have hg0 : w.cell? ⟨g, at_, none⟩ = some (.int .u64 x) := (cell_of hG at_).trans hx
  have lt0 : p < w.heap.size := lt_of_heap hP
  have lt1 : g < w.heap.size := lt_of_heap hG
  have lt0a : p < w.heap.size + 1 := by omega
  have lt1a : g < w.heap.size + 1 := by omega
  have ne0 : ¬ p = w.heap.size := by omega
  have ne1 : ¬ g = w.heap.size := by omega
  have HG := Lib.hid hG
  have HP := Lib.hid hP
  have HX := Lib.hid hx
  clear hG hP hx
  go_enter Try.func60, Try.ntmps60
  obtain ⟨i0, hi, hz0, hz1, hz2⟩ := info_parts infoRef
  go_wp2
  go_region_law ((refine step_append_lies _ (by rfl) _ _ _ (by rfl) 0 141 i0 _ 5 40 Try.underlying64 hi hz0 hz1 hz2 rfl (by decide) nv k ns (by rfl) (by repeat (first | exact hn | refine World.ownsRow.alloc ?_ _ | refine own_drew ?_)) ⟨w.heap.size, 0, none⟩ 1 1 [.int .u8 115, .int .i64 at_, .int .u64 x, .int .u64 v, .bool true] (by rfl) rfl (by exact World.news_of_block (cs := #[.int .u8 115, .int .i64 at_, .int .u64 x, .int .u64 v, .bool true]) (t := 141) (fr := (0, 0)) (by exact heap_new rfl)) (by simp [Value.oneCell']) (by decide) (by unfold maxLen; omega) (by omega) (Nat.zero_le _) _ rfl ?_); intro g' cap w1 hown hgrow hat hltg; (have MID := Lib.hid (ref_mid HP.out HG.out hnp hng hown (grow_drew hgrow) hat)); (obtain ⟨cp0, cp1, cp2, cp3⟩ := cells2 MID.out.bp); (have cg1 := free_of MID.out.bg at_); (have cg0 := (cell_of MID.out.bg at_).trans HX.out); clear hown hgrow hat)
  all_goals go_wp2
  all_goals go_ret
  all_goals exact ⟨rfl, MID.out.store _ lt0 lt1 hpg hnp hng⟩
end Go.Proofs.Ytndigbkhaajjoaa
namespace Go.Proofs.Ytndigbkhaajjoaa
open Go.RowKit
set_option linter.unusedVariables false
set_option linter.unusedSimpArgs false

set_option maxHeartbeats 4000000 in
set_option maxRecDepth 100000 in
theorem ref_miss (p g n c : Nat) (nv : Value) (cur : Array Value) (k : Nat) (ns : List Value) (at_ : Nat) (x old v : Int) (w : World) (hne : (x == old) = false)
    (hP : w.heap[p]? = some (.cells #[.slice (some ⟨g, 0, none⟩) n c, nv] 66 (0, 0))) (hG : w.heap[g]? = some (.cells cur 35 (0, 0))) (hx : cur[at_]? = some (.int .u64 x)) (hlt : at_ < n) (hm : n ≤ 9223372036854775807) (hpg : p ≠ g)
    (hn : w.ownsRow 0 141 5 nv k ns) (hnp : nv.ownBlock ≠ some p) (hng : nv.ownBlock ≠ some g) (hk : k ≤ 1000000000000) :
    Calls Try.prog 64 #[.pointer (some ⟨p, 0, none⟩), .int .i64 at_, .int .u64 old, .int .u64 v] w fun e w' => e = .returned (.tuple #[.bool false, .int .i64 0]) ∧ RefPost w w' p g (.slice (some ⟨g, 0, none⟩) n c) nv cur k ns at_ (.int .u64 x) [.int .u8 99, .int .i64 at_, .int .u64 x, .int .u64 x, .bool false] := by
  have d0 : decide ((at_ : Int) < 0) = false := decide_eq_false (by omega)
  have d1 : decide ((n : Int) ≤ at_) = false := decide_eq_false (by omega)
  have e1 : (x != old) = true := bne_iff_ne.mpr (by simpa using hne)
  obtain ⟨hp0, hp1, hf0, hf1⟩ := cells2 hP
  have hg0 : w.cell? ⟨g, at_, none⟩ = some (.int .u64 x) := (cell_of hG at_).trans hx
  have lt0 : p < w.heap.size := lt_of_heap hP
  have lt1 : g < w.heap.size := lt_of_heap hG
  have HG := Lib.hid hG
  have HP := Lib.hid hP
  have HX := Lib.hid hx
  clear hG hP hx
  go_enter Try.func64, Try.ntmps64
  obtain ⟨i0, hi, hz0, hz1, hz2⟩ := info_parts infoRef
  go_wp2_with (first | (at_builtin; go_must (refine wpList_append_lies _ (by rfl) _ _ _ (by rfl) 0 141 i0 _ 5 40 Try.underlying64 hi hz0 hz1 hz2 rfl (by decide) nv k ns (by rfl) (hn.alloc _) ⟨w.heap.size, 0, none⟩ 1 1 [.int .u8 99, .int .i64 at_, .int .u64 x, .int .u64 x, .bool false] (by rfl) rfl (by exact World.news_of_block (cs := #[.int .u8 99, .int .i64 at_, .int .u64 x, .int .u64 x, .bool false]) (t := 141) (fr := (0, 0)) (heap_new rfl)) (by simp [Value.oneCell']) (by decide) (by unfold maxLen; omega) (by omega) (Nat.zero_le _) _ rfl ?_); intro g' cap w1 hown hgrow hat hltg; (have MID := Lib.hid (ref_mid HP.out HG.out hnp hng hown hgrow hat)); (obtain ⟨cp0, cp1, cp2, cp3⟩ := cells2 MID.out.bp); (have cg1 := free_of MID.out.bg at_); (have cg0 := (cell_of MID.out.bg at_).trans HX.out); clear hown hgrow hat))
  go_ret2
  exact ⟨rfl, MID.out.load HX.out lt0 hpg hnp⟩
set_option maxHeartbeats 4000000 in
set_option maxRecDepth 100000 in
theorem ref_hit (p g n c : Nat) (nv : Value) (cur : Array Value) (k : Nat) (ns : List Value) (at_ : Nat) (x old v : Int) (w : World) 
    (hP : w.heap[p]? = some (.cells #[.slice (some ⟨g, 0, none⟩) n c, nv] 66 (0, 0))) (hG : w.heap[g]? = some (.cells cur 35 (0, 0))) (hx : cur[at_]? = some (.int .u64 x)) (hlt : at_ < n) (hm : n ≤ 9223372036854775807) (hpg : p ≠ g)
    (hn : w.ownsRow 0 141 5 nv k ns) (hnp : nv.ownBlock ≠ some p) (hng : nv.ownBlock ≠ some g) (hk : k ≤ 1000000000000) :
    Calls Try.prog 64 #[.pointer (some ⟨p, 0, none⟩), .int .i64 at_, .int .u64 x, .int .u64 v] w fun e w' => e = .returned (.tuple #[.bool true, .int .i64 0]) ∧ RefPost w w' p g (.slice (some ⟨g, 0, none⟩) n c) nv cur k ns at_ (.int .u64 v) [.int .u8 99, .int .i64 at_, .int .u64 x, .int .u64 v, .bool true] := by
  have d0 : decide ((at_ : Int) < 0) = false := decide_eq_false (by omega)
  have d1 : decide ((n : Int) ≤ at_) = false := decide_eq_false (by omega)
  obtain ⟨hp0, hp1, hf0, hf1⟩ := cells2 hP
  have hg0 : w.cell? ⟨g, at_, none⟩ = some (.int .u64 x) := (cell_of hG at_).trans hx
  have lt0 : p < w.heap.size := lt_of_heap hP
  have lt1 : g < w.heap.size := lt_of_heap hG
  have HG := Lib.hid hG
  have HP := Lib.hid hP
  have HX := Lib.hid hx
  clear hG hP hx
  go_enter Try.func64, Try.ntmps64
  obtain ⟨i0, hi, hz0, hz1, hz2⟩ := info_parts infoRef
  go_wp2_with (first | (at_builtin; go_must (refine wpList_append_lies _ (by rfl) _ _ _ (by rfl) 0 141 i0 _ 5 40 Try.underlying64 hi hz0 hz1 hz2 rfl (by decide) nv k ns (by rfl) (hn.alloc _) ⟨w.heap.size, 0, none⟩ 1 1 [.int .u8 99, .int .i64 at_, .int .u64 x, .int .u64 v, .bool true] (by rfl) rfl (by exact World.news_of_block (cs := #[.int .u8 99, .int .i64 at_, .int .u64 x, .int .u64 v, .bool true]) (t := 141) (fr := (0, 0)) (heap_new rfl)) (by simp [Value.oneCell']) (by decide) (by unfold maxLen; omega) (by omega) (Nat.zero_le _) _ rfl ?_); intro g' cap w1 hown hgrow hat hltg; (have MID := Lib.hid (ref_mid HP.out HG.out hnp hng hown hgrow hat)); (obtain ⟨cp0, cp1, cp2, cp3⟩ := cells2 MID.out.bp); (have cg1 := free_of MID.out.bg at_); (have cg0 := (cell_of MID.out.bg at_).trans HX.out); clear hown hgrow hat))
  go_ret2
  exact ⟨rfl, MID.out.store _ lt0 lt1 hpg hnp hng⟩
end Go.Proofs.Ytndigbkhaajjoaa
namespace Go.Proofs.Ytndigbkhaajjoaa
open Go.RowKit
set_option linter.unusedVariables false
set_option linter.unusedSimpArgs false

theorem rload_in (own : Nat → Nat) (t p : Nat) (ws : List Int) (ns : List Note) (i : Nat) (x : Int) (w : World) (h : IsRef own t w p ws ns) (hx : rdW ws i = x) (hi : i < ws.length) (hk : ns.length ≤ 1000000000000) :
    Calls Try.prog 63 #[.pointer (some ⟨p, 0, none⟩), .int .i64 i] w fun e w' => e = .returned (.tuple #[.int .u64 x, .int .i64 0]) ∧ RefLeft own t w p ws (ns ++ [⟨108, i, x, x, true⟩]) w' := by
  subst hx
  obtain ⟨g, c, nv, cur, a⟩ := h.at_ hi
  have hl := h.len
  have hx := rdW_rng h.rng hi
  refine (ref_load p g ws.length c nv cur ns.length (noteCells ns) i (rdW ws i) w a.hP a.hG (cur_at a.hcur hi) hi (by omega) a.hpg a.hn a.np a.hng hk).mono ?_
  rintro e w' ⟨rfl, hp⟩
  refine ⟨rfl, ?_⟩
  have := a.after h hi (nt := ⟨108, i, rdW ws i, rdW ws i, true⟩) hx.1 hx.2 hp
  rw [set_self hi] at this
  exact this
theorem rmiss_in (own : Nat → Nat) (t p : Nat) (ws : List Int) (ns : List Note) (i : Nat) (x old v : Int) (w : World) (h : IsRef own t w p ws ns) (hx : rdW ws i = x) (hi : i < ws.length) (hk : ns.length ≤ 1000000000000) (hne : (x == old) = false) :
    Calls Try.prog 64 #[.pointer (some ⟨p, 0, none⟩), .int .i64 i, .int .u64 old, .int .u64 v] w fun e w' => e = .returned (.tuple #[.bool false, .int .i64 0]) ∧ RefLeft own t w p ws (ns ++ [⟨99, i, x, x, false⟩]) w' := by
  subst hx
  obtain ⟨g, c, nv, cur, a⟩ := h.at_ hi
  have hl := h.len
  have hx := rdW_rng h.rng hi
  refine (ref_miss p g ws.length c nv cur ns.length (noteCells ns) i (rdW ws i) old v w hne a.hP a.hG (cur_at a.hcur hi) hi (by omega) a.hpg a.hn a.np a.hng hk).mono ?_
  rintro e w' ⟨rfl, hp⟩
  refine ⟨rfl, ?_⟩
  have := a.after h hi (nt := ⟨99, i, rdW ws i, rdW ws i, false⟩) hx.1 hx.2 hp
  rw [set_self hi] at this
  exact this
theorem rhit_in (own : Nat → Nat) (t p : Nat) (ws : List Int) (ns : List Note) (i : Nat) (x v : Int) (w : World) (h : IsRef own t w p ws ns) (hx : rdW ws i = x) (hi : i < ws.length) (hk : ns.length ≤ 1000000000000) (v0 : 0 ≤ v) (v1 : v < 18446744073709551616) :
    Calls Try.prog 64 #[.pointer (some ⟨p, 0, none⟩), .int .i64 i, .int .u64 x, .int .u64 v] w fun e w' => e = .returned (.tuple #[.bool true, .int .i64 0]) ∧ RefLeft own t w p (ws.set i v) (ns ++ [⟨99, i, x, v, true⟩]) w' := by
  subst hx
  obtain ⟨g, c, nv, cur, a⟩ := h.at_ hi
  have hl := h.len
  refine (ref_hit p g ws.length c nv cur ns.length (noteCells ns) i (rdW ws i) 0 v w a.hP a.hG (cur_at a.hcur hi) hi (by omega) a.hpg a.hn a.np a.hng hk).mono ?_
  rintro e w' ⟨rfl, hp⟩
  exact ⟨rfl, a.after h hi (nt := ⟨99, i, rdW ws i, v, true⟩) v0 v1 hp⟩
theorem rstore_in (own : Nat → Nat) (t p : Nat) (ws : List Int) (ns : List Note) (i : Nat) (x v : Int) (w : World) (h : IsRef own t w p ws ns) (hx : rdW ws i = x) (hi : i < ws.length) (hk : ns.length ≤ 1000000000000) (v0 : 0 ≤ v) (v1 : v < 18446744073709551616) :
    Calls Try.prog 60 #[.pointer (some ⟨p, 0, none⟩), .int .i64 i, .int .u64 v] w fun e w' => e = .returned (.int .i64 0) ∧ RefLeft own t w p (ws.set i v) (ns ++ [⟨115, i, x, v, true⟩]) w' := by
  subst hx
  obtain ⟨g, c, nv, cur, a⟩ := h.at_ hi
  have hl := h.len
  refine (ref_store p g ws.length c nv cur ns.length (noteCells ns) i (rdW ws i) v w a.hP a.hG (cur_at a.hcur hi) hi (by omega) a.hpg a.hn a.np a.hng hk).mono ?_
  rintro e w' ⟨rfl, hp⟩
  exact ⟨rfl, a.after h hi (nt := ⟨115, i, rdW ws i, v, true⟩) v0 v1 hp⟩
end Go.Proofs.Ytndigbkhaajjoaa
namespace Go.Proofs.Ytndigbkhaajjoaa
open Go.RowKit
set_option linter.unusedVariables false
set_option linter.unusedSimpArgs false

set_option maxHeartbeats 1000000 in
theorem rload_low (p n c : Nat) (A : Option Addr) (i : Int) (w : World) (hp0 : w.cell? ⟨p, 0, none⟩ = some (.slice A n c)) (hi : i < 0) :
    Calls Try.prog 63 #[.pointer (some ⟨p, 0, none⟩), .int .i64 i] w fun e w' => e = .returned (.tuple #[.int .u64 0, .int .i64 2]) ∧ Below w.heap.size w w' := by
  have d0 : decide (i < 0) = true := decide_eq_true hi
  go_enter Try.func63, Try.ntmps63
  go_wp2
  repeat (go_quiet (fail); try go_wp2)
  go_ret2
  exact ⟨rfl, by repeat (first | exact bl_refl _ | refine bl_alloc ?_ _ | refine bl_drewN ?_ _ | refine bl_drew ?_)⟩
set_option maxHeartbeats 1000000 in
theorem rload_high (p n c : Nat) (A : Option Addr) (i : Int) (w : World) (hp0 : w.cell? ⟨p, 0, none⟩ = some (.slice A n c)) (hi : (n : Int) ≤ i) :
    Calls Try.prog 63 #[.pointer (some ⟨p, 0, none⟩), .int .i64 i] w fun e w' => e = .returned (.tuple #[.int .u64 0, .int .i64 2]) ∧ Below w.heap.size w w' := by
  have d0 : decide (i < 0) = false := decide_eq_false (by omega)
  have d1 : decide ((n : Int) ≤ i) = true := decide_eq_true hi
  go_enter Try.func63, Try.ntmps63
  go_wp2
  repeat (go_quiet (fail); try go_wp2)
  go_ret2
  exact ⟨rfl, by repeat (first | exact bl_refl _ | refine bl_alloc ?_ _ | refine bl_drewN ?_ _ | refine bl_drew ?_)⟩
theorem rload_out (own : Nat → Nat) (t p : Nat) (ws : List Int) (ns : List Note) (i : Int) (w : World) (h : IsRef own t w p ws ns) (hi : i < 0 ∨ (ws.length : Int) ≤ i) :
    Calls Try.prog 63 #[.pointer (some ⟨p, 0, none⟩), .int .i64 i] w fun e w' => e = .returned (.tuple #[.int .u64 0, .int .i64 2]) ∧ Below w.heap.size w w' := by
  obtain ⟨A, c, nv, hP, _⟩ := h.body
  rcases hi with hi | hi
  · exact rload_low p _ c A i w (cells2 hP).1 hi
  · exact rload_high p _ c A i w (cells2 hP).1 hi
set_option maxHeartbeats 1000000 in
theorem rstore_low (p n c : Nat) (A : Option Addr) (i : Int) (v : Int) (w : World) (hp0 : w.cell? ⟨p, 0, none⟩ = some (.slice A n c)) (hi : i < 0) :
    Calls Try.prog 60 #[.pointer (some ⟨p, 0, none⟩), .int .i64 i, .int .u64 v] w fun e w' => e = .returned (.int .i64 2) ∧ Below w.heap.size w w' := by
  have d0 : decide (i < 0) = true := decide_eq_true hi
  go_enter Try.func60, Try.ntmps60
  go_wp2
  repeat (go_quiet (fail); try go_wp2)
  go_ret
  exact ⟨rfl, by repeat (first | exact bl_refl _ | refine bl_alloc ?_ _ | refine bl_drewN ?_ _ | refine bl_drew ?_)⟩
set_option maxHeartbeats 1000000 in
theorem rstore_high (p n c : Nat) (A : Option Addr) (i : Int) (v : Int) (w : World) (hp0 : w.cell? ⟨p, 0, none⟩ = some (.slice A n c)) (hi : (n : Int) ≤ i) :
    Calls Try.prog 60 #[.pointer (some ⟨p, 0, none⟩), .int .i64 i, .int .u64 v] w fun e w' => e = .returned (.int .i64 2) ∧ Below w.heap.size w w' := by
  have d0 : decide (i < 0) = false := decide_eq_false (by omega)
  have d1 : decide ((n : Int) ≤ i) = true := decide_eq_true hi
  go_enter Try.func60, Try.ntmps60
  go_wp2
  repeat (go_quiet (fail); try go_wp2)
  go_ret
  exact ⟨rfl, by repeat (first | exact bl_refl _ | refine bl_alloc ?_ _ | refine bl_drewN ?_ _ | refine bl_drew ?_)⟩
theorem rstore_out (own : Nat → Nat) (t p : Nat) (ws : List Int) (ns : List Note) (i : Int) (v : Int) (w : World) (h : IsRef own t w p ws ns) (hi : i < 0 ∨ (ws.length : Int) ≤ i) :
    Calls Try.prog 60 #[.pointer (some ⟨p, 0, none⟩), .int .i64 i, .int .u64 v] w fun e w' => e = .returned (.int .i64 2) ∧ Below w.heap.size w w' := by
  obtain ⟨A, c, nv, hP, _⟩ := h.body
  rcases hi with hi | hi
  · exact rstore_low p _ c A i v w (cells2 hP).1 hi
  · exact rstore_high p _ c A i v w (cells2 hP).1 hi
set_option maxHeartbeats 1000000 in
theorem rswap_low (p n c : Nat) (A : Option Addr) (i : Int) (old v : Int) (w : World) (hp0 : w.cell? ⟨p, 0, none⟩ = some (.slice A n c)) (hi : i < 0) :
    Calls Try.prog 64 #[.pointer (some ⟨p, 0, none⟩), .int .i64 i, .int .u64 old, .int .u64 v] w fun e w' => e = .returned (.tuple #[.bool false, .int .i64 2]) ∧ Below w.heap.size w w' := by
  have d0 : decide (i < 0) = true := decide_eq_true hi
  go_enter Try.func64, Try.ntmps64
  go_wp2
  repeat (go_quiet (fail); try go_wp2)
  go_ret2
  exact ⟨rfl, by repeat (first | exact bl_refl _ | refine bl_alloc ?_ _ | refine bl_drewN ?_ _ | refine bl_drew ?_)⟩
set_option maxHeartbeats 1000000 in
theorem rswap_high (p n c : Nat) (A : Option Addr) (i : Int) (old v : Int) (w : World) (hp0 : w.cell? ⟨p, 0, none⟩ = some (.slice A n c)) (hi : (n : Int) ≤ i) :
    Calls Try.prog 64 #[.pointer (some ⟨p, 0, none⟩), .int .i64 i, .int .u64 old, .int .u64 v] w fun e w' => e = .returned (.tuple #[.bool false, .int .i64 2]) ∧ Below w.heap.size w w' := by
  have d0 : decide (i < 0) = false := decide_eq_false (by omega)
  have d1 : decide ((n : Int) ≤ i) = true := decide_eq_true hi
  go_enter Try.func64, Try.ntmps64
  go_wp2
  repeat (go_quiet (fail); try go_wp2)
  go_ret2
  exact ⟨rfl, by repeat (first | exact bl_refl _ | refine bl_alloc ?_ _ | refine bl_drewN ?_ _ | refine bl_drew ?_)⟩
theorem rswap_out (own : Nat → Nat) (t p : Nat) (ws : List Int) (ns : List Note) (i : Int) (old v : Int) (w : World) (h : IsRef own t w p ws ns) (hi : i < 0 ∨ (ws.length : Int) ≤ i) :
    Calls Try.prog 64 #[.pointer (some ⟨p, 0, none⟩), .int .i64 i, .int .u64 old, .int .u64 v] w fun e w' => e = .returned (.tuple #[.bool false, .int .i64 2]) ∧ Below w.heap.size w w' := by
  obtain ⟨A, c, nv, hP, _⟩ := h.body
  rcases hi with hi | hi
  · exact rswap_low p _ c A i old v w (cells2 hP).1 hi
  · exact rswap_high p _ c A i old v w (cells2 hP).1 hi
end Go.Proofs.Ytndigbkhaajjoaa
namespace Go.Proofs.Ytndigbkhaajjoaa
open Go.RowKit
set_option linter.unusedVariables false
set_option linter.unusedSimpArgs false

set_option maxHeartbeats 1000000 in
theorem rnew_no (A : Option Addr) (n c : Nat) (w : World) (hl : 1024 < n) :
    Calls Try.prog 27 #[.slice A n c] w fun e w' => e = .returned (.tuple #[.pointer none, .int .i64 1]) ∧ w' = w := by
  have d0 : decide ((1024 : Int) < n) = true := decide_eq_true (by omega)
  go_enter Try.func27, Try.ntmps27
  go_wp2
  go_ret2
  exact ⟨rfl, rfl⟩
/-- A document's memory that is made. -/
def RNewPost (own : Nat → Nat) (t : Nat) (w : World) (ws : List Int) (e : Ending) (w' : World) : Prop :=
  ∃ p own', e = .returned (.tuple #[.pointer (some ⟨p, 0, none⟩), .int .i64 0]) ∧ w.heap.size ≤ p ∧ Fr own own' (fun _ => False) w w' ∧ IsRef own' t w' p ws []
theorem rnew_below {w w1 : World} {o : Obj} {b : Nat} (hb : b = w.heap.size) (g : (w.alloc o).grownBy w1 (some b)) : Below w.heap.size w w1 :=
  ⟨g.os, g.tape, g.output, Nat.le_trans (by simp) g.size, fun b' h => (g.block b' (by simp only [World.size_alloc]; omega) (by intro e; have := Option.some.inj e; omega)).trans (heap_old h)⟩
theorem rmem_made {own : Nat → Nat} {t : Nat} {w w1 : World} {ws : List Int} {g c : Nat} (hl : ws.length ≤ 1024) (hr : ∀ x ∈ ws, 0 ≤ x ∧ x < 18446744073709551616) (hb : Below w.heap.size w w1)
    (ho : w1.ownsRow w.heap.size 35 1 (.slice (some ⟨g, 0, none⟩) ws.length c) ws.length (ws.map fun x => Value.int .u64 x)) :
    IsRef (fun b => if b < w.heap.size then own b else t) t (w1.alloc (.cells #[.slice (some ⟨g, 0, none⟩) ws.length c, .slice none 0 0] 66)) w1.heap.size ws [] := by
  have hs := hb.size
  refine ⟨hl, hr, by simp only [show ¬ w1.heap.size < w.heap.size by omega, if_false], some ⟨g, 0, none⟩, c, .slice none 0 0, heap_new rfl, World.ownsRow_nil _ _ _ _, (fun b e => by cases e), ?_⟩
  rcases ho.2 with ⟨e, e0⟩ | ⟨g, cap, cur, e, hg, hh, h1, h2, h3, h4⟩
  · exact .inl (List.eq_nil_of_length_eq_zero e0)
  · simp only [Value.slice.injEq] at e
    obtain ⟨e1, _, rfl⟩ := e
    have lg := lt_of_heap hh
    refine .inr ⟨g, cur, e1, by simp only [show ¬ g < w.heap.size by omega, if_false], by omega, by rw [heap_old lg]; exact hh, ?_, by simp [Value.ownBlock]⟩
    rw [Nat.mul_one] at h4
    exact h4
theorem infoU64 : (Try.prog.info? 35).map (fun i => (i.zero, i.size, i.bytes)) = some (some (.int .u64 0), 1, 8) := by kernel_rfl
set_option maxHeartbeats 1000000 in
theorem rnew_ok (own : Nat → Nat) (t : Nat) (ad : Addr) (c : Nat) (ws : List Int) (w : World) (hr : RdU w (some ad) ws) (hl : ws.length ≤ 1024) (h0 : 0 < ws.length) (hv : ∀ x ∈ ws, 0 ≤ x ∧ x < 18446744073709551616) :
    Calls Try.prog 27 #[.slice (some ad) ws.length c] w (RNewPost own t w ws) := by
  have d0 : decide ((1024 : Int) < ws.length) = false := decide_eq_false (by omega)
  go_enter Try.func27, Try.ntmps27
  obtain ⟨i0, hi, hz0, hz1, hz2⟩ := info_parts infoU64
  have hcl : ∀ j u, (ws.map fun x => Value.int .u64 x)[j]? = some u → (w.alloc (.cells #[] 35)).cell? (ad.add j) = some u := by
    obtain ⟨ad', e, hc⟩ := (hr.kept (bl_alloc (bl_refl w) (.cells #[] 35))).at_ h0
    cases e
    exact hc
  go_wp2_with (at_builtin; go_must (refine wpList_append_lies _ (by rfl) _ _ _ (by rfl) w.heap.size 35 i0 _ 1 8 Try.underlying28 hi hz0 hz1 hz2 rfl (by decide) (.slice (some ⟨w.heap.size, 0, none⟩) 0 0) 0 [] (by rfl) ⟨rfl, .inr ⟨_, 0, #[], rfl, Nat.le_refl _, heap_new rfl, by simp, by simp, by simp, by simp⟩⟩ ad ws.length c (ws.map fun x => .int .u64 x) (by rfl) (by simp) hcl (u64_one ws) h0 (by unfold maxLen; omega) (by omega) (by simp) _ rfl ?_); go_must (intro g' cap w1 hown hgrow hat hltg); (have HO := Lib.hid hown); (have HG := Lib.hid hgrow); clear hown hgrow)
  go_ret2
  have hB := rnew_below rfl HG.out
  have hO := HO.out
  simp only [Nat.zero_add, List.nil_append] at hO
  exact ⟨_, _, rfl, hB.size, Below.fr_new (bl_alloc hB _), by simpa only [Nat.zero_add] using rmem_made hl hv hB hO⟩
end Go.Proofs.Ytndigbkhaajjoaa
namespace Go.Proofs.Ytndigbkhaajjoaa
open Go.RowKit
set_option linter.unusedVariables false
set_option linter.unusedSimpArgs false

theorem rzero_made (own : Nat → Nat) (t : Nat) (w : World) : RNewPost own t w [] (.returned (.tuple #[.pointer (some ⟨w.heap.size + 1, 0, none⟩), .int .i64 0])) ((w.alloc (.cells #[] 35)).alloc (.cells #[.slice (some ⟨w.heap.size, 0, none⟩) 0 0, .slice none 0 0] 66)) := by
  refine ⟨w.heap.size + 1, fun b => if b < w.heap.size then own b else t, rfl, by omega, Below.fr_new (bl_alloc (bl_alloc (bl_refl w) _) _), by simp, fun x hx => by simp at hx, by simp only [show ¬ w.heap.size + 1 < w.heap.size by omega, if_false], some ⟨w.heap.size, 0, none⟩, 0, .slice none 0 0, heap_new (by simp), World.ownsRow_nil _ _ _ _, (fun b e => by cases e), .inl rfl⟩
set_option maxHeartbeats 1000000 in
theorem rnew_zero (own : Nat → Nat) (t : Nat) (A : Option Addr) (c : Nat) (w : World) :
    Calls Try.prog 27 #[.slice A 0 c] w (RNewPost own t w []) := by
  cases A with
  | none =>
    go_enter Try.func27, Try.ntmps27
    go_wp2
    go_ret2
    exact rzero_made own t w
  | some ad =>
    go_enter Try.func27, Try.ntmps27
    go_wp2
    go_ret2
    exact rzero_made own t w
end Go.Proofs.Ytndigbkhaajjoaa
