/-
  Worlds by their blocks: small lemmas for walks that write into objects.
  What an access of a memory leaves, as blocks.
  What an access of a memory does: load.
  What an access of a memory does: store.
  What an access of a memory does: swap.
  What an access of a memory does: miss.
  A memory as an object: what it holds, whose its blocks are, and what an access leaves of it.
  slices.Clone: a new row that holds what the old one does.
  The methods of a memory: what each tells, and what it leaves of the memory.
  More methods of a memory: places that are none, its length, its words, what was noted; a memory that is made.
  A memory's words as a new row; a memory that is made.
-/
import Derived.Test.YtgfeagggkplegaaGreatProg
import Derived.Test.YtgfeagggkplegaaGreatBase
import Derived.BigRegion
import Derived.Deep.RegionHeld3
import Derived.Deep.RegionLaw
import Derived.Deep.RegionLawGrows
import Derived.Deep.AppendLies
import Derived.KernelRfl
import Derived.WalkSpells
import Derived.Lib.SliceRun
namespace Go.Proofs.YtgfeagggkplegaaGreat
open Go.RowKit
set_option linter.unusedVariables false
set_option linter.unusedSimpArgs false

theorem heap_new {w : World} {o : Obj} {b : Nat} (h : w.heap.size = b) : (w.alloc o).heap[b]? = some o := by
  subst h
  show (w.heap.push o)[w.heap.size]? = _
  simp
theorem heap_old {w : World} {o : Obj} {b : Nat} (h : b < w.heap.size) : (w.alloc o).heap[b]? = w.heap[b]? := Below.heap_alloc _ _ _ h
theorem heap_set_ne {w : World} {a : Addr} {v : Value} {b : Nat} (h : b ≠ a.block) : (w.setCell a v).heap[b]? = w.heap[b]? := Below.heap_setCell _ _ _ _ h
theorem heap_set {w : World} {g o : Nat} {v : Value} {c : Array Value} {e : TypeId} {f : Nat × Nat} (h : w.heap[g]? = some (.cells c e f)) : (w.setCell ⟨g, o, none⟩ v).heap[g]? = some (.cells (c.setIfInBounds o v) e f) := by
  simp only [World.setCell, Array.getElem?_modify, if_true, h, Option.map_some]
  rfl
theorem heap_drew (w : World) : w.drew.heap = w.heap := rfl
theorem heap_size_set (w : World) (a : Addr) (v : Value) : (w.setCell a v).heap.size = w.heap.size := by simp [World.setCell]
theorem heap_size_drew (w : World) : w.drew.heap.size = w.heap.size := rfl
theorem own_drew {w : World} {base : Nat} {e : TypeId} {size : Nat} {v : Value} {n : Nat} {xs : List Value} (h : w.ownsRow base e size v n xs) : w.drew.ownsRow base e size v n xs := h
theorem own_of_block {w w' : World} {base : Nat} {e : TypeId} {size : Nat} {v : Value} {n : Nat} {xs : List Value} (h : w.ownsRow base e size v n xs) (hb : ∀ b, v.ownBlock = some b → w'.heap[b]? = w.heap[b]?) : w'.ownsRow base e size v n xs := by
  refine ⟨h.1, ?_⟩
  rcases h.2 with e | ⟨g, cap, cur, hv, hb', hh, r⟩
  · exact .inl e
  · refine .inr ⟨g, cap, cur, hv, hb', ?_, r⟩
    rw [hb g (by subst hv; rfl)]
    exact hh
theorem own_set {w : World} {base : Nat} {e : TypeId} {size : Nat} {v : Value} {n : Nat} {xs : List Value} (h : w.ownsRow base e size v n xs) {a : Addr} (ha : v.ownBlock ≠ some a.block) (u : Value) : (w.setCell a u).ownsRow base e size v n xs :=
  own_of_block h fun b hb => heap_set_ne fun e => ha (by rw [hb, e])
theorem cell_of {w : World} {b : Nat} {c : Array Value} {e : TypeId} {f : Nat × Nat} (h : w.heap[b]? = some (.cells c e f)) (o : Nat) : w.cell? ⟨b, o, none⟩ = c[o]? := by simp [World.cell?, h]
theorem free_of {w : World} {b : Nat} {c : Array Value} {e : TypeId} (h : w.heap[b]? = some (.cells c e (0, 0))) (o : Nat) : w.frozen? ⟨b, o, none⟩ = false := by simp [World.frozen?, h]
theorem lt_of_heap {w : World} {b : Nat} {o : Obj} (h : w.heap[b]? = some o) : b < w.heap.size := by
  rcases Nat.lt_or_ge b w.heap.size with h1 | h1
  · exact h1
  · rw [Array.getElem?_eq_none h1] at h; cases h
theorem cells2 {w : World} {b : Nat} {a0 a1 : Value} {e : TypeId} (h : w.heap[b]? = some (.cells #[a0, a1] e (0, 0))) : w.cell? ⟨b, 0, none⟩ = some a0 ∧ w.cell? ⟨b, 1, none⟩ = some a1 ∧ w.frozen? ⟨b, 0, none⟩ = false ∧ w.frozen? ⟨b, 1, none⟩ = false :=
  ⟨cell_of h 0, cell_of h 1, free_of h 0, free_of h 1⟩
theorem cells5 {w : World} {b : Nat} {a0 a1 a2 a3 a4 : Value} {e : TypeId} (h : w.heap[b]? = some (.cells #[a0, a1, a2, a3, a4] e (0, 0))) :
    w.cell? ⟨b, 0, none⟩ = some a0 ∧ w.cell? ⟨b, 1, none⟩ = some a1 ∧ w.cell? ⟨b, 2, none⟩ = some a2 ∧ w.cell? ⟨b, 3, none⟩ = some a3 ∧ w.cell? ⟨b, 4, none⟩ = some a4 ∧
    w.frozen? ⟨b, 0, none⟩ = false ∧ w.frozen? ⟨b, 1, none⟩ = false ∧ w.frozen? ⟨b, 2, none⟩ = false ∧ w.frozen? ⟨b, 3, none⟩ = false ∧ w.frozen? ⟨b, 4, none⟩ = false :=
  ⟨cell_of h 0, cell_of h 1, cell_of h 2, cell_of h 3, cell_of h 4, free_of h 0, free_of h 1, free_of h 2, free_of h 3, free_of h 4⟩
/-- The streams are as they were, and no block has gone. -/
structure Str (w w' : World) : Prop where
  os : w'.os = w.os
  tape : w'.tape = w.tape
  output : w'.output = w.output
  size : w.heap.size ≤ w'.heap.size
theorem Str.refl (w : World) : Str w w := ⟨rfl, rfl, rfl, Nat.le_refl _⟩
theorem Str.trans {a b c : World} (h : Str a b) (k : Str b c) : Str a c := ⟨k.os.trans h.os, k.tape.trans h.tape, k.output.trans h.output, Nat.le_trans h.size k.size⟩
theorem Str.alloc {a w : World} (h : Str a w) (o : Obj) : Str a (w.alloc o) := h.trans ⟨rfl, rfl, rfl, by simp⟩
theorem Str.set {a w : World} (h : Str a w) (p : Addr) (v : Value) : Str a (w.setCell p v) := h.trans ⟨rfl, rfl, rfl, by rw [heap_size_set]; exact Nat.le_refl _⟩
theorem Str.drew {a w : World} (h : Str a w) : Str a w.drew := ⟨h.os, h.tape, h.output, h.size⟩
theorem Str.grown {a w w' : World} {row : Option Nat} (h : Str a w) (g : w.grownBy w' row) : Str a w' := h.trans ⟨g.os, g.tape, g.output, g.size⟩
theorem Str.below {a w w' : World} {B : Nat} (h : Str a w) (g : Below B w w') : Str a w' := h.trans ⟨g.os, g.tape, g.output, g.size⟩
end Go.Proofs.YtgfeagggkplegaaGreat
namespace Go.Proofs.YtgfeagggkplegaaGreat
open Go.RowKit
set_option linter.unusedVariables false
set_option linter.unusedSimpArgs false

theorem infoAcc : (Tryz.prog.info? 132).map (fun i => (i.zero, i.size, i.bytes)) = some (some (.agg #[.int .u8 0, .int .i64 0, .int .u64 0, .int .u64 0, .bool false]), 5, 40) := by kernel_rfl
set_option maxHeartbeats 1000000 in
theorem ret_acc {R : Ending → World → Prop} {a : Act} {w : World} {b : Nat} {x0 x1 x2 x3 x4 y : Value} (ht : a.tmps.getD 6 undef = .pointer (some ⟨b, 0, none⟩)) (hy : a.tmps.getD 7 undef = y)
    (hb : w.heap[b]? = some (.cells #[x0, x1, x2, x3, x4] 132 (0, 0))) (hd : a.defers = []) (hR : R (.returned (.tuple #[.agg #[x0, x1, x2, x3, x4], y])) w) : bodyPost Tryz.prog Tryz.f63 R .ret a w := by
  obtain ⟨c0, c1, c2, c3, c4, _, _, _, _, _⟩ := cells5 hb
  refine bodyPost_ret (v := .tuple #[.agg #[x0, x1, x2, x3, x4], y]) ?_ hd hR
  simp only [Array.getD_eq_getD_getElem?] at ht hy
  simp [results, Tryz.results63, go_sem, ht, hy, c0, c1, c2, c3, c4]

/-- What is behind an access: the word and the note; all else is as it was. -/
structure AccPost (w w' : World) (p g : Nat) (wv nv : Value) (cur : Array Value) (k : Nat) (ns : List Value) (at_ : Nat) (u : Value) (note : List Value) : Prop where
  str : Str w w'
  words : w'.heap[g]? = some (.cells (cur.setIfInBounds at_ u) 25 (0, 0))
  notes : ∃ nv', w'.heap[p]? = some (.cells #[wv, nv'] 114 (0, 0)) ∧ w'.ownsRow 0 132 5 nv' (k + 1) (ns ++ note) ∧ ∃ b, nv'.ownBlock = some b ∧ (nv.ownBlock = some b ∨ w.heap.size ≤ b)
  keep : ∀ b, b < w.heap.size → b ≠ p → b ≠ g → some b ≠ nv.ownBlock → w'.heap[b]? = w.heap[b]?

theorem acc_tail {w w1 : World} {p g g' cap : Nat} {wv nv : Value} {cur : Array Value} {k : Nat} {ns : List Value} {at_ : Nat} {u : Value} {note : List Value} {x0 x1 x2 x3 x4 : Value}
    (lt0 : p < w.heap.size) (lt1 : g < w.heap.size) (hpg : p ≠ g) (hnp : nv.ownBlock ≠ some p) (hnl : ∀ b, w.heap.size ≤ b → some b ≠ nv.ownBlock)
    (st : Str w w1) (bp : w1.heap[p]? = some (.cells #[wv, nv] 114 (0, 0))) (bg : w1.heap[g]? = some (.cells (cur.setIfInBounds at_ u) 25 (0, 0)))
    (bk : ∀ b, b < w.heap.size → b ≠ g → some b ≠ nv.ownBlock → w1.heap[b]? = w.heap[b]?) (ho : w1.ownsRow 0 132 5 (.slice (some ⟨g', 0, none⟩) (k + 1) cap) (k + 1) (ns ++ note))
    (hat : nv.ownBlock = some g' ∨ w.heap.size + 4 ≤ g') :
    AccPost w ((((((w1.setCell ⟨p, 1, none⟩ (.slice (some ⟨g', 0, none⟩) (k + 1) cap)).setCell ⟨w.heap.size, 0, none⟩ x0).setCell ⟨w.heap.size, 1, none⟩ x1).setCell ⟨w.heap.size, 2, none⟩ x2).setCell ⟨w.heap.size, 3, none⟩ x3).setCell ⟨w.heap.size, 4, none⟩ x4) p g wv nv cur k ns at_ u note := by
  have hg6 : g' ≠ w.heap.size := fun e => hat.elim (fun h => hnl _ (Nat.le_refl _) (by rw [← e, h])) (fun h => by omega)
  have hgp' : g' ≠ p := fun e => hat.elim (fun h => hnp (by rw [h, e])) (fun h => by omega)
  have n0 : p ≠ w.heap.size := by omega
  have n1 : g ≠ w.heap.size := by omega
  refine ⟨((((((st.set _ _).set _ _).set _ _).set _ _).set _ _).set _ _), ?_, ⟨.slice (some ⟨g', 0, none⟩) (k + 1) cap, ?_, ?_, g', rfl, hat.imp id (fun h => by omega)⟩, ?_⟩
  · rw [heap_set_ne n1, heap_set_ne n1, heap_set_ne n1, heap_set_ne n1, heap_set_ne n1, heap_set_ne hpg.symm]
    exact bg
  · rw [heap_set_ne n0, heap_set_ne n0, heap_set_ne n0, heap_set_ne n0, heap_set_ne n0]
    exact heap_set bp
  · refine own_of_block ho fun b hb => ?_
    obtain rfl : g' = b := Option.some.inj hb
    rw [heap_set_ne hg6, heap_set_ne hg6, heap_set_ne hg6, heap_set_ne hg6, heap_set_ne hg6, heap_set_ne hgp']
  · intro b h1 h2 h3 h4
    have n2 : b ≠ w.heap.size := by omega
    rw [heap_set_ne n2, heap_set_ne n2, heap_set_ne n2, heap_set_ne n2, heap_set_ne n2, heap_set_ne h2]
    exact bk b h1 h3 h4
theorem acc_box {w1 : World} {p b6 : Nat} {v : Value} {x0 x1 x2 x3 x4 y0 y1 y2 y3 y4 : Value} (b6h : w1.heap[b6]? = some (.cells #[y0, y1, y2, y3, y4] 132 (0, 0))) (hne : b6 ≠ p) :
    ((((((w1.setCell ⟨p, 1, none⟩ v).setCell ⟨b6, 0, none⟩ x0).setCell ⟨b6, 1, none⟩ x1).setCell ⟨b6, 2, none⟩ x2).setCell ⟨b6, 3, none⟩ x3).setCell ⟨b6, 4, none⟩ x4).heap[b6]? = some (.cells #[x0, x1, x2, x3, x4] 132 (0, 0)) := by
  have h0 : (w1.setCell ⟨p, 1, none⟩ v).heap[b6]? = some (.cells #[y0, y1, y2, y3, y4] 132 (0, 0)) := by rw [heap_set_ne hne]; exact b6h
  exact heap_set (heap_set (heap_set (heap_set (heap_set h0))))
end Go.Proofs.YtgfeagggkplegaaGreat
namespace Go.Proofs.YtgfeagggkplegaaGreat
open Go.RowKit
set_option linter.unusedVariables false
set_option linter.unusedSimpArgs false

set_option maxHeartbeats 8000000 in
set_option maxRecDepth 100000 in
theorem acc_load (p g n c : Nat) (nv : Value) (cur : Array Value) (k : Nat) (ns : List Value) (at_ : Nat) (x : Int) (w : World)
    (hP : w.heap[p]? = some (.cells #[.slice (some ⟨g, 0, none⟩) n c, nv] 114 (0, 0))) (hG : w.heap[g]? = some (.cells cur 25 (0, 0))) (hx : cur[at_]? = some (.int .u64 x)) (hlt : at_ < n) (hm : n ≤ 9223372036854775807) (hpg : p ≠ g)
    (hn : w.ownsRow 0 132 5 nv k ns) (hnp : nv.ownBlock ≠ some p) (hng : nv.ownBlock ≠ some g) (hk : k ≤ 1000000000000) :
    Calls Tryz.prog 63 #[.pointer (some ⟨p, 0, none⟩), .int .i64 at_, .iface 191 (.agg #[])] w fun e w' => e = .returned (.tuple #[.agg #[.int .u8 108, .int .i64 at_, .int .u64 x, .int .u64 x, .bool true], .int .i64 0]) ∧ AccPost w w' p g (.slice (some ⟨g, 0, none⟩) n c) nv cur k ns at_ (.int .u64 x) [.int .u8 108, .int .i64 at_, .int .u64 x, .int .u64 x, .bool true] := by
  have d0 : decide ((at_ : Int) < 0) = false := decide_eq_false (by omega)
  have d1 : decide ((n : Int) ≤ at_) = false := decide_eq_false (by omega)
  obtain ⟨hp0, hp1, hf0, hf1⟩ := cells2 hP
  have hg0 : w.cell? ⟨g, at_, none⟩ = some (.int .u64 x) := (cell_of hG at_).trans hx
  have hg1 : w.frozen? ⟨g, at_, none⟩ = false := free_of hG at_
  have lt0 : p < w.heap.size := lt_of_heap hP
  have lt1 : g < w.heap.size := lt_of_heap hG
  have lt0a : p < w.heap.size + 1 := by omega
  have lt1a : g < w.heap.size + 1 := by omega
  have lt0b : p < w.heap.size + 1 + 1 := by omega
  have lt1b : g < w.heap.size + 1 + 1 := by omega
  have ne0 : ¬ p = g := hpg
  have ne1 : ¬ g = p := fun e => hpg e.symm
  have hn1 := own_set (a := ⟨g, at_, none⟩) hn hng (.int .u64 x)
  have hnl : ∀ b, w.heap.size ≤ b → some b ≠ nv.ownBlock := fun b hb e => by have := (hn.lt b e.symm).2; omega
  have HG := Lib.hid hG
  have HP := Lib.hid hP
  have HX := Lib.hid hx
  clear hG hP hx
  have f0 : ∀ (w : World), (Instr.typeAssert (.iface 191 (.agg #[])) 20 191 true).run Tryz.prog w = .ok (.tuple #[.agg #[], .bool true]) w := fun _ => by kernel_rfl
  go_enter Tryz.func63, Tryz.ntmps63
  go_wp2
  go_region
  go_wp2
  go_region
  go_wp2
  obtain ⟨i0, hi, hz0, hz1, hz2⟩ := info_parts infoAcc
  go_region_law ((refine step_append_lies _ (by rfl) _ _ _ (by rfl) 0 132 i0 _ 5 40 Tryz.underlying112 hi hz0 hz1 hz2 rfl (by decide) nv k ns (by rfl) (by repeat (first | exact hn1 | refine World.ownsRow.alloc ?_ _ | refine own_drew ?_)) ⟨w.heap.size + 1 + 1 + 1, 0, none⟩ 1 1 [.int .u8 108, .int .i64 at_, .int .u64 x, .int .u64 x, .bool true] (by rfl) rfl (by exact World.news_of_block (cs := #[.int .u8 108, .int .i64 at_, .int .u64 x, .int .u64 x, .bool true]) (t := 132) (fr := (0, 0)) (heap_new (by simp [World.drew, World.alloc, World.setCell]))) (by simp [Value.oneCell']) (by decide) (by unfold maxLen; omega) (by omega) (Nat.zero_le _) _ rfl ?_); intro g' cap w1 hown hgrow hat hltg; (have gb : ∀ b, b < w.heap.size + 1 + 1 + 1 → some b ≠ nv.ownBlock → w1.heap[b]? = _ := fun b hb hn' => hgrow.block b (by simp [World.drew, World.alloc, World.setCell]; omega) hn'); (have bp : w1.heap[p]? = some (.cells #[.slice (some ⟨g, 0, none⟩) n c, nv] 114 (0, 0)) := by rw [gb p (by omega) (fun e => hnp e.symm)]; simp only [heap_drew]; rw [heap_old (by simp only [World.size_alloc, heap_size_set]; omega), heap_old (by simp only [World.size_alloc, heap_size_set]; omega), heap_old (by simp only [World.size_alloc, heap_size_set]; omega), heap_old (by simp only [World.size_alloc, heap_size_set]; omega), heap_set_ne hpg]; exact HP.out); (have b6 : w1.heap[w.heap.size]? = some (.cells #[.int .u8 0, .int .i64 0, .int .u64 0, .int .u64 0, .bool false] 132 (0, 0)) := by rw [gb _ (by omega) (hnl _ (by omega))]; simp only [heap_drew]; rw [heap_old (by simp only [World.size_alloc, heap_size_set]; omega), heap_old (by simp only [World.size_alloc, heap_size_set]; omega), heap_old (by simp only [World.size_alloc, heap_size_set]; omega)]; exact heap_new (by simp only [heap_size_set])); (have b8 : w1.heap[w.heap.size + 1]? = some (.cells #[.int .u8 108, .int .i64 at_, .int .u64 x, .int .u64 x, .bool true] 132 (0, 0)) := by rw [gb _ (by omega) (hnl _ (by omega))]; simp only [heap_drew]; rw [heap_old (by simp only [World.size_alloc, heap_size_set]; omega), heap_old (by simp only [World.size_alloc, heap_size_set]; omega)]; exact heap_new (by simp only [World.size_alloc, heap_size_set])); (have bg : w1.heap[g]? = some (.cells (cur.setIfInBounds at_ (.int .u64 x)) 25 (0, 0)) := by rw [gb g (by omega) (fun e => hng e.symm)]; simp only [heap_drew]; rw [heap_old (by simp only [World.size_alloc, heap_size_set]; omega), heap_old (by simp only [World.size_alloc, heap_size_set]; omega), heap_old (by simp only [World.size_alloc, heap_size_set]; omega), heap_old (by simp only [World.size_alloc, heap_size_set]; omega)]; exact heap_set HG.out); (have bk : ∀ b, b < w.heap.size → b ≠ g → some b ≠ nv.ownBlock → w1.heap[b]? = w.heap[b]? := fun b h1 h2 h3 => by rw [gb b (by omega) h3]; simp only [heap_drew]; rw [heap_old (by simp only [World.size_alloc, heap_size_set]; omega), heap_old (by simp only [World.size_alloc, heap_size_set]; omega), heap_old (by simp only [World.size_alloc, heap_size_set]; omega), heap_old (by simp only [World.size_alloc, heap_size_set]; omega), heap_set_ne h2]); (have st : Str w w1 := Str.grown (by repeat (first | exact Str.refl _ | refine Str.alloc ?_ _ | refine Str.set ?_ _ _ | refine Str.drew ?_)) hgrow); (have hat' : nv.ownBlock = some g' ∨ w.heap.size + 4 ≤ g' := hat.imp id (fun e => by rw [e]; simp only [heap_size_drew, World.size_alloc, heap_size_set]; omega)); clear gb hgrow hat; obtain ⟨cp0, cp1, cp2, cp3⟩ := cells2 bp; obtain ⟨ca0, ca1, ca2, ca3, ca4, _, _, _, _, _⟩ := cells5 b8; obtain ⟨cr0, cr1, cr2, cr3, cr4, cr5, cr6, cr7, cr8, cr9⟩ := cells5 b6; (have BP := Lib.hid bp); (have BG := Lib.hid bg); (have BK := Lib.hid bk); (have B6 := Lib.hid b6); (have HO := Lib.hid hown); clear bp bg bk b6 b8 hown; (have ne2 : ¬ p = w.heap.size := by omega); (have ne3 : ¬ w.heap.size = p := by omega); (have ne4 : ¬ w.heap.size + 1 = p := by omega))
  go_wp2
  all_goals exact ret_acc rfl rfl (acc_box B6.out ne3) rfl ⟨rfl, acc_tail lt0 lt1 hpg hnp hnl st BP.out BG.out BK.out HO.out hat'⟩

end Go.Proofs.YtgfeagggkplegaaGreat
namespace Go.Proofs.YtgfeagggkplegaaGreat
open Go.RowKit
set_option linter.unusedVariables false
set_option linter.unusedSimpArgs false

set_option maxHeartbeats 8000000 in
set_option maxRecDepth 100000 in
theorem acc_store (p g n c : Nat) (nv : Value) (cur : Array Value) (k : Nat) (ns : List Value) (at_ : Nat) (x : Int) (v : Int) (w : World)
    (hP : w.heap[p]? = some (.cells #[.slice (some ⟨g, 0, none⟩) n c, nv] 114 (0, 0))) (hG : w.heap[g]? = some (.cells cur 25 (0, 0))) (hx : cur[at_]? = some (.int .u64 x)) (hlt : at_ < n) (hm : n ≤ 9223372036854775807) (hpg : p ≠ g)
    (hn : w.ownsRow 0 132 5 nv k ns) (hnp : nv.ownBlock ≠ some p) (hng : nv.ownBlock ≠ some g) (hk : k ≤ 1000000000000) :
    Calls Tryz.prog 63 #[.pointer (some ⟨p, 0, none⟩), .int .i64 at_, .iface 136 (.agg #[.int .u64 v])] w fun e w' => e = .returned (.tuple #[.agg #[.int .u8 115, .int .i64 at_, .int .u64 x, .int .u64 v, .bool true], .int .i64 0]) ∧ AccPost w w' p g (.slice (some ⟨g, 0, none⟩) n c) nv cur k ns at_ (.int .u64 v) [.int .u8 115, .int .i64 at_, .int .u64 x, .int .u64 v, .bool true] := by
  have d0 : decide ((at_ : Int) < 0) = false := decide_eq_false (by omega)
  have d1 : decide ((n : Int) ≤ at_) = false := decide_eq_false (by omega)
  obtain ⟨hp0, hp1, hf0, hf1⟩ := cells2 hP
  have hg0 : w.cell? ⟨g, at_, none⟩ = some (.int .u64 x) := (cell_of hG at_).trans hx
  have hg1 : w.frozen? ⟨g, at_, none⟩ = false := free_of hG at_
  have lt0 : p < w.heap.size := lt_of_heap hP
  have lt1 : g < w.heap.size := lt_of_heap hG
  have lt0a : p < w.heap.size + 1 := by omega
  have lt1a : g < w.heap.size + 1 := by omega
  have lt0b : p < w.heap.size + 1 + 1 := by omega
  have lt1b : g < w.heap.size + 1 + 1 := by omega
  have ne0 : ¬ p = g := hpg
  have ne1 : ¬ g = p := fun e => hpg e.symm
  have hn1 := own_set (a := ⟨g, at_, none⟩) hn hng (.int .u64 v)
  have hnl : ∀ b, w.heap.size ≤ b → some b ≠ nv.ownBlock := fun b hb e => by have := (hn.lt b e.symm).2; omega
  have HG := Lib.hid hG
  have HP := Lib.hid hP
  have HX := Lib.hid hx
  clear hG hP hx
  have f0 : ∀ (w : World), (Instr.typeAssert (.iface 136 (.agg #[.int .u64 v])) 20 191 true).run Tryz.prog w = .ok (.tuple #[.agg #[], .bool false]) w := fun _ => by kernel_rfl
  have f1 : ∀ (w : World), (Instr.typeAssert (.iface 136 (.agg #[.int .u64 v])) 20 136 true).run Tryz.prog w = .ok (.tuple #[.agg #[.int .u64 v], .bool true]) w := fun _ => by kernel_rfl
  go_enter Tryz.func63, Tryz.ntmps63
  go_wp2
  go_region
  go_wp2
  go_region
  go_wp2
  go_region
  go_wp2
  obtain ⟨i0, hi, hz0, hz1, hz2⟩ := info_parts infoAcc
  go_region_law ((refine step_append_lies _ (by rfl) _ _ _ (by rfl) 0 132 i0 _ 5 40 Tryz.underlying112 hi hz0 hz1 hz2 rfl (by decide) nv k ns (by rfl) (by repeat (first | exact hn1 | refine World.ownsRow.alloc ?_ _ | refine own_drew ?_)) ⟨w.heap.size + 1 + 1 + 1, 0, none⟩ 1 1 [.int .u8 115, .int .i64 at_, .int .u64 x, .int .u64 v, .bool true] (by rfl) rfl (by exact World.news_of_block (cs := #[.int .u8 115, .int .i64 at_, .int .u64 x, .int .u64 v, .bool true]) (t := 132) (fr := (0, 0)) (heap_new (by simp [World.drew, World.alloc, World.setCell]))) (by simp [Value.oneCell']) (by decide) (by unfold maxLen; omega) (by omega) (Nat.zero_le _) _ rfl ?_); intro g' cap w1 hown hgrow hat hltg; (have gb : ∀ b, b < w.heap.size + 1 + 1 + 1 → some b ≠ nv.ownBlock → w1.heap[b]? = _ := fun b hb hn' => hgrow.block b (by simp [World.drew, World.alloc, World.setCell]; omega) hn'); (have bp : w1.heap[p]? = some (.cells #[.slice (some ⟨g, 0, none⟩) n c, nv] 114 (0, 0)) := by rw [gb p (by omega) (fun e => hnp e.symm)]; simp only [heap_drew]; rw [heap_old (by simp only [World.size_alloc, heap_size_set]; omega), heap_old (by simp only [World.size_alloc, heap_size_set]; omega), heap_old (by simp only [World.size_alloc, heap_size_set]; omega), heap_old (by simp only [World.size_alloc, heap_size_set]; omega), heap_set_ne hpg]; exact HP.out); (have b6 : w1.heap[w.heap.size]? = some (.cells #[.int .u8 0, .int .i64 0, .int .u64 0, .int .u64 0, .bool false] 132 (0, 0)) := by rw [gb _ (by omega) (hnl _ (by omega))]; simp only [heap_drew]; rw [heap_old (by simp only [World.size_alloc, heap_size_set]; omega), heap_old (by simp only [World.size_alloc, heap_size_set]; omega), heap_old (by simp only [World.size_alloc, heap_size_set]; omega)]; exact heap_new (by simp only [heap_size_set])); (have b8 : w1.heap[w.heap.size + 1]? = some (.cells #[.int .u8 115, .int .i64 at_, .int .u64 x, .int .u64 v, .bool true] 132 (0, 0)) := by rw [gb _ (by omega) (hnl _ (by omega))]; simp only [heap_drew]; rw [heap_old (by simp only [World.size_alloc, heap_size_set]; omega), heap_old (by simp only [World.size_alloc, heap_size_set]; omega)]; exact heap_new (by simp only [World.size_alloc, heap_size_set])); (have bg : w1.heap[g]? = some (.cells (cur.setIfInBounds at_ (.int .u64 v)) 25 (0, 0)) := by rw [gb g (by omega) (fun e => hng e.symm)]; simp only [heap_drew]; rw [heap_old (by simp only [World.size_alloc, heap_size_set]; omega), heap_old (by simp only [World.size_alloc, heap_size_set]; omega), heap_old (by simp only [World.size_alloc, heap_size_set]; omega), heap_old (by simp only [World.size_alloc, heap_size_set]; omega)]; exact heap_set HG.out); (have bk : ∀ b, b < w.heap.size → b ≠ g → some b ≠ nv.ownBlock → w1.heap[b]? = w.heap[b]? := fun b h1 h2 h3 => by rw [gb b (by omega) h3]; simp only [heap_drew]; rw [heap_old (by simp only [World.size_alloc, heap_size_set]; omega), heap_old (by simp only [World.size_alloc, heap_size_set]; omega), heap_old (by simp only [World.size_alloc, heap_size_set]; omega), heap_old (by simp only [World.size_alloc, heap_size_set]; omega), heap_set_ne h2]); (have st : Str w w1 := Str.grown (by repeat (first | exact Str.refl _ | refine Str.alloc ?_ _ | refine Str.set ?_ _ _ | refine Str.drew ?_)) hgrow); (have hat' : nv.ownBlock = some g' ∨ w.heap.size + 4 ≤ g' := hat.imp id (fun e => by rw [e]; simp only [heap_size_drew, World.size_alloc, heap_size_set]; omega)); clear gb hgrow hat; obtain ⟨cp0, cp1, cp2, cp3⟩ := cells2 bp; obtain ⟨ca0, ca1, ca2, ca3, ca4, _, _, _, _, _⟩ := cells5 b8; obtain ⟨cr0, cr1, cr2, cr3, cr4, cr5, cr6, cr7, cr8, cr9⟩ := cells5 b6; (have BP := Lib.hid bp); (have BG := Lib.hid bg); (have BK := Lib.hid bk); (have B6 := Lib.hid b6); (have HO := Lib.hid hown); clear bp bg bk b6 b8 hown; (have ne2 : ¬ p = w.heap.size := by omega); (have ne3 : ¬ w.heap.size = p := by omega); (have ne4 : ¬ w.heap.size + 1 = p := by omega))
  go_wp2
  all_goals exact ret_acc rfl rfl (acc_box B6.out ne3) rfl ⟨rfl, acc_tail lt0 lt1 hpg hnp hnl st BP.out BG.out BK.out HO.out hat'⟩

end Go.Proofs.YtgfeagggkplegaaGreat
namespace Go.Proofs.YtgfeagggkplegaaGreat
open Go.RowKit
set_option linter.unusedVariables false
set_option linter.unusedSimpArgs false

set_option maxHeartbeats 8000000 in
set_option maxRecDepth 100000 in
theorem acc_swap (p g n c : Nat) (nv : Value) (cur : Array Value) (k : Nat) (ns : List Value) (at_ : Nat) (x : Int) (nw : Int) (w : World)
    (hP : w.heap[p]? = some (.cells #[.slice (some ⟨g, 0, none⟩) n c, nv] 114 (0, 0))) (hG : w.heap[g]? = some (.cells cur 25 (0, 0))) (hx : cur[at_]? = some (.int .u64 x)) (hlt : at_ < n) (hm : n ≤ 9223372036854775807) (hpg : p ≠ g)
    (hn : w.ownsRow 0 132 5 nv k ns) (hnp : nv.ownBlock ≠ some p) (hng : nv.ownBlock ≠ some g) (hk : k ≤ 1000000000000) :
    Calls Tryz.prog 63 #[.pointer (some ⟨p, 0, none⟩), .int .i64 at_, .iface 193 (.agg #[.int .u64 x, .int .u64 nw])] w fun e w' => e = .returned (.tuple #[.agg #[.int .u8 99, .int .i64 at_, .int .u64 x, .int .u64 nw, .bool true], .int .i64 0]) ∧ AccPost w w' p g (.slice (some ⟨g, 0, none⟩) n c) nv cur k ns at_ (.int .u64 nw) [.int .u8 99, .int .i64 at_, .int .u64 x, .int .u64 nw, .bool true] := by
  have d0 : decide ((at_ : Int) < 0) = false := decide_eq_false (by omega)
  have d1 : decide ((n : Int) ≤ at_) = false := decide_eq_false (by omega)
  obtain ⟨hp0, hp1, hf0, hf1⟩ := cells2 hP
  have hg0 : w.cell? ⟨g, at_, none⟩ = some (.int .u64 x) := (cell_of hG at_).trans hx
  have hg1 : w.frozen? ⟨g, at_, none⟩ = false := free_of hG at_
  have lt0 : p < w.heap.size := lt_of_heap hP
  have lt1 : g < w.heap.size := lt_of_heap hG
  have lt0a : p < w.heap.size + 1 := by omega
  have lt1a : g < w.heap.size + 1 := by omega
  have lt0b : p < w.heap.size + 1 + 1 := by omega
  have lt1b : g < w.heap.size + 1 + 1 := by omega
  have ne0 : ¬ p = g := hpg
  have ne1 : ¬ g = p := fun e => hpg e.symm
  have hn1 := own_set (a := ⟨g, at_, none⟩) hn hng (.int .u64 nw)
  have hnl : ∀ b, w.heap.size ≤ b → some b ≠ nv.ownBlock := fun b hb e => by have := (hn.lt b e.symm).2; omega
  have HG := Lib.hid hG
  have HP := Lib.hid hP
  have HX := Lib.hid hx
  clear hG hP hx
  have f0 : ∀ (w : World), (Instr.typeAssert (.iface 193 (.agg #[.int .u64 x, .int .u64 nw])) 20 191 true).run Tryz.prog w = .ok (.tuple #[.agg #[], .bool false]) w := fun _ => by kernel_rfl
  have f1 : ∀ (w : World), (Instr.typeAssert (.iface 193 (.agg #[.int .u64 x, .int .u64 nw])) 20 136 true).run Tryz.prog w = .ok (.tuple #[.agg #[.int .u64 0], .bool false]) w := fun _ => by kernel_rfl
  have f2 : ∀ (w : World), (Instr.typeAssert (.iface 193 (.agg #[.int .u64 x, .int .u64 nw])) 20 193 true).run Tryz.prog w = .ok (.tuple #[.agg #[.int .u64 x, .int .u64 nw], .bool true]) w := fun _ => by kernel_rfl
  have e0 : (x == x) = true := beq_self_eq_true x
  go_enter Tryz.func63, Tryz.ntmps63
  go_wp2
  go_region
  go_wp2
  go_region
  go_wp2
  go_region
  go_wp2
  obtain ⟨i0, hi, hz0, hz1, hz2⟩ := info_parts infoAcc
  go_region_law ((refine step_append_lies _ (by rfl) _ _ _ (by rfl) 0 132 i0 _ 5 40 Tryz.underlying112 hi hz0 hz1 hz2 rfl (by decide) nv k ns (by rfl) (by repeat (first | exact hn1 | refine World.ownsRow.alloc ?_ _ | refine own_drew ?_)) ⟨w.heap.size + 1 + 1 + 1, 0, none⟩ 1 1 [.int .u8 99, .int .i64 at_, .int .u64 x, .int .u64 nw, .bool true] (by rfl) rfl (by exact World.news_of_block (cs := #[.int .u8 99, .int .i64 at_, .int .u64 x, .int .u64 nw, .bool true]) (t := 132) (fr := (0, 0)) (heap_new (by simp [World.drew, World.alloc, World.setCell]))) (by simp [Value.oneCell']) (by decide) (by unfold maxLen; omega) (by omega) (Nat.zero_le _) _ rfl ?_); intro g' cap w1 hown hgrow hat hltg; (have gb : ∀ b, b < w.heap.size + 1 + 1 + 1 → some b ≠ nv.ownBlock → w1.heap[b]? = _ := fun b hb hn' => hgrow.block b (by simp [World.drew, World.alloc, World.setCell]; omega) hn'); (have bp : w1.heap[p]? = some (.cells #[.slice (some ⟨g, 0, none⟩) n c, nv] 114 (0, 0)) := by rw [gb p (by omega) (fun e => hnp e.symm)]; simp only [heap_drew]; rw [heap_old (by simp only [World.size_alloc, heap_size_set]; omega), heap_old (by simp only [World.size_alloc, heap_size_set]; omega), heap_old (by simp only [World.size_alloc, heap_size_set]; omega), heap_old (by simp only [World.size_alloc, heap_size_set]; omega), heap_set_ne hpg]; exact HP.out); (have b6 : w1.heap[w.heap.size]? = some (.cells #[.int .u8 0, .int .i64 0, .int .u64 0, .int .u64 0, .bool false] 132 (0, 0)) := by rw [gb _ (by omega) (hnl _ (by omega))]; simp only [heap_drew]; rw [heap_old (by simp only [World.size_alloc, heap_size_set]; omega), heap_old (by simp only [World.size_alloc, heap_size_set]; omega), heap_old (by simp only [World.size_alloc, heap_size_set]; omega)]; exact heap_new (by simp only [heap_size_set])); (have b8 : w1.heap[w.heap.size + 1]? = some (.cells #[.int .u8 99, .int .i64 at_, .int .u64 x, .int .u64 nw, .bool true] 132 (0, 0)) := by rw [gb _ (by omega) (hnl _ (by omega))]; simp only [heap_drew]; rw [heap_old (by simp only [World.size_alloc, heap_size_set]; omega), heap_old (by simp only [World.size_alloc, heap_size_set]; omega)]; exact heap_new (by simp only [World.size_alloc, heap_size_set])); (have bg : w1.heap[g]? = some (.cells (cur.setIfInBounds at_ (.int .u64 nw)) 25 (0, 0)) := by rw [gb g (by omega) (fun e => hng e.symm)]; simp only [heap_drew]; rw [heap_old (by simp only [World.size_alloc, heap_size_set]; omega), heap_old (by simp only [World.size_alloc, heap_size_set]; omega), heap_old (by simp only [World.size_alloc, heap_size_set]; omega), heap_old (by simp only [World.size_alloc, heap_size_set]; omega)]; exact heap_set HG.out); (have bk : ∀ b, b < w.heap.size → b ≠ g → some b ≠ nv.ownBlock → w1.heap[b]? = w.heap[b]? := fun b h1 h2 h3 => by rw [gb b (by omega) h3]; simp only [heap_drew]; rw [heap_old (by simp only [World.size_alloc, heap_size_set]; omega), heap_old (by simp only [World.size_alloc, heap_size_set]; omega), heap_old (by simp only [World.size_alloc, heap_size_set]; omega), heap_old (by simp only [World.size_alloc, heap_size_set]; omega), heap_set_ne h2]); (have st : Str w w1 := Str.grown (by repeat (first | exact Str.refl _ | refine Str.alloc ?_ _ | refine Str.set ?_ _ _ | refine Str.drew ?_)) hgrow); (have hat' : nv.ownBlock = some g' ∨ w.heap.size + 4 ≤ g' := hat.imp id (fun e => by rw [e]; simp only [heap_size_drew, World.size_alloc, heap_size_set]; omega)); clear gb hgrow hat; obtain ⟨cp0, cp1, cp2, cp3⟩ := cells2 bp; obtain ⟨ca0, ca1, ca2, ca3, ca4, _, _, _, _, _⟩ := cells5 b8; obtain ⟨cr0, cr1, cr2, cr3, cr4, cr5, cr6, cr7, cr8, cr9⟩ := cells5 b6; (have BP := Lib.hid bp); (have BG := Lib.hid bg); (have BK := Lib.hid bk); (have B6 := Lib.hid b6); (have HO := Lib.hid hown); clear bp bg bk b6 b8 hown; (have ne2 : ¬ p = w.heap.size := by omega); (have ne3 : ¬ w.heap.size = p := by omega); (have ne4 : ¬ w.heap.size + 1 = p := by omega))
  go_wp2
  all_goals exact ret_acc rfl rfl (acc_box B6.out ne3) rfl ⟨rfl, acc_tail lt0 lt1 hpg hnp hnl st BP.out BG.out BK.out HO.out hat'⟩

end Go.Proofs.YtgfeagggkplegaaGreat
namespace Go.Proofs.YtgfeagggkplegaaGreat
open Go.RowKit
set_option linter.unusedVariables false
set_option linter.unusedSimpArgs false

set_option maxHeartbeats 8000000 in
set_option maxRecDepth 100000 in
theorem acc_miss (p g n c : Nat) (nv : Value) (cur : Array Value) (k : Nat) (ns : List Value) (at_ : Nat) (x : Int) (old nw : Int) (w : World)
    (hP : w.heap[p]? = some (.cells #[.slice (some ⟨g, 0, none⟩) n c, nv] 114 (0, 0))) (hG : w.heap[g]? = some (.cells cur 25 (0, 0))) (hx : cur[at_]? = some (.int .u64 x)) (hlt : at_ < n) (hm : n ≤ 9223372036854775807) (hpg : p ≠ g)
    (hn : w.ownsRow 0 132 5 nv k ns) (hnp : nv.ownBlock ≠ some p) (hng : nv.ownBlock ≠ some g) (hk : k ≤ 1000000000000) (hne : (x == old) = false) :
    Calls Tryz.prog 63 #[.pointer (some ⟨p, 0, none⟩), .int .i64 at_, .iface 193 (.agg #[.int .u64 old, .int .u64 nw])] w fun e w' => e = .returned (.tuple #[.agg #[.int .u8 99, .int .i64 at_, .int .u64 x, .int .u64 x, .bool false], .int .i64 0]) ∧ AccPost w w' p g (.slice (some ⟨g, 0, none⟩) n c) nv cur k ns at_ (.int .u64 x) [.int .u8 99, .int .i64 at_, .int .u64 x, .int .u64 x, .bool false] := by
  have d0 : decide ((at_ : Int) < 0) = false := decide_eq_false (by omega)
  have d1 : decide ((n : Int) ≤ at_) = false := decide_eq_false (by omega)
  obtain ⟨hp0, hp1, hf0, hf1⟩ := cells2 hP
  have hg0 : w.cell? ⟨g, at_, none⟩ = some (.int .u64 x) := (cell_of hG at_).trans hx
  have hg1 : w.frozen? ⟨g, at_, none⟩ = false := free_of hG at_
  have lt0 : p < w.heap.size := lt_of_heap hP
  have lt1 : g < w.heap.size := lt_of_heap hG
  have lt0a : p < w.heap.size + 1 := by omega
  have lt1a : g < w.heap.size + 1 := by omega
  have lt0b : p < w.heap.size + 1 + 1 := by omega
  have lt1b : g < w.heap.size + 1 + 1 := by omega
  have ne0 : ¬ p = g := hpg
  have ne1 : ¬ g = p := fun e => hpg e.symm
  have hn1 := own_set (a := ⟨g, at_, none⟩) hn hng (.int .u64 x)
  have hnl : ∀ b, w.heap.size ≤ b → some b ≠ nv.ownBlock := fun b hb e => by have := (hn.lt b e.symm).2; omega
  have HG := Lib.hid hG
  have HP := Lib.hid hP
  have HX := Lib.hid hx
  clear hG hP hx
  have f0 : ∀ (w : World), (Instr.typeAssert (.iface 193 (.agg #[.int .u64 old, .int .u64 nw])) 20 191 true).run Tryz.prog w = .ok (.tuple #[.agg #[], .bool false]) w := fun _ => by kernel_rfl
  have f1 : ∀ (w : World), (Instr.typeAssert (.iface 193 (.agg #[.int .u64 old, .int .u64 nw])) 20 136 true).run Tryz.prog w = .ok (.tuple #[.agg #[.int .u64 0], .bool false]) w := fun _ => by kernel_rfl
  have f2 : ∀ (w : World), (Instr.typeAssert (.iface 193 (.agg #[.int .u64 old, .int .u64 nw])) 20 193 true).run Tryz.prog w = .ok (.tuple #[.agg #[.int .u64 old, .int .u64 nw], .bool true]) w := fun _ => by kernel_rfl
  go_enter Tryz.func63, Tryz.ntmps63
  go_wp2
  go_region
  go_wp2
  go_region
  go_wp2
  go_region
  go_wp2
  obtain ⟨i0, hi, hz0, hz1, hz2⟩ := info_parts infoAcc
  go_region_law ((refine step_append_lies _ (by rfl) _ _ _ (by rfl) 0 132 i0 _ 5 40 Tryz.underlying112 hi hz0 hz1 hz2 rfl (by decide) nv k ns (by rfl) (by repeat (first | exact hn1 | refine World.ownsRow.alloc ?_ _ | refine own_drew ?_)) ⟨w.heap.size + 1 + 1 + 1, 0, none⟩ 1 1 [.int .u8 99, .int .i64 at_, .int .u64 x, .int .u64 x, .bool false] (by rfl) rfl (by exact World.news_of_block (cs := #[.int .u8 99, .int .i64 at_, .int .u64 x, .int .u64 x, .bool false]) (t := 132) (fr := (0, 0)) (heap_new (by simp [World.drew, World.alloc, World.setCell]))) (by simp [Value.oneCell']) (by decide) (by unfold maxLen; omega) (by omega) (Nat.zero_le _) _ rfl ?_); intro g' cap w1 hown hgrow hat hltg; (have gb : ∀ b, b < w.heap.size + 1 + 1 + 1 → some b ≠ nv.ownBlock → w1.heap[b]? = _ := fun b hb hn' => hgrow.block b (by simp [World.drew, World.alloc, World.setCell]; omega) hn'); (have bp : w1.heap[p]? = some (.cells #[.slice (some ⟨g, 0, none⟩) n c, nv] 114 (0, 0)) := by rw [gb p (by omega) (fun e => hnp e.symm)]; simp only [heap_drew]; rw [heap_old (by simp only [World.size_alloc, heap_size_set]; omega), heap_old (by simp only [World.size_alloc, heap_size_set]; omega), heap_old (by simp only [World.size_alloc, heap_size_set]; omega), heap_old (by simp only [World.size_alloc, heap_size_set]; omega), heap_set_ne hpg]; exact HP.out); (have b6 : w1.heap[w.heap.size]? = some (.cells #[.int .u8 0, .int .i64 0, .int .u64 0, .int .u64 0, .bool false] 132 (0, 0)) := by rw [gb _ (by omega) (hnl _ (by omega))]; simp only [heap_drew]; rw [heap_old (by simp only [World.size_alloc, heap_size_set]; omega), heap_old (by simp only [World.size_alloc, heap_size_set]; omega), heap_old (by simp only [World.size_alloc, heap_size_set]; omega)]; exact heap_new (by simp only [heap_size_set])); (have b8 : w1.heap[w.heap.size + 1]? = some (.cells #[.int .u8 99, .int .i64 at_, .int .u64 x, .int .u64 x, .bool false] 132 (0, 0)) := by rw [gb _ (by omega) (hnl _ (by omega))]; simp only [heap_drew]; rw [heap_old (by simp only [World.size_alloc, heap_size_set]; omega), heap_old (by simp only [World.size_alloc, heap_size_set]; omega)]; exact heap_new (by simp only [World.size_alloc, heap_size_set])); (have bg : w1.heap[g]? = some (.cells (cur.setIfInBounds at_ (.int .u64 x)) 25 (0, 0)) := by rw [gb g (by omega) (fun e => hng e.symm)]; simp only [heap_drew]; rw [heap_old (by simp only [World.size_alloc, heap_size_set]; omega), heap_old (by simp only [World.size_alloc, heap_size_set]; omega), heap_old (by simp only [World.size_alloc, heap_size_set]; omega), heap_old (by simp only [World.size_alloc, heap_size_set]; omega)]; exact heap_set HG.out); (have bk : ∀ b, b < w.heap.size → b ≠ g → some b ≠ nv.ownBlock → w1.heap[b]? = w.heap[b]? := fun b h1 h2 h3 => by rw [gb b (by omega) h3]; simp only [heap_drew]; rw [heap_old (by simp only [World.size_alloc, heap_size_set]; omega), heap_old (by simp only [World.size_alloc, heap_size_set]; omega), heap_old (by simp only [World.size_alloc, heap_size_set]; omega), heap_old (by simp only [World.size_alloc, heap_size_set]; omega), heap_set_ne h2]); (have st : Str w w1 := Str.grown (by repeat (first | exact Str.refl _ | refine Str.alloc ?_ _ | refine Str.set ?_ _ _ | refine Str.drew ?_)) hgrow); (have hat' : nv.ownBlock = some g' ∨ w.heap.size + 4 ≤ g' := hat.imp id (fun e => by rw [e]; simp only [heap_size_drew, World.size_alloc, heap_size_set]; omega)); clear gb hgrow hat; obtain ⟨cp0, cp1, cp2, cp3⟩ := cells2 bp; obtain ⟨ca0, ca1, ca2, ca3, ca4, _, _, _, _, _⟩ := cells5 b8; obtain ⟨cr0, cr1, cr2, cr3, cr4, cr5, cr6, cr7, cr8, cr9⟩ := cells5 b6; (have BP := Lib.hid bp); (have BG := Lib.hid bg); (have BK := Lib.hid bk); (have B6 := Lib.hid b6); (have HO := Lib.hid hown); clear bp bg bk b6 b8 hown; (have ne2 : ¬ p = w.heap.size := by omega); (have ne3 : ¬ w.heap.size = p := by omega); (have ne4 : ¬ w.heap.size + 1 = p := by omega))
  go_wp2
  all_goals exact ret_acc rfl rfl (acc_box B6.out ne3) rfl ⟨rfl, acc_tail lt0 lt1 hpg hnp hnl st BP.out BG.out BK.out HO.out hat'⟩

end Go.Proofs.YtgfeagggkplegaaGreat
namespace Go.Proofs.YtgfeagggkplegaaGreat
open Go.RowKit
set_option linter.unusedVariables false
set_option linter.unusedSimpArgs false

/-- Whose a block is: a letter for each object. Fr: all blocks of others are as they were, and no block has changed hands. -/
structure Fr (own own' : Nat → Nat) (T : Nat → Prop) (w w' : World) : Prop where
  str : Str w w'
  keep : ∀ b, b < w.heap.size → ¬ T (own b) → w'.heap[b]? = w.heap[b]?
  ext : ∀ b, b < w.heap.size → own' b = own b
theorem Fr.refl (own : Nat → Nat) (T : Nat → Prop) (w : World) : Fr own own T w w := ⟨Str.refl _, fun _ _ _ => rfl, fun _ _ => rfl⟩
theorem Fr.trans {o o1 o2 : Nat → Nat} {T : Nat → Prop} {w w1 w2 : World} (h : Fr o o1 T w w1) (k : Fr o1 o2 T w1 w2) : Fr o o2 T w w2 :=
  ⟨h.str.trans k.str, fun b hb ht => (k.keep b (Nat.lt_of_lt_of_le hb h.str.size) (by rw [h.ext b hb]; exact ht)).trans (h.keep b hb ht), fun b hb => (k.ext b (Nat.lt_of_lt_of_le hb h.str.size)).trans (h.ext b hb)⟩
theorem Fr.below {own : Nat → Nat} {T : Nat → Prop} {w w' : World} (h : Below w.heap.size w w') : Fr own own T w w' :=
  ⟨⟨h.os, h.tape, h.output, h.size⟩, fun b hb _ => h.block b hb, fun _ _ => rfl⟩
theorem Fr.more {o o1 : Nat → Nat} {T U : Nat → Prop} {w w1 : World} (h : Fr o o1 T w w1) (hu : ∀ x, T x → U x) : Fr o o1 U w w1 := ⟨h.str, fun b hb ht => h.keep b hb fun c => ht (hu _ c), h.ext⟩

/-- An access that was noted. -/
structure Note where
  kind : Int
  at_ : Int
  old : Int
  new : Int
  ok : Bool
def Note.cells (a : Note) : List Value := [.int .u8 a.kind, .int .i64 a.at_, .int .u64 a.old, .int .u64 a.new, .bool a.ok]
def noteCells (ns : List Note) : List Value := ns.flatMap Note.cells
theorem noteCells_snoc (ns : List Note) (a : Note) : noteCells (ns ++ [a]) = noteCells ns ++ a.cells := by simp [noteCells]

structure IsMem (own : Nat → Nat) (t : Nat) (w : World) (p : Nat) (ws : List Int) (ns : List Note) : Prop where
  len : ws.length ≤ 1024
  rng : ∀ x ∈ ws, 0 ≤ x ∧ x < 18446744073709551616
  mine : own p = t
  body : ∃ A c nv, w.heap[p]? = some (.cells #[.slice A ws.length c, nv] 114 (0, 0)) ∧ w.ownsRow 0 132 5 nv ns.length (noteCells ns) ∧ (∀ b, nv.ownBlock = some b → own b = t ∧ b ≠ p) ∧
    (ws = [] ∨ ∃ g cur, A = some ⟨g, 0, none⟩ ∧ own g = t ∧ p ≠ g ∧ w.heap[g]? = some (.cells cur 25 (0, 0)) ∧ cur.toList.take ws.length = ws.map (fun x => .int .u64 x) ∧ nv.ownBlock ≠ some g)

theorem IsMem.kept {own own' : Nat → Nat} {t : Nat} {T : Nat → Prop} {w w' : World} {p : Nat} {ws : List Int} {ns : List Note} (h : IsMem own t w p ws ns) (f : Fr own own' T w w') (ht : ¬ T t) : IsMem own' t w' p ws ns := by
  obtain ⟨A, c, nv, hP, hn, hb, hg⟩ := h.body
  have lp := lt_of_heap hP
  refine ⟨h.len, h.rng, (f.ext p lp).trans h.mine, A, c, nv, (f.keep p lp (by rw [h.mine]; exact ht)).trans hP, own_of_block hn fun b e => f.keep b (hn.lt b e).2 (by rw [(hb b e).1]; exact ht), fun b e => ⟨(f.ext b (hn.lt b e).2).trans (hb b e).1, (hb b e).2⟩, ?_⟩
  rcases hg with e | ⟨g, cur, e1, e2, e3, e4, e5, e6⟩
  · exact .inl e
  · have lg := lt_of_heap e4
    exact .inr ⟨g, cur, e1, (f.ext g lg).trans e2, e3, (f.keep g lg (by rw [e2]; exact ht)).trans e4, e5, e6⟩
theorem IsMem.below {own : Nat → Nat} {t : Nat} {w w' : World} {p : Nat} {ws : List Int} {ns : List Note} (h : IsMem own t w p ws ns) (f : Below w.heap.size w w') : IsMem own t w' p ws ns :=
  h.kept (T := fun _ => False) (Fr.below f) (fun h => h)

theorem take_set {l : List Value} {n i : Nat} (v : Value) (h : i < n) : (l.set i v).take n = (l.take n).set i v := by
  rw [List.take_set]
/-- What an access within the memory leaves. -/
theorem IsMem.acc {own : Nat → Nat} {t : Nat} {w w' : World} {p g c : Nat} {nv : Value} {cur : Array Value} {ws : List Int} {ns : List Note} {i : Nat} {x : Int} {a : Note}
    (h : IsMem own t w p ws ns) (hn : w.ownsRow 0 132 5 nv ns.length (noteCells ns)) (hb : ∀ b, nv.ownBlock = some b → own b = t ∧ b ≠ p) (hg : own g = t) (lg : g < w.heap.size) (lp : p < w.heap.size) (hpg : p ≠ g) (hng : nv.ownBlock ≠ some g)
    (hcur : cur.toList.take ws.length = ws.map (fun x => .int .u64 x)) (hi : i < ws.length) (x0 : 0 ≤ x) (x1 : x < 18446744073709551616)
    (post : AccPost w w' p g (.slice (some ⟨g, 0, none⟩) ws.length c) nv cur ns.length (noteCells ns) i (.int .u64 x) a.cells) :
    ∃ own', Fr own own' (· = t) w w' ∧ IsMem own' t w' p (ws.set i x) (ns ++ [a]) := by
  obtain ⟨nv', k1, k2, b, k3, k4⟩ := post.notes
  have hex : ∀ b, b < w.heap.size → (fun b => if b < w.heap.size then own b else t) b = own b := fun b hb => by simp [hb]
  have hbn : own b = t ∨ w.heap.size ≤ b := k4.imp (fun e => (hb b e).1) id
  refine ⟨fun b => if b < w.heap.size then own b else t, ⟨post.str, fun b hb' ht => post.keep b hb' (fun e => ht (e ▸ h.mine)) (fun e => ht (e ▸ hg)) (fun e => ht (hb b e.symm).1), hex⟩, ?_⟩
  refine ⟨by rw [List.length_set]; exact h.len, fun y hy => ?_, (hex p lp).trans h.mine, some ⟨g, 0, none⟩, c, nv', by rw [List.length_set]; exact k1, by rw [noteCells_snoc, List.length_append]; exact k2, fun b' e => ?_, .inr ⟨g, cur.setIfInBounds i (.int .u64 x), rfl, (hex g lg).trans hg, hpg, post.words, ?_, ?_⟩⟩
  · rcases List.mem_or_eq_of_mem_set hy with h1 | h1
    · exact h.rng y h1
    · subst h1; exact ⟨x0, x1⟩
  · rw [k3] at e
    obtain rfl := Option.some.inj e
    refine ⟨?_, fun e => ?_⟩
    · by_cases c : b < w.heap.size
      · simp only [c, if_true]
        exact hbn.elim id fun h => by omega
      · simp only [c, if_false]
    · subst e
      exact k4.elim (fun e => (hb _ e).2 rfl) fun e => by omega
  · rw [Array.toList_setIfInBounds, List.length_set, take_set _ hi, hcur, List.map_set]
  · rw [k3]
    intro e
    obtain rfl := Option.some.inj e
    exact k4.elim (fun e => hng e) fun e => by omega
end Go.Proofs.YtgfeagggkplegaaGreat
namespace Go.Proofs.YtgfeagggkplegaaGreat
open Go.RowKit
set_option linter.unusedVariables false
set_option linter.unusedSimpArgs false

theorem infoC_u64 : (Tryz.prog.info? 25).map (fun i => (i.zero, i.size, i.bytes)) = some (some (.int .u64 0), 1, 8) := by kernel_rfl
set_option maxHeartbeats 1000000 in
theorem clone_nil_u64 (w : World) (n c : Nat) : Calls Tryz.prog 53 #[.slice none n c] w fun e w' => e = .returned (.slice none 0 0) ∧ w' = w := by
  have qT : ∀ (w : World) (a : Option Addr) (n c n' c' : Nat), (binOp .eql 35 (.slice a n c) (.slice none n' c')).run Tryz.prog w = .ok (.bool a.isNone) w := fun w a n c n' c' => Lib.run_eql_slice_nil w _ _ a n c n' c' Tryz.underlying35
  go_enter Tryz.func53, Tryz.ntmps53
  go_wp2
  go_ret
  exact ⟨rfl, rfl⟩
set_option maxHeartbeats 1000000 in
theorem clone_zero_u64 (ad : Addr) (c : Nat) (w : World) : Calls Tryz.prog 53 #[.slice (some ad) 0 c] w fun e w' => e = .returned (.slice (some ⟨w.heap.size, 0, none⟩) 0 0) ∧ w' = w.alloc (.cells #[] 25) := by
  have qT : ∀ (w : World) (a : Option Addr) (n c n' c' : Nat), (binOp .eql 35 (.slice a n c) (.slice none n' c')).run Tryz.prog w = .ok (.bool a.isNone) w := fun w a n c n' c' => Lib.run_eql_slice_nil w _ _ a n c n' c' Tryz.underlying35
  go_enter Tryz.func53, Tryz.ntmps53
  go_wp2
  go_ret
  exact ⟨rfl, rfl⟩
def ClonePost_u64 (w : World) (n : Nat) (xs : List Value) (e : Ending) (w' : World) : Prop :=
  ∃ v, e = .returned v ∧ w'.ownsRow w.heap.size 25 1 v n xs ∧ Below w.heap.size w w' ∧ ∃ a c, v = .slice a n c
set_option maxHeartbeats 1000000 in
theorem clone_some_u64 (ad : Addr) (n c : Nat) (xs : List Value) (w : World) (hn : 0 < n) (hl : xs.length = n * 1) (hc : ∀ j u, xs[j]? = some u → w.cell? (ad.add j) = some u) (h1 : ∀ u ∈ xs, u.oneCell' = true) (hb : n * 8 ≤ 140737488355328) (h63 : n ≤ maxLen) :
    Calls Tryz.prog 53 #[.slice (some ad) n c] w (ClonePost_u64 w n xs) := by
  have qT : ∀ (w : World) (a : Option Addr) (n c n' c' : Nat), (binOp .eql 35 (.slice a n c) (.slice none n' c')).run Tryz.prog w = .ok (.bool a.isNone) w := fun w a n c n' c' => Lib.run_eql_slice_nil w _ _ a n c n' c' Tryz.underlying35
  have own : (w.alloc (.cells #[] 25)).ownsRow w.heap.size 25 1 (.slice (some ⟨w.heap.size, 0, none⟩) 0 0) 0 [] := World.ownsRow_made w #[] 0 (Nat.le_refl _) (Nat.zero_le _) rfl
  have HC : Hid (∀ j u, xs[j]? = some u → (w.alloc (.cells #[] 25)).cell? (ad.add j) = some u) := Lib.hid fun j u h => by
    have h2 := hc j u h
    rw [World.cell?_alloc_lt _ _ _ (World.block_lt_of_cell? w _ h2)]
    exact h2
  have HL := Lib.hid hl
  have H1 := Lib.hid h1
  have HO := Lib.hid own
  have HB : 0 + n ≤ maxLen := by omega
  have HB2 : (0 + n) * 8 ≤ 140737488355328 := by omega
  clear hc hl h1 own
  obtain ⟨i0, hi, hz0, hz1, hz2⟩ := info_parts infoC_u64
  go_enter Tryz.func53, Tryz.ntmps53
  go_wp2_with (at_builtin; refine wpList_append_lies _ rfl _ _ _ rfl w.heap.size 25 i0 _ 1 8 Tryz.underlying35 hi hz0 hz1 hz2 rfl (by decide) (.slice (some ⟨w.heap.size, 0, none⟩) 0 0) 0 [] rfl HO.out ad n c xs rfl HL.out HC.out H1.out hn HB HB2 (by simp) _ rfl ?_; intro g cap w1 hown hgrow hat hlt; (have HG := Lib.hid hgrow); (have HW := Lib.hid hown); clear hown hgrow)
  go_ret
  refine ⟨_, rfl, ?_, ?_, _, _, rfl⟩
  · have := HW.out
    rw [Nat.zero_add, List.nil_append] at this
    exact this
  · exact (bl_alloc (bl_refl w) _).grown HG.out (by simp) (fun k e => by cases e; exact Nat.le_refl _)
/-- Whatever comes in: what it holds, in a row of its own. -/
theorem clone_any_u64 (A : Option Addr) (n c : Nat) (xs : List Value) (w : World) (hl : xs.length = n * 1) (hA : 0 < n → ∃ ad, A = some ad ∧ ∀ j u, xs[j]? = some u → w.cell? (ad.add j) = some u) (h1 : ∀ u ∈ xs, u.oneCell' = true) (hb : n * 8 ≤ 140737488355328) (h63 : n ≤ maxLen) (hnil : A = none → n = 0) :
    Calls Tryz.prog 53 #[.slice A n c] w (ClonePost_u64 w n xs) := by
  rcases Nat.eq_zero_or_pos n with rfl | hn
  · obtain rfl : xs = [] := List.eq_nil_of_length_eq_zero (by omega)
    cases A with
    | none => exact (clone_nil_u64 w 0 c).mono fun e w' ⟨h1, h2⟩ => ⟨_, h1, by subst h2; exact World.ownsRow_nil _ _ _ _, by subst h2; exact bl_refl _, _, _, rfl⟩
    | some ad => exact (clone_zero_u64 ad c w).mono fun e w' ⟨h1, h2⟩ => ⟨_, h1, by subst h2; exact World.ownsRow_made w #[] 0 (Nat.le_refl _) (Nat.zero_le _) rfl, by subst h2; exact bl_alloc (bl_refl _) _, _, _, rfl⟩
  · obtain ⟨ad, rfl, hc⟩ := hA hn
    exact clone_some_u64 ad n c xs w hn hl hc h1 hb h63


end Go.Proofs.YtgfeagggkplegaaGreat
namespace Go.Proofs.YtgfeagggkplegaaGreat
open Go.RowKit
set_option linter.unusedVariables false
set_option linter.unusedSimpArgs false

def rdW (ws : List Int) (i : Nat) : Int := ws.getD i 0
theorem cur_at {cur : Array Value} {ws : List Int} (h : cur.toList.take ws.length = ws.map (fun x => .int .u64 x)) {i : Nat} (hi : i < ws.length) : cur[i]? = some (.int .u64 (rdW ws i)) := by
  have h1 : (cur.toList.take ws.length)[i]? = some (.int .u64 (rdW ws i)) := by
    rw [h, List.getElem?_map, List.getElem?_eq_getElem hi]
    simp [rdW, hi]
  rw [List.getElem?_take, if_pos hi] at h1
  simpa using h1
theorem set_self {ws : List Int} {i : Nat} (hi : i < ws.length) : ws.set i (rdW ws i) = ws := by
  have : rdW ws i = ws[i] := by simp [rdW, hi]
  rw [this, List.set_getElem_self]
theorem rdW_rng {ws : List Int} (h : ∀ x ∈ ws, 0 ≤ x ∧ x < 18446744073709551616) {i : Nat} (hi : i < ws.length) : 0 ≤ rdW ws i ∧ rdW ws i < 18446744073709551616 := by
  have : rdW ws i = ws[i] := by simp [rdW, hi]
  rw [this]
  exact h _ (List.getElem_mem hi)

/-- What is asked of a memory to be accessed at place i. -/
structure At (own : Nat → Nat) (t : Nat) (w : World) (p : Nat) (ws : List Int) (ns : List Note) (g c : Nat) (nv : Value) (cur : Array Value) : Prop where
  hP : w.heap[p]? = some (.cells #[.slice (some ⟨g, 0, none⟩) ws.length c, nv] 114 (0, 0))
  hn : w.ownsRow 0 132 5 nv ns.length (noteCells ns)
  hb : ∀ b, nv.ownBlock = some b → own b = t ∧ b ≠ p
  hg : own g = t
  hpg : p ≠ g
  hG : w.heap[g]? = some (.cells cur 25 (0, 0))
  hcur : cur.toList.take ws.length = ws.map (fun x => .int .u64 x)
  hng : nv.ownBlock ≠ some g
theorem At.np {own : Nat → Nat} {t : Nat} {w : World} {p : Nat} {ws : List Int} {ns : List Note} {g c : Nat} {nv : Value} {cur : Array Value} (a : At own t w p ws ns g c nv cur) : nv.ownBlock ≠ some p := fun e => (a.hb p e).2 rfl
theorem IsMem.at_ {own : Nat → Nat} {t : Nat} {w : World} {p : Nat} {ws : List Int} {ns : List Note} (h : IsMem own t w p ws ns) {i : Nat} (hi : i < ws.length) : ∃ g c nv cur, At own t w p ws ns g c nv cur := by
  obtain ⟨A, c, nv, hP, hn, hb, hg⟩ := h.body
  rcases hg with e | ⟨g, cur, rfl, e2, e3, e4, e5, e6⟩
  · subst e; cases hi
  · exact ⟨g, c, nv, cur, hP, hn, hb, e2, e3, e4, e5, e6⟩
theorem At.after {own : Nat → Nat} {t : Nat} {w w' : World} {p : Nat} {ws : List Int} {ns : List Note} {g c : Nat} {nv : Value} {cur : Array Value} (a : At own t w p ws ns g c nv cur) (h : IsMem own t w p ws ns) {i : Nat} (hi : i < ws.length) {x : Int} {nt : Note} (x0 : 0 ≤ x) (x1 : x < 18446744073709551616)
    (post : AccPost w w' p g (.slice (some ⟨g, 0, none⟩) ws.length c) nv cur ns.length (noteCells ns) i (.int .u64 x) nt.cells) : ∃ own', Fr own own' (· = t) w w' ∧ IsMem own' t w' p (ws.set i x) (ns ++ [nt]) :=
  h.acc a.hn a.hb a.hg (lt_of_heap a.hG) (lt_of_heap a.hP) a.hpg a.hng a.hcur hi x0 x1 post
/-- What a method that accesses leaves. -/
def MemPost (own : Nat → Nat) (t : Nat) (w : World) (p : Nat) (ws : List Int) (ns : List Note) (w' : World) : Prop := ∃ own', Fr own own' (· = t) w w' ∧ IsMem own' t w' p ws ns
theorem MemPost.below {own : Nat → Nat} {t : Nat} {w w1 w2 : World} {p : Nat} {ws : List Int} {ns : List Note} (h : MemPost own t w p ws ns w1) (b : Below w1.heap.size w1 w2) : MemPost own t w p ws ns w2 := by
  obtain ⟨o, f, m⟩ := h
  exact ⟨o, f.trans (Fr.below b), m.below b⟩

set_option maxHeartbeats 1000000 in
theorem load_in (own : Nat → Nat) (t p : Nat) (ws : List Int) (ns : List Note) (i : Nat) (w : World) (h : IsMem own t w p ws ns) (hi : i < ws.length) (hk : ns.length ≤ 1000000000000) :
    Calls Tryz.prog 106 #[.pointer (some ⟨p, 0, none⟩), .int .i64 i] w fun e w' => e = .returned (.tuple #[.int .u64 (rdW ws i), .int .i64 0]) ∧ MemPost own t w p ws (ns ++ [⟨108, i, rdW ws i, rdW ws i, true⟩]) w' := by
  obtain ⟨g, c, nv, cur, a⟩ := h.at_ hi
  have hl := h.len
  have hx := rdW_rng h.rng hi
  have HA := Lib.hid (acc_load p g ws.length c nv cur ns.length (noteCells ns) i (rdW ws i) w a.hP a.hG (cur_at a.hcur hi) hi (by omega) a.hpg a.hn a.np a.hng hk)
  go_enter Tryz.func106, Tryz.ntmps106
  go_wp2_with (go_at_call 63; refine HA.out.mono ?_; rintro e w' ⟨rfl, hp⟩; (have HP := Lib.hid hp); clear hp)
  go_ret2
  refine ⟨rfl, ?_⟩
  have h1 : MemPost own t w p ws (ns ++ [⟨108, i, rdW ws i, rdW ws i, true⟩]) w' := by
    have := a.after h hi (nt := ⟨108, i, rdW ws i, rdW ws i, true⟩) hx.1 hx.2 HP.out
    rw [set_self hi] at this
    exact this
  exact h1.below (by repeat (first | exact bl_refl _ | refine bl_alloc ?_ _ | refine bl_drew ?_))

set_option maxHeartbeats 1000000 in
theorem store_in (own : Nat → Nat) (t p : Nat) (ws : List Int) (ns : List Note) (i : Nat) (v : Int) (w : World) (h : IsMem own t w p ws ns) (hi : i < ws.length) (hk : ns.length ≤ 1000000000000) (v0 : 0 ≤ v) (v1 : v < 18446744073709551616) :
    Calls Tryz.prog 32 #[.pointer (some ⟨p, 0, none⟩), .int .i64 i, .int .u64 v] w fun e w' => e = .returned (.int .i64 0) ∧ MemPost own t w p (ws.set i v) (ns ++ [⟨115, i, rdW ws i, v, true⟩]) w' := by
  obtain ⟨g, c, nv, cur, a⟩ := h.at_ hi
  have hl := h.len
  have HA := Lib.hid (acc_store p g ws.length c nv cur ns.length (noteCells ns) i (rdW ws i) v w a.hP a.hG (cur_at a.hcur hi) hi (by omega) a.hpg a.hn a.np a.hng hk)
  have HV0 := Lib.hid v0
  have HV1 := Lib.hid v1
  clear v0 v1
  go_enter Tryz.func32, Tryz.ntmps32
  go_wp2_with (go_at_call 63; refine HA.out.mono ?_; rintro e w' ⟨rfl, hp⟩; (have HP := Lib.hid hp); clear hp)
  go_ret
  refine ⟨rfl, ?_⟩
  have h1 : MemPost own t w p (ws.set i v) (ns ++ [⟨115, i, rdW ws i, v, true⟩]) w' := a.after h hi (nt := ⟨115, i, rdW ws i, v, true⟩) HV0.out HV1.out HP.out
  exact h1.below (by repeat (first | exact bl_refl _ | refine bl_alloc ?_ _ | refine bl_drew ?_))

set_option maxHeartbeats 1000000 in
theorem swap_in (own : Nat → Nat) (t p : Nat) (ws : List Int) (ns : List Note) (i : Nat) (v : Int) (w : World) (h : IsMem own t w p ws ns) (hi : i < ws.length) (hk : ns.length ≤ 1000000000000) (v0 : 0 ≤ v) (v1 : v < 18446744073709551616) :
    Calls Tryz.prog 157 #[.pointer (some ⟨p, 0, none⟩), .int .i64 i, .int .u64 (rdW ws i), .int .u64 v] w fun e w' => e = .returned (.tuple #[.bool true, .int .i64 0]) ∧ MemPost own t w p (ws.set i v) (ns ++ [⟨99, i, rdW ws i, v, true⟩]) w' := by
  obtain ⟨g, c, nv, cur, a⟩ := h.at_ hi
  have hl := h.len
  have HA := Lib.hid (acc_swap p g ws.length c nv cur ns.length (noteCells ns) i (rdW ws i) v w a.hP a.hG (cur_at a.hcur hi) hi (by omega) a.hpg a.hn a.np a.hng hk)
  have HV0 := Lib.hid v0
  have HV1 := Lib.hid v1
  clear v0 v1
  go_enter Tryz.func157, Tryz.ntmps157
  go_wp2_with (go_at_call 63; refine HA.out.mono ?_; rintro e w' ⟨rfl, hp⟩; (have HP := Lib.hid hp); clear hp)
  go_ret2
  refine ⟨rfl, ?_⟩
  have h1 : MemPost own t w p (ws.set i v) (ns ++ [⟨99, i, rdW ws i, v, true⟩]) w' := a.after h hi (nt := ⟨99, i, rdW ws i, v, true⟩) HV0.out HV1.out HP.out
  exact h1.below (by repeat (first | exact bl_refl _ | refine bl_alloc ?_ _ | refine bl_drew ?_))

set_option maxHeartbeats 1000000 in
theorem swap_miss (own : Nat → Nat) (t p : Nat) (ws : List Int) (ns : List Note) (i : Nat) (old v : Int) (w : World) (h : IsMem own t w p ws ns) (hi : i < ws.length) (hk : ns.length ≤ 1000000000000) (hne : (rdW ws i == old) = false) :
    Calls Tryz.prog 157 #[.pointer (some ⟨p, 0, none⟩), .int .i64 i, .int .u64 old, .int .u64 v] w fun e w' => e = .returned (.tuple #[.bool false, .int .i64 0]) ∧ MemPost own t w p ws (ns ++ [⟨99, i, rdW ws i, rdW ws i, false⟩]) w' := by
  obtain ⟨g, c, nv, cur, a⟩ := h.at_ hi
  have hl := h.len
  have hx := rdW_rng h.rng hi
  have HA := Lib.hid (acc_miss p g ws.length c nv cur ns.length (noteCells ns) i (rdW ws i) old v w a.hP a.hG (cur_at a.hcur hi) hi (by omega) a.hpg a.hn a.np a.hng hk hne)
  clear hne
  go_enter Tryz.func157, Tryz.ntmps157
  go_wp2_with (go_at_call 63; refine HA.out.mono ?_; rintro e w' ⟨rfl, hp⟩; (have HP := Lib.hid hp); clear hp)
  go_ret2
  refine ⟨rfl, ?_⟩
  have h1 : MemPost own t w p ws (ns ++ [⟨99, i, rdW ws i, rdW ws i, false⟩]) w' := by
    have := a.after h hi (nt := ⟨99, i, rdW ws i, rdW ws i, false⟩) hx.1 hx.2 HP.out
    rw [set_self hi] at this
    exact this
  exact h1.below (by repeat (first | exact bl_refl _ | refine bl_alloc ?_ _ | refine bl_drew ?_))

set_option maxHeartbeats 1000000 in
theorem count_any (own : Nat → Nat) (t p : Nat) (ws : List Int) (ns : List Note) (w : World) (h : IsMem own t w p ws ns) :
    Calls Tryz.prog 19 #[.pointer (some ⟨p, 0, none⟩)] w fun e w' => e = .returned (.int .i64 ns.length) ∧ w' = w := by
  obtain ⟨A, c, nv, hP, hn, hb, hg⟩ := h.body
  obtain ⟨c0, c1, _, _⟩ := cells2 hP
  rcases hn.2 with ⟨rfl, e0⟩ | ⟨g, cap, cur, rfl, _, _, _, _, _, _⟩
  · have H0 := Lib.hid e0
    clear e0 hb hg hP hn h
    go_enter Tryz.func19, Tryz.ntmps19
    go_wp2
    go_ret
    exact ⟨by rw [H0.out]; rfl, rfl⟩
  · clear hb hg hP hn h
    go_enter Tryz.func19, Tryz.ntmps19
    go_wp2
    go_ret
    exact ⟨rfl, rfl⟩
end Go.Proofs.YtgfeagggkplegaaGreat
namespace Go.Proofs.YtgfeagggkplegaaGreat
open Go.RowKit
set_option linter.unusedVariables false
set_option linter.unusedSimpArgs false

set_option maxHeartbeats 1000000 in
theorem acc_low (p n c : Nat) (A : Option Addr) (i : Int) (x : Value) (w : World) (hp0 : w.cell? ⟨p, 0, none⟩ = some (.slice A n c)) (hi : i < 0) :
    Calls Tryz.prog 63 #[.pointer (some ⟨p, 0, none⟩), .int .i64 i, x] w fun e w' => e = .returned (.tuple #[.agg #[.int .u8 0, .int .i64 0, .int .u64 0, .int .u64 0, .bool false], .int .i64 2]) ∧ Below w.heap.size w w' := by
  have d0 : decide (i < 0) = true := decide_eq_true hi
  go_enter Tryz.func63, Tryz.ntmps63
  go_wp2
  refine ret_acc rfl rfl (b := w.heap.size) (heap_new rfl) rfl ⟨rfl, ?_⟩
  repeat (first | exact bl_refl _ | refine bl_alloc ?_ _ | refine bl_drew ?_)
set_option maxHeartbeats 1000000 in
theorem acc_high (p n c : Nat) (A : Option Addr) (i : Int) (x : Value) (w : World) (hp0 : w.cell? ⟨p, 0, none⟩ = some (.slice A n c)) (hi : (n : Int) ≤ i) (hm : n ≤ 9223372036854775807) :
    Calls Tryz.prog 63 #[.pointer (some ⟨p, 0, none⟩), .int .i64 i, x] w fun e w' => e = .returned (.tuple #[.agg #[.int .u8 0, .int .i64 0, .int .u64 0, .int .u64 0, .bool false], .int .i64 2]) ∧ Below w.heap.size w w' := by
  have d0 : decide (i < 0) = false := decide_eq_false (by omega)
  have d1 : decide ((n : Int) ≤ i) = true := decide_eq_true hi
  have lt0 : p < w.heap.size := World.block_lt_of_cell? w _ hp0
  go_enter Tryz.func63, Tryz.ntmps63
  go_wp2
  refine ret_acc rfl rfl (b := w.heap.size) (heap_new rfl) rfl ⟨rfl, ?_⟩
  repeat (first | exact bl_refl _ | refine bl_alloc ?_ _ | refine bl_drew ?_)
theorem acc_out (own : Nat → Nat) (t p : Nat) (ws : List Int) (ns : List Note) (i : Int) (x : Value) (w : World) (h : IsMem own t w p ws ns) (hi : i < 0 ∨ (ws.length : Int) ≤ i) :
    Calls Tryz.prog 63 #[.pointer (some ⟨p, 0, none⟩), .int .i64 i, x] w fun e w' => e = .returned (.tuple #[.agg #[.int .u8 0, .int .i64 0, .int .u64 0, .int .u64 0, .bool false], .int .i64 2]) ∧ Below w.heap.size w w' := by
  obtain ⟨A, c, nv, hP, _⟩ := h.body
  have hl := h.len
  rcases hi with hi | hi
  · exact acc_low p _ c A i x w (cells2 hP).1 hi
  · exact acc_high p _ c A i x w (cells2 hP).1 hi (by omega)
set_option maxHeartbeats 1000000 in
theorem load_out (own : Nat → Nat) (t p : Nat) (ws : List Int) (ns : List Note) (i : Int) (w : World) (h : IsMem own t w p ws ns) (hi : i < 0 ∨ (ws.length : Int) ≤ i) :
    Calls Tryz.prog 106 #[.pointer (some ⟨p, 0, none⟩), .int .i64 i] w fun e w' => e = .returned (.tuple #[.int .u64 0, .int .i64 2]) ∧ Below w.heap.size w w' := by
  have HA := Lib.hid (acc_out own t p ws ns i (.iface 191 (.agg #[])) w h hi)
  clear hi h
  go_enter Tryz.func106, Tryz.ntmps106
  go_wp2_with (go_at_call 63; refine HA.out.mono ?_; rintro e w' ⟨rfl, hp⟩; (have HP := Lib.hid hp); clear hp)
  go_ret2
  exact ⟨rfl, by repeat (first | exact HP.out | refine bl_alloc ?_ _ | refine bl_drew ?_)⟩
set_option maxHeartbeats 1000000 in
theorem store_out (own : Nat → Nat) (t p : Nat) (ws : List Int) (ns : List Note) (i v : Int) (w : World) (h : IsMem own t w p ws ns) (hi : i < 0 ∨ (ws.length : Int) ≤ i) :
    Calls Tryz.prog 32 #[.pointer (some ⟨p, 0, none⟩), .int .i64 i, .int .u64 v] w fun e w' => e = .returned (.int .i64 2) ∧ Below w.heap.size w w' := by
  have HA := Lib.hid (acc_out own t p ws ns i (.iface 136 (.agg #[.int .u64 v])) w h hi)
  clear hi h
  go_enter Tryz.func32, Tryz.ntmps32
  go_wp2_with (go_at_call 63; refine HA.out.mono ?_; rintro e w' ⟨rfl, hp⟩; (have HP := Lib.hid hp); clear hp)
  go_ret
  exact ⟨rfl, by repeat (first | exact HP.out | refine bl_alloc ?_ _ | refine bl_drew ?_)⟩
set_option maxHeartbeats 1000000 in
theorem swap_out (own : Nat → Nat) (t p : Nat) (ws : List Int) (ns : List Note) (i u v : Int) (w : World) (h : IsMem own t w p ws ns) (hi : i < 0 ∨ (ws.length : Int) ≤ i) :
    Calls Tryz.prog 157 #[.pointer (some ⟨p, 0, none⟩), .int .i64 i, .int .u64 u, .int .u64 v] w fun e w' => e = .returned (.tuple #[.bool false, .int .i64 2]) ∧ Below w.heap.size w w' := by
  have HA := Lib.hid (acc_out own t p ws ns i (.iface 193 (.agg #[.int .u64 u, .int .u64 v])) w h hi)
  clear hi h
  go_enter Tryz.func157, Tryz.ntmps157
  go_wp2_with (go_at_call 63; refine HA.out.mono ?_; rintro e w' ⟨rfl, hp⟩; (have HP := Lib.hid hp); clear hp)
  go_ret2
  exact ⟨rfl, by repeat (first | exact HP.out | refine bl_alloc ?_ _ | refine bl_drew ?_)⟩


theorem add_zero' (g j : Nat) : (⟨g, 0, none⟩ : Addr).add j = ⟨g, j, none⟩ := by unfold Addr.add; split <;> simp_all
theorem words_read {own : Nat → Nat} {t p : Nat} {ws : List Int} {ns : List Note} {w : World} (h : IsMem own t w p ws ns) :
    ∃ A c nv, w.heap[p]? = some (.cells #[.slice A ws.length c, nv] 114 (0, 0)) ∧ (0 < ws.length → ∃ ad, A = some ad ∧ ∀ j u, (ws.map fun x => Value.int .u64 x)[j]? = some u → w.cell? (ad.add j) = some u) := by
  obtain ⟨A, c, nv, hP, hn, hb, hg⟩ := h.body
  refine ⟨A, c, nv, hP, fun h0 => ?_⟩
  rcases hg with e | ⟨g, cur, rfl, e2, e3, e4, e5, e6⟩
  · subst e; cases h0
  · refine ⟨_, rfl, fun j u hu => ?_⟩
    rw [add_zero', cell_of e4]
    rw [← e5] at hu
    have hj : j < ws.length := by
      rcases Nat.lt_or_ge j ws.length with h1 | h1
      · exact h1
      · rw [List.getElem?_take, if_neg (by omega)] at hu; cases hu
    rw [List.getElem?_take, if_pos hj] at hu
    simpa using hu
/-- The words, in a row of their own. -/
def WordsPost (w : World) (ws : List Int) (e : Ending) (w' : World) : Prop :=
  ∃ v, e = .returned v ∧ w'.ownsRow w.heap.size 25 1 v ws.length (ws.map fun x => Value.int .u64 x) ∧ Below w.heap.size w w' ∧ ∃ a c, v = .slice a ws.length c
end Go.Proofs.YtgfeagggkplegaaGreat
namespace Go.Proofs.YtgfeagggkplegaaGreat
open Go.RowKit
set_option linter.unusedVariables false
set_option linter.unusedSimpArgs false

/-- A slice of words that can be read. -/
structure RdU (w : World) (A : Option Addr) (ws : List Int) : Prop where
  nil : A = none → ws.length = 0
  at_ : 0 < ws.length → ∃ ad, A = some ad ∧ ∀ j u, (ws.map fun x => Value.int .u64 x)[j]? = some u → w.cell? (ad.add j) = some u
theorem RdU.kept {w w' : World} {A : Option Addr} {ws : List Int} (h : RdU w A ws) (hb : Below w.heap.size w w') : RdU w' A ws :=
  ⟨h.nil, fun h0 => by
    obtain ⟨ad, e, hc⟩ := h.at_ h0
    exact ⟨ad, e, fun j u hu => by
      have h2 := hc j u hu
      rw [hb.cell (World.block_lt_of_cell? w _ h2)]
      exact h2⟩⟩
theorem u64_one (ws : List Int) : ∀ u ∈ ws.map (fun x => Value.int .u64 x), u.oneCell' = true := by
  intro u hu
  obtain ⟨x, _, rfl⟩ := List.mem_map.1 hu
  rfl
theorem RdU.clone {w : World} {A : Option Addr} {ws : List Int} (h : RdU w A ws) (hl : ws.length ≤ 17592186044416) (c : Nat) :
    Calls Tryz.prog 53 #[.slice A ws.length c] w (ClonePost_u64 w ws.length (ws.map fun x => Value.int .u64 x)) :=
  clone_any_u64 A ws.length c _ w (by simp) h.at_ (u64_one ws) (by omega) (by unfold maxLen; omega) h.nil
theorem mem_rdU {own : Nat → Nat} {t p : Nat} {ws : List Int} {ns : List Note} {w : World} (h : IsMem own t w p ws ns) : ∃ A c nv, w.heap[p]? = some (.cells #[.slice A ws.length c, nv] 114 (0, 0)) ∧ RdU w A ws := by
  obtain ⟨A, c, nv, hP, hn, hb, hg⟩ := h.body
  refine ⟨A, c, nv, hP, ⟨fun e => ?_, fun h0 => ?_⟩⟩
  · rcases hg with e1 | ⟨g, cur, e1, _⟩
    · rw [e1]; rfl
    · rw [e] at e1; cases e1
  · obtain ⟨A', c', nv', hP', h2⟩ := words_read h
    rw [hP] at hP'
    simp only [Option.some.injEq, Obj.cells.injEq, Array.mk.injEq, List.cons.injEq, Value.slice.injEq] at hP'
    obtain ⟨⟨⟨rfl, _, _⟩, _⟩, _⟩ := hP'
    exact h2 h0
set_option maxHeartbeats 1000000 in
theorem words_any (own : Nat → Nat) (t p : Nat) (ws : List Int) (ns : List Note) (w : World) (h : IsMem own t w p ws ns) :
    Calls Tryz.prog 21 #[.pointer (some ⟨p, 0, none⟩)] w (WordsPost w ws) := by
  obtain ⟨A, c, nv, hP, hr⟩ := mem_rdU h
  obtain ⟨c0, c1, _, _⟩ := cells2 hP
  have hl := h.len
  have HC := Lib.hid (hr.clone (by omega) c)
  clear hP h hr
  go_enter Tryz.func21, Tryz.ntmps21
  go_wp2_with (go_at_call 53; refine HC.out.mono ?_; rintro e w' ⟨v, rfl, ho, hb, a, c', rfl⟩; (have HO := Lib.hid ho); (have HB := Lib.hid hb); clear ho hb)
  go_ret
  exact ⟨_, rfl, HO.out, HB.out, _, _, rfl⟩

/-- A memory that is made. -/
def NewPost (own : Nat → Nat) (t : Nat) (w : World) (ws : List Int) (e : Ending) (w' : World) : Prop :=
  ∃ p own', e = .returned (.tuple #[.pointer (some ⟨p, 0, none⟩), .int .i64 0]) ∧ w.heap.size ≤ p ∧ Fr own own' (fun _ => False) w w' ∧ IsMem own' t w' p ws []
theorem Below.fr_new {own : Nat → Nat} {t : Nat} {w w' : World} (h : Below w.heap.size w w') : Fr own (fun b => if b < w.heap.size then own b else t) (fun _ => False) w w' :=
  ⟨⟨h.os, h.tape, h.output, h.size⟩, fun b hb _ => h.block b hb, fun b hb => by simp [hb]⟩
theorem mem_made {own : Nat → Nat} {t : Nat} {w w1 : World} {ws : List Int} {a : Option Addr} {c : Nat} (hl : ws.length ≤ 1024) (hr : ∀ x ∈ ws, 0 ≤ x ∧ x < 18446744073709551616) (hb : Below w.heap.size w w1)
    (ho : w1.ownsRow w.heap.size 25 1 (.slice a ws.length c) ws.length (ws.map fun x => Value.int .u64 x)) :
    IsMem (fun b => if b < w.heap.size then own b else t) t (w1.alloc (.cells #[.slice a ws.length c, .slice none 0 0] 114)) w1.heap.size ws [] := by
  have hs := hb.size
  refine ⟨hl, hr, by simp only [show ¬ w1.heap.size < w.heap.size by omega, if_false], a, c, .slice none 0 0, heap_new rfl, World.ownsRow_nil _ _ _ _, (fun b e => by cases e), ?_⟩
  rcases ho.2 with ⟨e, e0⟩ | ⟨g, cap, cur, e, hg, hh, h1, h2, h3, h4⟩
  · exact .inl (List.eq_nil_of_length_eq_zero e0)
  · simp only [Value.slice.injEq] at e
    obtain ⟨rfl, _, rfl⟩ := e
    have lg := lt_of_heap hh
    refine .inr ⟨g, cur, rfl, by simp only [show ¬ g < w.heap.size by omega, if_false], by omega, by rw [heap_old lg]; exact hh, ?_, by simp [Value.ownBlock]⟩
    rw [Nat.mul_one] at h4
    exact h4
set_option maxHeartbeats 1000000 in
theorem new_ok (own : Nat → Nat) (t : Nat) (A : Option Addr) (c : Nat) (ws : List Int) (w : World) (hr : RdU w A ws) (hl : ws.length ≤ 1024) (hv : ∀ x ∈ ws, 0 ≤ x ∧ x < 18446744073709551616) :
    Calls Tryz.prog 13 #[.slice A ws.length c] w (NewPost own t w ws) := by
  have d0 : decide ((1024 : Int) < ws.length) = false := decide_eq_false (by omega)
  have HC := Lib.hid (hr.clone (by omega) c)
  have HV := Lib.hid hv
  have HL := Lib.hid hl
  clear hv hr hl
  go_enter Tryz.func13, Tryz.ntmps13
  go_wp2_with (go_at_call 53; refine HC.out.mono ?_; rintro e w' ⟨v, rfl, ho, hb, a, c', rfl⟩; (have HO := Lib.hid ho); (have HB := Lib.hid hb); clear ho hb)
  go_ret2
  exact ⟨_, _, rfl, HB.out.size, Below.fr_new (bl_alloc HB.out _), mem_made HL.out HV.out HB.out HO.out⟩
set_option maxHeartbeats 1000000 in
theorem new_no (A : Option Addr) (n c : Nat) (w : World) (hl : 1024 < n) :
    Calls Tryz.prog 13 #[.slice A n c] w fun e w' => e = .returned (.tuple #[.pointer none, .int .i64 1]) ∧ w' = w := by
  have d0 : decide ((1024 : Int) < n) = true := decide_eq_true (by omega)
  go_enter Tryz.func13, Tryz.ntmps13
  go_wp2
  go_ret2
  exact ⟨rfl, rfl⟩
end Go.Proofs.YtgfeagggkplegaaGreat
