/-
  What an access of a memory does: load.
-/
import Derived.Test.YtdhkppijeocaoaaAccBase
namespace Go.Proofs.Ytdhkppijeocaoaa
open Go.RowKit
set_option linter.unusedVariables false
set_option linter.unusedSimpArgs false

set_option maxHeartbeats 8000000 in
set_option maxRecDepth 100000 in
theorem acc_load (p g n c : Nat) (nv : Value) (cur : Array Value) (k : Nat) (ns : List Value) (at_ : Nat) (x : Int) (w : World)
    (hP : w.heap[p]? = some (.cells #[.slice (some ⟨g, 0, none⟩) n c, nv] 82 (0, 0))) (hG : w.heap[g]? = some (.cells cur 41 (0, 0))) (hx : cur[at_]? = some (.int .u64 x)) (hlt : at_ < n) (hm : n ≤ 9223372036854775807) (hpg : p ≠ g)
    (hn : w.ownsRow 0 115 5 nv k ns) (hnp : nv.ownBlock ≠ some p) (hng : nv.ownBlock ≠ some g) (hk : k ≤ 1000000000000) :
    Calls Try.prog 56 #[.pointer (some ⟨p, 0, none⟩), .int .i64 at_, .iface 118 (.agg #[])] w fun e w' => e = .returned (.tuple #[.agg #[.int .u8 108, .int .i64 at_, .int .u64 x, .int .u64 x, .bool true], .int .i64 0]) ∧ AccPost w w' p g (.slice (some ⟨g, 0, none⟩) n c) nv cur k ns at_ (.int .u64 x) [.int .u8 108, .int .i64 at_, .int .u64 x, .int .u64 x, .bool true] := by
  have d0 : decide ((at_ : Int) < 0) = false := decide_eq_false (by omega)
  have d1 : decide ((n : Int) ≤ at_) = false := decide_eq_false (by omega)
  obtain ⟨hp0, hp1, hf0, hf1⟩ := cells2 hP
  have hg0 : w.cell? ⟨g, at_, none⟩ = some (.int .u64 x) := (cell_of hG at_).trans hx
  have hg1 : w.frozen? ⟨g, at_, none⟩ = false := free_of hG at_
  have lt0 : p < w.heap.size := lt_of_heap hP
  have lt1 : g < w.heap.size := lt_of_heap hG
  have lt0a : p < w.heap.size + 1 := by omega
  have lt1a : g < w.heap.size + 1 := by omega
  have lt0b : p < w.heap.size + 1 + 1 := by omega
  have lt1b : g < w.heap.size + 1 + 1 := by omega
  have ne0 : ¬ p = g := hpg
  have ne1 : ¬ g = p := fun e => hpg e.symm
  have hn1 := own_set (a := ⟨g, at_, none⟩) hn hng (.int .u64 x)
  have hnl : ∀ b, w.heap.size ≤ b → some b ≠ nv.ownBlock := fun b hb e => by have := (hn.lt b e.symm).2; omega
  have HG := Lib.hid hG
  have HP := Lib.hid hP
  have HX := Lib.hid hx
  clear hG hP hx
  have f0 : ∀ (w : World), (Instr.typeAssert (.iface 118 (.agg #[])) 20 118 true).run Try.prog w = .ok (.tuple #[.agg #[], .bool true]) w := fun _ => by kernel_rfl
  go_enter Try.func56, Try.ntmps56
  go_wp2
  go_region
  go_wp2
  go_region
  go_wp2
  obtain ⟨i0, hi, hz0, hz1, hz2⟩ := info_parts infoAcc
  go_region_law ((refine step_append_lies _ (by rfl) _ _ _ (by rfl) 0 115 i0 _ 5 40 Try.underlying80 hi hz0 hz1 hz2 rfl (by decide) nv k ns (by rfl) (by repeat (first | exact hn1 | refine World.ownsRow.alloc ?_ _ | refine own_drew ?_)) ⟨w.heap.size + 1 + 1 + 1, 0, none⟩ 1 1 [.int .u8 108, .int .i64 at_, .int .u64 x, .int .u64 x, .bool true] (by rfl) rfl (by exact World.news_of_block (cs := #[.int .u8 108, .int .i64 at_, .int .u64 x, .int .u64 x, .bool true]) (t := 115) (fr := (0, 0)) (heap_new (by simp [World.drew, World.alloc, World.setCell]))) (by simp [Value.oneCell']) (by decide) (by unfold maxLen; omega) (by omega) (Nat.zero_le _) _ rfl ?_); intro g' cap w1 hown hgrow hat hltg; (have gb : ∀ b, b < w.heap.size + 1 + 1 + 1 → some b ≠ nv.ownBlock → w1.heap[b]? = _ := fun b hb hn' => hgrow.block b (by simp [World.drew, World.alloc, World.setCell]; omega) hn'); (have bp : w1.heap[p]? = some (.cells #[.slice (some ⟨g, 0, none⟩) n c, nv] 82 (0, 0)) := by rw [gb p (by omega) (fun e => hnp e.symm)]; simp only [heap_drew]; rw [heap_old (by simp only [World.size_alloc, heap_size_set]; omega), heap_old (by simp only [World.size_alloc, heap_size_set]; omega), heap_old (by simp only [World.size_alloc, heap_size_set]; omega), heap_old (by simp only [World.size_alloc, heap_size_set]; omega), heap_set_ne hpg]; exact HP.out); (have b6 : w1.heap[w.heap.size]? = some (.cells #[.int .u8 0, .int .i64 0, .int .u64 0, .int .u64 0, .bool false] 115 (0, 0)) := by rw [gb _ (by omega) (hnl _ (by omega))]; simp only [heap_drew]; rw [heap_old (by simp only [World.size_alloc, heap_size_set]; omega), heap_old (by simp only [World.size_alloc, heap_size_set]; omega), heap_old (by simp only [World.size_alloc, heap_size_set]; omega)]; exact heap_new (by simp only [heap_size_set])); (have b8 : w1.heap[w.heap.size + 1]? = some (.cells #[.int .u8 108, .int .i64 at_, .int .u64 x, .int .u64 x, .bool true] 115 (0, 0)) := by rw [gb _ (by omega) (hnl _ (by omega))]; simp only [heap_drew]; rw [heap_old (by simp only [World.size_alloc, heap_size_set]; omega), heap_old (by simp only [World.size_alloc, heap_size_set]; omega)]; exact heap_new (by simp only [World.size_alloc, heap_size_set])); (have bg : w1.heap[g]? = some (.cells (cur.setIfInBounds at_ (.int .u64 x)) 41 (0, 0)) := by rw [gb g (by omega) (fun e => hng e.symm)]; simp only [heap_drew]; rw [heap_old (by simp only [World.size_alloc, heap_size_set]; omega), heap_old (by simp only [World.size_alloc, heap_size_set]; omega), heap_old (by simp only [World.size_alloc, heap_size_set]; omega), heap_old (by simp only [World.size_alloc, heap_size_set]; omega)]; exact heap_set HG.out); (have bk : ∀ b, b < w.heap.size → b ≠ g → some b ≠ nv.ownBlock → w1.heap[b]? = w.heap[b]? := fun b h1 h2 h3 => by rw [gb b (by omega) h3]; simp only [heap_drew]; rw [heap_old (by simp only [World.size_alloc, heap_size_set]; omega), heap_old (by simp only [World.size_alloc, heap_size_set]; omega), heap_old (by simp only [World.size_alloc, heap_size_set]; omega), heap_old (by simp only [World.size_alloc, heap_size_set]; omega), heap_set_ne h2]); (have st : Str w w1 := Str.grown (by repeat (first | exact Str.refl _ | refine Str.alloc ?_ _ | refine Str.set ?_ _ _ | refine Str.drew ?_)) hgrow); (have hat' : nv.ownBlock = some g' ∨ w.heap.size + 4 ≤ g' := hat.imp id (fun e => by rw [e]; simp only [heap_size_drew, World.size_alloc, heap_size_set]; omega)); clear gb hgrow hat; obtain ⟨cp0, cp1, cp2, cp3⟩ := cells2 bp; obtain ⟨ca0, ca1, ca2, ca3, ca4, _, _, _, _, _⟩ := cells5 b8; obtain ⟨cr0, cr1, cr2, cr3, cr4, cr5, cr6, cr7, cr8, cr9⟩ := cells5 b6; (have BP := Lib.hid bp); (have BG := Lib.hid bg); (have BK := Lib.hid bk); (have B6 := Lib.hid b6); (have HO := Lib.hid hown); clear bp bg bk b6 b8 hown; (have ne2 : ¬ p = w.heap.size := by omega); (have ne3 : ¬ w.heap.size = p := by omega); (have ne4 : ¬ w.heap.size + 1 = p := by omega))
  go_wp2
  all_goals exact ret_acc rfl rfl (acc_box B6.out ne3) rfl ⟨rfl, acc_tail lt0 lt1 hpg hnp hnl st BP.out BG.out BK.out HO.out hat'⟩

end Go.Proofs.Ytdhkppijeocaoaa
