/-
  The chapter's example.
-/
import Derived.Test.YtgcddnajflgmbaaMemNew
namespace Go.Proofs.Ytgcddnajflgmbaa
open Go.RowKit
set_option linter.unusedVariables false
set_option linter.unusedSimpArgs false

def shOwn (n : Nat) : Nat → Nat := fun b => if b < n then 0 else 1
theorem Fr.to_below {n : Nat} {own' : Nat → Nat} {T : Nat → Prop} {w w' : World} (h : Fr (shOwn n) own' T w w') (hn : n ≤ w.heap.size) (ht : ¬ T 0) : Below n w w' :=
  ⟨h.str.os, h.str.tape, h.str.output, h.str.size, fun b hb => h.keep b (Nat.lt_of_lt_of_le hb hn) (by simp only [shOwn, hb, if_true]; exact ht)⟩
theorem rdU_one {w : World} {b : Nat} {x : Int} (h : w.heap[b]? = some (.cells #[.int .u64 x] 23 (0, 0))) : RdU w (some ⟨b, 0, none⟩) [x] :=
  { nil := fun e => by cases e
    at_ := fun _ => ⟨_, rfl, fun j u hu => by
      rw [add_zero', cell_of h]
      simpa using hu⟩ }
/-- A new memory, then some work on it: what is left below. -/
theorem NewPost.elim {own : Nat → Nat} {t : Nat} {w w' : World} {ws : List Int} {e : Ending} (h : NewPost own t w ws e w') : ∃ p own', e = .returned (.tuple #[.pointer (some ⟨p, 0, none⟩), .int .i64 0]) ∧ w.heap.size ≤ p ∧ Fr own own' (fun _ => False) w w' ∧ IsMem own' t w' p ws [] := h
theorem shown_end {w w1 w2 : World} {o o1 : Nat → Nat} {t : Nat} {p : Nat} {ws ws' : List Int} {ns : List Note} (f : Fr o o1 (· = t) w w1) (h : MemPost o1 t w1 p ws' ns w2) : MemPost o t w p ws' ns w2 := by
  obtain ⟨o2, f2, m⟩ := h
  exact ⟨o2, f.trans f2, m⟩
def ns1 : List Note := [⟨99, 0, 7, 9, true⟩]
def ns2 : List Note := [⟨99, 0, 7, 9, true⟩, ⟨99, 0, 9, 9, false⟩]
def ns3 : List Note := [⟨99, 0, 7, 9, true⟩, ⟨99, 0, 9, 9, false⟩, ⟨108, 0, 9, 9, true⟩]
theorem sh_swap (own : Nat → Nat) (t p : Nat) (w : World) (h : IsMem own t w p [7] []) :
    Calls Try.prog 12 #[.pointer (some ⟨p, 0, none⟩), .int .i64 0, .int .u64 7, .int .u64 9] w fun e w' => e = .returned (.tuple #[.bool true, .int .i64 0]) ∧ MemPost own t w p [9] ns1 w' :=
  swap_in own t p [7] [] 0 9 w h (by decide) (by decide) (by decide) (by decide)
theorem sh_miss (own : Nat → Nat) (t p : Nat) (w : World) (h : IsMem own t w p [9] ns1) :
    Calls Try.prog 12 #[.pointer (some ⟨p, 0, none⟩), .int .i64 0, .int .u64 7, .int .u64 8] w fun e w' => e = .returned (.tuple #[.bool false, .int .i64 0]) ∧ MemPost own t w p [9] ns2 w' :=
  swap_miss own t p [9] ns1 0 7 8 w h (by decide) (by decide) (by decide)
theorem sh_load (own : Nat → Nat) (t p : Nat) (w : World) (h : IsMem own t w p [9] ns2) :
    Calls Try.prog 13 #[.pointer (some ⟨p, 0, none⟩), .int .i64 0] w fun e w' => e = .returned (.tuple #[.int .u64 9, .int .i64 0]) ∧ MemPost own t w p [9] ns3 w' :=
  load_in own t p [9] ns2 0 w h (by decide) (by decide)
theorem sh_count (own : Nat → Nat) (t p : Nat) (w : World) (h : IsMem own t w p [9] ns3) :
    Calls Try.prog 16 #[.pointer (some ⟨p, 0, none⟩)] w fun e w' => e = .returned (.int .i64 3) ∧ w' = w :=
  count_any own t p [9] ns3 w h
theorem sh_new (own : Nat → Nat) (t b : Nat) (w : World) (h : w.heap[b]? = some (.cells #[.int .u64 7] 23 (0, 0))) : Calls Try.prog 10 #[.slice (some ⟨b, 0, none⟩) 1 1] w (NewPost own t w [7]) :=
  new_ok own t _ 1 [7] w (rdU_one h) (by decide) (by decide)
set_option maxHeartbeats 1000000 in
set_option maxRecDepth 100000 in
theorem shown_any (w : World) : Calls Try.prog 9 #[] w fun e w' => e = .returned (.bool true) ∧ Below w.heap.size w w' := by
  go_enter Try.func9, Try.ntmps9
  go_wp2_with (go_at_call 10; refine (sh_new (shOwn w.heap.size) 1 _ _ (heap_new rfl)).mono ?_; intro e w' h; obtain ⟨p, o1, rfl, hp, hf, hm⟩ := h.elim; (have HF := Lib.hid hf); (have HM := Lib.hid hm); clear h hf hm)
  go_at_call 12
  refine (sh_swap o1 1 p _ HM.out).mono ?_
  rintro e w2 ⟨rfl, hp2⟩
  obtain ⟨o2, hf, hm⟩ := hp2
  have HF2 := Lib.hid hf
  have HM2 := Lib.hid hm
  clear hf hm
  go_wp2_with (go_at_call 12; refine (sh_miss o2 1 p _ HM2.out).mono ?_; rintro e w3 ⟨rfl, hp⟩; obtain ⟨o3, hf, hm⟩ := hp; (have HF3 := Lib.hid hf); (have HM3 := Lib.hid hm); clear hf hm)
  go_wp2_with (go_at_call 13; refine (sh_load o3 1 p _ HM3.out).mono ?_; rintro e w4 ⟨rfl, hp⟩; obtain ⟨o4, hf, hm⟩ := hp; (have HF4 := Lib.hid hf); (have HM4 := Lib.hid hm); clear hf hm)
  go_wp2_with (go_at_call 16; refine (sh_count o4 1 p _ HM4.out).mono ?_; rintro e w5 ⟨rfl, rfl⟩)
  go_ret
  have h1 := (((HF.out.more (U := (· = 1)) (fun _ h => h.elim)).trans HF2.out).trans HF3.out).trans HF4.out
  exact ⟨rfl, (bl_alloc (bl_refl w) _).trans (h1.to_below (by simp only [World.size_alloc]; omega) (by decide))⟩
end Go.Proofs.Ytgcddnajflgmbaa
