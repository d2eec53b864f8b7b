/-
  Chapter 7's example.
-/
import Derived.Test.YtdhkppijeocaoaaTrio
namespace Go.Proofs.Ytdhkppijeocaoaa
open Go.RowKit Go.Proofs.YtdhkppijeocaoaaW.PrintWords Go.Proofs.Ytdhkppijeocaoaa.Pl
set_option linter.unusedVariables false
set_option linter.unusedSimpArgs false

abbrev L6 : List Int := [0, 1, 2, 0, 0, 0]
theorem fresh6 : freshL 2 0 0 0 2 0 = L6 := by decide
abbrev N1 : List Note := [⟨108, 1, 1, 1, true⟩]
abbrev N2 : List Note := N1 ++ [⟨108, 2, 2, 2, true⟩]
abbrev N3 : List Note := N2 ++ [⟨99, 1, 1, 4294967298, true⟩]
abbrev L6' : List Int := [0, 4294967298, 2, 0, 0, 0]
theorem s7_1 : TkStep ⟨2, 0, 0, 0, 1, 0, 0, .first, 0⟩ L6 [] 0 ⟨2, 0, 0, 0, 1, 1, 1, .second, 0⟩ L6 N1 := TkStep.head 1 2 rfl rfl rfl (by decide) (by decide) (by decide) (by decide)
theorem s7_2 : TkStep ⟨2, 0, 0, 0, 1, 1, 1, .second, 0⟩ L6 N1 0 ⟨2, 0, 0, 0, 1, 1, 1, .last 2, 0⟩ L6 N2 := TkStep.second 2 rfl rfl (by decide) (by decide)
theorem s7_3 : TkStep ⟨2, 0, 0, 0, 1, 1, 1, .last 2, 0⟩ L6 N2 1 ⟨2, 0, 0, 0, 1, 1, 1, .last 2, 1⟩ L6' N3 := TkStep.hit 1 2 rfl rfl rfl (by decide) (by decide)
theorem s7_4 : TkStep ⟨2, 0, 0, 0, 0, 0, 0, .first, 0⟩ L6' N3 2 ⟨2, 0, 0, 0, 0, 0, 0, .first, 2⟩ L6' (N3 ++ [⟨108, 0, 0, 0, true⟩]) := TkStep.none 0 rfl rfl rfl (by decide) (by decide)
/-- A step of the first Take, of the second one. -/
theorem tstepA {w w1 : World} {o : Nat → Nat} {q p1 p2 : Nat} {S1 S2 S' : TM} {ws ws' : List Int} {ns ns' : List Note} {r : Int} (h : Trio w o w1 q p1 p2 S1 S2 ws ns) (hn : ns.length ≤ 1000000000000) (hs : TkStep S1 ws ns r S' ws' ns') (i : Int) (hi : told r S' = i) :
    Calls Try.prog 14 #[.pointer (some ⟨p1, 0, none⟩), .pointer (some ⟨q, 0, none⟩)] w1 fun e w' => e = .returned (.tuple #[.int .i64 r, .int .u32 i]) ∧ ∃ o2, Trio w o2 w' q p1 p2 S' S2 ws' ns' := by
  subst hi
  exact (take_step o 2 1 p1 q S1 S' ws ws' ns ns' r w1 (by decide) h.a h.mem hn hs).mono fun e w' k => ⟨k.1, h.stepA k.2⟩
theorem tstepB {w w1 : World} {o : Nat → Nat} {q p1 p2 : Nat} {S1 S2 S' : TM} {ws ws' : List Int} {ns ns' : List Note} {r : Int} (h : Trio w o w1 q p1 p2 S1 S2 ws ns) (hn : ns.length ≤ 1000000000000) (hs : TkStep S2 ws ns r S' ws' ns') (i : Int) (hi : told r S' = i) :
    Calls Try.prog 14 #[.pointer (some ⟨p2, 0, none⟩), .pointer (some ⟨q, 0, none⟩)] w1 fun e w' => e = .returned (.tuple #[.int .i64 r, .int .u32 i]) ∧ ∃ o2, Trio w o2 w' q p1 p2 S1 S' ws' ns' := by
  subst hi
  exact (take_step o 3 1 p2 q S2 S' ws ws' ns ns' r w1 (by decide) h.b h.mem hn hs).mono fun e w' k => ⟨k.1, h.stepB k.2⟩
theorem fresh_6 (w : World) : Calls Try.prog 11 #[.agg #[.int .i64 2, .int .i64 0, .int .i64 0, .int .u32 0]] w (FreshPost w 6 L6) := by
  have := fresh_call 2 0 0 6 0 w (by decide) (by decide) (by decide) rfl
  rw [fresh6] at this
  exact this
theorem cells4 {w : World} {b : Nat} {a0 a1 a2 a3 : Value} {e : TypeId} (h : w.heap[b]? = some (.cells #[a0, a1, a2, a3] e (0, 0))) : w.cell? ⟨b, 0, none⟩ = some a0 ∧ w.cell? ⟨b, 1, none⟩ = some a1 ∧ w.cell? ⟨b, 2, none⟩ = some a2 ∧ w.cell? ⟨b, 3, none⟩ = some a3 :=
  ⟨cell_of h 0, cell_of h 1, cell_of h 2, cell_of h 3⟩
set_option maxHeartbeats 8000000 in
set_option maxRecDepth 100000 in
theorem shown7 (w : World) : Calls Try.prog 9 #[] w fun e w' => e = .returned (.bool true) ∧ Below w.heap.size w w' := by
  go_enter Try.func9, Try.ntmps9
  go_wp2_with (first | ((have _h := HT7); go_at_call 14; refine (tstepB HT7.out (by decide) s7_4 0 rfl).mono ?_; rintro e w8 ⟨rfl, o8, hs⟩; (have HT8 := Lib.hid hs); clear hs _h HT7) | ((have _h := HT6); go_at_call 14; refine (tstepA HT6.out (by decide) s7_3 1 rfl).mono ?_; rintro e w7 ⟨rfl, o7, hs⟩; (have HT7 := Lib.hid hs); clear hs _h HT6) | ((have _h := HT5); go_at_call 14; refine (tstepA HT5.out (by decide) s7_2 0 rfl).mono ?_; rintro e w6 ⟨rfl, o6, hs⟩; (have HT6 := Lib.hid hs); clear hs _h HT5) | ((have _h := HT); go_at_call 14; refine (tstepA HT.out (by decide) s7_1 0 rfl).mono ?_; rintro e w5 ⟨rfl, o5, hs⟩; (have HT5 := Lib.hid hs); clear hs _h HT) | ((have _h := HP); go_at_call 13; refine (take_new o2 3 2 0 0 0 0 _).mono ?_; intro e w4 h; obtain ⟨p2, o3, rfl, hs⟩ := HP.out.take h; (have HT := Lib.hid hs); clear h hs _h HP c0 c1 c2 c3) | ((have _h := HS); go_at_call 13; refine (take_new o1 2 2 0 0 0 1 _).mono ?_; intro e w3 h; obtain ⟨p1, o2, rfl, hs⟩ := HS.out.take h; (have HP := Lib.hid hs); (have hx := (hs.bel.block _ (lt_of_heap HX.out)).trans HX.out); clear h hs _h HS c0 c1 c2 c3; obtain ⟨c0, c1, c2, c3⟩ := cells4 hx; clear hx) | ((have _h := HB1); go_at_call 12; refine (new_ok (fun _ => 0) 1 A c L6 _ HR.out (by decide) (by decide)).mono ?_; intro e w2 h; obtain ⟨q, o1, rfl, hs⟩ := solo_of (Below.refl _ _) h; (have HS := Lib.hid hs); (have hx := (hs.bel.block _ (lt_of_heap HX.out)).trans HX.out); clear h hs _h c0 c1 c2 c3; obtain ⟨c0, c1, c2, c3⟩ := cells4 hx; clear hx) | (go_at_call 11; refine (fresh_6 _).mono ?_; rintro e w1 ⟨A, c, rfl, hr, hc, hb⟩; (have HR := Lib.hid hr); (have hx : w1.heap[w.heap.size]? = some (.cells #[.int .i64 2, .int .i64 0, .int .i64 0, .int .u32 0] 26 (0, 0)) := (hb.block _ (by simp)).trans (heap_new rfl)); (have HX := Lib.hid hx); (have HB1 := Lib.hid ((bl_alloc (bl_refl w) _).trans (hb.mono (by simp)))); clear hr hc hb; obtain ⟨c0, c1, c2, c3⟩ := cells4 hx; clear hx))
  go_ret
  exact ⟨rfl, HB1.out.trans (HT8.out.bel.mono HB1.out.size)⟩
end Go.Proofs.Ytdhkppijeocaoaa
