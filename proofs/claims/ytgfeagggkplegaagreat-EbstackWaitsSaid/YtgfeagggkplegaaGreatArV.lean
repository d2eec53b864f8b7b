/-
  arena's machines as they lie in the heap, and what each of their functions does.
-/
import Derived.Test.YtgfeagggkplegaaGreatTlM
import Derived.Test.YtgfeagggkplegaaGreatClone32
import Derived.Lib.MinMax
namespace Go.Proofs.YtgfeagggkplegaaGreat
open Go.RowKit
set_option linter.unusedVariables false
set_option linter.unusedSimpArgs false

theorem cells4T {w : World} {b : Nat} {a0 a1 a2 a3 : Value} {e : TypeId} (h : w.heap[b]? = some (.cells #[a0, a1, a2, a3] e (0, 0))) : w.cell? ⟨b, 0, none⟩ = some a0 ∧ w.cell? ⟨b, 1, none⟩ = some a1 ∧ w.cell? ⟨b, 2, none⟩ = some a2 ∧ w.cell? ⟨b, 3, none⟩ = some a3 := ⟨cell_of h 0, cell_of h 1, cell_of h 2, cell_of h 3⟩

abbrev bxC (b : Nat) (n s h t : Int) : Asn := boxA b #[.int .i64 n, .int .i64 s, .int .i64 h, .int .u32 t] 24
abbrev bxN (b : Nat) (i : Int) : Asn := boxA b #[.int .u32 i] 22
abbrev atB (p : Nat) (left : Int) (sv fv nv : Value) (st i : Int) : Asn := boxA p #[.int .i64 left, sv, fv, nv, .int .i64 st, .int .u32 i] 175
abbrev agB (p : Nat) (left : Int) (sv fv nv : Value) (st i node : Int) : Asn := boxA p #[.int .i64 left, sv, fv, nv, .int .i64 st, .int .u32 i, .int .u32 node] 226
abbrev tkF (bc : Nat) : Value := .func (.func 86) #[] #[.pointer (some ⟨bc, 0, none⟩)]
abbrev gvF (bc bi : Nat) : Value := .func (.func 160) #[] #[.pointer (some ⟨bc, 0, none⟩), .pointer (some ⟨bi, 0, none⟩)]
abbrev tkI (p : Nat) : Value := .iface 121 (.pointer (some ⟨p, 0, none⟩))
abbrev gvI (p : Nat) : Value := .iface 230 (.pointer (some ⟨p, 0, none⟩))
theorem cellsA6 {w : World} {b : Nat} {a0 a1 a2 a3 a4 a5 : Value} {e : TypeId} (h : w.heap[b]? = some (.cells #[a0, a1, a2, a3, a4, a5] e (0, 0))) :
    (w.cell? ⟨b, 0, none⟩ = some a0 ∧ w.cell? ⟨b, 1, none⟩ = some a1 ∧ w.cell? ⟨b, 2, none⟩ = some a2 ∧ w.cell? ⟨b, 3, none⟩ = some a3 ∧ w.cell? ⟨b, 4, none⟩ = some a4 ∧ w.cell? ⟨b, 5, none⟩ = some a5) ∧
    (w.frozen? ⟨b, 0, none⟩ = false ∧ w.frozen? ⟨b, 1, none⟩ = false ∧ w.frozen? ⟨b, 3, none⟩ = false ∧ w.frozen? ⟨b, 4, none⟩ = false ∧ w.frozen? ⟨b, 5, none⟩ = false) ∧ b < w.heap.size :=
  ⟨⟨cell_of h 0, cell_of h 1, cell_of h 2, cell_of h 3, cell_of h 4, cell_of h 5⟩, ⟨free_of h 0, free_of h 1, free_of h 3, free_of h 4, free_of h 5⟩, lt_of_heap h⟩
theorem cellsA7 {w : World} {b : Nat} {a0 a1 a2 a3 a4 a5 a6 : Value} {e : TypeId} (h : w.heap[b]? = some (.cells #[a0, a1, a2, a3, a4, a5, a6] e (0, 0))) :
    (w.cell? ⟨b, 0, none⟩ = some a0 ∧ w.cell? ⟨b, 1, none⟩ = some a1 ∧ w.cell? ⟨b, 2, none⟩ = some a2 ∧ w.cell? ⟨b, 3, none⟩ = some a3 ∧ w.cell? ⟨b, 4, none⟩ = some a4 ∧ w.cell? ⟨b, 5, none⟩ = some a5) ∧
    (w.frozen? ⟨b, 0, none⟩ = false ∧ w.frozen? ⟨b, 1, none⟩ = false ∧ w.frozen? ⟨b, 3, none⟩ = false ∧ w.frozen? ⟨b, 4, none⟩ = false ∧ w.frozen? ⟨b, 5, none⟩ = false) ∧ b < w.heap.size ∧ w.cell? ⟨b, 6, none⟩ = some a6 :=
  ⟨⟨cell_of h 0, cell_of h 1, cell_of h 2, cell_of h 3, cell_of h 4, cell_of h 5⟩, ⟨free_of h 0, free_of h 1, free_of h 3, free_of h 4, free_of h 5⟩, lt_of_heap h, cell_of h 6⟩

set_option maxHeartbeats 4000000 in
theorem tka_ends {w0 w : World} {p : Nat} {L : List Asn} (left : Int) (sv fv nv : Value) (st i s k : Int) (hS : St w0 (atB p left sv fv nv st i :: L) w) :
    Calls Tryz.prog 135 #[.pointer (some ⟨p, 0, none⟩), .int .i64 s, .int .u32 k] w fun e w' => e = .returned (.tuple #[.int .i64 s, .int .u32 k]) ∧ St w0 (atB p left sv fv nv s k :: L) w' := by
  have H := Lib.hid hS
  obtain ⟨⟨c0, c1, c2, c3, c4, c5⟩, ⟨z0, z1, z3, z4, z5⟩, lt0⟩ := cellsA6 (hS.cells 0 rfl)
  clear hS
  go_enter Tryz.func135, Tryz.ntmps135
  go_wp2
  go_ret2
  exact ⟨rfl, (H.out.setAt 0 rfl 4 _).setAt 0 rfl 5 _⟩

set_option maxHeartbeats 4000000 in
theorem tka_kept {w0 w : World} {p : Nat} {L : List Asn} (left : Int) (A : Option Addr) (m c : Nat) (l : List Int) (fv nv : Value) (st i : Int) (hS : St w0 (atB p left (.slice A m c) fv nv st i :: row32 (.slice A m c) l :: L) w) (hm : l.length = m) (hl : m ≤ 1000000000000) :
    Calls Tryz.prog 137 #[.pointer (some ⟨p, 0, none⟩)] w fun e w' => ∃ a c', e = .returned (.slice a m c') ∧ St w0 (row32 (.slice a m c') l :: atB p left (.slice A m c) fv nv st i :: row32 (.slice A m c) l :: L) w' := by
  have hr : Rd32 w A l := by
    have := hS.rowOf 1 rfl
    rw [← hm] at this
    exact (row32_rd this).1
  have H := Lib.hid hS
  have HR := Lib.hid hr
  have HM := Lib.hid hm
  obtain ⟨⟨c0, c1, c2, c3, c4, c5⟩, ⟨z0, z1, z3, z4, z5⟩, lt0⟩ := cellsA6 (hS.cells 0 rfl)
  clear hS hr hm
  go_enter Tryz.func137, Tryz.ntmps137
  go_wp2_with (go_at_call 62; refine (clone32 A m c l H.out HR.out HM.out hl).mono ?_; rintro e w2 ⟨a, c', rfl, h⟩; (have H2 := Lib.hid h); clear h)
  go_ret
  exact ⟨a, c', rfl, H2.out⟩

set_option maxHeartbeats 4000000 in
theorem tka_shelf {w0 w : World} {p : Nat} {L : List Asn} (left : Int) (A : Option Addr) (m c : Nat) (l : List Int) (fv nv : Value) (st i : Int) (hS : St w0 (atB p left (.slice A m c) fv nv st i :: row32 (.slice A m c) l :: L) w) (hm : l.length = m) (hl : m ≤ 1000000000000) :
    Calls Tryz.prog 109 #[.pointer (some ⟨p, 0, none⟩)] w fun e w' => ∃ a c', e = .returned (.slice a m c') ∧ St w0 (row32 (.slice a m c') l :: atB p left (.slice A m c) fv nv st i :: row32 (.slice A m c) l :: L) w' := by
  have HC := Lib.hid (tka_kept left A m c l fv nv st i hS hm hl)
  clear hS hm
  go_enter Tryz.func109, Tryz.ntmps109
  go_wp2_with (go_at_call 137; refine HC.out.mono ?_; rintro e w2 ⟨a, c', rfl, h⟩; (have H2 := Lib.hid h); clear h)
  go_ret
  exact ⟨a, c', rfl, H2.out⟩

set_option maxHeartbeats 2000000 in
theorem tka_fresh {w0 w : World} {L : List Asn} (bc : Nat) (n s h t : Int) (hS : St w0 (bxC bc n s h t :: L) w) :
    Calls Tryz.prog 86 #[.pointer (some ⟨bc, 0, none⟩)] w fun e w' => ∃ v, e = .returned (tkI v) ∧ St w0 (tlA v (newTk n s h t 1) :: bxC bc n s h t :: L) w' := by
  have H := Lib.hid hS
  obtain ⟨k0, k1, k2, k3⟩ := cells4T (hS.cells 0 rfl)
  clear hS
  go_enter Tryz.func86, Tryz.ntmps86
  go_wp2_with (go_at_call 57; refine (take_new n s h t 1 H.out).mono ?_; rintro e w2 ⟨v, rfl, h⟩; (have H2 := Lib.hid h); clear h)
  go_ret
  exact ⟨v, rfl, H2.out⟩

set_option maxHeartbeats 4000000 in
theorem tka_over {w0 w : World} {q p : Nat} {ws : List Int} {ns : List Note} {L : List Asn} (left : Int) (sv fv nv : Value) (st i : Int) (hS : St w0 (memA q ws ns :: atB p left sv fv nv st i :: L) w) (hs : (st != 0) = true) :
    Calls Tryz.prog 136 #[.pointer (some ⟨p, 0, none⟩), .pointer (some ⟨q, 0, none⟩)] w fun e w' => e = .returned (.tuple #[.int .i64 st, .int .u32 i]) ∧ St w0 (memA q ws ns :: atB p left sv fv nv st i :: L) w' := by
  have H := Lib.hid hS
  obtain ⟨⟨c0, c1, c2, c3, c4, c5⟩, ⟨z0, z1, z3, z4, z5⟩, lt0⟩ := cellsA6 (hS.cells 1 rfl)
  clear hS
  go_enter Tryz.func136, Tryz.ntmps136
  go_wp2
  go_quiet (fail)
  go_wp2
  go_ret2
  exact ⟨rfl, H.out.drewN nq⟩

set_option maxHeartbeats 8000000 in
theorem tka_now_more {w0 w : World} {q p : Nat} {ws : List Int} {ns : List Note} {L : List Asn} {ws' : List Int} {ns' nt : List Note} {S : TM} {S' : TM} (left : Int) (sv : Value) (i : Int) (v : Nat) (fv : Value) (r z : Int) (hS : St w0 (memA q ws ns :: atB p left sv fv (tkI v) 0 i :: tlA v S :: L) w) (he : (S).step ws = ⟨r, S', ws', nt⟩) (hn : ns ++ nt = ns') (hz : S'.told r = z) (hg : S.give = false) (hok : (S).ok ws.length) (hk : ns.length ≤ 1000000000000) (hr : (r == 3) = false) :
    Calls Tryz.prog 136 #[.pointer (some ⟨p, 0, none⟩), .pointer (some ⟨q, 0, none⟩)] w fun e w' => e = .returned (.tuple #[.int .i64 r, .int .u32 z]) ∧ St w0 (memA q ws' ns' :: atB p left sv fv (tkI v) r z :: tlA v S' :: L) w' := by
  have H := Lib.hid hS
  have HE := Lib.hid he
  have HN := Lib.hid hn
  have HZ := Lib.hid hz
  have HOK := Lib.hid hok
  obtain ⟨⟨c0, c1, c2, c3, c4, c5⟩, ⟨z0, z1, z3, z4, z5⟩, lt0⟩ := cellsA6 (hS.cells 1 rfl)
  clear hS he hn hz hok
  go_enter Tryz.func136, Tryz.ntmps136
  go_wp2_with ((go_at_call 215; refine (tk_out HE.out HN.out HZ.out hg ((H.out.front 2 rfl).front 1 rfl) HOK.out hk).mono ?_; rintro e w3 ⟨rfl, h⟩; (have H3 := Lib.hid ((h.front 2 rfl).front 1 rfl)); clear h; clear c0 c1 c2 c3 c4 c5 z0 z1 z3 z4 z5 lt0; obtain ⟨⟨c0, c1, c2, c3, c4, c5⟩, ⟨z0, z1, z3, z4, z5⟩, lt0⟩ := cellsA6 (H3.out.cells 1 rfl)))
  go_quiet (fail)
  go_wp2
  go_ret2
  exact ⟨rfl, ((H3.out.setAt 1 rfl 4 (.int .i64 r)).setAt 1 rfl 5 (.int .u32 z)).drewN nq⟩

set_option maxHeartbeats 8000000 in
theorem tka_now_last {w0 w : World} {q p : Nat} {ws : List Int} {ns : List Note} {L : List Asn} {ws' : List Int} {ns' nt : List Note} {S : TM} {S' : TM} (left : Int) (sv : Value) (i : Int) (v : Nat) (fv : Value) (r z : Int) (hS : St w0 (memA q ws ns :: atB p left sv fv (tkI v) 0 i :: tlA v S :: L) w) (he : (S).step ws = ⟨r, S', ws', nt⟩) (hn : ns ++ nt = ns') (hz : S'.told r = z) (hg : S.give = false) (hok : (S).ok ws.length) (hk : ns.length ≤ 1000000000000) (hr : r = 3) (hl : (left == 0) = true) (l0 : -9223372036854775807 ≤ left) (l1 : left ≤ 9223372036854775807) :
    Calls Tryz.prog 136 #[.pointer (some ⟨p, 0, none⟩), .pointer (some ⟨q, 0, none⟩)] w fun e w' => e = .returned (.tuple #[.int .i64 6, .int .u32 z]) ∧ St w0 (memA q ws' ns' :: atB p (left - 1) sv fv .nilIface 6 z :: tlA v S' :: L) w' := by
  have H := Lib.hid hS
  have HE := Lib.hid he
  have HN := Lib.hid hn
  have HZ := Lib.hid hz
  have HOK := Lib.hid hok
  obtain ⟨⟨c0, c1, c2, c3, c4, c5⟩, ⟨z0, z1, z3, z4, z5⟩, lt0⟩ := cellsA6 (hS.cells 1 rfl)
  clear hS he hn hz hok
  subst hr
  go_enter Tryz.func136, Tryz.ntmps136
  go_wp2_with ((go_at_call 215; refine (tk_out HE.out HN.out HZ.out hg ((H.out.front 2 rfl).front 1 rfl) HOK.out hk).mono ?_; rintro e w3 ⟨rfl, h⟩; (have H3 := Lib.hid ((h.front 2 rfl).front 1 rfl)); clear h; clear c0 c1 c2 c3 c4 c5 z0 z1 z3 z4 z5 lt0; obtain ⟨⟨c0, c1, c2, c3, c4, c5⟩, ⟨z0, z1, z3, z4, z5⟩, lt0⟩ := cellsA6 (H3.out.cells 1 rfl)))
  have h5 := ((((((H3.out.setAt 1 rfl 4 (.int .i64 3)).setAt 1 rfl 5 (.int .u32 z)).setAt 1 rfl 3 .nilIface).setAt 1 rfl 4 (.int .i64 0)).setAt 1 rfl 4 (.int .i64 6)).setAt 1 rfl 0 (.int .i64 (left - 1)))
  generalize (((((w3.setCell ⟨p, 4, none⟩ (.int .i64 3)).setCell ⟨p, 5, none⟩ (.int .u32 z)).setCell ⟨p, 3, none⟩ .nilIface).setCell ⟨p, 4, none⟩ (.int .i64 0)).setCell ⟨p, 4, none⟩ (.int .i64 6)).setCell ⟨p, 0, none⟩ (.int .i64 (left - 1)) = W at *
  have H5 := Lib.hid h5
  clear c0 c1 c2 c3 c4 c5 z0 z1 z3 z4 z5 lt0
  obtain ⟨⟨c0, c1, c2, c3, c4, c5⟩, ⟨z0, z1, z3, z4, z5⟩, lt0⟩ := cellsA6 (h5.cells 1 rfl)
  clear h5
  go_quiet (fail)
  go_wp2
  go_ret2
  exact ⟨rfl, H5.out.drewN nq⟩

set_option maxHeartbeats 8000000 in
theorem tka_now_left {w0 w : World} {q p : Nat} {ws : List Int} {ns : List Note} {L : List Asn} {ws' : List Int} {ns' nt : List Note} {S : TM} {S' : TM} (left : Int) (sv : Value) (i : Int) (v : Nat) (fv : Value) (r z : Int) (hS : St w0 (memA q ws ns :: atB p left sv fv (tkI v) 0 i :: tlA v S :: L) w) (he : (S).step ws = ⟨r, S', ws', nt⟩) (hn : ns ++ nt = ns') (hz : S'.told r = z) (hg : S.give = false) (hok : (S).ok ws.length) (hk : ns.length ≤ 1000000000000) (hr : r = 3) (hl : (left == 0) = false) (l0 : -9223372036854775807 ≤ left) (l1 : left ≤ 9223372036854775807) :
    Calls Tryz.prog 136 #[.pointer (some ⟨p, 0, none⟩), .pointer (some ⟨q, 0, none⟩)] w fun e w' => e = .returned (.tuple #[.int .i64 0, .int .u32 z]) ∧ St w0 (memA q ws' ns' :: atB p (left - 1) sv fv .nilIface 0 z :: tlA v S' :: L) w' := by
  have H := Lib.hid hS
  have HE := Lib.hid he
  have HN := Lib.hid hn
  have HZ := Lib.hid hz
  have HOK := Lib.hid hok
  obtain ⟨⟨c0, c1, c2, c3, c4, c5⟩, ⟨z0, z1, z3, z4, z5⟩, lt0⟩ := cellsA6 (hS.cells 1 rfl)
  clear hS he hn hz hok
  subst hr

  go_enter Tryz.func136, Tryz.ntmps136
  go_wp2_with ((go_at_call 215; refine (tk_out HE.out HN.out HZ.out hg ((H.out.front 2 rfl).front 1 rfl) HOK.out hk).mono ?_; rintro e w3 ⟨rfl, h⟩; (have H3 := Lib.hid ((h.front 2 rfl).front 1 rfl)); clear h; clear c0 c1 c2 c3 c4 c5 z0 z1 z3 z4 z5 lt0; obtain ⟨⟨c0, c1, c2, c3, c4, c5⟩, ⟨z0, z1, z3, z4, z5⟩, lt0⟩ := cellsA6 (H3.out.cells 1 rfl)))
  have h5 := (((((H3.out.setAt 1 rfl 4 (.int .i64 3)).setAt 1 rfl 5 (.int .u32 z)).setAt 1 rfl 3 .nilIface).setAt 1 rfl 4 (.int .i64 0)).setAt 1 rfl 0 (.int .i64 (left - 1)))
  generalize ((((w3.setCell ⟨p, 4, none⟩ (.int .i64 3)).setCell ⟨p, 5, none⟩ (.int .u32 z)).setCell ⟨p, 3, none⟩ .nilIface).setCell ⟨p, 4, none⟩ (.int .i64 0)).setCell ⟨p, 0, none⟩ (.int .i64 (left - 1)) = W at *
  have H5 := Lib.hid h5
  clear c0 c1 c2 c3 c4 c5 z0 z1 z3 z4 z5 lt0
  obtain ⟨⟨c0, c1, c2, c3, c4, c5⟩, ⟨z0, z1, z3, z4, z5⟩, lt0⟩ := cellsA6 (h5.cells 1 rfl)
  clear h5
  go_quiet (fail)
  go_wp2
  go_ret2
  exact ⟨rfl, H5.out.drewN nq⟩

set_option maxHeartbeats 8000000 in
theorem tka_new_more {w0 w : World} {q p : Nat} {ws : List Int} {ns : List Note} {L : List Asn} {ws' : List Int} {ns' nt : List Note} {S' : TM} (left : Int) (sv : Value) (i : Int) (bc : Nat) (n s h t : Int) (r z : Int) (hS : St w0 (memA q ws ns :: atB p left sv (tkF bc) .nilIface 0 i :: bxC bc n s h t :: L) w) (he : (newTk n s h t 1).step ws = ⟨r, S', ws', nt⟩) (hn : ns ++ nt = ns') (hz : S'.told r = z) (hok : (newTk n s h t 1).ok ws.length) (hk : ns.length ≤ 1000000000000) (hr : (r == 3) = false) :
    Calls Tryz.prog 136 #[.pointer (some ⟨p, 0, none⟩), .pointer (some ⟨q, 0, none⟩)] w fun e w' => ∃ v, e = .returned (.tuple #[.int .i64 r, .int .u32 z]) ∧ St w0 (memA q ws' ns' :: atB p left sv (tkF bc) (tkI v) r z :: tlA v S' :: bxC bc n s h t :: L) w' := by
  have H := Lib.hid hS
  have HE := Lib.hid he
  have HN := Lib.hid hn
  have HZ := Lib.hid hz
  have HOK := Lib.hid hok
  obtain ⟨⟨c0, c1, c2, c3, c4, c5⟩, ⟨z0, z1, z3, z4, z5⟩, lt0⟩ := cellsA6 (hS.cells 1 rfl)
  clear hS he hn hz hok
  go_enter Tryz.func136, Tryz.ntmps136
  go_wp2_with (first | ((have _h := H1); go_at_call 215; refine (tk_out HE.out HN.out HZ.out rfl ((H1.out.setAt 3 rfl 3 (tkI v)).front 2 rfl) HOK.out hk).mono ?_; rintro e w3 ⟨rfl, h⟩; (have H3 := Lib.hid (((h.front 3 rfl).front 1 rfl))); clear h _h; clear c0 c1 c2 c3 c4 c5 z0 z1 z3 z4 z5 lt0; obtain ⟨⟨c0, c1, c2, c3, c4, c5⟩, ⟨z0, z1, z3, z4, z5⟩, lt0⟩ := cellsA6 (H3.out.cells 1 rfl)) | (go_at_call 86; refine (tka_fresh bc n s h t ((H.out.front 2 rfl))).mono ?_; rintro e w1 ⟨v, rfl, h⟩; (have H1 := Lib.hid h); clear h; clear c0 c1 c2 c3 c4 c5 z0 z1 z3 z4 z5 lt0; obtain ⟨⟨c0, c1, c2, c3, c4, c5⟩, ⟨z0, z1, z3, z4, z5⟩, lt0⟩ := cellsA6 (H1.out.cells 3 rfl)))
  go_quiet (fail)
  go_wp2
  go_ret2
  exact ⟨v, rfl, ((H3.out.setAt 1 rfl 4 (.int .i64 r)).setAt 1 rfl 5 (.int .u32 z)).drewN nq⟩

set_option maxHeartbeats 8000000 in
theorem tka_new_last {w0 w : World} {q p : Nat} {ws : List Int} {ns : List Note} {L : List Asn} {ws' : List Int} {ns' nt : List Note} {S' : TM} (left : Int) (sv : Value) (i : Int) (bc : Nat) (n s h t : Int) (r z : Int) (hS : St w0 (memA q ws ns :: atB p left sv (tkF bc) .nilIface 0 i :: bxC bc n s h t :: L) w) (he : (newTk n s h t 1).step ws = ⟨r, S', ws', nt⟩) (hn : ns ++ nt = ns') (hz : S'.told r = z) (hok : (newTk n s h t 1).ok ws.length) (hk : ns.length ≤ 1000000000000) (hr : r = 3) (hl : (left == 0) = true) (l0 : -9223372036854775807 ≤ left) (l1 : left ≤ 9223372036854775807) :
    Calls Tryz.prog 136 #[.pointer (some ⟨p, 0, none⟩), .pointer (some ⟨q, 0, none⟩)] w fun e w' => ∃ v, e = .returned (.tuple #[.int .i64 6, .int .u32 z]) ∧ St w0 (memA q ws' ns' :: atB p (left - 1) sv (tkF bc) .nilIface 6 z :: tlA v S' :: bxC bc n s h t :: L) w' := by
  have H := Lib.hid hS
  have HE := Lib.hid he
  have HN := Lib.hid hn
  have HZ := Lib.hid hz
  have HOK := Lib.hid hok
  obtain ⟨⟨c0, c1, c2, c3, c4, c5⟩, ⟨z0, z1, z3, z4, z5⟩, lt0⟩ := cellsA6 (hS.cells 1 rfl)
  clear hS he hn hz hok
  subst hr
  go_enter Tryz.func136, Tryz.ntmps136
  go_wp2_with (first | ((have _h := H1); go_at_call 215; refine (tk_out HE.out HN.out HZ.out rfl ((H1.out.setAt 3 rfl 3 (tkI v)).front 2 rfl) HOK.out hk).mono ?_; rintro e w3 ⟨rfl, h⟩; (have H3 := Lib.hid (((h.front 3 rfl).front 1 rfl))); clear h _h; clear c0 c1 c2 c3 c4 c5 z0 z1 z3 z4 z5 lt0; obtain ⟨⟨c0, c1, c2, c3, c4, c5⟩, ⟨z0, z1, z3, z4, z5⟩, lt0⟩ := cellsA6 (H3.out.cells 1 rfl)) | (go_at_call 86; refine (tka_fresh bc n s h t ((H.out.front 2 rfl))).mono ?_; rintro e w1 ⟨v, rfl, h⟩; (have H1 := Lib.hid h); clear h; clear c0 c1 c2 c3 c4 c5 z0 z1 z3 z4 z5 lt0; obtain ⟨⟨c0, c1, c2, c3, c4, c5⟩, ⟨z0, z1, z3, z4, z5⟩, lt0⟩ := cellsA6 (H1.out.cells 3 rfl)))
  have h5 := ((((((H3.out.setAt 1 rfl 4 (.int .i64 3)).setAt 1 rfl 5 (.int .u32 z)).setAt 1 rfl 3 .nilIface).setAt 1 rfl 4 (.int .i64 0)).setAt 1 rfl 4 (.int .i64 6)).setAt 1 rfl 0 (.int .i64 (left - 1)))
  generalize (((((w3.setCell ⟨p, 4, none⟩ (.int .i64 3)).setCell ⟨p, 5, none⟩ (.int .u32 z)).setCell ⟨p, 3, none⟩ .nilIface).setCell ⟨p, 4, none⟩ (.int .i64 0)).setCell ⟨p, 4, none⟩ (.int .i64 6)).setCell ⟨p, 0, none⟩ (.int .i64 (left - 1)) = W at *
  have H5 := Lib.hid h5
  clear c0 c1 c2 c3 c4 c5 z0 z1 z3 z4 z5 lt0
  obtain ⟨⟨c0, c1, c2, c3, c4, c5⟩, ⟨z0, z1, z3, z4, z5⟩, lt0⟩ := cellsA6 (h5.cells 1 rfl)
  clear h5
  go_quiet (fail)
  go_wp2
  go_ret2
  exact ⟨v, rfl, H5.out.drewN nq⟩

set_option maxHeartbeats 8000000 in
theorem tka_new_left {w0 w : World} {q p : Nat} {ws : List Int} {ns : List Note} {L : List Asn} {ws' : List Int} {ns' nt : List Note} {S' : TM} (left : Int) (sv : Value) (i : Int) (bc : Nat) (n s h t : Int) (r z : Int) (hS : St w0 (memA q ws ns :: atB p left sv (tkF bc) .nilIface 0 i :: bxC bc n s h t :: L) w) (he : (newTk n s h t 1).step ws = ⟨r, S', ws', nt⟩) (hn : ns ++ nt = ns') (hz : S'.told r = z) (hok : (newTk n s h t 1).ok ws.length) (hk : ns.length ≤ 1000000000000) (hr : r = 3) (hl : (left == 0) = false) (l0 : -9223372036854775807 ≤ left) (l1 : left ≤ 9223372036854775807) :
    Calls Tryz.prog 136 #[.pointer (some ⟨p, 0, none⟩), .pointer (some ⟨q, 0, none⟩)] w fun e w' => ∃ v, e = .returned (.tuple #[.int .i64 0, .int .u32 z]) ∧ St w0 (memA q ws' ns' :: atB p (left - 1) sv (tkF bc) .nilIface 0 z :: tlA v S' :: bxC bc n s h t :: L) w' := by
  have H := Lib.hid hS
  have HE := Lib.hid he
  have HN := Lib.hid hn
  have HZ := Lib.hid hz
  have HOK := Lib.hid hok
  obtain ⟨⟨c0, c1, c2, c3, c4, c5⟩, ⟨z0, z1, z3, z4, z5⟩, lt0⟩ := cellsA6 (hS.cells 1 rfl)
  clear hS he hn hz hok
  subst hr

  go_enter Tryz.func136, Tryz.ntmps136
  go_wp2_with (first | ((have _h := H1); go_at_call 215; refine (tk_out HE.out HN.out HZ.out rfl ((H1.out.setAt 3 rfl 3 (tkI v)).front 2 rfl) HOK.out hk).mono ?_; rintro e w3 ⟨rfl, h⟩; (have H3 := Lib.hid (((h.front 3 rfl).front 1 rfl))); clear h _h; clear c0 c1 c2 c3 c4 c5 z0 z1 z3 z4 z5 lt0; obtain ⟨⟨c0, c1, c2, c3, c4, c5⟩, ⟨z0, z1, z3, z4, z5⟩, lt0⟩ := cellsA6 (H3.out.cells 1 rfl)) | (go_at_call 86; refine (tka_fresh bc n s h t ((H.out.front 2 rfl))).mono ?_; rintro e w1 ⟨v, rfl, h⟩; (have H1 := Lib.hid h); clear h; clear c0 c1 c2 c3 c4 c5 z0 z1 z3 z4 z5 lt0; obtain ⟨⟨c0, c1, c2, c3, c4, c5⟩, ⟨z0, z1, z3, z4, z5⟩, lt0⟩ := cellsA6 (H1.out.cells 3 rfl)))
  have h5 := (((((H3.out.setAt 1 rfl 4 (.int .i64 3)).setAt 1 rfl 5 (.int .u32 z)).setAt 1 rfl 3 .nilIface).setAt 1 rfl 4 (.int .i64 0)).setAt 1 rfl 0 (.int .i64 (left - 1)))
  generalize ((((w3.setCell ⟨p, 4, none⟩ (.int .i64 3)).setCell ⟨p, 5, none⟩ (.int .u32 z)).setCell ⟨p, 3, none⟩ .nilIface).setCell ⟨p, 4, none⟩ (.int .i64 0)).setCell ⟨p, 0, none⟩ (.int .i64 (left - 1)) = W at *
  have H5 := Lib.hid h5
  clear c0 c1 c2 c3 c4 c5 z0 z1 z3 z4 z5 lt0
  obtain ⟨⟨c0, c1, c2, c3, c4, c5⟩, ⟨z0, z1, z3, z4, z5⟩, lt0⟩ := cellsA6 (h5.cells 1 rfl)
  clear h5
  go_quiet (fail)
  go_wp2
  go_ret2
  exact ⟨v, rfl, H5.out.drewN nq⟩

set_option maxHeartbeats 4000000 in
theorem gva_ends {w0 w : World} {p : Nat} {L : List Asn} (left : Int) (sv fv nv : Value) (st i s k : Int) (node : Int) (hS : St w0 (agB p left sv fv nv st i node :: L) w) :
    Calls Tryz.prog 135 #[.pointer (some ⟨p, 0, none⟩), .int .i64 s, .int .u32 k] w fun e w' => e = .returned (.tuple #[.int .i64 s, .int .u32 k]) ∧ St w0 (agB p left sv fv nv s k node :: L) w' := by
  have H := Lib.hid hS
  obtain ⟨⟨c0, c1, c2, c3, c4, c5⟩, ⟨z0, z1, z3, z4, z5⟩, lt0, c6⟩ := cellsA7 (hS.cells 0 rfl)
  clear hS
  go_enter Tryz.func135, Tryz.ntmps135
  go_wp2
  go_ret2
  exact ⟨rfl, (H.out.setAt 0 rfl 4 _).setAt 0 rfl 5 _⟩

set_option maxHeartbeats 4000000 in
theorem gva_kept {w0 w : World} {p : Nat} {L : List Asn} (left : Int) (A : Option Addr) (m c : Nat) (l : List Int) (fv nv : Value) (st i : Int) (node : Int) (hS : St w0 (agB p left (.slice A m c) fv nv st i node :: row32 (.slice A m c) l :: L) w) (hm : l.length = m) (hl : m ≤ 1000000000000) :
    Calls Tryz.prog 137 #[.pointer (some ⟨p, 0, none⟩)] w fun e w' => ∃ a c', e = .returned (.slice a m c') ∧ St w0 (row32 (.slice a m c') l :: agB p left (.slice A m c) fv nv st i node :: row32 (.slice A m c) l :: L) w' := by
  have hr : Rd32 w A l := by
    have := hS.rowOf 1 rfl
    rw [← hm] at this
    exact (row32_rd this).1
  have H := Lib.hid hS
  have HR := Lib.hid hr
  have HM := Lib.hid hm
  obtain ⟨⟨c0, c1, c2, c3, c4, c5⟩, ⟨z0, z1, z3, z4, z5⟩, lt0, c6⟩ := cellsA7 (hS.cells 0 rfl)
  clear hS hr hm
  go_enter Tryz.func137, Tryz.ntmps137
  go_wp2_with (go_at_call 62; refine (clone32 A m c l H.out HR.out HM.out hl).mono ?_; rintro e w2 ⟨a, c', rfl, h⟩; (have H2 := Lib.hid h); clear h)
  go_ret
  exact ⟨a, c', rfl, H2.out⟩

set_option maxHeartbeats 4000000 in
theorem gva_shelf {w0 w : World} {p : Nat} {L : List Asn} (left : Int) (A : Option Addr) (m c : Nat) (l : List Int) (fv nv : Value) (st i : Int) (node : Int) (hS : St w0 (agB p left (.slice A m c) fv nv st i node :: row32 (.slice A m c) l :: L) w) (hm : l.length = m) (hl : m ≤ 1000000000000) :
    Calls Tryz.prog 112 #[.pointer (some ⟨p, 0, none⟩)] w fun e w' => ∃ a c', e = .returned (.slice a m c') ∧ St w0 (row32 (.slice a m c') l :: agB p left (.slice A m c) fv nv st i node :: row32 (.slice A m c) l :: L) w' := by
  have HC := Lib.hid (gva_kept left A m c l fv nv st i node hS hm hl)
  clear hS hm
  go_enter Tryz.func112, Tryz.ntmps112
  go_wp2_with (go_at_call 137; refine HC.out.mono ?_; rintro e w2 ⟨a, c', rfl, h⟩; (have H2 := Lib.hid h); clear h)
  go_ret
  exact ⟨a, c', rfl, H2.out⟩

set_option maxHeartbeats 2000000 in
theorem gva_fresh {w0 w : World} {L : List Asn} (bc bi : Nat) (n s h t node : Int) (hS : St w0 (bxC bc n s h t :: bxN bi node :: L) w) :
    Calls Tryz.prog 160 #[.pointer (some ⟨bc, 0, none⟩), .pointer (some ⟨bi, 0, none⟩)] w fun e w' => ∃ v, e = .returned (gvI v) ∧ St w0 (tlA v (newGv n s h t 1 node) :: bxC bc n s h t :: bxN bi node :: L) w' := by
  have H := Lib.hid hS
  obtain ⟨k0, k1, k2, k3⟩ := cells4T (hS.cells 0 rfl)
  have k4 := cell_of (hS.cells 1 rfl) 0
  clear hS
  go_enter Tryz.func160, Tryz.ntmps160
  go_wp2_with (go_at_call 141; refine (give_new n s h t 1 node H.out).mono ?_; rintro e w2 ⟨v, rfl, h⟩; (have H2 := Lib.hid h); clear h)
  go_ret
  exact ⟨v, rfl, H2.out⟩

set_option maxHeartbeats 4000000 in
theorem gva_over {w0 w : World} {q p : Nat} {ws : List Int} {ns : List Note} {L : List Asn} (left : Int) (sv fv nv : Value) (st i : Int) (node : Int) (hS : St w0 (memA q ws ns :: agB p left sv fv nv st i node :: L) w) (hs : (st != 0) = true) :
    Calls Tryz.prog 136 #[.pointer (some ⟨p, 0, none⟩), .pointer (some ⟨q, 0, none⟩)] w fun e w' => e = .returned (.tuple #[.int .i64 st, .int .u32 i]) ∧ St w0 (memA q ws ns :: agB p left sv fv nv st i node :: L) w' := by
  have H := Lib.hid hS
  obtain ⟨⟨c0, c1, c2, c3, c4, c5⟩, ⟨z0, z1, z3, z4, z5⟩, lt0, c6⟩ := cellsA7 (hS.cells 1 rfl)
  clear hS
  go_enter Tryz.func136, Tryz.ntmps136
  go_wp2
  go_quiet (fail)
  go_wp2
  go_ret2
  exact ⟨rfl, H.out.drewN nq⟩

set_option maxHeartbeats 8000000 in
theorem gva_now_more {w0 w : World} {q p : Nat} {ws : List Int} {ns : List Note} {L : List Asn} {ws' : List Int} {ns' nt : List Note} {S : TM} {S' : TM} (left : Int) (sv : Value) (i : Int) (v : Nat) (fv : Value) (node : Int) (r z : Int) (hS : St w0 (memA q ws ns :: agB p left sv fv (gvI v) 0 i node :: tlA v S :: L) w) (he : (S).step ws = ⟨r, S', ws', nt⟩) (hn : ns ++ nt = ns') (hz : S'.told r = z) (hg : S.give = true) (hok : (S).ok ws.length) (hk : ns.length ≤ 1000000000000) (hr : (r == 3) = false) :
    Calls Tryz.prog 136 #[.pointer (some ⟨p, 0, none⟩), .pointer (some ⟨q, 0, none⟩)] w fun e w' => e = .returned (.tuple #[.int .i64 r, .int .u32 z]) ∧ St w0 (memA q ws' ns' :: agB p left sv fv (gvI v) r z node :: tlA v S' :: L) w' := by
  have H := Lib.hid hS
  have HE := Lib.hid he
  have HN := Lib.hid hn
  have HZ := Lib.hid hz
  have HOK := Lib.hid hok
  obtain ⟨⟨c0, c1, c2, c3, c4, c5⟩, ⟨z0, z1, z3, z4, z5⟩, lt0, c6⟩ := cellsA7 (hS.cells 1 rfl)
  clear hS he hn hz hok
  go_enter Tryz.func136, Tryz.ntmps136
  go_wp2_with ((go_at_call 218; refine (gv_out HE.out HN.out HZ.out hg ((H.out.front 2 rfl).front 1 rfl) HOK.out hk).mono ?_; rintro e w3 ⟨rfl, h⟩; (have H3 := Lib.hid ((h.front 2 rfl).front 1 rfl)); clear h; clear c0 c1 c2 c3 c4 c5 z0 z1 z3 z4 z5 lt0 c6; obtain ⟨⟨c0, c1, c2, c3, c4, c5⟩, ⟨z0, z1, z3, z4, z5⟩, lt0, c6⟩ := cellsA7 (H3.out.cells 1 rfl)))
  go_quiet (fail)
  go_wp2
  go_ret2
  exact ⟨rfl, ((H3.out.setAt 1 rfl 4 (.int .i64 r)).setAt 1 rfl 5 (.int .u32 z)).drewN nq⟩

set_option maxHeartbeats 8000000 in
theorem gva_now_last {w0 w : World} {q p : Nat} {ws : List Int} {ns : List Note} {L : List Asn} {ws' : List Int} {ns' nt : List Note} {S : TM} {S' : TM} (left : Int) (sv : Value) (i : Int) (v : Nat) (fv : Value) (node : Int) (r z : Int) (hS : St w0 (memA q ws ns :: agB p left sv fv (gvI v) 0 i node :: tlA v S :: L) w) (he : (S).step ws = ⟨r, S', ws', nt⟩) (hn : ns ++ nt = ns') (hz : S'.told r = z) (hg : S.give = true) (hok : (S).ok ws.length) (hk : ns.length ≤ 1000000000000) (hr : r = 3) (hl : (left == 0) = true) (l0 : -9223372036854775807 ≤ left) (l1 : left ≤ 9223372036854775807) :
    Calls Tryz.prog 136 #[.pointer (some ⟨p, 0, none⟩), .pointer (some ⟨q, 0, none⟩)] w fun e w' => e = .returned (.tuple #[.int .i64 6, .int .u32 z]) ∧ St w0 (memA q ws' ns' :: agB p (left - 1) sv fv .nilIface 6 z node :: tlA v S' :: L) w' := by
  have H := Lib.hid hS
  have HE := Lib.hid he
  have HN := Lib.hid hn
  have HZ := Lib.hid hz
  have HOK := Lib.hid hok
  obtain ⟨⟨c0, c1, c2, c3, c4, c5⟩, ⟨z0, z1, z3, z4, z5⟩, lt0, c6⟩ := cellsA7 (hS.cells 1 rfl)
  clear hS he hn hz hok
  subst hr
  go_enter Tryz.func136, Tryz.ntmps136
  go_wp2_with ((go_at_call 218; refine (gv_out HE.out HN.out HZ.out hg ((H.out.front 2 rfl).front 1 rfl) HOK.out hk).mono ?_; rintro e w3 ⟨rfl, h⟩; (have H3 := Lib.hid ((h.front 2 rfl).front 1 rfl)); clear h; clear c0 c1 c2 c3 c4 c5 z0 z1 z3 z4 z5 lt0 c6; obtain ⟨⟨c0, c1, c2, c3, c4, c5⟩, ⟨z0, z1, z3, z4, z5⟩, lt0, c6⟩ := cellsA7 (H3.out.cells 1 rfl)))
  have h5 := ((((((H3.out.setAt 1 rfl 4 (.int .i64 3)).setAt 1 rfl 5 (.int .u32 z)).setAt 1 rfl 3 .nilIface).setAt 1 rfl 4 (.int .i64 0)).setAt 1 rfl 4 (.int .i64 6)).setAt 1 rfl 0 (.int .i64 (left - 1)))
  generalize (((((w3.setCell ⟨p, 4, none⟩ (.int .i64 3)).setCell ⟨p, 5, none⟩ (.int .u32 z)).setCell ⟨p, 3, none⟩ .nilIface).setCell ⟨p, 4, none⟩ (.int .i64 0)).setCell ⟨p, 4, none⟩ (.int .i64 6)).setCell ⟨p, 0, none⟩ (.int .i64 (left - 1)) = W at *
  have H5 := Lib.hid h5
  clear c0 c1 c2 c3 c4 c5 z0 z1 z3 z4 z5 lt0 c6
  obtain ⟨⟨c0, c1, c2, c3, c4, c5⟩, ⟨z0, z1, z3, z4, z5⟩, lt0, c6⟩ := cellsA7 (h5.cells 1 rfl)
  clear h5
  go_quiet (fail)
  go_wp2
  go_ret2
  exact ⟨rfl, H5.out.drewN nq⟩

set_option maxHeartbeats 8000000 in
theorem gva_now_left {w0 w : World} {q p : Nat} {ws : List Int} {ns : List Note} {L : List Asn} {ws' : List Int} {ns' nt : List Note} {S : TM} {S' : TM} (left : Int) (sv : Value) (i : Int) (v : Nat) (fv : Value) (node : Int) (r z : Int) (hS : St w0 (memA q ws ns :: agB p left sv fv (gvI v) 0 i node :: tlA v S :: L) w) (he : (S).step ws = ⟨r, S', ws', nt⟩) (hn : ns ++ nt = ns') (hz : S'.told r = z) (hg : S.give = true) (hok : (S).ok ws.length) (hk : ns.length ≤ 1000000000000) (hr : r = 3) (hl : (left == 0) = false) (l0 : -9223372036854775807 ≤ left) (l1 : left ≤ 9223372036854775807) :
    Calls Tryz.prog 136 #[.pointer (some ⟨p, 0, none⟩), .pointer (some ⟨q, 0, none⟩)] w fun e w' => e = .returned (.tuple #[.int .i64 0, .int .u32 z]) ∧ St w0 (memA q ws' ns' :: agB p (left - 1) sv fv .nilIface 0 z node :: tlA v S' :: L) w' := by
  have H := Lib.hid hS
  have HE := Lib.hid he
  have HN := Lib.hid hn
  have HZ := Lib.hid hz
  have HOK := Lib.hid hok
  obtain ⟨⟨c0, c1, c2, c3, c4, c5⟩, ⟨z0, z1, z3, z4, z5⟩, lt0, c6⟩ := cellsA7 (hS.cells 1 rfl)
  clear hS he hn hz hok
  subst hr

  go_enter Tryz.func136, Tryz.ntmps136
  go_wp2_with ((go_at_call 218; refine (gv_out HE.out HN.out HZ.out hg ((H.out.front 2 rfl).front 1 rfl) HOK.out hk).mono ?_; rintro e w3 ⟨rfl, h⟩; (have H3 := Lib.hid ((h.front 2 rfl).front 1 rfl)); clear h; clear c0 c1 c2 c3 c4 c5 z0 z1 z3 z4 z5 lt0 c6; obtain ⟨⟨c0, c1, c2, c3, c4, c5⟩, ⟨z0, z1, z3, z4, z5⟩, lt0, c6⟩ := cellsA7 (H3.out.cells 1 rfl)))
  have h5 := (((((H3.out.setAt 1 rfl 4 (.int .i64 3)).setAt 1 rfl 5 (.int .u32 z)).setAt 1 rfl 3 .nilIface).setAt 1 rfl 4 (.int .i64 0)).setAt 1 rfl 0 (.int .i64 (left - 1)))
  generalize ((((w3.setCell ⟨p, 4, none⟩ (.int .i64 3)).setCell ⟨p, 5, none⟩ (.int .u32 z)).setCell ⟨p, 3, none⟩ .nilIface).setCell ⟨p, 4, none⟩ (.int .i64 0)).setCell ⟨p, 0, none⟩ (.int .i64 (left - 1)) = W at *
  have H5 := Lib.hid h5
  clear c0 c1 c2 c3 c4 c5 z0 z1 z3 z4 z5 lt0 c6
  obtain ⟨⟨c0, c1, c2, c3, c4, c5⟩, ⟨z0, z1, z3, z4, z5⟩, lt0, c6⟩ := cellsA7 (h5.cells 1 rfl)
  clear h5
  go_quiet (fail)
  go_wp2
  go_ret2
  exact ⟨rfl, H5.out.drewN nq⟩

set_option maxHeartbeats 8000000 in
theorem gva_new_more {w0 w : World} {q p : Nat} {ws : List Int} {ns : List Note} {L : List Asn} {ws' : List Int} {ns' nt : List Note} {S' : TM} (left : Int) (sv : Value) (i : Int) (bc bi : Nat) (n s h t : Int) (node : Int) (r z : Int) (hS : St w0 (memA q ws ns :: agB p left sv (gvF bc bi) .nilIface 0 i node :: bxC bc n s h t :: bxN bi node :: L) w) (he : (newGv n s h t 1 node).step ws = ⟨r, S', ws', nt⟩) (hn : ns ++ nt = ns') (hz : S'.told r = z) (hok : (newGv n s h t 1 node).ok ws.length) (hk : ns.length ≤ 1000000000000) (hr : (r == 3) = false) :
    Calls Tryz.prog 136 #[.pointer (some ⟨p, 0, none⟩), .pointer (some ⟨q, 0, none⟩)] w fun e w' => ∃ v, e = .returned (.tuple #[.int .i64 r, .int .u32 z]) ∧ St w0 (memA q ws' ns' :: agB p left sv (gvF bc bi) (gvI v) r z node :: tlA v S' :: bxC bc n s h t :: bxN bi node :: L) w' := by
  have H := Lib.hid hS
  have HE := Lib.hid he
  have HN := Lib.hid hn
  have HZ := Lib.hid hz
  have HOK := Lib.hid hok
  obtain ⟨⟨c0, c1, c2, c3, c4, c5⟩, ⟨z0, z1, z3, z4, z5⟩, lt0, c6⟩ := cellsA7 (hS.cells 1 rfl)
  clear hS he hn hz hok
  go_enter Tryz.func136, Tryz.ntmps136
  go_wp2_with (first | ((have _h := H1); go_at_call 218; refine (gv_out HE.out HN.out HZ.out rfl ((H1.out.setAt 4 rfl 3 (gvI v)).front 3 rfl) HOK.out hk).mono ?_; rintro e w3 ⟨rfl, h⟩; (have H3 := Lib.hid (((h.front 4 rfl).front 1 rfl))); clear h _h; clear c0 c1 c2 c3 c4 c5 z0 z1 z3 z4 z5 lt0 c6; obtain ⟨⟨c0, c1, c2, c3, c4, c5⟩, ⟨z0, z1, z3, z4, z5⟩, lt0, c6⟩ := cellsA7 (H3.out.cells 1 rfl)) | (go_at_call 160; refine (gva_fresh bc bi n s h t node ((H.out.front 3 rfl).front 3 rfl)).mono ?_; rintro e w1 ⟨v, rfl, h⟩; (have H1 := Lib.hid h); clear h; clear c0 c1 c2 c3 c4 c5 z0 z1 z3 z4 z5 lt0 c6; obtain ⟨⟨c0, c1, c2, c3, c4, c5⟩, ⟨z0, z1, z3, z4, z5⟩, lt0, c6⟩ := cellsA7 (H1.out.cells 4 rfl)))
  go_quiet (fail)
  go_wp2
  go_ret2
  exact ⟨v, rfl, ((H3.out.setAt 1 rfl 4 (.int .i64 r)).setAt 1 rfl 5 (.int .u32 z)).drewN nq⟩

set_option maxHeartbeats 8000000 in
theorem gva_new_last {w0 w : World} {q p : Nat} {ws : List Int} {ns : List Note} {L : List Asn} {ws' : List Int} {ns' nt : List Note} {S' : TM} (left : Int) (sv : Value) (i : Int) (bc bi : Nat) (n s h t : Int) (node : Int) (r z : Int) (hS : St w0 (memA q ws ns :: agB p left sv (gvF bc bi) .nilIface 0 i node :: bxC bc n s h t :: bxN bi node :: L) w) (he : (newGv n s h t 1 node).step ws = ⟨r, S', ws', nt⟩) (hn : ns ++ nt = ns') (hz : S'.told r = z) (hok : (newGv n s h t 1 node).ok ws.length) (hk : ns.length ≤ 1000000000000) (hr : r = 3) (hl : (left == 0) = true) (l0 : -9223372036854775807 ≤ left) (l1 : left ≤ 9223372036854775807) :
    Calls Tryz.prog 136 #[.pointer (some ⟨p, 0, none⟩), .pointer (some ⟨q, 0, none⟩)] w fun e w' => ∃ v, e = .returned (.tuple #[.int .i64 6, .int .u32 z]) ∧ St w0 (memA q ws' ns' :: agB p (left - 1) sv (gvF bc bi) .nilIface 6 z node :: tlA v S' :: bxC bc n s h t :: bxN bi node :: L) w' := by
  have H := Lib.hid hS
  have HE := Lib.hid he
  have HN := Lib.hid hn
  have HZ := Lib.hid hz
  have HOK := Lib.hid hok
  obtain ⟨⟨c0, c1, c2, c3, c4, c5⟩, ⟨z0, z1, z3, z4, z5⟩, lt0, c6⟩ := cellsA7 (hS.cells 1 rfl)
  clear hS he hn hz hok
  subst hr
  go_enter Tryz.func136, Tryz.ntmps136
  go_wp2_with (first | ((have _h := H1); go_at_call 218; refine (gv_out HE.out HN.out HZ.out rfl ((H1.out.setAt 4 rfl 3 (gvI v)).front 3 rfl) HOK.out hk).mono ?_; rintro e w3 ⟨rfl, h⟩; (have H3 := Lib.hid (((h.front 4 rfl).front 1 rfl))); clear h _h; clear c0 c1 c2 c3 c4 c5 z0 z1 z3 z4 z5 lt0 c6; obtain ⟨⟨c0, c1, c2, c3, c4, c5⟩, ⟨z0, z1, z3, z4, z5⟩, lt0, c6⟩ := cellsA7 (H3.out.cells 1 rfl)) | (go_at_call 160; refine (gva_fresh bc bi n s h t node ((H.out.front 3 rfl).front 3 rfl)).mono ?_; rintro e w1 ⟨v, rfl, h⟩; (have H1 := Lib.hid h); clear h; clear c0 c1 c2 c3 c4 c5 z0 z1 z3 z4 z5 lt0 c6; obtain ⟨⟨c0, c1, c2, c3, c4, c5⟩, ⟨z0, z1, z3, z4, z5⟩, lt0, c6⟩ := cellsA7 (H1.out.cells 4 rfl)))
  have h5 := ((((((H3.out.setAt 1 rfl 4 (.int .i64 3)).setAt 1 rfl 5 (.int .u32 z)).setAt 1 rfl 3 .nilIface).setAt 1 rfl 4 (.int .i64 0)).setAt 1 rfl 4 (.int .i64 6)).setAt 1 rfl 0 (.int .i64 (left - 1)))
  generalize (((((w3.setCell ⟨p, 4, none⟩ (.int .i64 3)).setCell ⟨p, 5, none⟩ (.int .u32 z)).setCell ⟨p, 3, none⟩ .nilIface).setCell ⟨p, 4, none⟩ (.int .i64 0)).setCell ⟨p, 4, none⟩ (.int .i64 6)).setCell ⟨p, 0, none⟩ (.int .i64 (left - 1)) = W at *
  have H5 := Lib.hid h5
  clear c0 c1 c2 c3 c4 c5 z0 z1 z3 z4 z5 lt0 c6
  obtain ⟨⟨c0, c1, c2, c3, c4, c5⟩, ⟨z0, z1, z3, z4, z5⟩, lt0, c6⟩ := cellsA7 (h5.cells 1 rfl)
  clear h5
  go_quiet (fail)
  go_wp2
  go_ret2
  exact ⟨v, rfl, H5.out.drewN nq⟩

set_option maxHeartbeats 8000000 in
theorem gva_new_left {w0 w : World} {q p : Nat} {ws : List Int} {ns : List Note} {L : List Asn} {ws' : List Int} {ns' nt : List Note} {S' : TM} (left : Int) (sv : Value) (i : Int) (bc bi : Nat) (n s h t : Int) (node : Int) (r z : Int) (hS : St w0 (memA q ws ns :: agB p left sv (gvF bc bi) .nilIface 0 i node :: bxC bc n s h t :: bxN bi node :: L) w) (he : (newGv n s h t 1 node).step ws = ⟨r, S', ws', nt⟩) (hn : ns ++ nt = ns') (hz : S'.told r = z) (hok : (newGv n s h t 1 node).ok ws.length) (hk : ns.length ≤ 1000000000000) (hr : r = 3) (hl : (left == 0) = false) (l0 : -9223372036854775807 ≤ left) (l1 : left ≤ 9223372036854775807) :
    Calls Tryz.prog 136 #[.pointer (some ⟨p, 0, none⟩), .pointer (some ⟨q, 0, none⟩)] w fun e w' => ∃ v, e = .returned (.tuple #[.int .i64 0, .int .u32 z]) ∧ St w0 (memA q ws' ns' :: agB p (left - 1) sv (gvF bc bi) .nilIface 0 z node :: tlA v S' :: bxC bc n s h t :: bxN bi node :: L) w' := by
  have H := Lib.hid hS
  have HE := Lib.hid he
  have HN := Lib.hid hn
  have HZ := Lib.hid hz
  have HOK := Lib.hid hok
  obtain ⟨⟨c0, c1, c2, c3, c4, c5⟩, ⟨z0, z1, z3, z4, z5⟩, lt0, c6⟩ := cellsA7 (hS.cells 1 rfl)
  clear hS he hn hz hok
  subst hr

  go_enter Tryz.func136, Tryz.ntmps136
  go_wp2_with (first | ((have _h := H1); go_at_call 218; refine (gv_out HE.out HN.out HZ.out rfl ((H1.out.setAt 4 rfl 3 (gvI v)).front 3 rfl) HOK.out hk).mono ?_; rintro e w3 ⟨rfl, h⟩; (have H3 := Lib.hid (((h.front 4 rfl).front 1 rfl))); clear h _h; clear c0 c1 c2 c3 c4 c5 z0 z1 z3 z4 z5 lt0 c6; obtain ⟨⟨c0, c1, c2, c3, c4, c5⟩, ⟨z0, z1, z3, z4, z5⟩, lt0, c6⟩ := cellsA7 (H3.out.cells 1 rfl)) | (go_at_call 160; refine (gva_fresh bc bi n s h t node ((H.out.front 3 rfl).front 3 rfl)).mono ?_; rintro e w1 ⟨v, rfl, h⟩; (have H1 := Lib.hid h); clear h; clear c0 c1 c2 c3 c4 c5 z0 z1 z3 z4 z5 lt0 c6; obtain ⟨⟨c0, c1, c2, c3, c4, c5⟩, ⟨z0, z1, z3, z4, z5⟩, lt0, c6⟩ := cellsA7 (H1.out.cells 4 rfl)))
  have h5 := (((((H3.out.setAt 1 rfl 4 (.int .i64 3)).setAt 1 rfl 5 (.int .u32 z)).setAt 1 rfl 3 .nilIface).setAt 1 rfl 4 (.int .i64 0)).setAt 1 rfl 0 (.int .i64 (left - 1)))
  generalize ((((w3.setCell ⟨p, 4, none⟩ (.int .i64 3)).setCell ⟨p, 5, none⟩ (.int .u32 z)).setCell ⟨p, 3, none⟩ .nilIface).setCell ⟨p, 4, none⟩ (.int .i64 0)).setCell ⟨p, 0, none⟩ (.int .i64 (left - 1)) = W at *
  have H5 := Lib.hid h5
  clear c0 c1 c2 c3 c4 c5 z0 z1 z3 z4 z5 lt0 c6
  obtain ⟨⟨c0, c1, c2, c3, c4, c5⟩, ⟨z0, z1, z3, z4, z5⟩, lt0, c6⟩ := cellsA7 (h5.cells 1 rfl)
  clear h5
  go_quiet (fail)
  go_wp2
  go_ret2
  exact ⟨v, rfl, H5.out.drewN nq⟩

end Go.Proofs.YtgfeagggkplegaaGreat
