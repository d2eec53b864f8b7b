/-
  A Take: the object, and what it keeps.
  The steps of a Take.
  The second step of a Take, and its last one.
  The second step of a Take.
  A machine's step: what comes next is called, and how it ended is kept.
  A Take's Step, and a Take that is made.
  A Take's Step, each way.
-/
import Derived.Test.YtdhkppijeocaoaaMemIt
import Derived.BigQuiet
import Derived.Laws.EntriesVeiled
import Derived.Deep.QuietTactic
namespace Go.Proofs.Ytdhkppijeocaoaa
open Go.RowKit
set_option linter.unusedVariables false
set_option linter.unusedSimpArgs false

/-- What comes next: the first step, the second one, or the last one with the word that was loaded. -/
inductive Ph where
  | first
  | second
  | last (x : Int)
/-- A machine: its config, its place, its node, what it loaded first, what comes next, and how it ended. -/
structure TM where
  n : Int
  s : Int
  h : Int
  t : Int
  at_ : Int
  i : Int
  w : Int
  ph : Ph
  st : Int
def TM.cells (S : TM) (nx : Value) : Array Value := #[.int .i64 S.n, .int .i64 S.s, .int .i64 S.h, .int .u32 S.t, .int .i64 S.at_, .int .u32 S.i, .int .u64 S.w, nx, .int .i64 S.st]
structure TM.ok (S : TM) : Prop where
  i0 : 0 ≤ S.i
  i1 : S.i < 4294967296
  w0 : 0 ≤ S.w
  w1 : S.w < 18446744073709551616
/-- What a Take's 'next' is. -/
def TkNext (own : Nat → Nat) (tt : Nat) (w : World) (p : Nat) (ph : Ph) (nx : Value) : Prop :=
  match ph with
  | .first => nx = .func (.func 35) #[.pointer (some ⟨p, 0, none⟩)] #[]
  | .second => nx = .func (.func 51) #[.pointer (some ⟨p, 0, none⟩)] #[]
  | .last x => 0 ≤ x ∧ x < 18446744073709551616 ∧ ∃ b1 b2, b1 ≠ p ∧ b2 ≠ p ∧ own b1 = tt ∧ own b2 = tt ∧ w.heap[b1]? = some (.cells #[.pointer (some ⟨p, 0, none⟩)] 35 (0, 0)) ∧ w.heap[b2]? = some (.cells #[.int .u64 x] 41 (0, 0)) ∧ nx = .func (.func 57) #[] #[.pointer (some ⟨b1, 0, none⟩), .pointer (some ⟨b2, 0, none⟩)]
structure IsTake (own : Nat → Nat) (tt : Nat) (w : World) (p : Nat) (S : TM) : Prop where
  ok : S.ok
  mine : own p = tt
  body : ∃ nx, w.heap[p]? = some (.cells (S.cells nx) 87 (0, 0)) ∧ TkNext own tt w p S.ph nx
theorem TkNext.kept {own own' : Nat → Nat} {tt : Nat} {T : Nat → Prop} {w w' : World} {p : Nat} {ph : Ph} {nx : Value} (h : TkNext own tt w p ph nx) (f : Fr own own' T w w') (ht : ¬ T tt) : TkNext own' tt w' p ph nx := by
  cases ph with
  | first => exact h
  | second => exact h
  | last x =>
    obtain ⟨h0, h1, b1, b2, n1, n2, o1, o2, e1, e2, e3⟩ := h
    have l1 := lt_of_heap e1
    have l2 := lt_of_heap e2
    exact ⟨h0, h1, b1, b2, n1, n2, (f.ext _ l1).trans o1, (f.ext _ l2).trans o2, (f.keep _ l1 (by rw [o1]; exact ht)).trans e1, (f.keep _ l2 (by rw [o2]; exact ht)).trans e2, e3⟩
theorem IsTake.kept {own own' : Nat → Nat} {tt : Nat} {T : Nat → Prop} {w w' : World} {p : Nat} {S : TM} (h : IsTake own tt w p S) (f : Fr own own' T w w') (ht : ¬ T tt) : IsTake own' tt w' p S := by
  obtain ⟨nx, hh, hn⟩ := h.body
  have l := lt_of_heap hh
  exact ⟨h.ok, (f.ext _ l).trans h.mine, nx, (f.keep _ l (by rw [h.mine]; exact ht)).trans hh, hn.kept f ht⟩
theorem IsTake.below {own : Nat → Nat} {tt : Nat} {w w' : World} {p : Nat} {S : TM} (h : IsTake own tt w p S) (hb : Below w.heap.size w w') : IsTake own tt w' p S := h.kept (Fr.below (T := fun _ => False) hb) (fun h => h)
theorem cells9 {w : World} {b : Nat} {a0 a1 a2 a3 a4 a5 a6 a7 a8 : Value} {e : TypeId} (h : w.heap[b]? = some (.cells #[a0, a1, a2, a3, a4, a5, a6, a7, a8] e (0, 0))) :
    (w.cell? ⟨b, 0, none⟩ = some a0 ∧ w.cell? ⟨b, 1, none⟩ = some a1 ∧ w.cell? ⟨b, 2, none⟩ = some a2 ∧ w.cell? ⟨b, 3, none⟩ = some a3 ∧ w.cell? ⟨b, 4, none⟩ = some a4 ∧ w.cell? ⟨b, 5, none⟩ = some a5 ∧ w.cell? ⟨b, 6, none⟩ = some a6 ∧ w.cell? ⟨b, 7, none⟩ = some a7 ∧ w.cell? ⟨b, 8, none⟩ = some a8) ∧
    (w.frozen? ⟨b, 5, none⟩ = false ∧ w.frozen? ⟨b, 6, none⟩ = false ∧ w.frozen? ⟨b, 7, none⟩ = false ∧ w.frozen? ⟨b, 8, none⟩ = false) ∧ b < w.heap.size :=
  ⟨⟨cell_of h 0, cell_of h 1, cell_of h 2, cell_of h 3, cell_of h 4, cell_of h 5, cell_of h 6, cell_of h 7, cell_of h 8⟩, ⟨free_of h 5, free_of h 6, free_of h 7, free_of h 8⟩, lt_of_heap h⟩
/-- What a step leaves: the machine as S', the memory with these words and notes. -/
def TkPost (own : Nat → Nat) (tt tm : Nat) (p q : Nat) (S' : TM) (ws : List Int) (ns : List Note) (w w' : World) : Prop :=
  ∃ o, Fr own o (fun t => t = tt ∨ t = tm) w w' ∧ IsTake o tt w' p S' ∧ IsMem o tm w' q ws ns
end Go.Proofs.Ytdhkppijeocaoaa
namespace Go.Proofs.Ytdhkppijeocaoaa
open Go.RowKit
set_option linter.unusedVariables false
set_option linter.unusedSimpArgs false

theorem index_is (x y : Int) (w : World) (h : x % 4294967296 = y) :
    Calls Try.prog 27 #[.int .u64 x] w fun e w' => e = .returned (.int .u32 y) ∧ Below w.heap.size w w' := by
  subst h
  exact index_any x w
theorem lnext_is (n s h t i v : Int) (w : World) (hv : atI n s h 0 (2 * (i - 1)) = v) (i0 : 0 ≤ i) (i1 : i < 4294967296) :
    Calls Try.prog 32 #[.agg #[.int .i64 n, .int .i64 s, .int .i64 h, .int .u32 t], .int .u32 i] w fun e w' => e = .returned (.int .i64 v) ∧ Below w.heap.size w w' := by
  subst hv
  exact lnext_any n s h t i w i0 i1
theorem pnext_is (x i v : Int) (w : World) (hv : nextW x i = v) (h0 : 0 ≤ x) (h1 : x < 18446744073709551616) (i0 : 0 ≤ i) (i1 : i < 4294967296) :
    Calls Try.prog 62 #[.int .u64 x, .int .u32 i] w fun e w' => e = .returned (.int .u64 v) ∧ Below w.heap.size w w' := by
  subst hv
  exact pnext_any x i w h0 h1 i0 i1
/-- What holds on the way through a step. -/
structure TkSt (T : TypeId) (own o : Nat → Nat) (tt tm p q : Nat) (w w' : World) (cells : Array Value) (ws : List Int) (ns : List Note) : Prop where
  fr : Fr own o (fun t => t = tt ∨ t = tm) w w'
  mine : o p = tt
  obj : w'.heap[p]? = some (.cells cells T (0, 0))
  mem : IsMem o tm w' q ws ns
theorem TkSt.mstep {T : TypeId} {own o : Nat → Nat} {tt tm p q : Nat} {w w1 w2 : World} {cells : Array Value} {ws ws' : List Int} {ns ns' : List Note} (h : TkSt T own o tt tm p q w w1 cells ws ns) (ht : tt ≠ tm) (hp : MemPost o tm w1 q ws' ns' w2) : ∃ o2, TkSt T own o2 tt tm p q w w2 cells ws' ns' ∧ Fr o o2 (· = tm) w1 w2 := by
  obtain ⟨o2, hf, hm⟩ := hp
  have l := lt_of_heap h.obj
  exact ⟨o2, ⟨h.fr.trans (hf.more fun _ e => Or.inr e), (hf.ext _ l).trans h.mine, (hf.keep _ l (by rw [h.mine]; exact ht)).trans h.obj, hm⟩, hf⟩
theorem TkSt.below {T : TypeId} {own o : Nat → Nat} {tt tm p q : Nat} {w w1 w2 : World} {cells : Array Value} {ws : List Int} {ns : List Note} (h : TkSt T own o tt tm p q w w1 cells ws ns) (hb : Below w1.heap.size w1 w2) : TkSt T own o tt tm p q w w2 cells ws ns :=
  ⟨h.fr.trans (Fr.below hb), h.mine, (hb.block _ (lt_of_heap h.obj)).trans h.obj, h.mem.below hb⟩
theorem Fr.set {o : Nat → Nat} {tt p k : Nat} {w : World} (hp : o p = tt) (v : Value) : Fr o o (· = tt) w (w.setCell ⟨p, k, none⟩ v) :=
  ⟨(Str.refl w).set _ _, fun b hb ht => heap_set_ne (fun e => ht (by rw [e]; exact hp)), fun _ _ => rfl⟩
theorem TkSt.set {T : TypeId} {own o : Nat → Nat} {tt tm p q : Nat} {w w1 : World} {cells : Array Value} {ws : List Int} {ns : List Note} (h : TkSt T own o tt tm p q w w1 cells ws ns) (ht : tt ≠ tm) (k : Nat) (v : Value) : TkSt T own o tt tm p q w (w1.setCell ⟨p, k, none⟩ v) (cells.setIfInBounds k v) ws ns := by
  have hf := Fr.set (w := w1) (k := k) h.mine v
  exact ⟨h.fr.trans (hf.more fun _ e => Or.inl e), h.mine, heap_set h.obj, h.mem.kept hf (fun e => ht e.symm)⟩
theorem TkSt.start {T : TypeId} {own : Nat → Nat} {tt tm p q : Nat} {w : World} {cells : Array Value} {ws : List Int} {ns : List Note} (hp : own p = tt) (ho : w.heap[p]? = some (.cells cells T (0, 0))) (hm : IsMem own tm w q ws ns) : TkSt T own own tt tm p q w w cells ws ns := ⟨Fr.refl _ _ _, hp, ho, hm⟩
abbrev tkCells (n s h t a i x : Int) (nx : Value) (st : Int) : Array Value := #[.int .i64 n, .int .i64 s, .int .i64 h, .int .u32 t, .int .i64 a, .int .u32 i, .int .u64 x, nx, .int .i64 st]
set_option maxHeartbeats 4000000 in
theorem tk_none (own : Nat → Nat) (tt tm p q : Nat) (n s h t  i0 w0 st : Int) (nx : Value) (ws : List Int) (ns : List Note) (a : Nat) (x : Int) (w : World) (ht : tt ≠ tm) (hp : own p = tt) (ho : w.heap[p]? = some (.cells (tkCells n s h t (a : Int) i0 w0 nx st) 87 (0, 0))) (hm : IsMem own tm w q ws ns) (hn : ns.length ≤ 1000000000000) (ha : a < ws.length) (hx : rdW ws a = x) (hy : x % 4294967296 = 0) :
    Calls Try.prog 35 #[.pointer (some ⟨p, 0, none⟩), .pointer (some ⟨q, 0, none⟩)] w fun e w' => e = .returned (.int .i64 2) ∧ ∃ o, TkSt 87 own o tt tm p q w w' (tkCells n s h t a 0 x nx st) ws (ns ++ [⟨108, a, x, x, true⟩]) := by
  have HS := Lib.hid (TkSt.start (q := q) hp ho hm)
  obtain ⟨⟨c0, c1, c2, c3, c4, c5, c6, c7, c8⟩, ⟨z5, z6, z7, z8⟩, lt0⟩ := cells9 ho
  have HX := Lib.hid hx
  have HY := Lib.hid hy
  clear hx hy
  clear hp ho hm
  go_enter Try.func35, Try.ntmps35
  go_wp2_with (first | (go_at_call 50; refine (load_it own tm q ws ns a x _ HS.out.mem HX.out ha hn).mono ?_; rintro e w2 ⟨rfl, hp⟩; obtain ⟨o2, h2, hf2⟩ := HS.out.mstep ht hp; (have H2 := Lib.hid h2); clear hp hf2 c0 c1 c2 c3 c4 c5 c6 c7 c8 z5 z6 z7 z8 lt0; obtain ⟨⟨c0, c1, c2, c3, c4, c5, c6, c7, c8⟩, ⟨z5, z6, z7, z8⟩, lt0⟩ := cells9 h2.obj; clear h2) | (go_at_call 27; refine (index_is x 0 _ HY.out).mono ?_; rintro e w3 ⟨rfl, hp⟩; (have h3 := H2.out.below hp); (have H3 := Lib.hid h3); clear hp c0 c1 c2 c3 c4 c5 c6 c7 c8 z5 z6 z7 z8 lt0; obtain ⟨⟨c0, c1, c2, c3, c4, c5, c6, c7, c8⟩, ⟨z5, z6, z7, z8⟩, lt0⟩ := cells9 h3.obj; clear h3))
  go_ret
  exact ⟨rfl, o2, (H3.out.set ht 6 (.int .u64 x)).set ht 5 (.int .u32 0)⟩
theorem undrew {w w' : World} (h : Below w.drew.heap.size w.drew w') : Below w.heap.size w w' := ⟨h.os, h.tape, h.output, h.size, h.block⟩
set_option maxHeartbeats 4000000 in
theorem tk_bad (own : Nat → Nat) (tt tm p q : Nat) (n s h t  i0 w0 st : Int) (nx : Value) (ws : List Int) (ns : List Note) (a : Nat) (x y v : Int) (w : World) (ht : tt ≠ tm) (hp : own p = tt) (ho : w.heap[p]? = some (.cells (tkCells n s h t (a : Int) i0 w0 nx st) 87 (0, 0))) (hm : IsMem own tm w q ws ns) (hn : ns.length ≤ 1000000000000) (ha : a < ws.length) (hx : rdW ws a = x) (hy : x % 4294967296 = y) (h0 : y ≠ 0) (y0 : 0 ≤ y) (y1 : y < 4294967296) (hv : atI n s h 0 (2 * (y - 1)) = v) (hlt : v < 0) :
    Calls Try.prog 35 #[.pointer (some ⟨p, 0, none⟩), .pointer (some ⟨q, 0, none⟩)] w fun e w' => e = .returned (.int .i64 5) ∧ ∃ o, TkSt 87 own o tt tm p q w w' (tkCells n s h t a y x nx st) ws (ns ++ [⟨108, a, x, x, true⟩]) := by
  have HS := Lib.hid (TkSt.start (q := q) hp ho hm)
  obtain ⟨⟨c0, c1, c2, c3, c4, c5, c6, c7, c8⟩, ⟨z5, z6, z7, z8⟩, lt0⟩ := cells9 ho
  have HX := Lib.hid hx
  have HY := Lib.hid hy
  clear hx hy
  have e0 : (y == 0) = false := by simp [h0]
  have HV := Lib.hid hv
  clear hv
  have e1 : decide (v < 0) = true := decide_eq_true hlt
  clear hp ho hm
  go_enter Try.func35, Try.ntmps35
  go_wp2_with (first | (go_at_call 50; refine (load_it own tm q ws ns a x _ HS.out.mem HX.out ha hn).mono ?_; rintro e w2 ⟨rfl, hp⟩; obtain ⟨o2, h2, hf2⟩ := HS.out.mstep ht hp; (have H2 := Lib.hid h2); clear hp hf2 c0 c1 c2 c3 c4 c5 c6 c7 c8 z5 z6 z7 z8 lt0; obtain ⟨⟨c0, c1, c2, c3, c4, c5, c6, c7, c8⟩, ⟨z5, z6, z7, z8⟩, lt0⟩ := cells9 h2.obj; clear h2) | (go_at_call 27; refine (index_is x y _ HY.out).mono ?_; rintro e w3 ⟨rfl, hp⟩; (have h3 := H2.out.below hp); (have H3 := Lib.hid h3); clear hp c0 c1 c2 c3 c4 c5 c6 c7 c8 z5 z6 z7 z8 lt0; obtain ⟨⟨c0, c1, c2, c3, c4, c5, c6, c7, c8⟩, ⟨z5, z6, z7, z8⟩, lt0⟩ := cells9 h3.obj; clear h3))
  have h4 := (H3.out.set ht 6 (.int .u64 x)).set ht 5 (.int .u32 y)
  generalize (w3.setCell ⟨p, 6, none⟩ (.int .u64 x)).setCell ⟨p, 5, none⟩ (.int .u32 y) = W at *
  have H4 := Lib.hid h4
  clear c0 c1 c2 c3 c4 c5 c6 c7 c8 z5 z6 z7 z8 lt0
  obtain ⟨⟨c0, c1, c2, c3, c4, c5, c6, c7, c8⟩, ⟨z5, z6, z7, z8⟩, lt0⟩ := cells9 h4.obj
  clear h4
  go_region_held3 (fun w' => w'.cell? ⟨p, 0, none⟩ = some (.int .i64 n) ∧ w'.cell? ⟨p, 1, none⟩ = some (.int .i64 s) ∧ w'.cell? ⟨p, 2, none⟩ = some (.int .i64 h) ∧ w'.cell? ⟨p, 3, none⟩ = some (.int .u32 t) ∧ w'.cell? ⟨p, 5, none⟩ = some (.int .u32 y)) (first | exact ⟨c0, c1, c2, c3, c5⟩) ((go_at_call 32; refine (lnext_is n s h t y v _ HV.out y0 y1).mono ?_; rintro e w5 ⟨rfl, hp⟩; (have h5 := H4.out.below (undrew hp)); (have H5 := Lib.hid h5); clear hp c0 c1 c2 c3 c4 c5 c6 c7 c8 z5 z6 z7 z8 lt0; obtain ⟨⟨c0, c1, c2, c3, c4, c5, c6, c7, c8⟩, ⟨z5, z6, z7, z8⟩, lt0⟩ := cells9 h5.obj; clear h5))
  go_wp2
  go_ret
  exact ⟨rfl, o2, H5.out⟩
set_option maxHeartbeats 4000000 in
theorem tk_head (own : Nat → Nat) (tt tm p q : Nat) (n s h t  i0 w0 st : Int) (nx : Value) (ws : List Int) (ns : List Note) (a : Nat) (x y v : Int) (w : World) (ht : tt ≠ tm) (hp : own p = tt) (ho : w.heap[p]? = some (.cells (tkCells n s h t (a : Int) i0 w0 nx st) 87 (0, 0))) (hm : IsMem own tm w q ws ns) (hn : ns.length ≤ 1000000000000) (ha : a < ws.length) (hx : rdW ws a = x) (hy : x % 4294967296 = y) (h0 : y ≠ 0) (y0 : 0 ≤ y) (y1 : y < 4294967296) (hv : atI n s h 0 (2 * (y - 1)) = v) (hge : 0 ≤ v) :
    Calls Try.prog 35 #[.pointer (some ⟨p, 0, none⟩), .pointer (some ⟨q, 0, none⟩)] w fun e w' => e = .returned (.int .i64 0) ∧ ∃ o, TkSt 87 own o tt tm p q w w' (tkCells n s h t a y x (.func (.func 51) #[.pointer (some ⟨p, 0, none⟩)] #[]) st) ws (ns ++ [⟨108, a, x, x, true⟩]) := by
  have HS := Lib.hid (TkSt.start (q := q) hp ho hm)
  obtain ⟨⟨c0, c1, c2, c3, c4, c5, c6, c7, c8⟩, ⟨z5, z6, z7, z8⟩, lt0⟩ := cells9 ho
  have HX := Lib.hid hx
  have HY := Lib.hid hy
  clear hx hy
  have e0 : (y == 0) = false := by simp [h0]
  have HV := Lib.hid hv
  clear hv
  have e1 : decide (v < 0) = false := decide_eq_false (by omega)
  have hmf : ∀ (fn : Fn) (first cap : Array Value) (w : World), (Instr.makeFunc fn first cap).run Try.prog w = .ok (.func fn first cap) w := fun _ _ _ _ => rfl
  clear hp ho hm
  go_enter Try.func35, Try.ntmps35
  go_wp2_with (first | (go_at_call 50; refine (load_it own tm q ws ns a x _ HS.out.mem HX.out ha hn).mono ?_; rintro e w2 ⟨rfl, hp⟩; obtain ⟨o2, h2, hf2⟩ := HS.out.mstep ht hp; (have H2 := Lib.hid h2); clear hp hf2 c0 c1 c2 c3 c4 c5 c6 c7 c8 z5 z6 z7 z8 lt0; obtain ⟨⟨c0, c1, c2, c3, c4, c5, c6, c7, c8⟩, ⟨z5, z6, z7, z8⟩, lt0⟩ := cells9 h2.obj; clear h2) | (go_at_call 27; refine (index_is x y _ HY.out).mono ?_; rintro e w3 ⟨rfl, hp⟩; (have h3 := H2.out.below hp); (have H3 := Lib.hid h3); clear hp c0 c1 c2 c3 c4 c5 c6 c7 c8 z5 z6 z7 z8 lt0; obtain ⟨⟨c0, c1, c2, c3, c4, c5, c6, c7, c8⟩, ⟨z5, z6, z7, z8⟩, lt0⟩ := cells9 h3.obj; clear h3))
  have h4 := (H3.out.set ht 6 (.int .u64 x)).set ht 5 (.int .u32 y)
  generalize (w3.setCell ⟨p, 6, none⟩ (.int .u64 x)).setCell ⟨p, 5, none⟩ (.int .u32 y) = W at *
  have H4 := Lib.hid h4
  clear c0 c1 c2 c3 c4 c5 c6 c7 c8 z5 z6 z7 z8 lt0
  obtain ⟨⟨c0, c1, c2, c3, c4, c5, c6, c7, c8⟩, ⟨z5, z6, z7, z8⟩, lt0⟩ := cells9 h4.obj
  clear h4
  go_region_held3 (fun w' => w'.cell? ⟨p, 0, none⟩ = some (.int .i64 n) ∧ w'.cell? ⟨p, 1, none⟩ = some (.int .i64 s) ∧ w'.cell? ⟨p, 2, none⟩ = some (.int .i64 h) ∧ w'.cell? ⟨p, 3, none⟩ = some (.int .u32 t) ∧ w'.cell? ⟨p, 5, none⟩ = some (.int .u32 y)) (first | exact ⟨c0, c1, c2, c3, c5⟩) ((go_at_call 32; refine (lnext_is n s h t y v _ HV.out y0 y1).mono ?_; rintro e w5 ⟨rfl, hp⟩; (have h5 := H4.out.below (undrew hp)); (have H5 := Lib.hid h5); clear hp c0 c1 c2 c3 c4 c5 c6 c7 c8 z5 z6 z7 z8 lt0; obtain ⟨⟨c0, c1, c2, c3, c4, c5, c6, c7, c8⟩, ⟨z5, z6, z7, z8⟩, lt0⟩ := cells9 h5.obj; clear h5))
  go_wp2
  go_ret
  exact ⟨rfl, o2, H5.out.set ht 7 _⟩
set_option maxHeartbeats 4000000 in
theorem tk_out (own : Nat → Nat) (tt tm p q : Nat) (n s h t a i0 w0 st : Int) (nx : Value) (ws : List Int) (ns : List Note) (a : Int) (w : World) (ht : tt ≠ tm) (hp : own p = tt) (ho : w.heap[p]? = some (.cells (tkCells n s h t a i0 w0 nx st) 87 (0, 0))) (hm : IsMem own tm w q ws ns) (hn : ns.length ≤ 1000000000000) (ha : a < 0 ∨ (ws.length : Int) ≤ a) :
    Calls Try.prog 35 #[.pointer (some ⟨p, 0, none⟩), .pointer (some ⟨q, 0, none⟩)] w fun e w' => e = .returned (.int .i64 5) ∧ ∃ o, TkSt 87 own o tt tm p q w w' (tkCells n s h t a 0 0 nx st) ws ns := by
  have HS := Lib.hid (TkSt.start (q := q) hp ho hm)
  obtain ⟨⟨c0, c1, c2, c3, c4, c5, c6, c7, c8⟩, ⟨z5, z6, z7, z8⟩, lt0⟩ := cells9 ho
  have hy0 : (0 : Int) % 4294967296 = 0 := rfl
  clear hp ho hm
  go_enter Try.func35, Try.ntmps35
  go_wp2_with (first | (go_at_call 50; refine (load_out own tm q ws ns a _ HS.out.mem ha).mono ?_; rintro e w2 ⟨rfl, hp⟩; (have h2 := HS.out.below hp); (have H2 := Lib.hid h2); clear hp c0 c1 c2 c3 c4 c5 c6 c7 c8 z5 z6 z7 z8 lt0; obtain ⟨⟨c0, c1, c2, c3, c4, c5, c6, c7, c8⟩, ⟨z5, z6, z7, z8⟩, lt0⟩ := cells9 h2.obj; clear h2) | (go_at_call 27; refine (index_is 0 0 _ hy0).mono ?_; rintro e w3 ⟨rfl, hp⟩; (have h3 := H2.out.below hp); (have H3 := Lib.hid h3); clear hp c0 c1 c2 c3 c4 c5 c6 c7 c8 z5 z6 z7 z8 lt0; obtain ⟨⟨c0, c1, c2, c3, c4, c5, c6, c7, c8⟩, ⟨z5, z6, z7, z8⟩, lt0⟩ := cells9 h3.obj; clear h3))
  go_ret
  exact ⟨rfl, _, (H3.out.set ht 6 (.int .u64 0)).set ht 5 (.int .u32 0)⟩
end Go.Proofs.Ytdhkppijeocaoaa
namespace Go.Proofs.Ytdhkppijeocaoaa
open Go.RowKit
set_option linter.unusedVariables false
set_option linter.unusedSimpArgs false

set_option maxHeartbeats 4000000 in
theorem ms_out (own : Nat → Nat) (tt tm p q : Nat) (n s h t i0 x0 st f v : Int) (a : Int) (T : TypeId) (nx : Value) (ws : List Int) (ns : List Note) (w : World) (ht : tt ≠ tm) (hp : own p = tt) (ho : w.heap[p]? = some (.cells (tkCells n s h t a i0 x0 nx st) T (0, 0))) (hm : IsMem own tm w q ws ns) (hn : ns.length ≤ 1000000000000)
    (w00 : 0 ≤ x0) (w01 : x0 < 18446744073709551616) (f0 : 0 ≤ f) (f1 : f < 4294967296) (hv : nextW x0 f = v) (v0 : 0 ≤ v) (v1 : v < 18446744073709551616) (ha : a < 0 ∨ (ws.length : Int) ≤ a) :
    Calls Try.prog 58 #[.pointer (some ⟨p, 0, none⟩), .pointer (some ⟨q, 0, none⟩), .int .u32 f] w fun e w' => e = .returned (.int .i64 5) ∧ MemPost own tm w q ws ns w' := by
  have HS := Lib.hid (TkSt.start (q := q) hp ho hm)
  obtain ⟨⟨c0, c1, c2, c3, c4, c5, c6, c7, c8⟩, ⟨z5, z6, z7, z8⟩, lt0⟩ := cells9 ho
  have HV := Lib.hid hv
  clear hp ho hm hv
  go_enter Try.func58, Try.ntmps58
  go_wp2
  go_region_held3 (fun w' => w'.cell? ⟨p, 4, none⟩ = some (.int .i64 a) ∧ w'.cell? ⟨p, 6, none⟩ = some (.int .u64 x0)) (first | exact ⟨c4, c6⟩ | exact ⟨d4, d6⟩ | exact ⟨e4, e6⟩) (first | ((have _h := H2); go_at_call 61; refine (swap_out own tm q ws ns a x0 v _ H2.out.mem ha).mono ?_; rintro e w3 ⟨rfl, hp⟩; (have h3 := H2.out.below hp); (have HF3 := Lib.hid ((Fr.below (own := own) (T := (· = tm)) HB2.out).trans (Fr.below hp))); (have H3 := Lib.hid h3); (have e4 : w3.cell? ⟨p, 4, none⟩ = some (.int .i64 a) := (cells9 h3.obj).1.2.2.2.2.1); (have e6 : w3.cell? ⟨p, 6, none⟩ = some (.int .u64 x0) := (cells9 h3.obj).1.2.2.2.2.2.2.1); clear hp h3 _h) | (go_at_call 62; refine (pnext_is x0 f v _ HV.out w00 w01 f0 f1).mono ?_; rintro e w2 ⟨rfl, hp⟩; (have h2 := HS.out.below (undrew hp)); (have H2 := Lib.hid h2); (have HB2 := Lib.hid (undrew hp)); (have d4 : w2.cell? ⟨p, 4, none⟩ = some (.int .i64 a) := (cells9 h2.obj).1.2.2.2.2.1); (have d6 : w2.cell? ⟨p, 6, none⟩ = some (.int .u64 x0) := (cells9 h2.obj).1.2.2.2.2.2.2.1); clear hp h2))
  go_wp2
  go_ret
  exact ⟨rfl, _, HF3.out, H3.out.mem⟩
set_option maxHeartbeats 4000000 in
theorem ms_hit (own : Nat → Nat) (tt tm p q : Nat) (n s h t i0 x0 st f v : Int) (a : Nat) (T : TypeId) (nx : Value) (ws : List Int) (ns : List Note) (w : World) (ht : tt ≠ tm) (hp : own p = tt) (ho : w.heap[p]? = some (.cells (tkCells n s h t a i0 x0 nx st) T (0, 0))) (hm : IsMem own tm w q ws ns) (hn : ns.length ≤ 1000000000000)
    (w00 : 0 ≤ x0) (w01 : x0 < 18446744073709551616) (f0 : 0 ≤ f) (f1 : f < 4294967296) (hv : nextW x0 f = v) (v0 : 0 ≤ v) (v1 : v < 18446744073709551616) (ha : a < ws.length) (hx : rdW ws a = x0) :
    Calls Try.prog 58 #[.pointer (some ⟨p, 0, none⟩), .pointer (some ⟨q, 0, none⟩), .int .u32 f] w fun e w' => e = .returned (.int .i64 1) ∧ MemPost own tm w q (ws.set a v) (ns ++ [⟨99, a, x0, v, true⟩]) w' := by
  have HS := Lib.hid (TkSt.start (q := q) hp ho hm)
  obtain ⟨⟨c0, c1, c2, c3, c4, c5, c6, c7, c8⟩, ⟨z5, z6, z7, z8⟩, lt0⟩ := cells9 ho
  have HV := Lib.hid hv
  have HX := Lib.hid hx
  clear hx
  clear hp ho hm hv
  go_enter Try.func58, Try.ntmps58
  go_wp2
  go_region_held3 (fun w' => w'.cell? ⟨p, 4, none⟩ = some (.int .i64 a) ∧ w'.cell? ⟨p, 6, none⟩ = some (.int .u64 x0)) (first | exact ⟨c4, c6⟩ | exact ⟨d4, d6⟩ | exact ⟨e4, e6⟩) (first | ((have _h := H2); go_at_call 61; refine (swap_hit own tm q ws ns a x0 v _ H2.out.mem HX.out ha hn v0 v1).mono ?_; rintro e w3 ⟨rfl, hp⟩; obtain ⟨o3, h3, hf3⟩ := H2.out.mstep ht hp; (have HF3 := Lib.hid ((Fr.below (own := own) HB2.out).trans hf3)); (have H3 := Lib.hid h3); (have e4 : w3.cell? ⟨p, 4, none⟩ = some (.int .i64 a) := (cells9 h3.obj).1.2.2.2.2.1); (have e6 : w3.cell? ⟨p, 6, none⟩ = some (.int .u64 x0) := (cells9 h3.obj).1.2.2.2.2.2.2.1); clear hp h3 _h hf3) | (go_at_call 62; refine (pnext_is x0 f v _ HV.out w00 w01 f0 f1).mono ?_; rintro e w2 ⟨rfl, hp⟩; (have h2 := HS.out.below (undrew hp)); (have H2 := Lib.hid h2); (have HB2 := Lib.hid (undrew hp)); (have d4 : w2.cell? ⟨p, 4, none⟩ = some (.int .i64 a) := (cells9 h2.obj).1.2.2.2.2.1); (have d6 : w2.cell? ⟨p, 6, none⟩ = some (.int .u64 x0) := (cells9 h2.obj).1.2.2.2.2.2.2.1); clear hp h2))
  go_wp2
  go_ret
  exact ⟨rfl, _, HF3.out, H3.out.mem⟩
set_option maxHeartbeats 4000000 in
theorem ms_miss (own : Nat → Nat) (tt tm p q : Nat) (n s h t i0 x0 st f v : Int) (a : Nat) (y : Int) (T : TypeId) (nx : Value) (ws : List Int) (ns : List Note) (w : World) (ht : tt ≠ tm) (hp : own p = tt) (ho : w.heap[p]? = some (.cells (tkCells n s h t a i0 x0 nx st) T (0, 0))) (hm : IsMem own tm w q ws ns) (hn : ns.length ≤ 1000000000000)
    (w00 : 0 ≤ x0) (w01 : x0 < 18446744073709551616) (f0 : 0 ≤ f) (f1 : f < 4294967296) (hv : nextW x0 f = v) (v0 : 0 ≤ v) (v1 : v < 18446744073709551616) (ha : a < ws.length) (hx : rdW ws a = y) (hne : (y == x0) = false) :
    Calls Try.prog 58 #[.pointer (some ⟨p, 0, none⟩), .pointer (some ⟨q, 0, none⟩), .int .u32 f] w fun e w' => e = .returned (.int .i64 3) ∧ MemPost own tm w q ws (ns ++ [⟨99, a, y, y, false⟩]) w' := by
  have HS := Lib.hid (TkSt.start (q := q) hp ho hm)
  obtain ⟨⟨c0, c1, c2, c3, c4, c5, c6, c7, c8⟩, ⟨z5, z6, z7, z8⟩, lt0⟩ := cells9 ho
  have HV := Lib.hid hv
  have HX := Lib.hid hx
  clear hx
  clear hp ho hm hv
  go_enter Try.func58, Try.ntmps58
  go_wp2
  go_region_held3 (fun w' => w'.cell? ⟨p, 4, none⟩ = some (.int .i64 a) ∧ w'.cell? ⟨p, 6, none⟩ = some (.int .u64 x0)) (first | exact ⟨c4, c6⟩ | exact ⟨d4, d6⟩ | exact ⟨e4, e6⟩) (first | ((have _h := H2); go_at_call 61; refine (swap_lost own tm q ws ns a y x0 v _ H2.out.mem HX.out ha hn hne).mono ?_; rintro e w3 ⟨rfl, hp⟩; obtain ⟨o3, h3, hf3⟩ := H2.out.mstep ht hp; (have HF3 := Lib.hid ((Fr.below (own := own) HB2.out).trans hf3)); (have H3 := Lib.hid h3); (have e4 : w3.cell? ⟨p, 4, none⟩ = some (.int .i64 a) := (cells9 h3.obj).1.2.2.2.2.1); (have e6 : w3.cell? ⟨p, 6, none⟩ = some (.int .u64 x0) := (cells9 h3.obj).1.2.2.2.2.2.2.1); clear hp h3 _h hf3) | (go_at_call 62; refine (pnext_is x0 f v _ HV.out w00 w01 f0 f1).mono ?_; rintro e w2 ⟨rfl, hp⟩; (have h2 := HS.out.below (undrew hp)); (have H2 := Lib.hid h2); (have HB2 := Lib.hid (undrew hp)); (have d4 : w2.cell? ⟨p, 4, none⟩ = some (.int .i64 a) := (cells9 h2.obj).1.2.2.2.2.1); (have d6 : w2.cell? ⟨p, 6, none⟩ = some (.int .u64 x0) := (cells9 h2.obj).1.2.2.2.2.2.2.1); clear hp h2))
  go_wp2
  go_ret
  exact ⟨rfl, _, HF3.out, H3.out.mem⟩
set_option maxHeartbeats 4000000 in
theorem tl_out (own : Nat → Nat) (tt tm p q b1 b2 : Nat) (n s h t i0 x0 st x f v : Int) (a : Int) (nx : Value) (ws : List Int) (ns : List Note) (w : World) (ht : tt ≠ tm) (hp : own p = tt) (ho : w.heap[p]? = some (.cells (tkCells n s h t a i0 x0 nx st) 87 (0, 0))) (hm : IsMem own tm w q ws ns) (hn : ns.length ≤ 1000000000000)
    (o1 : own b1 = tt) (o2 : own b2 = tt) (e1 : w.heap[b1]? = some (.cells #[.pointer (some ⟨p, 0, none⟩)] 35 (0, 0))) (e2 : w.heap[b2]? = some (.cells #[.int .u64 x] 41 (0, 0)))
    (hy : x % 4294967296 = f) (w00 : 0 ≤ x0) (w01 : x0 < 18446744073709551616) (f0 : 0 ≤ f) (f1 : f < 4294967296) (hv : nextW x0 f = v) (v0 : 0 ≤ v) (v1 : v < 18446744073709551616) (ha : a < 0 ∨ (ws.length : Int) ≤ a) :
    Calls Try.prog 57 #[.pointer (some ⟨q, 0, none⟩), .pointer (some ⟨b1, 0, none⟩), .pointer (some ⟨b2, 0, none⟩)] w fun e w' => e = .returned (.int .i64 5) ∧ MemPost own tm w q ws ns w' := by
  have l1 := lt_of_heap e1
  have l2 := lt_of_heap e2
  have k1' := cell_of e1 0
  have k2' := cell_of e2 0
  have HO := Lib.hid ho
  have HM := Lib.hid hm
  have HY := Lib.hid hy
  have HV := Lib.hid hv
  clear ho hm hy hv
  go_enter Try.func57, Try.ntmps57
  go_wp2
  go_region_held3 (fun w' => w'.cell? ⟨b1, 0, none⟩ = some (.pointer (some ⟨p, 0, none⟩)) ∧ w'.cell? ⟨b2, 0, none⟩ = some (.int .u64 x)) (first | exact ⟨k1', k2'⟩ | exact ⟨k1, k2⟩ | exact ⟨x1, x2⟩) (first | ((have _h := HB2); go_at_call 58; refine (ms_out own tt tm p q n s h t i0 x0 st f v a 87 nx ws ns _ ht hp ((HB2.out.block _ (lt_of_heap HO.out)).trans HO.out) (HM.out.below HB2.out) hn w00 w01 f0 f1 HV.out v0 v1 ha).mono ?_; rintro e w3 ⟨rfl, hp⟩; obtain ⟨o3, hf, hmm⟩ := hp; (have HF3 := Lib.hid ((Fr.below (own := own) HB2.out).trans hf)); (have HM3 := Lib.hid hmm); (have x1 : w3.cell? ⟨b1, 0, none⟩ = some (.pointer (some ⟨p, 0, none⟩)) := (cell_of ((hf.keep b1 (Nat.lt_of_lt_of_le l1 HB2.out.size) (by rw [o1]; exact ht)).trans ((HB2.out.block _ l1).trans e1)) 0)); (have x2 : w3.cell? ⟨b2, 0, none⟩ = some (.int .u64 x) := (cell_of ((hf.keep b2 (Nat.lt_of_lt_of_le l2 HB2.out.size) (by rw [o2]; exact ht)).trans ((HB2.out.block _ l2).trans e2)) 0)); clear hf hmm _h) | (go_at_call 27; refine (index_is x f _ HY.out).mono ?_; rintro e w2 ⟨rfl, hp⟩; (have HB2 := Lib.hid (undrew hp)); (have k1 : w2.cell? ⟨b1, 0, none⟩ = some (.pointer (some ⟨p, 0, none⟩)) := ((undrew hp).cell l1).trans k1'); (have k2 : w2.cell? ⟨b2, 0, none⟩ = some (.int .u64 x) := ((undrew hp).cell l2).trans k2'); clear hp))
  go_wp2
  go_ret
  exact ⟨rfl, _, HF3.out, HM3.out⟩
set_option maxHeartbeats 4000000 in
theorem tl_hit (own : Nat → Nat) (tt tm p q b1 b2 : Nat) (n s h t i0 x0 st x f v : Int) (a : Nat) (nx : Value) (ws : List Int) (ns : List Note) (w : World) (ht : tt ≠ tm) (hp : own p = tt) (ho : w.heap[p]? = some (.cells (tkCells n s h t a i0 x0 nx st) 87 (0, 0))) (hm : IsMem own tm w q ws ns) (hn : ns.length ≤ 1000000000000)
    (o1 : own b1 = tt) (o2 : own b2 = tt) (e1 : w.heap[b1]? = some (.cells #[.pointer (some ⟨p, 0, none⟩)] 35 (0, 0))) (e2 : w.heap[b2]? = some (.cells #[.int .u64 x] 41 (0, 0)))
    (hy : x % 4294967296 = f) (w00 : 0 ≤ x0) (w01 : x0 < 18446744073709551616) (f0 : 0 ≤ f) (f1 : f < 4294967296) (hv : nextW x0 f = v) (v0 : 0 ≤ v) (v1 : v < 18446744073709551616) (ha : a < ws.length) (hx : rdW ws a = x0) :
    Calls Try.prog 57 #[.pointer (some ⟨q, 0, none⟩), .pointer (some ⟨b1, 0, none⟩), .pointer (some ⟨b2, 0, none⟩)] w fun e w' => e = .returned (.int .i64 1) ∧ MemPost own tm w q (ws.set a v) (ns ++ [⟨99, a, x0, v, true⟩]) w' := by
  have l1 := lt_of_heap e1
  have l2 := lt_of_heap e2
  have k1' := cell_of e1 0
  have k2' := cell_of e2 0
  have HO := Lib.hid ho
  have HM := Lib.hid hm
  have HY := Lib.hid hy
  have HV := Lib.hid hv
  clear ho hm hy hv
  go_enter Try.func57, Try.ntmps57
  go_wp2
  go_region_held3 (fun w' => w'.cell? ⟨b1, 0, none⟩ = some (.pointer (some ⟨p, 0, none⟩)) ∧ w'.cell? ⟨b2, 0, none⟩ = some (.int .u64 x)) (first | exact ⟨k1', k2'⟩ | exact ⟨k1, k2⟩ | exact ⟨x1, x2⟩) (first | ((have _h := HB2); go_at_call 58; refine (ms_hit own tt tm p q n s h t i0 x0 st f v a 87 nx ws ns _ ht hp ((HB2.out.block _ (lt_of_heap HO.out)).trans HO.out) (HM.out.below HB2.out) hn w00 w01 f0 f1 HV.out v0 v1 ha hx).mono ?_; rintro e w3 ⟨rfl, hp⟩; obtain ⟨o3, hf, hmm⟩ := hp; (have HF3 := Lib.hid ((Fr.below (own := own) HB2.out).trans hf)); (have HM3 := Lib.hid hmm); (have x1 : w3.cell? ⟨b1, 0, none⟩ = some (.pointer (some ⟨p, 0, none⟩)) := (cell_of ((hf.keep b1 (Nat.lt_of_lt_of_le l1 HB2.out.size) (by rw [o1]; exact ht)).trans ((HB2.out.block _ l1).trans e1)) 0)); (have x2 : w3.cell? ⟨b2, 0, none⟩ = some (.int .u64 x) := (cell_of ((hf.keep b2 (Nat.lt_of_lt_of_le l2 HB2.out.size) (by rw [o2]; exact ht)).trans ((HB2.out.block _ l2).trans e2)) 0)); clear hf hmm _h) | (go_at_call 27; refine (index_is x f _ HY.out).mono ?_; rintro e w2 ⟨rfl, hp⟩; (have HB2 := Lib.hid (undrew hp)); (have k1 : w2.cell? ⟨b1, 0, none⟩ = some (.pointer (some ⟨p, 0, none⟩)) := ((undrew hp).cell l1).trans k1'); (have k2 : w2.cell? ⟨b2, 0, none⟩ = some (.int .u64 x) := ((undrew hp).cell l2).trans k2'); clear hp))
  go_wp2
  go_ret
  exact ⟨rfl, _, HF3.out, HM3.out⟩
set_option maxHeartbeats 4000000 in
theorem tl_miss (own : Nat → Nat) (tt tm p q b1 b2 : Nat) (n s h t i0 x0 st x f v : Int) (a : Nat) (y : Int) (nx : Value) (ws : List Int) (ns : List Note) (w : World) (ht : tt ≠ tm) (hp : own p = tt) (ho : w.heap[p]? = some (.cells (tkCells n s h t a i0 x0 nx st) 87 (0, 0))) (hm : IsMem own tm w q ws ns) (hn : ns.length ≤ 1000000000000)
    (o1 : own b1 = tt) (o2 : own b2 = tt) (e1 : w.heap[b1]? = some (.cells #[.pointer (some ⟨p, 0, none⟩)] 35 (0, 0))) (e2 : w.heap[b2]? = some (.cells #[.int .u64 x] 41 (0, 0)))
    (hy : x % 4294967296 = f) (w00 : 0 ≤ x0) (w01 : x0 < 18446744073709551616) (f0 : 0 ≤ f) (f1 : f < 4294967296) (hv : nextW x0 f = v) (v0 : 0 ≤ v) (v1 : v < 18446744073709551616) (ha : a < ws.length) (hx : rdW ws a = y) (hne : (y == x0) = false) :
    Calls Try.prog 57 #[.pointer (some ⟨q, 0, none⟩), .pointer (some ⟨b1, 0, none⟩), .pointer (some ⟨b2, 0, none⟩)] w fun e w' => e = .returned (.int .i64 3) ∧ MemPost own tm w q ws (ns ++ [⟨99, a, y, y, false⟩]) w' := by
  have l1 := lt_of_heap e1
  have l2 := lt_of_heap e2
  have k1' := cell_of e1 0
  have k2' := cell_of e2 0
  have HO := Lib.hid ho
  have HM := Lib.hid hm
  have HY := Lib.hid hy
  have HV := Lib.hid hv
  clear ho hm hy hv
  go_enter Try.func57, Try.ntmps57
  go_wp2
  go_region_held3 (fun w' => w'.cell? ⟨b1, 0, none⟩ = some (.pointer (some ⟨p, 0, none⟩)) ∧ w'.cell? ⟨b2, 0, none⟩ = some (.int .u64 x)) (first | exact ⟨k1', k2'⟩ | exact ⟨k1, k2⟩ | exact ⟨x1, x2⟩) (first | ((have _h := HB2); go_at_call 58; refine (ms_miss own tt tm p q n s h t i0 x0 st f v a y 87 nx ws ns _ ht hp ((HB2.out.block _ (lt_of_heap HO.out)).trans HO.out) (HM.out.below HB2.out) hn w00 w01 f0 f1 HV.out v0 v1 ha hx hne).mono ?_; rintro e w3 ⟨rfl, hp⟩; obtain ⟨o3, hf, hmm⟩ := hp; (have HF3 := Lib.hid ((Fr.below (own := own) HB2.out).trans hf)); (have HM3 := Lib.hid hmm); (have x1 : w3.cell? ⟨b1, 0, none⟩ = some (.pointer (some ⟨p, 0, none⟩)) := (cell_of ((hf.keep b1 (Nat.lt_of_lt_of_le l1 HB2.out.size) (by rw [o1]; exact ht)).trans ((HB2.out.block _ l1).trans e1)) 0)); (have x2 : w3.cell? ⟨b2, 0, none⟩ = some (.int .u64 x) := (cell_of ((hf.keep b2 (Nat.lt_of_lt_of_le l2 HB2.out.size) (by rw [o2]; exact ht)).trans ((HB2.out.block _ l2).trans e2)) 0)); clear hf hmm _h) | (go_at_call 27; refine (index_is x f _ HY.out).mono ?_; rintro e w2 ⟨rfl, hp⟩; (have HB2 := Lib.hid (undrew hp)); (have k1 : w2.cell? ⟨b1, 0, none⟩ = some (.pointer (some ⟨p, 0, none⟩)) := ((undrew hp).cell l1).trans k1'); (have k2 : w2.cell? ⟨b2, 0, none⟩ = some (.int .u64 x) := ((undrew hp).cell l2).trans k2'); clear hp))
  go_wp2
  go_ret
  exact ⟨rfl, _, HF3.out, HM3.out⟩
end Go.Proofs.Ytdhkppijeocaoaa
namespace Go.Proofs.Ytdhkppijeocaoaa
open Go.RowKit
set_option linter.unusedVariables false
set_option linter.unusedSimpArgs false

/-- What holds on the way through a second step: the box of the machine's own pointer too. -/
structure SecSt (T : TypeId) (own o : Nat → Nat) (tt tm p q b1 : Nat) (w w' : World) (cells : Array Value) (ws : List Int) (ns : List Note) : Prop where
  st : TkSt T own o tt tm p q w w' cells ws ns
  ne : b1 ≠ p
  tag : o b1 = tt
  box : w'.heap[b1]? = some (.cells #[.pointer (some ⟨p, 0, none⟩)] 35 (0, 0))
theorem SecSt.start {T : TypeId} {own : Nat → Nat} {tt tm p q : Nat} {w : World} {cells : Array Value} {ws : List Int} {ns : List Note} (hp : own p = tt) (ho : w.heap[p]? = some (.cells cells T (0, 0))) (hm : IsMem own tm w q ws ns) :
    ∃ o, SecSt T own o tt tm p q w.heap.size w (w.alloc (.cells #[.pointer (some ⟨p, 0, none⟩)] 35)) cells ws ns := by
  have l := lt_of_heap ho
  have hf := Below.fr_new (own := own) (t := tt) (bl_alloc (bl_refl w) (.cells #[.pointer (some ⟨p, 0, none⟩)] 35))
  exact ⟨_, ⟨hf.more fun _ h => h.elim, by simp [l, hp], (Below.heap_alloc _ _ _ l).trans ho, hm.kept hf (fun h => h)⟩, by omega, by simp, heap_new rfl⟩
theorem SecSt.mstep {T : TypeId} {own o : Nat → Nat} {tt tm p q b1 : Nat} {w w1 w2 : World} {cells : Array Value} {ws ws' : List Int} {ns ns' : List Note} (h : SecSt T own o tt tm p q b1 w w1 cells ws ns) (ht : tt ≠ tm) (hp : MemPost o tm w1 q ws' ns' w2) :
    ∃ o2, SecSt T own o2 tt tm p q b1 w w2 cells ws' ns' ∧ Fr o o2 (· = tm) w1 w2 := by
  obtain ⟨o2, h2, hf⟩ := h.st.mstep ht hp
  have l := lt_of_heap h.box
  exact ⟨o2, ⟨h2, h.ne, (hf.ext _ l).trans h.tag, (hf.keep _ l (by rw [h.tag]; exact ht)).trans h.box⟩, hf⟩
theorem SecSt.below {T : TypeId} {own o : Nat → Nat} {tt tm p q b1 : Nat} {w w1 w2 : World} {cells : Array Value} {ws : List Int} {ns : List Note} (h : SecSt T own o tt tm p q b1 w w1 cells ws ns) (hb : Below w1.heap.size w1 w2) : SecSt T own o tt tm p q b1 w w2 cells ws ns :=
  ⟨h.st.below hb, h.ne, h.tag, (hb.block _ (lt_of_heap h.box)).trans h.box⟩

theorem SecSt.drew {T : TypeId} {own o : Nat → Nat} {tt tm p q b1 : Nat} {w w1 : World} {cells : Array Value} {ws : List Int} {ns : List Note} (h : SecSt T own o tt tm p q b1 w w1 cells ws ns) : SecSt T own o tt tm p q b1 w w1.drew cells ws ns := h.below (Below.refl _ _).drew
/-- .. and the box of the word that is loaded. -/
structure SecSt2 (T : TypeId) (own o : Nat → Nat) (tt tm p q b1 b2 : Nat) (z : Int) (w w' : World) (cells : Array Value) (ws : List Int) (ns : List Note) : Prop where
  sec : SecSt T own o tt tm p q b1 w w' cells ws ns
  ne : b2 ≠ p ∧ b2 ≠ b1
  tag : o b2 = tt
  box : w'.heap[b2]? = some (.cells #[.int .u64 z] 41 (0, 0))
theorem SecSt.new {T : TypeId} {own o : Nat → Nat} {tt tm p q b1 : Nat} {w w1 : World} {cells : Array Value} {ws : List Int} {ns : List Note} (h : SecSt T own o tt tm p q b1 w w1 cells ws ns) :
    ∃ o2, SecSt2 T own o2 tt tm p q b1 w1.heap.size 0 w (w1.alloc (.cells #[.int .u64 0] 41)) cells ws ns := by
  have hb := bl_alloc (bl_refl w1) (.cells #[.int .u64 0] 41)
  have hf := Below.fr_new (own := o) (t := tt) hb
  have lp := lt_of_heap h.st.obj
  have lb := lt_of_heap h.box
  refine ⟨_, ⟨⟨h.st.fr.trans (hf.more fun _ e => e.elim), by simp [lp, h.st.mine], (hb.block _ lp).trans h.st.obj, h.st.mem.kept hf (fun e => e)⟩, h.ne, by simp [lb, h.tag], (hb.block _ lb).trans h.box⟩, ⟨by omega, by omega⟩, by simp, heap_new rfl⟩
theorem SecSt.newz {T : TypeId} {own o : Nat → Nat} {tt tm p q b1 : Nat} {w w1 : World} {cells : Array Value} {ws : List Int} {ns : List Note} (h : SecSt T own o tt tm p q b1 w w1 cells ws ns) (z : Int) :
    ∃ o2, SecSt2 T own o2 tt tm p q b1 w1.heap.size z w (w1.alloc (.cells #[.int .u64 z] 41)) cells ws ns := by
  have hb := bl_alloc (bl_refl w1) (.cells #[.int .u64 z] 41)
  have hf := Below.fr_new (own := o) (t := tt) hb
  have lp := lt_of_heap h.st.obj
  have lb := lt_of_heap h.box
  refine ⟨_, ⟨⟨h.st.fr.trans (hf.more fun _ e => e.elim), by simp [lp, h.st.mine], (hb.block _ lp).trans h.st.obj, h.st.mem.kept hf (fun e => e)⟩, h.ne, by simp [lb, h.tag], (hb.block _ lb).trans h.box⟩, ⟨by omega, by omega⟩, by simp, heap_new rfl⟩
theorem SecSt2.mstep {T : TypeId} {own o : Nat → Nat} {tt tm p q b1 b2 : Nat} {z : Int} {w w1 w2 : World} {cells : Array Value} {ws ws' : List Int} {ns ns' : List Note} (h : SecSt2 T own o tt tm p q b1 b2 z w w1 cells ws ns) (ht : tt ≠ tm) (hp : MemPost o tm w1 q ws' ns' w2) :
    ∃ o2, SecSt2 T own o2 tt tm p q b1 b2 z w w2 cells ws' ns' := by
  obtain ⟨o2, h2, hf⟩ := h.sec.mstep ht hp
  have l := lt_of_heap h.box
  exact ⟨o2, h2, h.ne, (hf.ext _ l).trans h.tag, (hf.keep _ l (by rw [h.tag]; exact ht)).trans h.box⟩
theorem SecSt2.below {T : TypeId} {own o : Nat → Nat} {tt tm p q b1 b2 : Nat} {z : Int} {w w1 w2 : World} {cells : Array Value} {ws : List Int} {ns : List Note} (h : SecSt2 T own o tt tm p q b1 b2 z w w1 cells ws ns) (hb : Below w1.heap.size w1 w2) : SecSt2 T own o tt tm p q b1 b2 z w w2 cells ws ns :=
  ⟨h.sec.below hb, h.ne, h.tag, (hb.block _ (lt_of_heap h.box)).trans h.box⟩
/-- The word is put into its box, and what comes next into the machine. -/
theorem SecSt2.put {T : TypeId} {own o : Nat → Nat} {tt tm p q b1 b2 : Nat} {z : Int} {w w1 : World} {cells : Array Value} {ws : List Int} {ns : List Note} (h : SecSt2 T own o tt tm p q b1 b2 z w w1 cells ws ns) (ht : tt ≠ tm) (x : Int) : SecSt2 T own o tt tm p q b1 b2 x w (w1.setCell ⟨b2, 0, none⟩ (.int .u64 x)) cells ws ns := by
  have hf := Fr.set (w := w1) (k := 0) h.tag (.int .u64 x)
  refine ⟨⟨⟨h.sec.st.fr.trans (hf.more fun _ e => Or.inl e), h.sec.st.mine, (heap_set_ne h.ne.1.symm).trans h.sec.st.obj, h.sec.st.mem.kept hf (fun e => ht e.symm)⟩, h.sec.ne, h.sec.tag, (heap_set_ne h.ne.2.symm).trans h.sec.box⟩, h.ne, h.tag, heap_set h.box⟩
theorem SecSt.cells {T : TypeId} {own o : Nat → Nat} {tt tm p q b1 : Nat} {w w1 : World} {n s h t a i x st : Int} {nx : Value} {ws : List Int} {ns : List Note} (k : SecSt T own o tt tm p q b1 w w1 (tkCells n s h t a i x nx st) ws ns) :
    w1.cell? ⟨b1, 0, none⟩ = some (.pointer (some ⟨p, 0, none⟩)) ∧ w1.cell? ⟨p, 0, none⟩ = some (.int .i64 n) ∧ w1.cell? ⟨p, 1, none⟩ = some (.int .i64 s) ∧ w1.cell? ⟨p, 2, none⟩ = some (.int .i64 h) ∧ w1.cell? ⟨p, 3, none⟩ = some (.int .u32 t) ∧ w1.cell? ⟨p, 5, none⟩ = some (.int .u32 i) :=
  ⟨cell_of k.box 0, cell_of k.st.obj 0, cell_of k.st.obj 1, cell_of k.st.obj 2, cell_of k.st.obj 3, cell_of k.st.obj 5⟩

theorem SecSt2.done {own o : Nat → Nat} {tt tm p q b1 b2 : Nat} {x : Int} {w w1 : World} {n s h t a i x0 st : Int} {nx : Value} {ws : List Int} {ns : List Note} (k : SecSt2 87 own o tt tm p q b1 b2 x w w1 (tkCells n s h t a i x0 nx st) ws ns) (ht : tt ≠ tm) (x00 : 0 ≤ x) (x01 : x < 18446744073709551616) :
    ∃ o nx', TkSt 87 own o tt tm p q w (w1.setCell ⟨p, 7, none⟩ (.func (.func 57) #[] #[.pointer (some ⟨b1, 0, none⟩), .pointer (some ⟨b2, 0, none⟩)])) (tkCells n s h t a i x0 nx' st) ws ns ∧
      TkNext o tt (w1.setCell ⟨p, 7, none⟩ (.func (.func 57) #[] #[.pointer (some ⟨b1, 0, none⟩), .pointer (some ⟨b2, 0, none⟩)])) p (.last x) nx' :=
  ⟨o, _, k.sec.st.set ht 7 _, x00, x01, b1, b2, k.sec.ne, k.ne.1, k.sec.tag, k.tag, (heap_set_ne k.sec.ne).trans k.sec.box, (heap_set_ne k.ne.1).trans k.box, rfl⟩
set_option maxHeartbeats 4000000 in
theorem tk_second (own : Nat → Nat) (tt tm p q : Nat) (n s h t a i0 x0 st x v : Int) (j : Nat) (nx : Value) (ws : List Int) (ns : List Note) (w : World) (ht : tt ≠ tm) (hp : own p = tt) (ho : w.heap[p]? = some (.cells (tkCells n s h t a i0 x0 nx st) 87 (0, 0))) (hm : IsMem own tm w q ws ns) (hn : ns.length ≤ 1000000000000)
    (i00 : 0 ≤ i0) (i01 : i0 < 4294967296) (hv : atI n s h 0 (2 * (i0 - 1)) = (j : Int)) (hj : j < ws.length) (hx : rdW ws j = x) :
    Calls Try.prog 51 #[.pointer (some ⟨p, 0, none⟩), .pointer (some ⟨q, 0, none⟩)] w fun e w' => e = .returned (.int .i64 0) ∧ ∃ o nx', TkSt 87 own o tt tm p q w w' (tkCells n s h t a i0 x0 nx' st) ws (ns ++ [⟨108, j, x, x, true⟩]) ∧ TkNext o tt w' p (.last x) nx' := by
  have hmf : ∀ (fn : Fn) (first cap : Array Value) (w : World), (Instr.makeFunc fn first cap).run Try.prog w = .ok (.func fn first cap) w := fun _ _ _ _ => rfl
  have hxr := rdW_rng hm.rng hj
  rw [hx] at hxr
  obtain ⟨o1, h1⟩ := SecSt.start (q := q) hp ho hm
  have HS := Lib.hid h1
  have HV := Lib.hid hv
  have HX := Lib.hid hx
  obtain ⟨⟨c0, c1, c2, c3, c4, c5, c6, c7, c8⟩, ⟨z5, z6, z7, z8⟩, lt0⟩ := cells9 h1.st.obj
  have k1 := cell_of h1.box 0
  clear ho hm hv hx h1
  go_enter Try.func51, Try.ntmps51
  go_wp2
  generalize w.alloc (.cells #[.pointer (some ⟨p, 0, none⟩)] 35) = w1 at *
  have F1 := HS.out.cells
  go_region_held3 (fun w' => w'.cell? ⟨w.heap.size, 0, none⟩ = some (.pointer (some ⟨p, 0, none⟩)) ∧ w'.cell? ⟨p, 0, none⟩ = some (.int .i64 n) ∧ w'.cell? ⟨p, 1, none⟩ = some (.int .i64 s) ∧ w'.cell? ⟨p, 2, none⟩ = some (.int .i64 h) ∧ w'.cell? ⟨p, 3, none⟩ = some (.int .u32 t) ∧ w'.cell? ⟨p, 5, none⟩ = some (.int .u32 i0)) (first | exact F1 | exact F2 | exact F3 | exact (K3.out.put ht x).sec.cells | exact K4.out.sec.cells | exact (K4.out.put ht x).sec.cells | go_keep) (first | (go_at_call 32; refine (lnext_is n s h t i0 j _ HV.out i00 i01).mono ?_; rintro e w2 ⟨rfl, hp⟩; first | (obtain ⟨o2, hk2⟩ := HS.out.drew.new; (have K2 := Lib.hid (hk2.below hp)); (have F2 := K2.out.sec.cells); clear hp hk2) | ((have H2 := Lib.hid (HS.out.drew.below hp)); (have F2 := H2.out.cells); clear hp)) | (go_at_call 50; first | ((have _h := K2); refine (load_it o2 tm q ws ns j x _ K2.out.sec.st.mem HX.out hj hn).mono ?_; rintro e w3 ⟨rfl, hp⟩; obtain ⟨o3, hk3⟩ := K2.out.mstep ht hp; (have K3 := Lib.hid hk3); (have F3 := K3.out.sec.cells); (have B3 : w3.cell? ⟨w1.heap.size, 0, none⟩ = some (.int .u64 0) := cell_of K3.out.box 0); (have Z3 : w3.frozen? ⟨w1.heap.size, 0, none⟩ = false := free_of K3.out.box 0); clear hp hk3 _h) | (refine (load_it o1 tm q ws ns j x _ H2.out.st.mem HX.out hj hn).mono ?_; rintro e w3 ⟨rfl, hp⟩; obtain ⟨o3, hk3, hf3⟩ := H2.out.mstep ht hp; (have H3 := Lib.hid hk3); (have F3 := H3.out.cells); obtain ⟨o4, hk4⟩ := H3.out.new; (have K4 := Lib.hid hk4); (have B4 := cell_of K4.out.box 0); (have Z4 := free_of K4.out.box 0); clear hp hk3 hf3 hk4) | (obtain ⟨o2, hk2⟩ := H2.out.new; refine (load_it o2 tm q ws ns j x _ hk2.sec.st.mem HX.out hj hn).mono ?_; rintro e w3 ⟨rfl, hp⟩; obtain ⟨o3, hk3⟩ := hk2.mstep ht hp; (have K3 := Lib.hid hk3); (have F3 := K3.out.sec.cells); (have B3 := cell_of K3.out.box 0); (have Z3 := free_of K3.out.box 0); clear hp hk2 hk3)))
  · obtain ⟨o5, hk⟩ := H3.out.newz x
    generalize w3.alloc (.cells #[.int .u64 x] 41) = W at *
    have HK := Lib.hid hk
    obtain ⟨f0, f1, f2, f3, f4, f5⟩ := hk.sec.cells
    have c7 : W.cell? ⟨p, 7, none⟩ = some nx := cell_of hk.sec.st.obj 7
    have z7 : W.frozen? ⟨p, 7, none⟩ = false := free_of hk.sec.st.obj 7
    clear hk
    go_wp2
    go_ret
    exact ⟨rfl, HK.out.done ht hxr.1 hxr.2⟩
  · have hk := K3.out.put ht x
    generalize w3.setCell ⟨w2.heap.size, 0, none⟩ (.int .u64 x) = W at *
    have HK := Lib.hid hk
    obtain ⟨f0, f1, f2, f3, f4, f5⟩ := hk.sec.cells
    have c7 : W.cell? ⟨p, 7, none⟩ = some nx := cell_of hk.sec.st.obj 7
    have z7 : W.frozen? ⟨p, 7, none⟩ = false := free_of hk.sec.st.obj 7
    clear hk
    go_wp2
    go_ret
    exact ⟨rfl, HK.out.done ht hxr.1 hxr.2⟩
  · have hk : SecSt2 87 own o3 tt tm p q w.heap.size w1.heap.size x w (w3.setCell ⟨w1.heap.size, 0, none⟩ (.int .u64 x)) (tkCells n s h t a i0 x0 nx st) ws _ := K3.out.put ht x
    generalize w3.setCell ⟨w1.heap.size, 0, none⟩ (.int .u64 x) = W at *
    have HK := Lib.hid hk
    obtain ⟨f0, f1, f2, f3, f4, f5⟩ := hk.sec.cells
    have c7 : W.cell? ⟨p, 7, none⟩ = some nx := cell_of hk.sec.st.obj 7
    have z7 : W.frozen? ⟨p, 7, none⟩ = false := free_of hk.sec.st.obj 7
    clear hk
    go_wp2
    go_ret
    exact ⟨rfl, HK.out.done ht hxr.1 hxr.2⟩
end Go.Proofs.Ytdhkppijeocaoaa
namespace Go.Proofs.Ytdhkppijeocaoaa
open Go.RowKit
set_option linter.unusedVariables false
set_option linter.unusedSimpArgs false

set_option maxHeartbeats 4000000 in
theorem step_first (p q : Nat) (n s h t a i0 x0 i1 r : Int) (T : TypeId) (R : World → Prop) (w : World) (ho : w.heap[p]? = some (.cells (tkCells n s h t a i0 x0 (.func (.func 35) #[.pointer (some ⟨p, 0, none⟩)] #[]) 0) T (0, 0)))
    (hc : Calls Try.prog 35 #[.pointer (some ⟨p, 0, none⟩), .pointer (some ⟨q, 0, none⟩)] w fun e w' => e = .returned (.int .i64 r) ∧ R w') (hR : ∀ w', R w' → ∃ x1 nx1, w'.heap[p]? = some (.cells (tkCells n s h t a i1 x1 nx1 0) T (0, 0))) (hr1 : r ≠ 1) :
    Calls Try.prog 36 #[.pointer (some ⟨p, 0, none⟩), .pointer (some ⟨q, 0, none⟩)] w fun e w' => e = .returned (.tuple #[.int .i64 r, .int .u32 0]) ∧ ∃ w1, R w1 ∧ Below w1.heap.size (w1.setCell ⟨p, 8, none⟩ (.int .i64 r)) w' := by
  obtain ⟨⟨c0, c1, c2, c3, c4, c5, c6, c7, c8⟩, ⟨z5, z6, z7, z8⟩, lt0⟩ := cells9 ho
  have HC := Lib.hid hc
  have e1 : (r != 1) = true := by simpa using hr1
  clear ho hc
  go_enter Try.func36, Try.ntmps36
  go_wp2_with (go_at_call 35; refine HC.out.mono ?_; rintro e w1 ⟨rfl, hr⟩; obtain ⟨x1, nx1, ho1⟩ := hR _ hr; (have HR1 := Lib.hid hr); clear hr c0 c1 c2 c3 c4 c5 c6 c7 c8 z5 z6 z7 z8 lt0; obtain ⟨⟨c0, c1, c2, c3, c4, c5, c6, c7, c8⟩, ⟨z5, z6, z7, z8⟩, lt0⟩ := cells9 ho1; clear ho1)
  go_ret2
  exact ⟨rfl, w1, HR1.out, Below.refl _ _⟩
set_option maxHeartbeats 4000000 in
theorem step_first_done (p q : Nat) (n s h t a i0 x0 i1 : Int) (T : TypeId) (R : World → Prop) (w : World) (ho : w.heap[p]? = some (.cells (tkCells n s h t a i0 x0 (.func (.func 35) #[.pointer (some ⟨p, 0, none⟩)] #[]) 0) T (0, 0)))
    (hc : Calls Try.prog 35 #[.pointer (some ⟨p, 0, none⟩), .pointer (some ⟨q, 0, none⟩)] w fun e w' => e = .returned (.int .i64 1) ∧ R w') (hR : ∀ w', R w' → ∃ x1 nx1, w'.heap[p]? = some (.cells (tkCells n s h t a i1 x1 nx1 0) T (0, 0))) :
    Calls Try.prog 36 #[.pointer (some ⟨p, 0, none⟩), .pointer (some ⟨q, 0, none⟩)] w fun e w' => e = .returned (.tuple #[.int .i64 1, .int .u32 i1]) ∧ ∃ w1, R w1 ∧ Below w1.heap.size (w1.setCell ⟨p, 8, none⟩ (.int .i64 1)) w' := by
  obtain ⟨⟨c0, c1, c2, c3, c4, c5, c6, c7, c8⟩, ⟨z5, z6, z7, z8⟩, lt0⟩ := cells9 ho
  have HC := Lib.hid hc
  clear ho hc
  go_enter Try.func36, Try.ntmps36
  go_wp2_with (go_at_call 35; refine HC.out.mono ?_; rintro e w1 ⟨rfl, hr⟩; obtain ⟨x1, nx1, ho1⟩ := hR _ hr; (have HR1 := Lib.hid hr); clear hr c0 c1 c2 c3 c4 c5 c6 c7 c8 z5 z6 z7 z8 lt0; obtain ⟨⟨c0, c1, c2, c3, c4, c5, c6, c7, c8⟩, ⟨z5, z6, z7, z8⟩, lt0⟩ := cells9 ho1; clear ho1)
  go_quiet (fail)
  go_wp2
  go_ret2
  exact ⟨rfl, w1, HR1.out, ⟨rfl, rfl, rfl, Nat.le_refl _, fun _ _ => rfl⟩⟩
set_option maxHeartbeats 4000000 in
theorem step_second (p q : Nat) (n s h t a i0 x0 i1 r : Int) (T : TypeId) (R : World → Prop) (w : World) (ho : w.heap[p]? = some (.cells (tkCells n s h t a i0 x0 (.func (.func 51) #[.pointer (some ⟨p, 0, none⟩)] #[]) 0) T (0, 0)))
    (hc : Calls Try.prog 51 #[.pointer (some ⟨p, 0, none⟩), .pointer (some ⟨q, 0, none⟩)] w fun e w' => e = .returned (.int .i64 r) ∧ R w') (hR : ∀ w', R w' → ∃ x1 nx1, w'.heap[p]? = some (.cells (tkCells n s h t a i1 x1 nx1 0) T (0, 0))) (hr1 : r ≠ 1) :
    Calls Try.prog 36 #[.pointer (some ⟨p, 0, none⟩), .pointer (some ⟨q, 0, none⟩)] w fun e w' => e = .returned (.tuple #[.int .i64 r, .int .u32 0]) ∧ ∃ w1, R w1 ∧ Below w1.heap.size (w1.setCell ⟨p, 8, none⟩ (.int .i64 r)) w' := by
  obtain ⟨⟨c0, c1, c2, c3, c4, c5, c6, c7, c8⟩, ⟨z5, z6, z7, z8⟩, lt0⟩ := cells9 ho
  have HC := Lib.hid hc
  have e1 : (r != 1) = true := by simpa using hr1
  clear ho hc
  go_enter Try.func36, Try.ntmps36
  go_wp2_with (go_at_call 51; refine HC.out.mono ?_; rintro e w1 ⟨rfl, hr⟩; obtain ⟨x1, nx1, ho1⟩ := hR _ hr; (have HR1 := Lib.hid hr); clear hr c0 c1 c2 c3 c4 c5 c6 c7 c8 z5 z6 z7 z8 lt0; obtain ⟨⟨c0, c1, c2, c3, c4, c5, c6, c7, c8⟩, ⟨z5, z6, z7, z8⟩, lt0⟩ := cells9 ho1; clear ho1)
  go_ret2
  exact ⟨rfl, w1, HR1.out, Below.refl _ _⟩
set_option maxHeartbeats 4000000 in
theorem step_second_done (p q : Nat) (n s h t a i0 x0 i1 : Int) (T : TypeId) (R : World → Prop) (w : World) (ho : w.heap[p]? = some (.cells (tkCells n s h t a i0 x0 (.func (.func 51) #[.pointer (some ⟨p, 0, none⟩)] #[]) 0) T (0, 0)))
    (hc : Calls Try.prog 51 #[.pointer (some ⟨p, 0, none⟩), .pointer (some ⟨q, 0, none⟩)] w fun e w' => e = .returned (.int .i64 1) ∧ R w') (hR : ∀ w', R w' → ∃ x1 nx1, w'.heap[p]? = some (.cells (tkCells n s h t a i1 x1 nx1 0) T (0, 0))) :
    Calls Try.prog 36 #[.pointer (some ⟨p, 0, none⟩), .pointer (some ⟨q, 0, none⟩)] w fun e w' => e = .returned (.tuple #[.int .i64 1, .int .u32 i1]) ∧ ∃ w1, R w1 ∧ Below w1.heap.size (w1.setCell ⟨p, 8, none⟩ (.int .i64 1)) w' := by
  obtain ⟨⟨c0, c1, c2, c3, c4, c5, c6, c7, c8⟩, ⟨z5, z6, z7, z8⟩, lt0⟩ := cells9 ho
  have HC := Lib.hid hc
  clear ho hc
  go_enter Try.func36, Try.ntmps36
  go_wp2_with (go_at_call 51; refine HC.out.mono ?_; rintro e w1 ⟨rfl, hr⟩; obtain ⟨x1, nx1, ho1⟩ := hR _ hr; (have HR1 := Lib.hid hr); clear hr c0 c1 c2 c3 c4 c5 c6 c7 c8 z5 z6 z7 z8 lt0; obtain ⟨⟨c0, c1, c2, c3, c4, c5, c6, c7, c8⟩, ⟨z5, z6, z7, z8⟩, lt0⟩ := cells9 ho1; clear ho1)
  go_quiet (fail)
  go_wp2
  go_ret2
  exact ⟨rfl, w1, HR1.out, ⟨rfl, rfl, rfl, Nat.le_refl _, fun _ _ => rfl⟩⟩
set_option maxHeartbeats 4000000 in
theorem step_last (p q b1 b2 : Nat) (n s h t a i0 x0 i1 r : Int) (T : TypeId) (R : World → Prop) (w : World) (ho : w.heap[p]? = some (.cells (tkCells n s h t a i0 x0 (.func (.func 57) #[] #[.pointer (some ⟨b1, 0, none⟩), .pointer (some ⟨b2, 0, none⟩)]) 0) T (0, 0)))
    (hc : Calls Try.prog 57 #[.pointer (some ⟨q, 0, none⟩), .pointer (some ⟨b1, 0, none⟩), .pointer (some ⟨b2, 0, none⟩)] w fun e w' => e = .returned (.int .i64 r) ∧ R w') (hR : ∀ w', R w' → ∃ x1 nx1, w'.heap[p]? = some (.cells (tkCells n s h t a i1 x1 nx1 0) T (0, 0))) (hr1 : r ≠ 1) :
    Calls Try.prog 36 #[.pointer (some ⟨p, 0, none⟩), .pointer (some ⟨q, 0, none⟩)] w fun e w' => e = .returned (.tuple #[.int .i64 r, .int .u32 0]) ∧ ∃ w1, R w1 ∧ Below w1.heap.size (w1.setCell ⟨p, 8, none⟩ (.int .i64 r)) w' := by
  obtain ⟨⟨c0, c1, c2, c3, c4, c5, c6, c7, c8⟩, ⟨z5, z6, z7, z8⟩, lt0⟩ := cells9 ho
  have HC := Lib.hid hc
  have e1 : (r != 1) = true := by simpa using hr1
  clear ho hc
  go_enter Try.func36, Try.ntmps36
  go_wp2_with (go_at_call 57; refine HC.out.mono ?_; rintro e w1 ⟨rfl, hr⟩; obtain ⟨x1, nx1, ho1⟩ := hR _ hr; (have HR1 := Lib.hid hr); clear hr c0 c1 c2 c3 c4 c5 c6 c7 c8 z5 z6 z7 z8 lt0; obtain ⟨⟨c0, c1, c2, c3, c4, c5, c6, c7, c8⟩, ⟨z5, z6, z7, z8⟩, lt0⟩ := cells9 ho1; clear ho1)
  go_ret2
  exact ⟨rfl, w1, HR1.out, Below.refl _ _⟩
set_option maxHeartbeats 4000000 in
theorem step_last_done (p q b1 b2 : Nat) (n s h t a i0 x0 i1 : Int) (T : TypeId) (R : World → Prop) (w : World) (ho : w.heap[p]? = some (.cells (tkCells n s h t a i0 x0 (.func (.func 57) #[] #[.pointer (some ⟨b1, 0, none⟩), .pointer (some ⟨b2, 0, none⟩)]) 0) T (0, 0)))
    (hc : Calls Try.prog 57 #[.pointer (some ⟨q, 0, none⟩), .pointer (some ⟨b1, 0, none⟩), .pointer (some ⟨b2, 0, none⟩)] w fun e w' => e = .returned (.int .i64 1) ∧ R w') (hR : ∀ w', R w' → ∃ x1 nx1, w'.heap[p]? = some (.cells (tkCells n s h t a i1 x1 nx1 0) T (0, 0))) :
    Calls Try.prog 36 #[.pointer (some ⟨p, 0, none⟩), .pointer (some ⟨q, 0, none⟩)] w fun e w' => e = .returned (.tuple #[.int .i64 1, .int .u32 i1]) ∧ ∃ w1, R w1 ∧ Below w1.heap.size (w1.setCell ⟨p, 8, none⟩ (.int .i64 1)) w' := by
  obtain ⟨⟨c0, c1, c2, c3, c4, c5, c6, c7, c8⟩, ⟨z5, z6, z7, z8⟩, lt0⟩ := cells9 ho
  have HC := Lib.hid hc
  clear ho hc
  go_enter Try.func36, Try.ntmps36
  go_wp2_with (go_at_call 57; refine HC.out.mono ?_; rintro e w1 ⟨rfl, hr⟩; obtain ⟨x1, nx1, ho1⟩ := hR _ hr; (have HR1 := Lib.hid hr); clear hr c0 c1 c2 c3 c4 c5 c6 c7 c8 z5 z6 z7 z8 lt0; obtain ⟨⟨c0, c1, c2, c3, c4, c5, c6, c7, c8⟩, ⟨z5, z6, z7, z8⟩, lt0⟩ := cells9 ho1; clear ho1)
  go_quiet (fail)
  go_wp2
  go_ret2
  exact ⟨rfl, w1, HR1.out, ⟨rfl, rfl, rfl, Nat.le_refl _, fun _ _ => rfl⟩⟩
set_option maxHeartbeats 4000000 in
theorem step_over (p q : Nat) (n s h t a i0 x0 st : Int) (nx : Value) (T : TypeId) (w : World) (ho : w.heap[p]? = some (.cells (tkCells n s h t a i0 x0 nx st) T (0, 0))) (h0 : st ≠ 0) (h1 : st ≠ 1) :
    Calls Try.prog 36 #[.pointer (some ⟨p, 0, none⟩), .pointer (some ⟨q, 0, none⟩)] w fun e w' => e = .returned (.tuple #[.int .i64 st, .int .u32 0]) ∧ Below w.heap.size w w' := by
  obtain ⟨⟨c0, c1, c2, c3, c4, c5, c6, c7, c8⟩, ⟨z5, z6, z7, z8⟩, lt0⟩ := cells9 ho
  have e0 : (st == 0) = false := by simpa using h0
  have e1 : (st != 1) = true := by simpa using h1
  clear ho
  go_enter Try.func36, Try.ntmps36
  go_wp2
  go_ret2
  exact ⟨rfl, Below.refl _ _⟩
set_option maxHeartbeats 4000000 in
theorem step_was (p q : Nat) (n s h t a i0 x0 : Int) (nx : Value) (T : TypeId) (w : World) (ho : w.heap[p]? = some (.cells (tkCells n s h t a i0 x0 nx 1) T (0, 0))) :
    Calls Try.prog 36 #[.pointer (some ⟨p, 0, none⟩), .pointer (some ⟨q, 0, none⟩)] w fun e w' => e = .returned (.tuple #[.int .i64 1, .int .u32 i0]) ∧ Below w.heap.size w w' := by
  obtain ⟨⟨c0, c1, c2, c3, c4, c5, c6, c7, c8⟩, ⟨z5, z6, z7, z8⟩, lt0⟩ := cells9 ho
  clear ho
  go_enter Try.func36, Try.ntmps36
  go_wp2
  go_quiet (fail)
  go_wp2
  go_ret2
  exact ⟨rfl, ⟨rfl, rfl, rfl, Nat.le_refl _, fun _ _ => rfl⟩⟩
end Go.Proofs.Ytdhkppijeocaoaa
namespace Go.Proofs.Ytdhkppijeocaoaa
open Go.RowKit
set_option linter.unusedVariables false
set_option linter.unusedSimpArgs false

set_option maxHeartbeats 2000000 in
theorem take_wrap (p q : Nat) (r i : Int) (R : World → Prop) (w : World) (hc : Calls Try.prog 36 #[.pointer (some ⟨p, 0, none⟩), .pointer (some ⟨q, 0, none⟩)] w fun e w' => e = .returned (.tuple #[.int .i64 r, .int .u32 i]) ∧ R w') :
    Calls Try.prog 14 #[.pointer (some ⟨p, 0, none⟩), .pointer (some ⟨q, 0, none⟩)] w fun e w' => e = .returned (.tuple #[.int .i64 r, .int .u32 i]) ∧ R w' := by
  have HC := Lib.hid hc
  clear hc
  go_enter Try.func14, Try.ntmps14
  go_wp2_with (go_at_call 36; refine HC.out.mono ?_; rintro e w1 ⟨rfl, hr⟩; (have HR1 := Lib.hid hr); clear hr)
  go_ret2
  exact ⟨rfl, HR1.out⟩
/-- A Take that is made: a new block. -/
def TakeMade (own : Nat → Nat) (tt : Nat) (n s h t a : Int) (w : World) (e : Ending) (w' : World) : Prop :=
  ∃ p o, e = .returned (.pointer (some ⟨p, 0, none⟩)) ∧ w.heap.size ≤ p ∧ Fr own o (fun _ => False) w w' ∧ IsTake o tt w' p ⟨n, s, h, t, a, 0, 0, .first, 0⟩
set_option maxHeartbeats 2000000 in
theorem take_new (own : Nat → Nat) (tt : Nat) (n s h t a : Int) (w : World) :
    Calls Try.prog 13 #[.agg #[.int .i64 n, .int .i64 s, .int .i64 h, .int .u32 t], .int .i64 a] w (TakeMade own tt n s h t a w) := by
  have hmf : ∀ (fn : Fn) (first cap : Array Value) (w : World), (Instr.makeFunc fn first cap).run Try.prog w = .ok (.func fn first cap) w := fun _ _ _ _ => rfl
  go_enter Try.func13, Try.ntmps13
  go_wp2
  go_ret
  refine ⟨w.heap.size + 1, fun b => if b < w.heap.size then own b else tt, rfl, by omega, Below.fr_new (bl_alloc (bl_alloc (bl_refl w) _) _), ⟨⟨Int.le_refl _, (by show (0 : Int) < 4294967296; decide), Int.le_refl _, (by show (0 : Int) < 18446744073709551616; decide)⟩, (by show (if w.heap.size + 1 < w.heap.size then _ else tt) = tt; rw [if_neg (by omega)]), _, heap_new (by simp), rfl⟩⟩
/-- What a step of a Take tells (how it ended, or runs), the machine behind it, the words, and the notes; each one of a place that is there. -/
inductive TkStep (S : TM) (ws : List Int) (ns : List Note) : Int → TM → List Int → List Note → Prop where
  | over : S.st ≠ 0 → TkStep S ws ns S.st S ws ns
  | none (a : Nat) : S.st = 0 → S.ph = .first → S.at_ = a → a < ws.length → rdW ws a % 4294967296 = 0 → TkStep S ws ns 2 { S with i := 0, w := rdW ws a, st := 2 } ws (ns ++ [⟨108, a, rdW ws a, rdW ws a, true⟩])
  | head (a : Nat) (v : Int) : S.st = 0 → S.ph = .first → S.at_ = a → a < ws.length → rdW ws a % 4294967296 ≠ 0 → atI S.n S.s S.h 0 (2 * (rdW ws a % 4294967296 - 1)) = v → 0 ≤ v →
      TkStep S ws ns 0 { S with i := rdW ws a % 4294967296, w := rdW ws a, ph := .second } ws (ns ++ [⟨108, a, rdW ws a, rdW ws a, true⟩])
  | second (j : Nat) : S.st = 0 → S.ph = .second → atI S.n S.s S.h 0 (2 * (S.i - 1)) = j → j < ws.length → TkStep S ws ns 0 { S with ph := .last (rdW ws j) } ws (ns ++ [⟨108, j, rdW ws j, rdW ws j, true⟩])
  | hit (a : Nat) (x : Int) : S.st = 0 → S.ph = .last x → S.at_ = a → a < ws.length → rdW ws a = S.w → TkStep S ws ns 1 { S with st := 1 } (ws.set a (nextW S.w (x % 4294967296))) (ns ++ [⟨99, a, S.w, nextW S.w (x % 4294967296), true⟩])
  | miss (a : Nat) (x : Int) : S.st = 0 → S.ph = .last x → S.at_ = a → a < ws.length → rdW ws a ≠ S.w → TkStep S ws ns 3 { S with st := 3 } ws (ns ++ [⟨99, a, rdW ws a, rdW ws a, false⟩])
theorem nextW_rng {x f : Int} (f0 : 0 ≤ f) (f1 : f < 4294967296) : 0 ≤ nextW x f ∧ nextW x f < 18446744073709551616 := by unfold nextW; omega
theorem tk_of {own o : Nat → Nat} {tt tm p q : Nat} {w w1 w' : World} {n s h t a i x st : Int} {nx : Value} {ws : List Int} {ns : List Note} {ph : Ph} (k : TkSt 87 own o tt tm p q w w1 (tkCells n s h t a i x nx 0) ws ns) (ht : tt ≠ tm) (hn : TkNext o tt w1 p ph nx) (hb : Below w1.heap.size (w1.setCell ⟨p, 8, none⟩ (.int .i64 st)) w') (ok : TM.ok ⟨n, s, h, t, a, i, x, ph, st⟩) :
    TkPost own tt tm p q ⟨n, s, h, t, a, i, x, ph, st⟩ ws ns w w' := by
  have k2 := k.set ht 8 (.int .i64 st)
  have hb' : Below (w1.setCell ⟨p, 8, none⟩ (.int .i64 st)).heap.size (w1.setCell ⟨p, 8, none⟩ (.int .i64 st)) w' := hb.mono (by rw [heap_size_set]; exact Nat.le_refl _)
  have k3 := k2.below hb'
  have hn2 : TkNext o tt (w1.setCell ⟨p, 8, none⟩ (.int .i64 st)) p ph nx := by
    cases ph with
    | first => exact hn
    | second => exact hn
    | last x =>
      obtain ⟨h0, h1, b1, b2, n1, n2, o1, o2, e1, e2, e3⟩ := hn
      exact ⟨h0, h1, b1, b2, n1, n2, o1, o2, (heap_set_ne n1).trans e1, (heap_set_ne n2).trans e2, e3⟩
  exact ⟨o, k3.fr, ⟨ok, k3.mine, nx, k3.obj, hn2.kept (Fr.below (T := fun _ => False) hb') (fun h => h)⟩, k3.mem⟩
theorem last_keep {own : Nat → Nat} {tt tm p q : Nat} {w w1 : World} {cs : Array Value} {T : TypeId} {ws : List Int} {ns : List Note} (hp : own p = tt) (ht : tt ≠ tm) (hh : w.heap[p]? = some (.cells cs T (0, 0))) (hm : MemPost own tm w q ws ns w1) : w1.heap[p]? = some (.cells cs T (0, 0)) ∧ True := by
  obtain ⟨o, hf, _⟩ := hm
  exact ⟨(hf.keep _ (lt_of_heap hh) (by rw [hp]; exact ht)).trans hh, trivial⟩
theorem last_of {own : Nat → Nat} {tt tm p q b1 b2 : Nat} {w w1 : World} {cs : Array Value} {T : TypeId} {x : Int} {ws : List Int} {ns : List Note} (hp : own p = tt) (ht : tt ≠ tm) (hh : w.heap[p]? = some (.cells cs T (0, 0))) (hm : MemPost own tm w q ws ns w1) (n1 : b1 ≠ p) (n2 : b2 ≠ p) (o1 : own b1 = tt) (o2 : own b2 = tt)
    (e1 : w.heap[b1]? = some (.cells #[.pointer (some ⟨p, 0, none⟩)] 35 (0, 0))) (e2 : w.heap[b2]? = some (.cells #[.int .u64 x] 41 (0, 0))) (x0 : 0 ≤ x) (x1 : x < 18446744073709551616) :
    ∃ o, TkSt T own o tt tm p q w w1 cs ws ns ∧ TkNext o tt w1 p (.last x) (.func (.func 57) #[] #[.pointer (some ⟨b1, 0, none⟩), .pointer (some ⟨b2, 0, none⟩)]) := by
  obtain ⟨o, hf, hmm⟩ := hm
  have l1 := lt_of_heap e1
  have l2 := lt_of_heap e2
  have lp := lt_of_heap hh
  exact ⟨o, ⟨hf.more fun _ e => Or.inr e, (hf.ext _ lp).trans hp, (hf.keep _ lp (by rw [hp]; exact ht)).trans hh, hmm⟩, x0, x1, b1, b2, n1, n2, (hf.ext _ l1).trans o1, (hf.ext _ l2).trans o2, (hf.keep _ l1 (by rw [o1]; exact ht)).trans e1, (hf.keep _ l2 (by rw [o2]; exact ht)).trans e2, rfl⟩
end Go.Proofs.Ytdhkppijeocaoaa
namespace Go.Proofs.Ytdhkppijeocaoaa
open Go.RowKit
set_option linter.unusedVariables false
set_option linter.unusedSimpArgs false

def told (r : Int) (S : TM) : Int := if r = 1 then S.i else 0
theorem take_step (own : Nat → Nat) (tt tm p q : Nat) (S S' : TM) (ws ws' : List Int) (ns ns' : List Note) (r : Int) (w : World) (ht : tt ≠ tm) (hS : IsTake own tt w p S) (hM : IsMem own tm w q ws ns) (hn : ns.length ≤ 1000000000000) (hs : TkStep S ws ns r S' ws' ns') :
    Calls Try.prog 14 #[.pointer (some ⟨p, 0, none⟩), .pointer (some ⟨q, 0, none⟩)] w fun e w' => e = .returned (.tuple #[.int .i64 r, .int .u32 (told r S')]) ∧ TkPost own tt tm p q S' ws' ns' w w' := by
  obtain ⟨nx, hh, hnx⟩ := hS.body
  have hok := hS.ok
  have hmine := hS.mine
  obtain ⟨n, s, h, t, at_, i, x0, ph, st⟩ := S
  change w.heap[p]? = some (.cells (tkCells n s h t at_ i x0 nx st) _ _) at hh
  cases hs with
  | over h0 =>
    have h0 : st ≠ 0 := h0
    have fin : ∀ w', Below w.heap.size w w' → TkPost own tt tm p q ⟨n, s, h, t, at_, i, x0, ph, st⟩ ws ns w w' := fun w' hb => ⟨own, Fr.below hb, hS.below hb, hM.below hb⟩
    by_cases h1 : st = 1
    · subst h1
      exact take_wrap p q 1 i _ w ((step_was p q n s h t at_ i x0 nx _ w hh).mono fun e w' hp => ⟨hp.1, fin w' hp.2⟩)
    · have e : told st ⟨n, s, h, t, at_, i, x0, ph, st⟩ = 0 := if_neg h1
      rw [e]
      exact take_wrap p q st 0 _ w ((step_over p q n s h t at_ i x0 st nx _ w hh h0 h1).mono fun e w' hp => ⟨hp.1, fin w' hp.2⟩)
  | none a h0 h1 h2 h3 h4 =>
    have h0 : st = 0 := h0
    have h1 : ph = .first := h1
    have h2 : at_ = a := h2
    subst h0 h1 h2
    obtain rfl : nx = _ := hnx
    obtain ⟨x, hx⟩ : ∃ x, rdW ws a = x := ⟨_, rfl⟩
    rw [hx] at h4 ⊢
    have hxr := rdW_rng hM.rng h3
    rw [hx] at hxr
    refine take_wrap p q 2 0 _ w ((step_first p q n s h t a i x0 0 2 _ _ w hh (tk_none own tt tm p q n s h t i x0 0 _ ws ns a x w ht hmine hh hM hn h3 hx h4) (fun w' hr => by obtain ⟨o, hk⟩ := hr; exact ⟨_, _, hk.obj⟩) (by decide)).mono fun e w' hp => ?_)
    obtain ⟨h5, w1, ⟨o, hk⟩, hb⟩ := hp
    exact ⟨h5, tk_of hk ht rfl hb ⟨Int.le_refl _, (by show (0 : Int) < 4294967296; decide), hxr.1, hxr.2⟩⟩
  | head a v h0 h1 h2 h3 h4 h5 h6 =>
    have h0 : st = 0 := h0
    have h1 : ph = .first := h1
    have h2 : at_ = a := h2
    subst h0 h1 h2
    obtain rfl : nx = _ := hnx
    obtain ⟨x, hx⟩ : ∃ x, rdW ws a = x := ⟨_, rfl⟩
    rw [hx] at h4 h5 ⊢
    have hxr := rdW_rng hM.rng h3
    rw [hx] at hxr
    obtain ⟨y, hy⟩ : ∃ y, x % 4294967296 = y := ⟨_, rfl⟩
    rw [hy] at h4 h5 ⊢
    have y0 : 0 ≤ y := by omega
    have y1 : y < 4294967296 := by omega
    refine take_wrap p q 0 0 _ w ((step_first p q n s h t a i x0 y 0 _ _ w hh (tk_head own tt tm p q n s h t i x0 0 _ ws ns a x y v w ht hmine hh hM hn h3 hx hy h4 y0 y1 h5 h6) (fun w' hr => by obtain ⟨o, hk⟩ := hr; exact ⟨_, _, hk.obj⟩) (by decide)).mono fun e w' hp => ?_)
    obtain ⟨h7, w1, ⟨o, hk⟩, hb⟩ := hp
    exact ⟨h7, tk_of hk ht rfl hb ⟨y0, y1, hxr.1, hxr.2⟩⟩
  | second j h0 h1 h2 h3 =>
    have h0 : st = 0 := h0
    have h1 : ph = .second := h1
    subst h0 h1
    obtain rfl : nx = _ := hnx
    obtain ⟨x, hx⟩ : ∃ x, rdW ws j = x := ⟨_, rfl⟩
    rw [hx]
    refine take_wrap p q 0 0 _ w ((step_second p q n s h t at_ i x0 i 0 _ _ w hh (tk_second own tt tm p q n s h t at_ i x0 0 x 0 j _ ws ns w ht hmine hh hM hn hok.i0 hok.i1 h2 h3 hx) (fun w' hr => by obtain ⟨o, nx', hk, _⟩ := hr; exact ⟨_, _, hk.obj⟩) (by decide)).mono fun e w' hp => ?_)
    obtain ⟨h7, w1, ⟨o, nx', hk, hn'⟩, hb⟩ := hp
    exact ⟨h7, tk_of hk ht hn' hb ⟨hok.i0, hok.i1, hok.w0, hok.w1⟩⟩
  | hit a x h0 h1 h2 h3 h4 =>
    have h0 : st = 0 := h0
    have h1 : ph = .last x := h1
    have h2 : at_ = a := h2
    have h4 : rdW ws a = x0 := h4
    subst h0 h1 h2
    obtain ⟨x00, x01, b1, b2, n1, n2, o1, o2, e1, e2, rfl⟩ := hnx
    have w0 : 0 ≤ x0 := hok.w0
    have w1' : x0 < 18446744073709551616 := hok.w1
    obtain ⟨f, hf⟩ : ∃ f, x % 4294967296 = f := ⟨_, rfl⟩
    have f0 : 0 ≤ f := by omega
    have f1 : f < 4294967296 := by omega
    have hv := nextW_rng (x := x0) f0 f1
    refine take_wrap p q 1 i _ w ((step_last_done p q b1 b2 n s h t a i x0 i _ (fun w' => MemPost own tm w q (ws.set a (nextW x0 f)) (ns ++ [⟨99, a, x0, nextW x0 f, true⟩]) w') w hh (tl_hit own tt tm p q b1 b2 n s h t i x0 0 x f _ a _ ws ns w ht hmine hh hM hn o1 o2 e1 e2 hf w0 w1' f0 f1 rfl hv.1 hv.2 h3 h4) (fun w' hr => ⟨_, _, (last_keep hmine ht hh hr).1⟩)).mono fun e w' hp => ?_)
    obtain ⟨h7, w1, hm1, hb⟩ := hp
    obtain ⟨o, hk, hn'⟩ := last_of hmine ht hh hm1 n1 n2 o1 o2 e1 e2 x00 x01
    rw [hf]
    exact ⟨h7, tk_of hk ht hn' hb ⟨hok.i0, hok.i1, hok.w0, hok.w1⟩⟩
  | miss a x h0 h1 h2 h3 h4 =>
    have h0 : st = 0 := h0
    have h1 : ph = .last x := h1
    have h2 : at_ = a := h2
    have h4 : rdW ws a ≠ x0 := h4
    subst h0 h1 h2
    obtain ⟨x00, x01, b1, b2, n1, n2, o1, o2, e1, e2, rfl⟩ := hnx
    have w0 : 0 ≤ x0 := hok.w0
    have w1' : x0 < 18446744073709551616 := hok.w1
    obtain ⟨f, hf⟩ : ∃ f, x % 4294967296 = f := ⟨_, rfl⟩
    have f0 : 0 ≤ f := by omega
    have f1 : f < 4294967296 := by omega
    have hv := nextW_rng (x := x0) f0 f1
    refine take_wrap p q 3 0 _ w ((step_last p q b1 b2 n s h t a i x0 i 3 _ (fun w' => MemPost own tm w q ws (ns ++ [⟨99, a, rdW ws a, rdW ws a, false⟩]) w') w hh (tl_miss own tt tm p q b1 b2 n s h t i x0 0 x f _ a _ _ ws ns w ht hmine hh hM hn o1 o2 e1 e2 hf w0 w1' f0 f1 rfl hv.1 hv.2 h3 rfl (by simpa using h4)) (fun w' hr => ⟨_, _, (last_keep hmine ht hh hr).1⟩) (by decide)).mono fun e w' hp => ?_)
    obtain ⟨h7, w1, hm1, hb⟩ := hp
    obtain ⟨o, hk, hn'⟩ := last_of hmine ht hh hm1 n1 n2 o1 o2 e1 e2 x00 x01
    exact ⟨h7, tk_of hk ht hn' hb ⟨hok.i0, hok.i1, hok.w0, hok.w1⟩⟩
end Go.Proofs.Ytdhkppijeocaoaa
