/-
  A Give: the object, its steps, a Give that is made.
  A Give's last step, and its Step.
  A Give's Step, each way.
  A pair's step, and a machine that ends: three steps of its own, each one access.
-/
import Derived.Test.YtdhkppijeocaoaaTakes
import Derived.Deep.LoopGhost
namespace Go.Proofs.Ytdhkppijeocaoaa
open Go.RowKit
set_option linter.unusedVariables false
set_option linter.unusedSimpArgs false

/-- What a Give's 'next' is. -/
def GvNext (own : Nat → Nat) (tt : Nat) (w : World) (p : Nat) (ph : Ph) (nx : Value) : Prop :=
  match ph with
  | .first => nx = .func (.func 47) #[.pointer (some ⟨p, 0, none⟩)] #[]
  | .second => nx = .func (.func 55) #[.pointer (some ⟨p, 0, none⟩)] #[]
  | .last _ => ∃ b1, b1 ≠ p ∧ own b1 = tt ∧ w.heap[b1]? = some (.cells #[.pointer (some ⟨p, 0, none⟩)] 50 (0, 0)) ∧ nx = .func (.func 60) #[] #[.pointer (some ⟨b1, 0, none⟩)]
structure IsGive (own : Nat → Nat) (tt : Nat) (w : World) (p : Nat) (S : TM) : Prop where
  ok : S.ok
  mine : own p = tt
  body : ∃ nx, w.heap[p]? = some (.cells (S.cells nx) 102 (0, 0)) ∧ GvNext own tt w p S.ph nx
theorem GvNext.kept {own own' : Nat → Nat} {tt : Nat} {T : Nat → Prop} {w w' : World} {p : Nat} {ph : Ph} {nx : Value} (h : GvNext own tt w p ph nx) (f : Fr own own' T w w') (ht : ¬ T tt) : GvNext own' tt w' p ph nx := by
  cases ph with
  | first => exact h
  | second => exact h
  | last x =>
    obtain ⟨b1, n1, o1, e1, e3⟩ := h
    have l1 := lt_of_heap e1
    exact ⟨b1, n1, (f.ext _ l1).trans o1, (f.keep _ l1 (by rw [o1]; exact ht)).trans e1, e3⟩
theorem IsGive.kept {own own' : Nat → Nat} {tt : Nat} {T : Nat → Prop} {w w' : World} {p : Nat} {S : TM} (h : IsGive own tt w p S) (f : Fr own own' T w w') (ht : ¬ T tt) : IsGive own' tt w' p S := by
  obtain ⟨nx, hh, hn⟩ := h.body
  have l := lt_of_heap hh
  exact ⟨h.ok, (f.ext _ l).trans h.mine, nx, (f.keep _ l (by rw [h.mine]; exact ht)).trans hh, hn.kept f ht⟩
theorem IsGive.below {own : Nat → Nat} {tt : Nat} {w w' : World} {p : Nat} {S : TM} (h : IsGive own tt w p S) (hb : Below w.heap.size w w') : IsGive own tt w' p S := h.kept (Fr.below (T := fun _ => False) hb) (fun h => h)
def GvPost (own : Nat → Nat) (tt tm : Nat) (p q : Nat) (S' : TM) (ws : List Int) (ns : List Note) (w w' : World) : Prop :=
  ∃ o, Fr own o (fun t => t = tt ∨ t = tm) w w' ∧ IsGive o tt w' p S' ∧ IsMem o tm w' q ws ns
set_option maxHeartbeats 4000000 in
theorem gv_head (own : Nat → Nat) (tt tm p q : Nat) (n s h t  i0 x0 st : Int) (nx : Value) (ws : List Int) (ns : List Note) (a : Nat) (x v : Int) (w : World) (ht : tt ≠ tm) (hp : own p = tt) (ho : w.heap[p]? = some (.cells (tkCells n s h t a i0 x0 nx st) 102 (0, 0))) (hm : IsMem own tm w q ws ns) (hn : ns.length ≤ 1000000000000) (i00 : 0 ≤ i0) (i01 : i0 < 4294967296) (hv : atI n s h 0 (2 * (i0 - 1)) = v) (hge : 0 ≤ v) (ha : a < ws.length) (hx : rdW ws a = x) :
    Calls Try.prog 47 #[.pointer (some ⟨p, 0, none⟩), .pointer (some ⟨q, 0, none⟩)] w fun e w' => e = .returned (.int .i64 0) ∧ ∃ o, TkSt 102 own o tt tm p q w w' (tkCells n s h t a i0 x (.func (.func 55) #[.pointer (some ⟨p, 0, none⟩)] #[]) st) ws (ns ++ [⟨108, a, x, x, true⟩]) := by
  have HS := Lib.hid (TkSt.start (q := q) hp ho hm)
  obtain ⟨⟨c0, c1, c2, c3, c4, c5, c6, c7, c8⟩, ⟨z5, z6, z7, z8⟩, lt0⟩ := cells9 ho
  have HV := Lib.hid hv
  have HX := Lib.hid hx
  have e1 : decide (v < 0) = false := decide_eq_false (by omega)
  have hmf : ∀ (fn : Fn) (first cap : Array Value) (w : World), (Instr.makeFunc fn first cap).run Try.prog w = .ok (.func fn first cap) w := fun _ _ _ _ => rfl
  clear hp ho hm hv hx
  go_enter Try.func47, Try.ntmps47
  go_wp2
  go_region_held3 (fun w' => w'.cell? ⟨p, 0, none⟩ = some (.int .i64 n) ∧ w'.cell? ⟨p, 1, none⟩ = some (.int .i64 s) ∧ w'.cell? ⟨p, 2, none⟩ = some (.int .i64 h) ∧ w'.cell? ⟨p, 3, none⟩ = some (.int .u32 t) ∧ w'.cell? ⟨p, 5, none⟩ = some (.int .u32 i0)) (first | exact ⟨c0, c1, c2, c3, c5⟩) ((go_at_call 32; refine (lnext_is n s h t i0 v _ HV.out i00 i01).mono ?_; rintro e w2 ⟨rfl, hp⟩; (have h2 := HS.out.below (undrew hp)); (have H2 := Lib.hid h2); clear hp c0 c1 c2 c3 c4 c5 c6 c7 c8 z5 z6 z7 z8 lt0; obtain ⟨⟨c0, c1, c2, c3, c4, c5, c6, c7, c8⟩, ⟨z5, z6, z7, z8⟩, lt0⟩ := cells9 h2.obj; clear h2))
  go_wp2_with (go_at_call 50; refine (load_it own tm q ws ns a x _ H2.out.mem HX.out ha hn).mono ?_; rintro e w3 ⟨rfl, hp⟩; obtain ⟨o3, h3, hf3⟩ := H2.out.mstep ht hp; (have H3 := Lib.hid h3); clear hp hf3 c0 c1 c2 c3 c4 c5 c6 c7 c8 z5 z6 z7 z8 lt0; obtain ⟨⟨c0, c1, c2, c3, c4, c5, c6, c7, c8⟩, ⟨z5, z6, z7, z8⟩, lt0⟩ := cells9 h3.obj; clear h3)
  go_ret
  exact ⟨rfl, o3, (H3.out.set ht 6 (.int .u64 x)).set ht 7 _⟩
/-- What holds on the way through a second step: the box of the machine's own pointer too. -/
structure GSec (T : TypeId) (own o : Nat → Nat) (tt tm p q b1 : Nat) (w w' : World) (cells : Array Value) (ws : List Int) (ns : List Note) : Prop where
  st : TkSt T own o tt tm p q w w' cells ws ns
  ne : b1 ≠ p
  tag : o b1 = tt
  box : w'.heap[b1]? = some (.cells #[.pointer (some ⟨p, 0, none⟩)] 50 (0, 0))
theorem GSec.start {T : TypeId} {own : Nat → Nat} {tt tm p q : Nat} {w : World} {cells : Array Value} {ws : List Int} {ns : List Note} (hp : own p = tt) (ho : w.heap[p]? = some (.cells cells T (0, 0))) (hm : IsMem own tm w q ws ns) :
    ∃ o, GSec T own o tt tm p q w.heap.size w (w.alloc (.cells #[.pointer (some ⟨p, 0, none⟩)] 50)) cells ws ns := by
  have l := lt_of_heap ho
  have hf := Below.fr_new (own := own) (t := tt) (bl_alloc (bl_refl w) (.cells #[.pointer (some ⟨p, 0, none⟩)] 50))
  exact ⟨_, ⟨hf.more fun _ h => h.elim, by simp [l, hp], (Below.heap_alloc _ _ _ l).trans ho, hm.kept hf (fun h => h)⟩, by omega, by simp, heap_new rfl⟩
theorem GSec.mstep {T : TypeId} {own o : Nat → Nat} {tt tm p q b1 : Nat} {w w1 w2 : World} {cells : Array Value} {ws ws' : List Int} {ns ns' : List Note} (h : GSec T own o tt tm p q b1 w w1 cells ws ns) (ht : tt ≠ tm) (hp : MemPost o tm w1 q ws' ns' w2) :
    ∃ o2, GSec T own o2 tt tm p q b1 w w2 cells ws' ns' ∧ Fr o o2 (· = tm) w1 w2 := by
  obtain ⟨o2, h2, hf⟩ := h.st.mstep ht hp
  have l := lt_of_heap h.box
  exact ⟨o2, ⟨h2, h.ne, (hf.ext _ l).trans h.tag, (hf.keep _ l (by rw [h.tag]; exact ht)).trans h.box⟩, hf⟩
theorem GSec.below {T : TypeId} {own o : Nat → Nat} {tt tm p q b1 : Nat} {w w1 w2 : World} {cells : Array Value} {ws : List Int} {ns : List Note} (h : GSec T own o tt tm p q b1 w w1 cells ws ns) (hb : Below w1.heap.size w1 w2) : GSec T own o tt tm p q b1 w w2 cells ws ns :=
  ⟨h.st.below hb, h.ne, h.tag, (hb.block _ (lt_of_heap h.box)).trans h.box⟩

theorem GSec.drew {T : TypeId} {own o : Nat → Nat} {tt tm p q b1 : Nat} {w w1 : World} {cells : Array Value} {ws : List Int} {ns : List Note} (h : GSec T own o tt tm p q b1 w w1 cells ws ns) : GSec T own o tt tm p q b1 w w1.drew cells ws ns := h.below (Below.refl _ _).drew
theorem GSec.cells {T : TypeId} {own o : Nat → Nat} {tt tm p q b1 : Nat} {w w1 : World} {n s h t a i x st : Int} {nx : Value} {ws : List Int} {ns : List Note} (k : GSec T own o tt tm p q b1 w w1 (tkCells n s h t a i x nx st) ws ns) :
    w1.cell? ⟨b1, 0, none⟩ = some (.pointer (some ⟨p, 0, none⟩)) ∧ w1.cell? ⟨p, 0, none⟩ = some (.int .i64 n) ∧ w1.cell? ⟨p, 1, none⟩ = some (.int .i64 s) ∧ w1.cell? ⟨p, 2, none⟩ = some (.int .i64 h) ∧ w1.cell? ⟨p, 3, none⟩ = some (.int .u32 t) ∧ w1.cell? ⟨p, 5, none⟩ = some (.int .u32 i) ∧ w1.cell? ⟨p, 6, none⟩ = some (.int .u64 x) :=
  ⟨cell_of k.box 0, cell_of k.st.obj 0, cell_of k.st.obj 1, cell_of k.st.obj 2, cell_of k.st.obj 3, cell_of k.st.obj 5, cell_of k.st.obj 6⟩
set_option maxHeartbeats 4000000 in
theorem gv_second (own : Nat → Nat) (tt tm p q : Nat) (n s h t a i0 x0 st : Int) (nx : Value) (ws : List Int) (ns : List Note) (j : Nat) (f y : Int) (w : World) (ht : tt ≠ tm) (hp : own p = tt) (ho : w.heap[p]? = some (.cells (tkCells n s h t a i0 x0 nx st) 102 (0, 0))) (hm : IsMem own tm w q ws ns) (hn : ns.length ≤ 1000000000000) (i00 : 0 ≤ i0) (i01 : i0 < 4294967296) (hv : atI n s h 0 (2 * (i0 - 1)) = (j : Int)) (hj : j < ws.length) (hx : rdW ws j = y) (hy : x0 % 4294967296 = f) (f0 : 0 ≤ f) (f1 : f < 18446744073709551616) :
    Calls Try.prog 55 #[.pointer (some ⟨p, 0, none⟩), .pointer (some ⟨q, 0, none⟩)] w fun e w' => e = .returned (.int .i64 0) ∧ ∃ o nx', TkSt 102 own o tt tm p q w w' (tkCells n s h t a i0 x0 nx' st) (ws.set j f) (ns ++ [⟨115, j, y, f, true⟩]) ∧ GvNext o tt w' p (.last 0) nx' := by
  have hmf : ∀ (fn : Fn) (first cap : Array Value) (w : World), (Instr.makeFunc fn first cap).run Try.prog w = .ok (.func fn first cap) w := fun _ _ _ _ => rfl
  obtain ⟨o1, h1⟩ := GSec.start (q := q) hp ho hm
  have HS := Lib.hid h1
  have F1 := h1.cells
  have HV := Lib.hid hv
  have HX := Lib.hid hx
  have HY := Lib.hid hy
  have hWf : IntKind.u64.wrap f = f := by rw [IntKind.wrap_u64]; omega
  obtain ⟨k1, c0, c1, c2, c3, c5, c6⟩ := F1
  clear ho hm hv hx hy h1
  go_enter Try.func55, Try.ntmps55
  go_wp2
  generalize w.alloc (.cells #[.pointer (some ⟨p, 0, none⟩)] 50) = w1 at *
  go_region_held3 (fun w' => w'.cell? ⟨w.heap.size, 0, none⟩ = some (.pointer (some ⟨p, 0, none⟩)) ∧ w'.cell? ⟨p, 0, none⟩ = some (.int .i64 n) ∧ w'.cell? ⟨p, 1, none⟩ = some (.int .i64 s) ∧ w'.cell? ⟨p, 2, none⟩ = some (.int .i64 h) ∧ w'.cell? ⟨p, 3, none⟩ = some (.int .u32 t) ∧ w'.cell? ⟨p, 5, none⟩ = some (.int .u32 i0) ∧ w'.cell? ⟨p, 6, none⟩ = some (.int .u64 x0)) (first | exact ⟨k1, c0, c1, c2, c3, c5, c6⟩ | exact F2 | exact F3 | exact F4) (first | ((have _h := HNI); go_at_call 59; refine (sto_it o1 tm q ws ns j y f _ HNI.out.st.mem HX.out hj hn f0 f1).mono ?_; rintro e w4 ⟨rfl, hp⟩; obtain ⟨o4, h4, hf4⟩ := HNI.out.mstep ht hp; (have H4 := Lib.hid h4); (have F4 := h4.cells); (have c7 := cell_of h4.st.obj 7); (have z7 := free_of h4.st.obj 7); clear hp h4 hf4 _h) | (go_at_call 32; refine (lnext_is n s h t i0 j _ HV.out i00 i01).mono ?_; rintro e w2 ⟨rfl, hp⟩; first | ((have _h := HI); (have HNI := Lib.hid (HI.out.below hp)); (have F3 := HNI.out.cells); clear hp _h) | ((have HN := Lib.hid (HS.out.drew.below hp)); (have F2 := HN.out.cells); clear hp)) | (go_at_call 27; refine (index_is x0 f _ HY.out).mono ?_; rintro e w3 ⟨rfl, hp⟩; first | ((have _h := HN); (have HNI := Lib.hid (HN.out.below hp)); (have F3 := HNI.out.cells); clear hp _h) | ((have HI := Lib.hid (HS.out.drew.below hp)); (have F2 := HI.out.cells); clear hp)))
  all_goals obtain ⟨u0, u1, u2, u3, u4, u5, u6⟩ := F4
  all_goals go_wp2
  all_goals go_ret
  all_goals exact ⟨rfl, o4, _, H4.out.st.set ht 7 _, w.heap.size, H4.out.ne, H4.out.tag, (heap_set_ne H4.out.ne).trans H4.out.box, rfl⟩
end Go.Proofs.Ytdhkppijeocaoaa
namespace Go.Proofs.Ytdhkppijeocaoaa
open Go.RowKit
set_option linter.unusedVariables false
set_option linter.unusedSimpArgs false

set_option maxHeartbeats 4000000 in
theorem gl_hit (own : Nat → Nat) (tt tm p q b1 : Nat) (n s h t i0 x0 st v : Int) (a : Nat) (nx : Value) (ws : List Int) (ns : List Note) (w : World) (ht : tt ≠ tm) (hp' : own p = tt) (ho : w.heap[p]? = some (.cells (tkCells n s h t a i0 x0 nx st) 102 (0, 0))) (hm : IsMem own tm w q ws ns) (hn : ns.length ≤ 1000000000000)
    (o1 : own b1 = tt) (e1 : w.heap[b1]? = some (.cells #[.pointer (some ⟨p, 0, none⟩)] 50 (0, 0)))
    (w00 : 0 ≤ x0) (w01 : x0 < 18446744073709551616) (f0 : 0 ≤ i0) (f1 : i0 < 4294967296) (hv : nextW x0 i0 = v) (v0 : 0 ≤ v) (v1 : v < 18446744073709551616) (ha : a < ws.length) (hx : rdW ws a = x0) :
    Calls Try.prog 60 #[.pointer (some ⟨q, 0, none⟩), .pointer (some ⟨b1, 0, none⟩)] w fun e w' => e = .returned (.int .i64 1) ∧ MemPost own tm w q (ws.set a v) (ns ++ [⟨99, a, x0, v, true⟩]) w' := by
  have l1 := lt_of_heap e1
  have k1 := cell_of e1 0
  have k2 := cell_of ho 5
  have HO := Lib.hid ho
  have HM := Lib.hid hm
  have HV := Lib.hid hv
  clear ho hm hv
  go_enter Try.func60, Try.ntmps60
  go_wp2
  go_region_held3 (fun w' => w'.cell? ⟨b1, 0, none⟩ = some (.pointer (some ⟨p, 0, none⟩)) ∧ w'.cell? ⟨p, 5, none⟩ = some (.int .u32 i0)) (first | exact ⟨k1, k2⟩ | exact ⟨x1, x2⟩) ((go_at_call 58; refine (ms_hit own tt tm p q n s h t i0 x0 st i0 v a 102 nx ws ns w.drew ht hp' HO.out (HM.out.below (Below.refl _ _).drew) hn w00 w01 f0 f1 HV.out v0 v1 ha hx).mono ?_; rintro e w3 ⟨rfl, hp⟩; obtain ⟨o3, hf, hmm⟩ := hp; (have HF3 := Lib.hid ((Fr.below (own := own) (bl_drew (bl_refl w))).trans hf)); (have HM3 := Lib.hid hmm); (have x1 : w3.cell? ⟨b1, 0, none⟩ = some (.pointer (some ⟨p, 0, none⟩)) := (cell_of ((hf.keep b1 l1 (by rw [o1]; exact ht)).trans e1) 0)); (have x2 : w3.cell? ⟨p, 5, none⟩ = some (.int .u32 i0) := (cell_of ((hf.keep p (lt_of_heap HO.out) (by rw [hp']; exact ht)).trans HO.out) 5)); clear hf hmm))
  go_wp2
  go_ret
  exact ⟨rfl, _, HF3.out, HM3.out⟩
set_option maxHeartbeats 4000000 in
theorem gl_miss (own : Nat → Nat) (tt tm p q b1 : Nat) (n s h t i0 x0 st v : Int) (a : Nat) (y : Int) (nx : Value) (ws : List Int) (ns : List Note) (w : World) (ht : tt ≠ tm) (hp' : own p = tt) (ho : w.heap[p]? = some (.cells (tkCells n s h t a i0 x0 nx st) 102 (0, 0))) (hm : IsMem own tm w q ws ns) (hn : ns.length ≤ 1000000000000)
    (o1 : own b1 = tt) (e1 : w.heap[b1]? = some (.cells #[.pointer (some ⟨p, 0, none⟩)] 50 (0, 0)))
    (w00 : 0 ≤ x0) (w01 : x0 < 18446744073709551616) (f0 : 0 ≤ i0) (f1 : i0 < 4294967296) (hv : nextW x0 i0 = v) (v0 : 0 ≤ v) (v1 : v < 18446744073709551616) (ha : a < ws.length) (hx : rdW ws a = y) (hne : (y == x0) = false) :
    Calls Try.prog 60 #[.pointer (some ⟨q, 0, none⟩), .pointer (some ⟨b1, 0, none⟩)] w fun e w' => e = .returned (.int .i64 3) ∧ MemPost own tm w q ws (ns ++ [⟨99, a, y, y, false⟩]) w' := by
  have l1 := lt_of_heap e1
  have k1 := cell_of e1 0
  have k2 := cell_of ho 5
  have HO := Lib.hid ho
  have HM := Lib.hid hm
  have HV := Lib.hid hv
  clear ho hm hv
  go_enter Try.func60, Try.ntmps60
  go_wp2
  go_region_held3 (fun w' => w'.cell? ⟨b1, 0, none⟩ = some (.pointer (some ⟨p, 0, none⟩)) ∧ w'.cell? ⟨p, 5, none⟩ = some (.int .u32 i0)) (first | exact ⟨k1, k2⟩ | exact ⟨x1, x2⟩) ((go_at_call 58; refine (ms_miss own tt tm p q n s h t i0 x0 st i0 v a y 102 nx ws ns w.drew ht hp' HO.out (HM.out.below (Below.refl _ _).drew) hn w00 w01 f0 f1 HV.out v0 v1 ha hx hne).mono ?_; rintro e w3 ⟨rfl, hp⟩; obtain ⟨o3, hf, hmm⟩ := hp; (have HF3 := Lib.hid ((Fr.below (own := own) (bl_drew (bl_refl w))).trans hf)); (have HM3 := Lib.hid hmm); (have x1 : w3.cell? ⟨b1, 0, none⟩ = some (.pointer (some ⟨p, 0, none⟩)) := (cell_of ((hf.keep b1 l1 (by rw [o1]; exact ht)).trans e1) 0)); (have x2 : w3.cell? ⟨p, 5, none⟩ = some (.int .u32 i0) := (cell_of ((hf.keep p (lt_of_heap HO.out) (by rw [hp']; exact ht)).trans HO.out) 5)); clear hf hmm))
  go_wp2
  go_ret
  exact ⟨rfl, _, HF3.out, HM3.out⟩
set_option maxHeartbeats 4000000 in
theorem gstep_first (p q : Nat) (n s h t a i0 x0 i1 r : Int) (T : TypeId) (R : World → Prop) (w : World) (ho : w.heap[p]? = some (.cells (tkCells n s h t a i0 x0 (.func (.func 47) #[.pointer (some ⟨p, 0, none⟩)] #[]) 0) T (0, 0)))
    (hc : Calls Try.prog 47 #[.pointer (some ⟨p, 0, none⟩), .pointer (some ⟨q, 0, none⟩)] w fun e w' => e = .returned (.int .i64 r) ∧ R w') (hR : ∀ w', R w' → ∃ x1 nx1, w'.heap[p]? = some (.cells (tkCells n s h t a i1 x1 nx1 0) T (0, 0))) (hr1 : r ≠ 1) :
    Calls Try.prog 36 #[.pointer (some ⟨p, 0, none⟩), .pointer (some ⟨q, 0, none⟩)] w fun e w' => e = .returned (.tuple #[.int .i64 r, .int .u32 0]) ∧ ∃ w1, R w1 ∧ Below w1.heap.size (w1.setCell ⟨p, 8, none⟩ (.int .i64 r)) w' := by
  obtain ⟨⟨c0, c1, c2, c3, c4, c5, c6, c7, c8⟩, ⟨z5, z6, z7, z8⟩, lt0⟩ := cells9 ho
  have HC := Lib.hid hc
  have e1 : (r != 1) = true := by simpa using hr1
  clear ho hc
  go_enter Try.func36, Try.ntmps36
  go_wp2_with (go_at_call 47; refine HC.out.mono ?_; rintro e w1 ⟨rfl, hr⟩; obtain ⟨x1, nx1, ho1⟩ := hR _ hr; (have HR1 := Lib.hid hr); clear hr c0 c1 c2 c3 c4 c5 c6 c7 c8 z5 z6 z7 z8 lt0; obtain ⟨⟨c0, c1, c2, c3, c4, c5, c6, c7, c8⟩, ⟨z5, z6, z7, z8⟩, lt0⟩ := cells9 ho1; clear ho1)
  go_ret2
  exact ⟨rfl, w1, HR1.out, Below.refl _ _⟩
set_option maxHeartbeats 4000000 in
theorem gstep_first_done (p q : Nat) (n s h t a i0 x0 i1 : Int) (T : TypeId) (R : World → Prop) (w : World) (ho : w.heap[p]? = some (.cells (tkCells n s h t a i0 x0 (.func (.func 47) #[.pointer (some ⟨p, 0, none⟩)] #[]) 0) T (0, 0)))
    (hc : Calls Try.prog 47 #[.pointer (some ⟨p, 0, none⟩), .pointer (some ⟨q, 0, none⟩)] w fun e w' => e = .returned (.int .i64 1) ∧ R w') (hR : ∀ w', R w' → ∃ x1 nx1, w'.heap[p]? = some (.cells (tkCells n s h t a i1 x1 nx1 0) T (0, 0))) :
    Calls Try.prog 36 #[.pointer (some ⟨p, 0, none⟩), .pointer (some ⟨q, 0, none⟩)] w fun e w' => e = .returned (.tuple #[.int .i64 1, .int .u32 i1]) ∧ ∃ w1, R w1 ∧ Below w1.heap.size (w1.setCell ⟨p, 8, none⟩ (.int .i64 1)) w' := by
  obtain ⟨⟨c0, c1, c2, c3, c4, c5, c6, c7, c8⟩, ⟨z5, z6, z7, z8⟩, lt0⟩ := cells9 ho
  have HC := Lib.hid hc
  clear ho hc
  go_enter Try.func36, Try.ntmps36
  go_wp2_with (go_at_call 47; refine HC.out.mono ?_; rintro e w1 ⟨rfl, hr⟩; obtain ⟨x1, nx1, ho1⟩ := hR _ hr; (have HR1 := Lib.hid hr); clear hr c0 c1 c2 c3 c4 c5 c6 c7 c8 z5 z6 z7 z8 lt0; obtain ⟨⟨c0, c1, c2, c3, c4, c5, c6, c7, c8⟩, ⟨z5, z6, z7, z8⟩, lt0⟩ := cells9 ho1; clear ho1)
  go_quiet (fail)
  go_wp2
  go_ret2
  exact ⟨rfl, w1, HR1.out, ⟨rfl, rfl, rfl, Nat.le_refl _, fun _ _ => rfl⟩⟩
set_option maxHeartbeats 4000000 in
theorem gstep_second (p q : Nat) (n s h t a i0 x0 i1 r : Int) (T : TypeId) (R : World → Prop) (w : World) (ho : w.heap[p]? = some (.cells (tkCells n s h t a i0 x0 (.func (.func 55) #[.pointer (some ⟨p, 0, none⟩)] #[]) 0) T (0, 0)))
    (hc : Calls Try.prog 55 #[.pointer (some ⟨p, 0, none⟩), .pointer (some ⟨q, 0, none⟩)] w fun e w' => e = .returned (.int .i64 r) ∧ R w') (hR : ∀ w', R w' → ∃ x1 nx1, w'.heap[p]? = some (.cells (tkCells n s h t a i1 x1 nx1 0) T (0, 0))) (hr1 : r ≠ 1) :
    Calls Try.prog 36 #[.pointer (some ⟨p, 0, none⟩), .pointer (some ⟨q, 0, none⟩)] w fun e w' => e = .returned (.tuple #[.int .i64 r, .int .u32 0]) ∧ ∃ w1, R w1 ∧ Below w1.heap.size (w1.setCell ⟨p, 8, none⟩ (.int .i64 r)) w' := by
  obtain ⟨⟨c0, c1, c2, c3, c4, c5, c6, c7, c8⟩, ⟨z5, z6, z7, z8⟩, lt0⟩ := cells9 ho
  have HC := Lib.hid hc
  have e1 : (r != 1) = true := by simpa using hr1
  clear ho hc
  go_enter Try.func36, Try.ntmps36
  go_wp2_with (go_at_call 55; refine HC.out.mono ?_; rintro e w1 ⟨rfl, hr⟩; obtain ⟨x1, nx1, ho1⟩ := hR _ hr; (have HR1 := Lib.hid hr); clear hr c0 c1 c2 c3 c4 c5 c6 c7 c8 z5 z6 z7 z8 lt0; obtain ⟨⟨c0, c1, c2, c3, c4, c5, c6, c7, c8⟩, ⟨z5, z6, z7, z8⟩, lt0⟩ := cells9 ho1; clear ho1)
  go_ret2
  exact ⟨rfl, w1, HR1.out, Below.refl _ _⟩
set_option maxHeartbeats 4000000 in
theorem gstep_second_done (p q : Nat) (n s h t a i0 x0 i1 : Int) (T : TypeId) (R : World → Prop) (w : World) (ho : w.heap[p]? = some (.cells (tkCells n s h t a i0 x0 (.func (.func 55) #[.pointer (some ⟨p, 0, none⟩)] #[]) 0) T (0, 0)))
    (hc : Calls Try.prog 55 #[.pointer (some ⟨p, 0, none⟩), .pointer (some ⟨q, 0, none⟩)] w fun e w' => e = .returned (.int .i64 1) ∧ R w') (hR : ∀ w', R w' → ∃ x1 nx1, w'.heap[p]? = some (.cells (tkCells n s h t a i1 x1 nx1 0) T (0, 0))) :
    Calls Try.prog 36 #[.pointer (some ⟨p, 0, none⟩), .pointer (some ⟨q, 0, none⟩)] w fun e w' => e = .returned (.tuple #[.int .i64 1, .int .u32 i1]) ∧ ∃ w1, R w1 ∧ Below w1.heap.size (w1.setCell ⟨p, 8, none⟩ (.int .i64 1)) w' := by
  obtain ⟨⟨c0, c1, c2, c3, c4, c5, c6, c7, c8⟩, ⟨z5, z6, z7, z8⟩, lt0⟩ := cells9 ho
  have HC := Lib.hid hc
  clear ho hc
  go_enter Try.func36, Try.ntmps36
  go_wp2_with (go_at_call 55; refine HC.out.mono ?_; rintro e w1 ⟨rfl, hr⟩; obtain ⟨x1, nx1, ho1⟩ := hR _ hr; (have HR1 := Lib.hid hr); clear hr c0 c1 c2 c3 c4 c5 c6 c7 c8 z5 z6 z7 z8 lt0; obtain ⟨⟨c0, c1, c2, c3, c4, c5, c6, c7, c8⟩, ⟨z5, z6, z7, z8⟩, lt0⟩ := cells9 ho1; clear ho1)
  go_quiet (fail)
  go_wp2
  go_ret2
  exact ⟨rfl, w1, HR1.out, ⟨rfl, rfl, rfl, Nat.le_refl _, fun _ _ => rfl⟩⟩
set_option maxHeartbeats 4000000 in
theorem gstep_last (p q b1 : Nat) (n s h t a i0 x0 i1 r : Int) (T : TypeId) (R : World → Prop) (w : World) (ho : w.heap[p]? = some (.cells (tkCells n s h t a i0 x0 (.func (.func 60) #[] #[.pointer (some ⟨b1, 0, none⟩)]) 0) T (0, 0)))
    (hc : Calls Try.prog 60 #[.pointer (some ⟨q, 0, none⟩), .pointer (some ⟨b1, 0, none⟩)] w fun e w' => e = .returned (.int .i64 r) ∧ R w') (hR : ∀ w', R w' → ∃ x1 nx1, w'.heap[p]? = some (.cells (tkCells n s h t a i1 x1 nx1 0) T (0, 0))) (hr1 : r ≠ 1) :
    Calls Try.prog 36 #[.pointer (some ⟨p, 0, none⟩), .pointer (some ⟨q, 0, none⟩)] w fun e w' => e = .returned (.tuple #[.int .i64 r, .int .u32 0]) ∧ ∃ w1, R w1 ∧ Below w1.heap.size (w1.setCell ⟨p, 8, none⟩ (.int .i64 r)) w' := by
  obtain ⟨⟨c0, c1, c2, c3, c4, c5, c6, c7, c8⟩, ⟨z5, z6, z7, z8⟩, lt0⟩ := cells9 ho
  have HC := Lib.hid hc
  have e1 : (r != 1) = true := by simpa using hr1
  clear ho hc
  go_enter Try.func36, Try.ntmps36
  go_wp2_with (go_at_call 60; refine HC.out.mono ?_; rintro e w1 ⟨rfl, hr⟩; obtain ⟨x1, nx1, ho1⟩ := hR _ hr; (have HR1 := Lib.hid hr); clear hr c0 c1 c2 c3 c4 c5 c6 c7 c8 z5 z6 z7 z8 lt0; obtain ⟨⟨c0, c1, c2, c3, c4, c5, c6, c7, c8⟩, ⟨z5, z6, z7, z8⟩, lt0⟩ := cells9 ho1; clear ho1)
  go_ret2
  exact ⟨rfl, w1, HR1.out, Below.refl _ _⟩
set_option maxHeartbeats 4000000 in
theorem gstep_last_done (p q b1 : Nat) (n s h t a i0 x0 i1 : Int) (T : TypeId) (R : World → Prop) (w : World) (ho : w.heap[p]? = some (.cells (tkCells n s h t a i0 x0 (.func (.func 60) #[] #[.pointer (some ⟨b1, 0, none⟩)]) 0) T (0, 0)))
    (hc : Calls Try.prog 60 #[.pointer (some ⟨q, 0, none⟩), .pointer (some ⟨b1, 0, none⟩)] w fun e w' => e = .returned (.int .i64 1) ∧ R w') (hR : ∀ w', R w' → ∃ x1 nx1, w'.heap[p]? = some (.cells (tkCells n s h t a i1 x1 nx1 0) T (0, 0))) :
    Calls Try.prog 36 #[.pointer (some ⟨p, 0, none⟩), .pointer (some ⟨q, 0, none⟩)] w fun e w' => e = .returned (.tuple #[.int .i64 1, .int .u32 i1]) ∧ ∃ w1, R w1 ∧ Below w1.heap.size (w1.setCell ⟨p, 8, none⟩ (.int .i64 1)) w' := by
  obtain ⟨⟨c0, c1, c2, c3, c4, c5, c6, c7, c8⟩, ⟨z5, z6, z7, z8⟩, lt0⟩ := cells9 ho
  have HC := Lib.hid hc
  clear ho hc
  go_enter Try.func36, Try.ntmps36
  go_wp2_with (go_at_call 60; refine HC.out.mono ?_; rintro e w1 ⟨rfl, hr⟩; obtain ⟨x1, nx1, ho1⟩ := hR _ hr; (have HR1 := Lib.hid hr); clear hr c0 c1 c2 c3 c4 c5 c6 c7 c8 z5 z6 z7 z8 lt0; obtain ⟨⟨c0, c1, c2, c3, c4, c5, c6, c7, c8⟩, ⟨z5, z6, z7, z8⟩, lt0⟩ := cells9 ho1; clear ho1)
  go_quiet (fail)
  go_wp2
  go_ret2
  exact ⟨rfl, w1, HR1.out, ⟨rfl, rfl, rfl, Nat.le_refl _, fun _ _ => rfl⟩⟩
set_option maxHeartbeats 2000000 in
theorem give_wrap (p q : Nat) (r i : Int) (R : World → Prop) (w : World) (hc : Calls Try.prog 36 #[.pointer (some ⟨p, 0, none⟩), .pointer (some ⟨q, 0, none⟩)] w fun e w' => e = .returned (.tuple #[.int .i64 r, .int .u32 i]) ∧ R w') :
    Calls Try.prog 38 #[.pointer (some ⟨p, 0, none⟩), .pointer (some ⟨q, 0, none⟩)] w fun e w' => e = .returned (.tuple #[.int .i64 r, .int .u32 i]) ∧ R w' := by
  have HC := Lib.hid hc
  clear hc
  go_enter Try.func38, Try.ntmps38
  go_wp2_with (go_at_call 36; refine HC.out.mono ?_; rintro e w1 ⟨rfl, hr⟩; (have HR1 := Lib.hid hr); clear hr)
  go_ret2
  exact ⟨rfl, HR1.out⟩
def GiveMade (own : Nat → Nat) (tt : Nat) (n s h t a i : Int) (w : World) (e : Ending) (w' : World) : Prop :=
  ∃ p o, e = .returned (.pointer (some ⟨p, 0, none⟩)) ∧ w.heap.size ≤ p ∧ Fr own o (fun _ => False) w w' ∧ IsGive o tt w' p ⟨n, s, h, t, a, i, 0, .first, 0⟩
set_option maxHeartbeats 2000000 in
theorem give_new (own : Nat → Nat) (tt : Nat) (n s h t a i : Int) (w : World) (i0 : 0 ≤ i) (i1 : i < 4294967296) :
    Calls Try.prog 25 #[.agg #[.int .i64 n, .int .i64 s, .int .i64 h, .int .u32 t], .int .i64 a, .int .u32 i] w (GiveMade own tt n s h t a i w) := by
  have hmf : ∀ (fn : Fn) (first cap : Array Value) (w : World), (Instr.makeFunc fn first cap).run Try.prog w = .ok (.func fn first cap) w := fun _ _ _ _ => rfl
  go_enter Try.func25, Try.ntmps25
  go_wp2
  go_ret
  refine ⟨w.heap.size + 1, fun b => if b < w.heap.size then own b else tt, rfl, by omega, Below.fr_new (bl_alloc (bl_alloc (bl_refl w) _) _), ⟨⟨i0, i1, Int.le_refl _, (by show (0 : Int) < 18446744073709551616; decide)⟩, (by show (if w.heap.size + 1 < w.heap.size then _ else tt) = tt; rw [if_neg (by omega)]), _, heap_new (by simp), rfl⟩⟩
end Go.Proofs.Ytdhkppijeocaoaa
namespace Go.Proofs.Ytdhkppijeocaoaa
open Go.RowKit
set_option linter.unusedVariables false
set_option linter.unusedSimpArgs false

/-- What a step of a Give tells, the machine behind it, the words, and the notes; each one of a place that is there. -/
inductive GvStep (S : TM) (ws : List Int) (ns : List Note) : Int → TM → List Int → List Note → Prop where
  | over : S.st ≠ 0 → GvStep S ws ns S.st S ws ns
  | head (a : Nat) (v : Int) : S.st = 0 → S.ph = .first → S.at_ = a → a < ws.length → atI S.n S.s S.h 0 (2 * (S.i - 1)) = v → 0 ≤ v →
      GvStep S ws ns 0 { S with w := rdW ws a, ph := .second } ws (ns ++ [⟨108, a, rdW ws a, rdW ws a, true⟩])
  | second (j : Nat) : S.st = 0 → S.ph = .second → atI S.n S.s S.h 0 (2 * (S.i - 1)) = j → j < ws.length →
      GvStep S ws ns 0 { S with ph := .last 0 } (ws.set j (S.w % 4294967296)) (ns ++ [⟨115, j, rdW ws j, S.w % 4294967296, true⟩])
  | hit (a : Nat) (x : Int) : S.st = 0 → S.ph = .last x → S.at_ = a → a < ws.length → rdW ws a = S.w → GvStep S ws ns 1 { S with st := 1 } (ws.set a (nextW S.w S.i)) (ns ++ [⟨99, a, S.w, nextW S.w S.i, true⟩])
  | miss (a : Nat) (x : Int) : S.st = 0 → S.ph = .last x → S.at_ = a → a < ws.length → rdW ws a ≠ S.w → GvStep S ws ns 3 { S with st := 3 } ws (ns ++ [⟨99, a, rdW ws a, rdW ws a, false⟩])
theorem gv_of {own o : Nat → Nat} {tt tm p q : Nat} {w w1 w' : World} {n s h t a i x st : Int} {nx : Value} {ws : List Int} {ns : List Note} {ph : Ph} (k : TkSt 102 own o tt tm p q w w1 (tkCells n s h t a i x nx 0) ws ns) (ht : tt ≠ tm) (hn : GvNext o tt w1 p ph nx) (hb : Below w1.heap.size (w1.setCell ⟨p, 8, none⟩ (.int .i64 st)) w') (ok : TM.ok ⟨n, s, h, t, a, i, x, ph, st⟩) :
    GvPost own tt tm p q ⟨n, s, h, t, a, i, x, ph, st⟩ ws ns w w' := by
  have k2 := k.set ht 8 (.int .i64 st)
  have hb' : Below (w1.setCell ⟨p, 8, none⟩ (.int .i64 st)).heap.size (w1.setCell ⟨p, 8, none⟩ (.int .i64 st)) w' := hb.mono (by rw [heap_size_set]; exact Nat.le_refl _)
  have k3 := k2.below hb'
  have hn2 : GvNext o tt (w1.setCell ⟨p, 8, none⟩ (.int .i64 st)) p ph nx := by
    cases ph with
    | first => exact hn
    | second => exact hn
    | last x =>
      obtain ⟨b1, n1, o1, e1, e3⟩ := hn
      exact ⟨b1, n1, o1, (heap_set_ne n1).trans e1, e3⟩
  exact ⟨o, k3.fr, ⟨ok, k3.mine, nx, k3.obj, hn2.kept (Fr.below (T := fun _ => False) hb') (fun h => h)⟩, k3.mem⟩
theorem glast_of {own : Nat → Nat} {tt tm p q b1 : Nat} {w w1 : World} {cs : Array Value} {T : TypeId} {x : Int} {ws : List Int} {ns : List Note} (hp : own p = tt) (ht : tt ≠ tm) (hh : w.heap[p]? = some (.cells cs T (0, 0))) (hm : MemPost own tm w q ws ns w1) (n1 : b1 ≠ p) (o1 : own b1 = tt)
    (e1 : w.heap[b1]? = some (.cells #[.pointer (some ⟨p, 0, none⟩)] 50 (0, 0))) :
    ∃ o, TkSt T own o tt tm p q w w1 cs ws ns ∧ GvNext o tt w1 p (.last x) (.func (.func 60) #[] #[.pointer (some ⟨b1, 0, none⟩)]) := by
  obtain ⟨o, hf, hmm⟩ := hm
  have l1 := lt_of_heap e1
  have lp := lt_of_heap hh
  exact ⟨o, ⟨hf.more fun _ e => Or.inr e, (hf.ext _ lp).trans hp, (hf.keep _ lp (by rw [hp]; exact ht)).trans hh, hmm⟩, b1, n1, (hf.ext _ l1).trans o1, (hf.keep _ l1 (by rw [o1]; exact ht)).trans e1, rfl⟩
theorem give_step (own : Nat → Nat) (tt tm p q : Nat) (S S' : TM) (ws ws' : List Int) (ns ns' : List Note) (r : Int) (w : World) (ht : tt ≠ tm) (hS : IsGive own tt w p S) (hM : IsMem own tm w q ws ns) (hn : ns.length ≤ 1000000000000) (hs : GvStep S ws ns r S' ws' ns') :
    Calls Try.prog 38 #[.pointer (some ⟨p, 0, none⟩), .pointer (some ⟨q, 0, none⟩)] w fun e w' => e = .returned (.tuple #[.int .i64 r, .int .u32 (told r S')]) ∧ GvPost own tt tm p q S' ws' ns' w w' := by
  obtain ⟨nx, hh, hnx⟩ := hS.body
  have hok := hS.ok
  have hmine := hS.mine
  obtain ⟨n, s, h, t, at_, i, x0, ph, st⟩ := S
  change w.heap[p]? = some (.cells (tkCells n s h t at_ i x0 nx st) _ _) at hh
  cases hs with
  | over h0 =>
    have h0 : st ≠ 0 := h0
    have fin : ∀ w', Below w.heap.size w w' → GvPost own tt tm p q ⟨n, s, h, t, at_, i, x0, ph, st⟩ ws ns w w' := fun w' hb => ⟨own, Fr.below hb, hS.below hb, hM.below hb⟩
    by_cases h1 : st = 1
    · subst h1
      exact give_wrap p q 1 i _ w ((step_was p q n s h t at_ i x0 nx _ w hh).mono fun e w' hp => ⟨hp.1, fin w' hp.2⟩)
    · have e : told st ⟨n, s, h, t, at_, i, x0, ph, st⟩ = 0 := if_neg h1
      rw [e]
      exact give_wrap p q st 0 _ w ((step_over p q n s h t at_ i x0 st nx _ w hh h0 h1).mono fun e w' hp => ⟨hp.1, fin w' hp.2⟩)
  | head a v h0 h1 h2 h3 h5 h6 =>
    have h0 : st = 0 := h0
    have h1 : ph = .first := h1
    have h2 : at_ = a := h2
    subst h0 h1 h2
    obtain rfl : nx = _ := hnx
    obtain ⟨x, hx⟩ : ∃ x, rdW ws a = x := ⟨_, rfl⟩
    rw [hx]
    have hxr := rdW_rng hM.rng h3
    rw [hx] at hxr
    refine give_wrap p q 0 0 _ w ((gstep_first p q n s h t a i x0 i 0 _ _ w hh (gv_head own tt tm p q n s h t i x0 0 _ ws ns a x v w ht hmine hh hM hn hok.i0 hok.i1 h5 h6 h3 hx) (fun w' hr => by obtain ⟨o, hk⟩ := hr; exact ⟨_, _, hk.obj⟩) (by decide)).mono fun e w' hp => ?_)
    obtain ⟨h7, w1, ⟨o, hk⟩, hb⟩ := hp
    exact ⟨h7, gv_of hk ht rfl hb ⟨hok.i0, hok.i1, hxr.1, hxr.2⟩⟩
  | second j h0 h1 h2 h3 =>
    have h0 : st = 0 := h0
    have h1 : ph = .second := h1
    subst h0 h1
    obtain rfl : nx = _ := hnx
    have w0 : 0 ≤ x0 := hok.w0
    refine give_wrap p q 0 0 _ w ((gstep_second p q n s h t at_ i x0 i 0 _ _ w hh (gv_second own tt tm p q n s h t at_ i x0 0 _ ws ns j (x0 % 4294967296) (rdW ws j) w ht hmine hh hM hn hok.i0 hok.i1 h2 h3 rfl rfl (by omega) (by omega)) (fun w' hr => by obtain ⟨o, nx', hk, _⟩ := hr; exact ⟨_, _, hk.obj⟩) (by decide)).mono fun e w' hp => ?_)
    obtain ⟨h7, w1, ⟨o, nx', hk, hn'⟩, hb⟩ := hp
    exact ⟨h7, gv_of hk ht hn' hb ⟨hok.i0, hok.i1, hok.w0, hok.w1⟩⟩
  | hit a x h0 h1 h2 h3 h4 =>
    have h0 : st = 0 := h0
    have h1 : ph = .last x := h1
    have h2 : at_ = a := h2
    have h4 : rdW ws a = x0 := h4
    subst h0 h1 h2
    obtain ⟨b1, n1, o1, e1, rfl⟩ := hnx
    have hv := nextW_rng (x := x0) hok.i0 hok.i1
    refine give_wrap p q 1 i _ w ((gstep_last_done p q b1 n s h t a i x0 i _ (fun w' => MemPost own tm w q (ws.set a (nextW x0 i)) (ns ++ [⟨99, a, x0, nextW x0 i, true⟩]) w') w hh (gl_hit own tt tm p q b1 n s h t i x0 0 _ a _ ws ns w ht hmine hh hM hn o1 e1 hok.w0 hok.w1 hok.i0 hok.i1 rfl hv.1 hv.2 h3 h4) (fun w' hr => ⟨_, _, (last_keep hmine ht hh hr).1⟩)).mono fun e w' hp => ?_)
    obtain ⟨h7, w1, hm1, hb⟩ := hp
    obtain ⟨o, hk, hn'⟩ := glast_of (x := x) hmine ht hh hm1 n1 o1 e1
    exact ⟨h7, gv_of hk ht hn' hb ⟨hok.i0, hok.i1, hok.w0, hok.w1⟩⟩
  | miss a x h0 h1 h2 h3 h4 =>
    have h0 : st = 0 := h0
    have h1 : ph = .last x := h1
    have h2 : at_ = a := h2
    have h4 : rdW ws a ≠ x0 := h4
    subst h0 h1 h2
    obtain ⟨b1, n1, o1, e1, rfl⟩ := hnx
    have hv := nextW_rng (x := x0) hok.i0 hok.i1
    refine give_wrap p q 3 0 _ w ((gstep_last p q b1 n s h t a i x0 i 3 _ (fun w' => MemPost own tm w q ws (ns ++ [⟨99, a, rdW ws a, rdW ws a, false⟩]) w') w hh (gl_miss own tt tm p q b1 n s h t i x0 0 _ a _ _ ws ns w ht hmine hh hM hn o1 e1 hok.w0 hok.w1 hok.i0 hok.i1 rfl hv.1 hv.2 h3 rfl (by simpa using h4)) (fun w' hr => ⟨_, _, (last_keep hmine ht hh hr).1⟩) (by decide)).mono fun e w' hp => ?_)
    obtain ⟨h7, w1, hm1, hb⟩ := hp
    obtain ⟨o, hk, hn'⟩ := glast_of (x := x) hmine ht hh hm1 n1 o1 e1
    exact ⟨h7, gv_of hk ht hn' hb ⟨hok.i0, hok.i1, hok.w0, hok.w1⟩⟩
end Go.Proofs.Ytdhkppijeocaoaa
namespace Go.Proofs.Ytdhkppijeocaoaa
open Go.RowKit
set_option linter.unusedVariables false
set_option linter.unusedSimpArgs false

theorem count_it (own : Nat → Nat) (t p : Nat) (ws : List Int) (ns : List Note) (x : Int) (w : World) (h : IsMem own t w p ws ns) (hx : (ns.length : Int) = x) :
    Calls Try.prog 22 #[.pointer (some ⟨p, 0, none⟩)] w fun e w' => e = .returned (.int .i64 x) ∧ w' = w := by
  subst hx
  exact count_any own t p ws ns w h
set_option maxHeartbeats 2000000 in
theorem pair_take (p q : Nat) (r i : Int) (rp : Value) (R : World → Prop) (w : World) (hc : ∀ w1, Below w.heap.size w w1 → Calls Try.prog 14 #[.pointer (some ⟨p, 0, none⟩), .pointer (some ⟨q, 0, none⟩)] w1 fun e w' => e = .returned (.tuple #[.int .i64 r, .int .u32 i]) ∧ R w') :
    Calls Try.prog 20 #[.agg #[.pointer (some ⟨p, 0, none⟩), .pointer none, rp], .pointer (some ⟨q, 0, none⟩)] w fun e w' => e = .returned (.tuple #[.int .i64 r, .int .u32 i]) ∧ R w' := by
  have HC := Lib.hid hc
  clear hc
  go_enter Try.func20, Try.ntmps20
  go_wp2_with (go_at_call 14; refine (HC.out _ (bl_alloc (bl_refl w) _)).mono ?_; rintro e w1 ⟨rfl, hr⟩; (have HR1 := Lib.hid hr); clear hr)
  go_ret2
  exact ⟨rfl, HR1.out⟩
/-- What holds on the way: the pair's box is as it was. -/
structure EnSttake (own o : Nat → Nat) (tt tm p q b : Nat) (rp : Value) (w w' : World) (S : TM) (ws : List Int) (ns : List Note) : Prop where
  fr : Fr own o (fun t => t = tt ∨ t = tm) w w'
  m : IsTake o tt w' p S
  mem : IsMem o tm w' q ws ns
  box : w'.heap[b]? = some (.cells #[.pointer (some ⟨p, 0, none⟩), .pointer none, rp] 53 (0, 0))
  tag : o b = 0
theorem EnSttake.start {own : Nat → Nat} {tt tm p q : Nat} {rp : Value} {w : World} {S : TM} {ws : List Int} {ns : List Note} (hS : IsTake own tt w p S) (hM : IsMem own tm w q ws ns) :
    ∃ o, EnSttake own o tt tm p q w.heap.size rp w (w.alloc (.cells #[.pointer (some ⟨p, 0, none⟩), .pointer none, rp] 53)) S ws ns := by
  have hf := Below.fr_new (own := own) (t := 0) (bl_alloc (bl_refl w) (.cells #[.pointer (some ⟨p, 0, none⟩), .pointer none, rp] 53))
  exact ⟨_, hf.more (fun _ h => h.elim), hS.kept hf (fun h => h), hM.kept hf (fun h => h), heap_new rfl, by simp⟩
theorem EnSttake.step {own o : Nat → Nat} {tt tm p q b : Nat} {rp : Value} {w w1 w2 : World} {S S' : TM} {ws ws' : List Int} {ns ns' : List Note} (h : EnSttake own o tt tm p q b rp w w1 S ws ns) (h1 : tt ≠ 0) (h2 : tm ≠ 0) (k : TkPost o tt tm p q S' ws' ns' w1 w2) : ∃ o2, EnSttake own o2 tt tm p q b rp w w2 S' ws' ns' := by
  obtain ⟨o2, f, hm, hq⟩ := k
  have l := lt_of_heap h.box
  exact ⟨o2, h.fr.trans f, hm, hq, (f.keep _ l (by rw [h.tag]; exact fun c => by rcases c with c | c <;> omega)).trans h.box, (f.ext _ l).trans h.tag⟩
theorem pstep_take {own o : Nat → Nat} {tt tm p q b : Nat} {rp : Value} {w w1 : World} {S S' : TM} {ws ws' : List Int} {ns ns' : List Note} {r : Int} (h : EnSttake own o tt tm p q b rp w w1 S ws ns) (h1 : tt ≠ 0) (h2 : tm ≠ 0) (ht : tt ≠ tm) (hn : ns.length ≤ 1000000000000) (hs : TkStep S ws ns r S' ws' ns') (i : Int) (hi : told r S' = i) :
    Calls Try.prog 20 #[.agg #[.pointer (some ⟨p, 0, none⟩), .pointer none, rp], .pointer (some ⟨q, 0, none⟩)] w1 fun e w' => e = .returned (.tuple #[.int .i64 r, .int .u32 i]) ∧ ∃ o2, EnSttake own o2 tt tm p q b rp w w' S' ws' ns' := by
  subst hi
  refine pair_take p q r _ rp _ w1 fun w2 hb => ?_
  refine (take_step o tt tm p q S S' ws ws' ns ns' r w2 ht (h.m.below hb) (h.mem.below hb) hn hs).mono fun e w' k => ⟨k.1, ?_⟩
  have h' : EnSttake own o tt tm p q b rp w w2 S ws ns := ⟨h.fr.trans (Fr.below hb), h.m.below hb, h.mem.below hb, (hb.block _ (lt_of_heap h.box)).trans h.box, h.tag⟩
  exact h'.step h1 h2 k.2
def EndReltake (own : Nat → Nat) (tt tm p q b : Nat) (rp : Value) (w : World) (S : Nat → TM) (W : Nat → List Int) (N : Nat → List Note) (j : Nat) (w' : World) : Prop := ∃ o, EnSttake own o tt tm p q b rp w w' (S j) (W j) (N j)
set_option maxHeartbeats 8000000 in
set_option maxRecDepth 100000 in
theorem ends_take (own : Nat → Nat) (tt tm p q : Nat) (rp : Value) (i : Int) (S : Nat → TM) (W : Nat → List Int) (N : Nat → List Note) (c : Nat) (w : World) (h1 : tt ≠ 0) (h2 : tm ≠ 0) (ht : tt ≠ tm) (hS : IsTake own tt w p (S 0)) (hM : IsMem own tm w q (W 0) (N 0))
    (hc : c ≤ 1000000) (hN : ∀ k, k ≤ 3 → (N k).length = c + k) (hs : ∀ k, k < 3 → TkStep (S k) (W k) (N k) (if k = 2 then 1 else 0) (S (k + 1)) (W (k + 1)) (N (k + 1))) (hst : (S 3).st = 1) (hi : (S 3).i = i) :
    Calls Try.prog 24 #[.agg #[.pointer (some ⟨p, 0, none⟩), .pointer none, rp], .pointer (some ⟨q, 0, none⟩), .int .u32 i, .int .i64 3] w fun e w' => e = .returned (.bool true) ∧ TkPost own tt tm p q (S 3) (W 3) (N 3) w w' := by
  obtain ⟨o1, hE⟩ := EnSttake.start (rp := rp) hS hM
  have HE := Lib.hid hE
  have HSt := Lib.hid hs
  have HNn := Lib.hid hN
  have k0 := cell_of hE.box 0
  have k1 := cell_of hE.box 1
  have k2 := cell_of hE.box 2
  clear hS hM hs hN hE
  go_enter Try.func24, Try.ntmps24
  go_wp2
  generalize w.alloc (.cells #[.pointer (some ⟨p, 0, none⟩), .pointer none, rp] 53) = w1 at *
  have HRel := Lib.hid (show EndReltake own tt tm p q w.heap.size rp w S W N 0 w1 from ⟨o1, HE.out⟩)
  go_loopg [9] 4 (fun kq x w' => ∃ j : Nat, x = .int .i64 ((j : Int) + 1) ∧ j ≤ 3 ∧ j + kq = 4 ∧ EndReltake own tt tm p q w.heap.size rp w S W N j w')
  case atStart => exact ⟨0, rfl, by omega, by omega, HRel.out⟩
  case round =>
    obtain ⟨j, rfl, hj, hkq, o, hE⟩ := hrel
    have HE := Lib.hid hE
    have k0 := cell_of hE.box 0
    have k1 := cell_of hE.box 1
    have k2 := cell_of hE.box 2
    obtain ⟨C, hC⟩ : ∃ C, c + j = C := ⟨_, rfl⟩
    have hCb : C ≤ 1000003 := by omega
    have hCN : ((N j).length : Int) = (C : Int) := by rw [HNn.out j hj, hC]
    have hnl : (N j).length ≤ 1000000000000 := by rw [HNn.out j hj]; omega
    clear hE
    cases gk with
    | zero => omega
    | succ kk =>
      by_cases c4 : j < 3
      · have hN1 : ((N (j + 1)).length : Int) = (C : Int) + 1 := by rw [HNn.out (j + 1) (by omega)]; omega
        rcases (show j = 0 ∨ j = 1 ∨ j = 2 by omega) with rfl | rfl | rfl
        · have hs1 : TkStep (S 0) (W 0) (N 0) 0 (S 1) (W 1) (N 1) := HSt.out 0 (by decide)
          have HS1 := Lib.hid hs1
          clear hs1
          go_wp2_with (first | ((have _h := HE2); go_at_call 22; refine (count_it o2 tm q (W 1) (N 1) ((C : Int) + 1) _ HE2.out.mem hN1).mono ?_; rintro e w6 ⟨rfl, rfl⟩; clear _h) | (go_at_call 20; refine (pstep_take HE.out h1 h2 ht hnl HS1.out 0 rfl).mono ?_; rintro e w5 ⟨rfl, o2, hs⟩; (have HE2 := Lib.hid hs); clear hs k0 k1 k2) | (go_at_call 22; refine (count_it o tm q (W 0) (N 0) (C : Int) _ HE.out.mem hCN).mono ?_; rintro e w4 ⟨rfl, rfl⟩))
          go_roundg kk
          case measure => omega
          case rel => exact ⟨1, rfl, by omega, by omega, o2, HE2.out⟩
        · have hs1 : TkStep (S 1) (W 1) (N 1) 0 (S 2) (W 2) (N 2) := HSt.out 1 (by decide)
          have HS1 := Lib.hid hs1
          clear hs1
          go_wp2_with (first | ((have _h := HE2); go_at_call 22; refine (count_it o2 tm q (W 2) (N 2) ((C : Int) + 1) _ HE2.out.mem hN1).mono ?_; rintro e w6 ⟨rfl, rfl⟩; clear _h) | (go_at_call 20; refine (pstep_take HE.out h1 h2 ht hnl HS1.out 0 rfl).mono ?_; rintro e w5 ⟨rfl, o2, hs⟩; (have HE2 := Lib.hid hs); clear hs k0 k1 k2) | (go_at_call 22; refine (count_it o tm q (W 1) (N 1) (C : Int) _ HE.out.mem hCN).mono ?_; rintro e w4 ⟨rfl, rfl⟩))
          go_roundg kk
          case measure => omega
          case rel => exact ⟨2, rfl, by omega, by omega, o2, HE2.out⟩
        · have hs1 : TkStep (S 2) (W 2) (N 2) 1 (S 3) (W 3) (N 3) := HSt.out 2 (by decide)
          have HS1 := Lib.hid hs1
          clear hs1
          go_wp2_with (first | ((have _h := HE2); go_at_call 22; refine (count_it o2 tm q (W 3) (N 3) ((C : Int) + 1) _ HE2.out.mem hN1).mono ?_; rintro e w6 ⟨rfl, rfl⟩; clear _h) | (go_at_call 20; refine (pstep_take HE.out h1 h2 ht hnl HS1.out i hi).mono ?_; rintro e w5 ⟨rfl, o2, hs⟩; (have HE2 := Lib.hid hs); clear hs k0 k1 k2) | (go_at_call 22; refine (count_it o tm q (W 2) (N 2) (C : Int) _ HE.out.mem hCN).mono ?_; rintro e w4 ⟨rfl, rfl⟩))
          go_roundg kk
          case measure => omega
          case rel => exact ⟨3, rfl, by omega, by omega, o2, HE2.out⟩
      · obtain rfl : j = 3 := by omega
        have hov : TkStep (S 3) (W 3) (N 3) 1 (S 3) (W 3) (N 3) := by
          have := TkStep.over (S := S 3) (ws := W 3) (ns := N 3) (by rw [hst]; decide)
          rwa [hst] at this
        have HS1 := Lib.hid hov
        clear hov
        go_wp2_with (first | ((have _h := HE2); go_at_call 22; refine (count_it o2 tm q (W 3) (N 3) (C : Int) _ HE2.out.mem hCN).mono ?_; rintro e w6 ⟨rfl, rfl⟩; clear _h) | (go_at_call 20; refine (pstep_take HE.out h1 h2 ht hnl HS1.out i hi).mono ?_; rintro e w5 ⟨rfl, o2, hs⟩; (have HE2 := Lib.hid hs); clear hs k0 k1 k2) | (go_at_call 22; refine (count_it o tm q (W 3) (N 3) (C : Int) _ HE.out.mem hCN).mono ?_; rintro e w4 ⟨rfl, rfl⟩))
        go_ret
        exact ⟨rfl, o2, HE2.out.fr, HE2.out.m, HE2.out.mem⟩
set_option maxHeartbeats 2000000 in
theorem pair_give (p q : Nat) (r i : Int) (rp : Value) (R : World → Prop) (w : World) (hc : ∀ w1, Below w.heap.size w w1 → Calls Try.prog 38 #[.pointer (some ⟨p, 0, none⟩), .pointer (some ⟨q, 0, none⟩)] w1 fun e w' => e = .returned (.tuple #[.int .i64 r, .int .u32 i]) ∧ R w') :
    Calls Try.prog 20 #[.agg #[.pointer none, .pointer (some ⟨p, 0, none⟩), rp], .pointer (some ⟨q, 0, none⟩)] w fun e w' => e = .returned (.tuple #[.int .i64 r, .int .u32 i]) ∧ R w' := by
  have HC := Lib.hid hc
  clear hc
  go_enter Try.func20, Try.ntmps20
  go_wp2_with (go_at_call 38; refine (HC.out _ (bl_alloc (bl_refl w) _)).mono ?_; rintro e w1 ⟨rfl, hr⟩; (have HR1 := Lib.hid hr); clear hr)
  go_ret2
  exact ⟨rfl, HR1.out⟩
/-- What holds on the way: the pair's box is as it was. -/
structure EnStgive (own o : Nat → Nat) (tt tm p q b : Nat) (rp : Value) (w w' : World) (S : TM) (ws : List Int) (ns : List Note) : Prop where
  fr : Fr own o (fun t => t = tt ∨ t = tm) w w'
  m : IsGive o tt w' p S
  mem : IsMem o tm w' q ws ns
  box : w'.heap[b]? = some (.cells #[.pointer none, .pointer (some ⟨p, 0, none⟩), rp] 53 (0, 0))
  tag : o b = 0
theorem EnStgive.start {own : Nat → Nat} {tt tm p q : Nat} {rp : Value} {w : World} {S : TM} {ws : List Int} {ns : List Note} (hS : IsGive own tt w p S) (hM : IsMem own tm w q ws ns) :
    ∃ o, EnStgive own o tt tm p q w.heap.size rp w (w.alloc (.cells #[.pointer none, .pointer (some ⟨p, 0, none⟩), rp] 53)) S ws ns := by
  have hf := Below.fr_new (own := own) (t := 0) (bl_alloc (bl_refl w) (.cells #[.pointer none, .pointer (some ⟨p, 0, none⟩), rp] 53))
  exact ⟨_, hf.more (fun _ h => h.elim), hS.kept hf (fun h => h), hM.kept hf (fun h => h), heap_new rfl, by simp⟩
theorem EnStgive.step {own o : Nat → Nat} {tt tm p q b : Nat} {rp : Value} {w w1 w2 : World} {S S' : TM} {ws ws' : List Int} {ns ns' : List Note} (h : EnStgive own o tt tm p q b rp w w1 S ws ns) (h1 : tt ≠ 0) (h2 : tm ≠ 0) (k : GvPost o tt tm p q S' ws' ns' w1 w2) : ∃ o2, EnStgive own o2 tt tm p q b rp w w2 S' ws' ns' := by
  obtain ⟨o2, f, hm, hq⟩ := k
  have l := lt_of_heap h.box
  exact ⟨o2, h.fr.trans f, hm, hq, (f.keep _ l (by rw [h.tag]; exact fun c => by rcases c with c | c <;> omega)).trans h.box, (f.ext _ l).trans h.tag⟩
theorem pstep_give {own o : Nat → Nat} {tt tm p q b : Nat} {rp : Value} {w w1 : World} {S S' : TM} {ws ws' : List Int} {ns ns' : List Note} {r : Int} (h : EnStgive own o tt tm p q b rp w w1 S ws ns) (h1 : tt ≠ 0) (h2 : tm ≠ 0) (ht : tt ≠ tm) (hn : ns.length ≤ 1000000000000) (hs : GvStep S ws ns r S' ws' ns') (i : Int) (hi : told r S' = i) :
    Calls Try.prog 20 #[.agg #[.pointer none, .pointer (some ⟨p, 0, none⟩), rp], .pointer (some ⟨q, 0, none⟩)] w1 fun e w' => e = .returned (.tuple #[.int .i64 r, .int .u32 i]) ∧ ∃ o2, EnStgive own o2 tt tm p q b rp w w' S' ws' ns' := by
  subst hi
  refine pair_give p q r _ rp _ w1 fun w2 hb => ?_
  refine (give_step o tt tm p q S S' ws ws' ns ns' r w2 ht (h.m.below hb) (h.mem.below hb) hn hs).mono fun e w' k => ⟨k.1, ?_⟩
  have h' : EnStgive own o tt tm p q b rp w w2 S ws ns := ⟨h.fr.trans (Fr.below hb), h.m.below hb, h.mem.below hb, (hb.block _ (lt_of_heap h.box)).trans h.box, h.tag⟩
  exact h'.step h1 h2 k.2
def EndRelgive (own : Nat → Nat) (tt tm p q b : Nat) (rp : Value) (w : World) (S : Nat → TM) (W : Nat → List Int) (N : Nat → List Note) (j : Nat) (w' : World) : Prop := ∃ o, EnStgive own o tt tm p q b rp w w' (S j) (W j) (N j)
set_option maxHeartbeats 8000000 in
set_option maxRecDepth 100000 in
theorem ends_give (own : Nat → Nat) (tt tm p q : Nat) (rp : Value) (i : Int) (S : Nat → TM) (W : Nat → List Int) (N : Nat → List Note) (c : Nat) (w : World) (h1 : tt ≠ 0) (h2 : tm ≠ 0) (ht : tt ≠ tm) (hS : IsGive own tt w p (S 0)) (hM : IsMem own tm w q (W 0) (N 0))
    (hc : c ≤ 1000000) (hN : ∀ k, k ≤ 3 → (N k).length = c + k) (hs : ∀ k, k < 3 → GvStep (S k) (W k) (N k) (if k = 2 then 1 else 0) (S (k + 1)) (W (k + 1)) (N (k + 1))) (hst : (S 3).st = 1) (hi : (S 3).i = i) :
    Calls Try.prog 24 #[.agg #[.pointer none, .pointer (some ⟨p, 0, none⟩), rp], .pointer (some ⟨q, 0, none⟩), .int .u32 i, .int .i64 3] w fun e w' => e = .returned (.bool true) ∧ GvPost own tt tm p q (S 3) (W 3) (N 3) w w' := by
  obtain ⟨o1, hE⟩ := EnStgive.start (rp := rp) hS hM
  have HE := Lib.hid hE
  have HSt := Lib.hid hs
  have HNn := Lib.hid hN
  have k0 := cell_of hE.box 0
  have k1 := cell_of hE.box 1
  have k2 := cell_of hE.box 2
  clear hS hM hs hN hE
  go_enter Try.func24, Try.ntmps24
  go_wp2
  generalize w.alloc (.cells #[.pointer none, .pointer (some ⟨p, 0, none⟩), rp] 53) = w1 at *
  have HRel := Lib.hid (show EndRelgive own tt tm p q w.heap.size rp w S W N 0 w1 from ⟨o1, HE.out⟩)
  go_loopg [9] 4 (fun kq x w' => ∃ j : Nat, x = .int .i64 ((j : Int) + 1) ∧ j ≤ 3 ∧ j + kq = 4 ∧ EndRelgive own tt tm p q w.heap.size rp w S W N j w')
  case atStart => exact ⟨0, rfl, by omega, by omega, HRel.out⟩
  case round =>
    obtain ⟨j, rfl, hj, hkq, o, hE⟩ := hrel
    have HE := Lib.hid hE
    have k0 := cell_of hE.box 0
    have k1 := cell_of hE.box 1
    have k2 := cell_of hE.box 2
    obtain ⟨C, hC⟩ : ∃ C, c + j = C := ⟨_, rfl⟩
    have hCb : C ≤ 1000003 := by omega
    have hCN : ((N j).length : Int) = (C : Int) := by rw [HNn.out j hj, hC]
    have hnl : (N j).length ≤ 1000000000000 := by rw [HNn.out j hj]; omega
    clear hE
    cases gk with
    | zero => omega
    | succ kk =>
      by_cases c4 : j < 3
      · have hN1 : ((N (j + 1)).length : Int) = (C : Int) + 1 := by rw [HNn.out (j + 1) (by omega)]; omega
        rcases (show j = 0 ∨ j = 1 ∨ j = 2 by omega) with rfl | rfl | rfl
        · have hs1 : GvStep (S 0) (W 0) (N 0) 0 (S 1) (W 1) (N 1) := HSt.out 0 (by decide)
          have HS1 := Lib.hid hs1
          clear hs1
          go_wp2_with (first | ((have _h := HE2); go_at_call 22; refine (count_it o2 tm q (W 1) (N 1) ((C : Int) + 1) _ HE2.out.mem hN1).mono ?_; rintro e w6 ⟨rfl, rfl⟩; clear _h) | (go_at_call 20; refine (pstep_give HE.out h1 h2 ht hnl HS1.out 0 rfl).mono ?_; rintro e w5 ⟨rfl, o2, hs⟩; (have HE2 := Lib.hid hs); clear hs k0 k1 k2) | (go_at_call 22; refine (count_it o tm q (W 0) (N 0) (C : Int) _ HE.out.mem hCN).mono ?_; rintro e w4 ⟨rfl, rfl⟩))
          go_roundg kk
          case measure => omega
          case rel => exact ⟨1, rfl, by omega, by omega, o2, HE2.out⟩
        · have hs1 : GvStep (S 1) (W 1) (N 1) 0 (S 2) (W 2) (N 2) := HSt.out 1 (by decide)
          have HS1 := Lib.hid hs1
          clear hs1
          go_wp2_with (first | ((have _h := HE2); go_at_call 22; refine (count_it o2 tm q (W 2) (N 2) ((C : Int) + 1) _ HE2.out.mem hN1).mono ?_; rintro e w6 ⟨rfl, rfl⟩; clear _h) | (go_at_call 20; refine (pstep_give HE.out h1 h2 ht hnl HS1.out 0 rfl).mono ?_; rintro e w5 ⟨rfl, o2, hs⟩; (have HE2 := Lib.hid hs); clear hs k0 k1 k2) | (go_at_call 22; refine (count_it o tm q (W 1) (N 1) (C : Int) _ HE.out.mem hCN).mono ?_; rintro e w4 ⟨rfl, rfl⟩))
          go_roundg kk
          case measure => omega
          case rel => exact ⟨2, rfl, by omega, by omega, o2, HE2.out⟩
        · have hs1 : GvStep (S 2) (W 2) (N 2) 1 (S 3) (W 3) (N 3) := HSt.out 2 (by decide)
          have HS1 := Lib.hid hs1
          clear hs1
          go_wp2_with (first | ((have _h := HE2); go_at_call 22; refine (count_it o2 tm q (W 3) (N 3) ((C : Int) + 1) _ HE2.out.mem hN1).mono ?_; rintro e w6 ⟨rfl, rfl⟩; clear _h) | (go_at_call 20; refine (pstep_give HE.out h1 h2 ht hnl HS1.out i hi).mono ?_; rintro e w5 ⟨rfl, o2, hs⟩; (have HE2 := Lib.hid hs); clear hs k0 k1 k2) | (go_at_call 22; refine (count_it o tm q (W 2) (N 2) (C : Int) _ HE.out.mem hCN).mono ?_; rintro e w4 ⟨rfl, rfl⟩))
          go_roundg kk
          case measure => omega
          case rel => exact ⟨3, rfl, by omega, by omega, o2, HE2.out⟩
      · obtain rfl : j = 3 := by omega
        have hov : GvStep (S 3) (W 3) (N 3) 1 (S 3) (W 3) (N 3) := by
          have := GvStep.over (S := S 3) (ws := W 3) (ns := N 3) (by rw [hst]; decide)
          rwa [hst] at this
        have HS1 := Lib.hid hov
        clear hov
        go_wp2_with (first | ((have _h := HE2); go_at_call 22; refine (count_it o2 tm q (W 3) (N 3) (C : Int) _ HE2.out.mem hCN).mono ?_; rintro e w6 ⟨rfl, rfl⟩; clear _h) | (go_at_call 20; refine (pstep_give HE.out h1 h2 ht hnl HS1.out i hi).mono ?_; rintro e w5 ⟨rfl, o2, hs⟩; (have HE2 := Lib.hid hs); clear hs k0 k1 k2) | (go_at_call 22; refine (count_it o tm q (W 3) (N 3) (C : Int) _ HE.out.mem hCN).mono ?_; rintro e w4 ⟨rfl, rfl⟩))
        go_ret
        exact ⟨rfl, o2, HE2.out.fr, HE2.out.m, HE2.out.mem⟩
end Go.Proofs.Ytdhkppijeocaoaa
