/-
  ebstack's Op in the heap: a step does what the machine of numbers does.
-/
import Derived.Test.YtgfeagggkplegaaGreatOpW
namespace Go.Proofs.YtgfeagggkplegaaGreat
open Go.RowKit
set_option linter.unusedVariables false
set_option linter.unusedSimpArgs false

def partV (v : Nat) : OPart → Value
  | .take _ => ptI v
  | .give _ => pgI v
  | .tk T => if T.give = true then gvI v else tkI v
  | .visit _ => pvI v
  | .acc a wr => paI a wr
theorem partV_gv {T : TM} (v : Nat) (h : T.give = true) : partV v (.tk T) = gvI v := if_pos h
theorem partV_tk {T : TM} (v : Nat) (h : T.give = false) : partV v (.tk T) = tkI v := if_neg (by simp [h])
def partA (v : Nat) : OPart → Asn
  | .take A => arA v A
  | .give A => arA v A
  | .tk T => tlA v T
  | .visit E => emA v E
  | .acc _ _ => factA True
abbrev OIx : Type := Option Addr × Nat × Nat
/-- An operation in the heap. -/
def opA (p : Nat) (S : OM) : Asn := exA fun x : OIx => starA [opB p S.n S.s S.h S.t S.bud S.base S.wait (.slice x.1 S.shelf.length x.2.1) S.rg S.ex S.push S.v S.i S.failed (partV x.2.2 S.part) S.st S.retry, row32 (.slice x.1 S.shelf.length x.2.1) S.shelf, partA x.2.2 S.part]
theorem opA_open {w0 w : World} {p : Nat} {S : OM} {L : List Asn} (h : St w0 (opA p S :: L) w) : ∃ x : OIx, St w0 (opB p S.n S.s S.h S.t S.bud S.base S.wait (.slice x.1 S.shelf.length x.2.1) S.rg S.ex S.push S.v S.i S.failed (partV x.2.2 S.part) S.st S.retry :: row32 (.slice x.1 S.shelf.length x.2.1) S.shelf :: partA x.2.2 S.part :: L) w := by
  obtain ⟨x, hx⟩ := h.ex
  exact ⟨x, hx.unstar⟩
theorem opA_close {w0 w : World} {p : Nat} {S : OM} {L : List Asn} (x : OIx) (h : St w0 (opB p S.n S.s S.h S.t S.bud S.base S.wait (.slice x.1 S.shelf.length x.2.1) S.rg S.ex S.push S.v S.i S.failed (partV x.2.2 S.part) S.st S.retry :: row32 (.slice x.1 S.shelf.length x.2.1) S.shelf :: partA x.2.2 S.part :: L) w) : St w0 (opA p S :: L) w :=
  (h.star (m := [_, _, _])).unex x
/-- What a step of the part leaves. -/
def PRel (w0 : World) (q p r : Nat) (now : Int) (L : List Asn) (ns' : List Note) (S : OM) (o : OOut) (c : Int) (w' : World) : Prop :=
  ∃ y : OIx, c = o.r ∧ St w0 (opB p S.n S.s S.h S.t S.bud S.base S.wait (.slice y.1 o.S.shelf.length y.2.1) o.S.rg o.S.ex S.push o.S.v o.S.i o.S.failed (partV y.2.2 o.S.part) 0 o.S.retry :: row32 (.slice y.1 o.S.shelf.length y.2.1) o.S.shelf :: partA y.2.2 o.S.part :: memA q o.ws ns' :: srcA r now o.ds :: L) w'
def PPost (w0 : World) (q p r : Nat) (now : Int) (L : List Asn) (ns' : List Note) (S : OM) (o : OOut) (e : Ending) (w' : World) : Prop :=
  ∃ c, e = .returned (.int .i64 c) ∧ PRel w0 q p r now L ns' S o c w'
section parts
variable {w0 w : World} {q p r : Nat} {ws : List Int} {ns ns' : List Note} {now : Int} {ds : List Int} {L : List Asn}
  {n s h t bud base wait : Int} {shelf : List Int} {rg ex : Int} {push : Bool} {v i failed : Int} {retry : Bool}
theorem op_take {A : AM} {ns' : List Note} (hn : ns ++ (A.step ws).nt = ns') (hS : St w0 (memA q ws ns :: srcA r now ds :: opA p ⟨n, s, h, t, bud, base, wait, shelf, rg, ex, push, v, i, failed, .take A, 0, retry⟩ :: L) w) (hok : OM.ok ⟨n, s, h, t, bud, base, wait, shelf, rg, ex, push, v, i, failed, .take A, 0, retry⟩ ws.length ns.length) (hk : ns.length ≤ 1000000000000) :
    Calls Tryz.prog 58 #[.pointer (some ⟨p, 0, none⟩), .pointer (some ⟨q, 0, none⟩), .pointer (some ⟨r, 0, none⟩)] w (PPost w0 q p r now L ns' ⟨n, s, h, t, bud, base, wait, shelf, rg, ex, push, v, i, failed, .take A, 0, retry⟩ (OM.took ⟨n, s, h, t, bud, base, wait, shelf, rg, ex, push, v, i, failed, .take A, 0, retry⟩ A ws ds)) := by
  obtain ⟨l1, _, _, _, _, _, _, _, k1, k2, k3, k4, k5, _⟩ := hok.live rfl
  have hrg : ∀ i, i < ws.length → 0 ≤ rdW ws i ∧ rdW ws i < 18446744073709551616 := fun i hi => hS.rng hi
  obtain ⟨q1, q2, q3, q4, q5, _⟩ := AM.step_ok k1 (fun c => by rw [k2] at c; cases c) hrg
  have hsl := q1.sl
  obtain ⟨⟨A0, c, x⟩, h1⟩ := opA_open (hS.front 2 rfl)
  have h2 : St w0 (memA q ws ns :: arA x A :: opB p n s h t bud base wait (.slice A0 shelf.length c) rg ex push v i failed (ptI x) 0 retry :: row32 (.slice A0 shelf.length c) shelf :: srcA r now ds :: L) w := h1.re 5 [3, 2, 0, 1, 4]
  obtain ⟨⟨a, z, A', ws1, nt⟩, he⟩ : ∃ o, A.step ws = o := ⟨_, rfl⟩
  rw [he] at q1 q2 q3 q4 q5 hsl hn
  unfold OM.took
  rw [he]
  dsimp only
  refine o_step_take (R := PRel w0 q p r now L ns' _ _) h2 2 rfl ?_
  by_cases c1 : a = 1
  · subst c1
    rw [if_pos rfl]
    refine (o_took_1 h2 he hn k2 (q2.trans k2) k1 hk hsl rfl q4.1 q4.2 _ rfl).mono fun e w' k => ?_
    obtain ⟨a, cq, e1, h3⟩ := k
    exact ⟨_, e1, ⟨a, cq, 0⟩, rfl, (show St w0 (factA True :: memA q ws1 ns' :: arA x A' :: _ :: _ :: srcA r now ds :: L) w' from h3.factI trivial).re 6 [3, 4, 0, 1, 5]⟩
  · rw [if_neg c1]
    refine (o_took_n h2 he hn k2 (q2.trans k2) k1 hk hsl (by simpa using c1)).mono fun e w' k => ?_
    obtain ⟨a, cq, e1, h3⟩ := k
    exact ⟨_, e1, ⟨a, cq, x⟩, rfl, (show St w0 (memA q ws1 ns' :: arA x A' :: _ :: _ :: srcA r now ds :: L) w' from h3).re 5 [2, 3, 1, 0, 4]⟩
theorem op_give {A : AM} {ns' : List Note} (hn : ns ++ (A.step ws).nt = ns') (hS : St w0 (memA q ws ns :: srcA r now ds :: opA p ⟨n, s, h, t, bud, base, wait, shelf, rg, ex, push, v, i, failed, .give A, 0, retry⟩ :: L) w) (hok : OM.ok ⟨n, s, h, t, bud, base, wait, shelf, rg, ex, push, v, i, failed, .give A, 0, retry⟩ ws.length ns.length) (hk : ns.length ≤ 1000000000000) :
    Calls Tryz.prog 58 #[.pointer (some ⟨p, 0, none⟩), .pointer (some ⟨q, 0, none⟩), .pointer (some ⟨r, 0, none⟩)] w (PPost w0 q p r now L ns' ⟨n, s, h, t, bud, base, wait, shelf, rg, ex, push, v, i, failed, .give A, 0, retry⟩ (OM.gave ⟨n, s, h, t, bud, base, wait, shelf, rg, ex, push, v, i, failed, .give A, 0, retry⟩ A ws ds)) := by
  obtain ⟨l1, _, _, _, _, _, _, _, k1, k2, k3, k4⟩ := hok.live rfl
  have hrg : ∀ i, i < ws.length → 0 ≤ rdW ws i ∧ rdW ws i < 18446744073709551616 := fun i hi => hS.rng hi
  obtain ⟨q1, q2, q3, q4, q5, _⟩ := AM.step_ok k1 (fun _ => by rw [k4]; decide) hrg
  have hsl := q1.sl
  obtain ⟨⟨A0, c, x⟩, h1⟩ := opA_open (hS.front 2 rfl)
  have h2 : St w0 (memA q ws ns :: arA x A :: opB p n s h t bud base wait (.slice A0 shelf.length c) rg ex push v i failed (pgI x) 0 retry :: row32 (.slice A0 shelf.length c) shelf :: srcA r now ds :: L) w := h1.re 5 [3, 2, 0, 1, 4]
  obtain ⟨⟨a, z, A', ws1, nt⟩, he⟩ : ∃ o, A.step ws = o := ⟨_, rfl⟩
  rw [he] at q1 q2 q3 q4 q5 hsl hn
  unfold OM.gave
  rw [he]
  dsimp only
  refine o_step_give (R := PRel w0 q p r now L ns' _ _) h2 2 rfl ?_
  by_cases c1 : a = 1
  · subst c1
    rw [if_pos rfl]
    cases hrt : retry with
    | true =>
      rw [if_pos rfl]
      refine (o_gave_1t h2 he hn k2 (q2.trans k2) k1 hk hsl rfl hrt).mono fun e w' k => ?_
      obtain ⟨a, cq, e1, h3⟩ := k
      rw [hrt] at h3
      exact ⟨_, e1, ⟨a, cq, x⟩, rfl, (show St w0 (memA q ws1 ns' :: arA x A' :: _ :: _ :: srcA r now ds :: L) w' from h3).re 5 [2, 3, 1, 0, 4]⟩
    | false =>
      rw [if_neg (by decide)]
      refine (o_gave_1f h2 he hn k2 (q2.trans k2) k1 hk hsl rfl hrt).mono fun e w' k => ?_
      obtain ⟨a, cq, e1, h3⟩ := k
      rw [hrt] at h3
      exact ⟨_, e1, ⟨a, cq, x⟩, rfl, (show St w0 (memA q ws1 ns' :: arA x A' :: _ :: _ :: srcA r now ds :: L) w' from h3).re 5 [2, 3, 1, 0, 4]⟩
  · rw [if_neg c1]
    refine (o_gave_n h2 he hn k2 (q2.trans k2) k1 hk hsl (by simpa using c1)).mono fun e w' k => ?_
    obtain ⟨a, cq, e1, h3⟩ := k
    exact ⟨_, e1, ⟨a, cq, x⟩, rfl, (show St w0 (memA q ws1 ns' :: arA x A' :: _ :: _ :: srcA r now ds :: L) w' from h3).re 5 [2, 3, 1, 0, 4]⟩
theorem op_acc {at_ : Int} {wr : Bool} {ns' : List Note} (hn : ns ++ (OM.accd ⟨n, s, h, t, bud, base, wait, shelf, rg, ex, push, v, i, failed, .acc at_ wr, 0, retry⟩ at_ wr ws ds).nt = ns') (hS : St w0 (memA q ws ns :: srcA r now ds :: opA p ⟨n, s, h, t, bud, base, wait, shelf, rg, ex, push, v, i, failed, .acc at_ wr, 0, retry⟩ :: L) w) (hok : OM.ok ⟨n, s, h, t, bud, base, wait, shelf, rg, ex, push, v, i, failed, .acc at_ wr, 0, retry⟩ ws.length ns.length) (hk : ns.length ≤ 1000000000000) :
    Calls Tryz.prog 58 #[.pointer (some ⟨p, 0, none⟩), .pointer (some ⟨q, 0, none⟩), .pointer (some ⟨r, 0, none⟩)] w (PPost w0 q p r now L ns' ⟨n, s, h, t, bud, base, wait, shelf, rg, ex, push, v, i, failed, .acc at_ wr, 0, retry⟩ (OM.accd ⟨n, s, h, t, bud, base, wait, shelf, rg, ex, push, v, i, failed, .acc at_ wr, 0, retry⟩ at_ wr ws ds)) := by
  obtain ⟨l1, _, _, _, _, _, _, _, k1, k2⟩ := hok.live rfl
  have v0 := hok.v0
  have v1 := hok.v1
  dsimp only at k1 v0 v1 l1
  subst k1
  obtain ⟨⟨A0, c, x⟩, h1⟩ := opA_open (hS.front 2 rfl)
  have h2 : St w0 (memA q ws ns :: opB p n s h t bud base wait (.slice A0 shelf.length c) rg ex wr v i failed (paI at_ wr) 0 retry :: row32 (.slice A0 shelf.length c) shelf :: srcA r now ds :: L) w := h1.re 5 [3, 0, 1, 4]
  unfold OM.accd at hn ⊢
  dsimp only at hn ⊢
  refine o_step_acc (R := PRel w0 q p r now L ns' _ _) h2 1 rfl ?_
  by_cases ca : at_ < 0 ∨ (ws.length : Int) ≤ at_
  · rw [if_pos ca] at hn ⊢
    dsimp only at hn
    rw [List.append_nil] at hn
    subst hn
    cases wr with
    | true => exact (o_acc_no_t at_ h2 ca).mono fun e w' k => ⟨_, k.1, ⟨A0, c, x⟩, rfl, (show St w0 (factA True :: memA q ws ns :: _ :: _ :: srcA r now ds :: L) w' from k.2.factI trivial).re 5 [2, 3, 0, 1, 4]⟩
    | false => exact (o_acc_no_f at_ h2 ca).mono fun e w' k => ⟨_, k.1, ⟨A0, c, x⟩, rfl, (show St w0 (factA True :: memA q ws ns :: _ :: _ :: srcA r now ds :: L) w' from k.2.factI trivial).re 5 [2, 3, 0, 1, 4]⟩
  · rw [if_neg ca] at hn ⊢
    obtain ⟨a, rfl⟩ : ∃ a : Nat, at_ = (a : Int) := Int.eq_ofNat_of_zero_le (by omega)
    have ha : a < ws.length := by omega
    simp only [Int.toNat_natCast] at hn ⊢
    cases wr with
    | true =>
      rw [if_pos rfl] at hn ⊢
      subst hn
      refine (o_acc_write a _ h2 ha rfl hk v0 v1).mono fun e w' k => ?_
      obtain ⟨x, e1, h3⟩ := k
      exact ⟨_, e1, ⟨A0, c, x⟩, rfl, (show St w0 (tlA x _ :: _ :: memA q _ _ :: row32 (.slice A0 shelf.length c) shelf :: srcA r now ds :: L) w' from h3).re 5 [1, 3, 0, 2, 4]⟩
    | false =>
      rw [if_neg (by decide)] at hn ⊢
      subst hn
      refine (o_acc_read a _ h2 ha rfl hk (by omega)).mono fun e w' k => ?_
      obtain ⟨x, e1, h3⟩ := k
      exact ⟨_, e1, ⟨A0, c, x⟩, rfl, (show St w0 (arA x _ :: _ :: _ :: memA q _ _ :: srcA r now ds :: L) w' from h3).re 5 [1, 2, 0, 3, 4]⟩
theorem op_tried {T : TM} {ns' : List Note} (hn : ns ++ (T.step ws).nt = ns') (hS : St w0 (memA q ws ns :: srcA r now ds :: opA p ⟨n, s, h, t, bud, base, wait, shelf, rg, ex, push, v, i, failed, .tk T, 0, retry⟩ :: L) w) (hok : OM.ok ⟨n, s, h, t, bud, base, wait, shelf, rg, ex, push, v, i, failed, .tk T, 0, retry⟩ ws.length ns.length) (hk : ns.length ≤ 1000000000000) :
    Calls Tryz.prog 58 #[.pointer (some ⟨p, 0, none⟩), .pointer (some ⟨q, 0, none⟩), .pointer (some ⟨r, 0, none⟩)] w (PPost w0 q p r now L ns' ⟨n, s, h, t, bud, base, wait, shelf, rg, ex, push, v, i, failed, .tk T, 0, retry⟩ (OM.tried ⟨n, s, h, t, bud, base, wait, shelf, rg, ex, push, v, i, failed, .tk T, 0, retry⟩ T ws ds)) := by
  obtain ⟨l1, f0, f1, b1, _, _, _, _, k1, k2, k3⟩ := hok.live rfl
  have hrg : ∀ i, i < ws.length → 0 ≤ rdW ws i ∧ rdW ws i < 18446744073709551616 := fun i hi => hS.rng hi
  have q1 := TM.step_ok k1 hrg
  have q2 := TM.give_step_eq T ws
  have q4 := TM.step_z q1 (T.step ws).r
  dsimp only at k2 f0 f1 b1 k3 l1
  have hsl : shelf.length ≤ 1000000000000 := by omega
  obtain ⟨⟨A0, c, x⟩, h1⟩ := opA_open (hS.front 2 rfl)
  obtain ⟨⟨a, T', ws1, nt⟩, he⟩ : ∃ o, T.step ws = o := ⟨_, rfl⟩
  rw [he] at q1 q2 q4 hn
  dsimp only at q2 q4
  unfold OM.tried
  rw [he]
  dsimp only
  cases push with
  | true =>
    have h2 : St w0 (memA q ws ns :: tlA x T :: opB p n s h t bud base wait (.slice A0 shelf.length c) rg ex true v i failed (gvI x) 0 retry :: row32 (.slice A0 shelf.length c) shelf :: srcA r now ds :: L) w := by
      have e : partV x (.tk T) = gvI x := partV_gv x k2
      have h3 := h1.re 5 [3, 2, 0, 1, 4]
      rw [e] at h3
      exact h3
    refine o_step_tkG (R := PRel w0 q p r now L ns' _ _) h2 2 rfl ?_
    by_cases c3 : a = 3
    · rw [if_pos c3]
      refine o_tried_3_push (R := PRel w0 q p r now L ns' _ _) h2 he hn rfl k2 k1 hk c3 fun w1 h3 => ?_
      have h4 : St w0 (opB p n s h t bud base wait (.slice A0 shelf.length c) rg ex true v i failed (gvI x) 0 retry :: row32 (.slice A0 shelf.length c) shelf :: memA q ws1 ns' :: srcA r now ds :: L) w1 := (show St w0 (memA q ws1 ns' :: tlA x T' :: _ :: _ :: srcA r now ds :: L) w1 from h3).re 5 [2, 3, 0, 4]
      unfold OM.contR OM.contS
      dsimp only
      by_cases cb : bud < failed + 1
      · rw [if_pos cb, if_pos rfl, if_neg (by simp)]
        refine (o_cont_retry h4 f0 (by omega) cb hsl).mono fun e w' k => ?_
        obtain ⟨y, e1, h5⟩ := k
        exact ⟨_, e1, ⟨A0, c, y⟩, rfl, (show St w0 (arA y _ :: _ :: _ :: memA q ws1 ns' :: srcA r now ds :: L) w' from h5).re 3 [1, 2, 0]⟩
      · rw [if_neg cb, if_neg (fun k => cb k.1)]
        by_cases cs : s = 0
        · rw [if_pos cs]
          refine (o_cont_core_push h4 f0 (by omega) (by omega) cs).mono fun e w' k => ?_
          obtain ⟨y, e1, h5⟩ := k
          exact ⟨_, e1, ⟨A0, c, y⟩, rfl, (show St w0 (tlA y _ :: _ :: _ :: memA q ws1 ns' :: srcA r now ds :: L) w' from h5).re 3 [1, 2, 0]⟩
        · rw [if_neg cs]
          refine (o_cont_visit_push h4 f0 (by omega) (by omega) cs).mono fun e w' k => ?_
          obtain ⟨y, e1, h5⟩ := k
          exact ⟨_, e1, ⟨A0, c, y⟩, rfl, h5⟩
    rw [if_neg c3]
    by_cases c1 : a = 1
    · rw [if_neg (by simp [c1]), if_pos rfl]
      refine (o_tried_1_push h2 he hn rfl k2 k1 hk c1).mono fun e w' k => ?_
      have e' : partV x (.tk T') = gvI x := partV_gv x (q2.trans k2)
      refine ⟨_, k.1, ⟨A0, c, x⟩, rfl, ?_⟩
      dsimp only
      rw [e']
      exact (show St w0 (memA q ws1 ns' :: tlA x T' :: _ :: _ :: srcA r now ds :: L) w' from k.2).re 5 [2, 3, 1, 0, 4]
    · rw [if_pos c1]
      refine (o_tried_n_push h2 he hn rfl k2 k1 hk (by simpa using c3) (by simpa using c1)).mono fun e w' k => ?_
      have e' : partV x (.tk T') = gvI x := partV_gv x (q2.trans k2)
      refine ⟨_, k.1, ⟨A0, c, x⟩, rfl, ?_⟩
      dsimp only
      rw [e']
      exact (show St w0 (memA q ws1 ns' :: tlA x T' :: _ :: _ :: srcA r now ds :: L) w' from k.2).re 5 [2, 3, 1, 0, 4]
  | false =>
    have h2 : St w0 (memA q ws ns :: tlA x T :: opB p n s h t bud base wait (.slice A0 shelf.length c) rg ex false v i failed (tkI x) 0 retry :: row32 (.slice A0 shelf.length c) shelf :: srcA r now ds :: L) w := by
      have e : partV x (.tk T) = tkI x := partV_tk x k2
      have h3 := h1.re 5 [3, 2, 0, 1, 4]
      rw [e] at h3
      exact h3
    refine o_step_tkT (R := PRel w0 q p r now L ns' _ _) h2 2 rfl ?_
    by_cases c3 : a = 3
    · rw [if_pos c3]
      refine o_tried_3_pop (R := PRel w0 q p r now L ns' _ _) h2 he hn rfl k2 k1 hk c3 fun w1 h3 => ?_
      have h4 : St w0 (opB p n s h t bud base wait (.slice A0 shelf.length c) rg ex false v i failed (tkI x) 0 retry :: row32 (.slice A0 shelf.length c) shelf :: tlA x T' :: memA q ws1 ns' :: srcA r now ds :: L) w1 := (show St w0 (memA q ws1 ns' :: tlA x T' :: _ :: _ :: srcA r now ds :: L) w1 from h3).re 5 [2, 3, 1, 0, 4]
      unfold OM.contR OM.contS
      dsimp only
      by_cases cb : bud < failed + 1
      · rw [if_pos cb, if_neg (show ¬ (false = true) by decide), if_pos (show bud < failed + 1 ∧ false = false from ⟨cb, rfl⟩)]
        refine (o_cont_over h4 f0 (by omega) cb).mono fun e w' k => ?_
        refine ⟨_, k.1, ⟨A0, c, x⟩, rfl, ?_⟩
        have e' : partV x (.tk T') = tkI x := partV_tk x (q2.trans k2)
        unfold OM.more
        dsimp only
        rw [e']
        exact k.2
      · rw [if_neg cb, if_neg (fun k => cb k.1)]
        have h4' := (show St w0 (_ :: _ :: tlA x T' :: memA q ws1 ns' :: srcA r now ds :: L) w1 from h4).re 3 [0, 1]
        by_cases cs : s = 0
        · rw [if_pos cs]
          refine (o_cont_core_pop h4' f0 (by omega) (by omega) cs).mono fun e w' k => ?_
          obtain ⟨y, e1, h5⟩ := k
          exact ⟨_, e1, ⟨A0, c, y⟩, rfl, (show St w0 (tlA y _ :: _ :: _ :: memA q ws1 ns' :: srcA r now ds :: L) w' from h5).re 3 [1, 2, 0]⟩
        · rw [if_neg cs]
          refine (o_cont_visit_pop h4' f0 (by omega) (by omega) cs).mono fun e w' k => ?_
          obtain ⟨y, e1, h5⟩ := k
          exact ⟨_, e1, ⟨A0, c, y⟩, rfl, h5⟩
    rw [if_neg c3]
    by_cases c1 : a = 1
    · rw [if_neg (by simp [c1]), if_neg (by decide)]
      refine (o_tried_1_pop h2 he hn rfl k2 k1 hk c1 (by rw [← c1] at *; exact q4.1) (by rw [← c1] at *; exact q4.2) _ rfl).mono fun e w' k => ?_
      exact ⟨_, k.1, ⟨A0, c, x⟩, rfl, (show St w0 (factA True :: _ :: memA q ws1 ns' :: tlA x T' :: row32 _ shelf :: srcA r now ds :: L) w' from k.2.factI trivial).re 6 [1, 4, 0, 2, 5]⟩
    · rw [if_pos c1]
      refine (o_tried_n_pop h2 he hn rfl k2 k1 hk (by simpa using c3) (by simpa using c1)).mono fun e w' k => ?_
      have e' : partV x (.tk T') = tkI x := partV_tk x (q2.trans k2)
      refine ⟨_, k.1, ⟨A0, c, x⟩, rfl, ?_⟩
      dsimp only
      rw [e']
      exact (show St w0 (memA q ws1 ns' :: tlA x T' :: _ :: _ :: srcA r now ds :: L) w' from k.2).re 5 [2, 3, 1, 0, 4]
theorem op_visit {E : EM} {ns' : List Note} (hn : ns ++ (E.step ws now ds).nt = ns') (hS : St w0 (memA q ws ns :: srcA r now ds :: opA p ⟨n, s, h, t, bud, base, wait, shelf, rg, ex, push, v, i, failed, .visit E, 0, retry⟩ :: L) w) (hok : OM.ok ⟨n, s, h, t, bud, base, wait, shelf, rg, ex, push, v, i, failed, .visit E, 0, retry⟩ ws.length ns.length) (hds : DsOk ds) (n0 : 0 ≤ now) (n1 : now < 18446744073709551616) (hk : ns.length ≤ 1000000000000) :
    Calls Tryz.prog 58 #[.pointer (some ⟨p, 0, none⟩), .pointer (some ⟨q, 0, none⟩), .pointer (some ⟨r, 0, none⟩)] w (PPost w0 q p r now L ns' ⟨n, s, h, t, bud, base, wait, shelf, rg, ex, push, v, i, failed, .visit E, 0, retry⟩ (OM.visited ⟨n, s, h, t, bud, base, wait, shelf, rg, ex, push, v, i, failed, .visit E, 0, retry⟩ E ws now ds)) := by
  obtain ⟨l1, f0, f1, b1, _, _, _, _, k1, k2, k3, k4⟩ := hok.live rfl
  have hrg : ∀ i, i < ws.length → 0 ≤ rdW ws i ∧ rdW ws i < 18446744073709551616 := fun i hi => hS.rng hi
  have q4 := EM.step_z ds k1 n0 n1 hrg
  obtain ⟨⟨A0, c, x⟩, h1⟩ := opA_open (hS.front 2 rfl)
  have h2 : St w0 (memA q ws ns :: srcA r now ds :: emA x E :: opB p n s h t bud base wait (.slice A0 shelf.length c) rg ex push v i failed (pvI x) 0 retry :: row32 (.slice A0 shelf.length c) shelf :: L) w := h1.re 5 [3, 4, 2, 0, 1]
  obtain ⟨⟨a, z, E', ws1, nt, ds1⟩, he⟩ : ∃ o, E.step ws now ds = o := ⟨_, rfl⟩
  rw [he] at q4 hn
  dsimp only at q4
  unfold OM.visited
  rw [he]
  dsimp only
  refine o_step_visit (R := PRel w0 q p r now L ns' _ _) h2 3 rfl ?_
  by_cases c0 : a = 0
  · rw [if_pos (.inl c0), c0]
    exact (o_vis_0 h2 he hn k1 hds n0 n1 hk c0).mono fun e w' k => ⟨_, k.1, ⟨A0, c, x⟩, rfl, (show St w0 (memA q ws1 ns' :: srcA r now ds1 :: emA x E' :: _ :: row32 _ shelf :: L) w' from k.2).re 5 [3, 4, 2, 0, 1]⟩
  by_cases c5 : a = 5
  · rw [if_pos (.inr c5), c5]
    exact (o_vis_5 h2 he hn k1 hds n0 n1 hk c5).mono fun e w' k => ⟨_, k.1, ⟨A0, c, x⟩, rfl, (show St w0 (memA q ws1 ns' :: srcA r now ds1 :: emA x E' :: _ :: row32 _ shelf :: L) w' from k.2).re 5 [3, 4, 2, 0, 1]⟩
  rw [if_neg (fun k => k.elim c0 c5)]
  by_cases c1 : a = 1
  · rw [if_neg (by simp [c1])]
    cases push with
    | true =>
      rw [if_pos rfl]
      exact (o_vis_1_push h2 he hn k1 hds n0 n1 hk c1).mono fun e w' k => ⟨_, k.1, ⟨A0, c, x⟩, rfl, (show St w0 (memA q ws1 ns' :: srcA r now ds1 :: emA x E' :: _ :: row32 _ shelf :: L) w' from k.2).re 5 [3, 4, 2, 0, 1]⟩
    | false =>
      rw [if_neg (by decide)]
      exact (o_vis_1_pop h2 he hn k1 hds n0 n1 hk c1 q4.1 q4.2 _ rfl).mono fun e w' k => ⟨_, k.1, ⟨A0, c, x⟩, rfl, (show St w0 (factA True :: _ :: memA q ws1 ns' :: srcA r now ds1 :: row32 _ shelf :: L) w' from k.2.factI trivial).re 5 [1, 4, 0, 2, 3]⟩
  · rw [if_pos c1]
    cases push with
    | true =>
      refine (o_vis_core_push h2 he hn k1 hds n0 n1 hk (by simpa using c0) (by simpa using c5) (by simpa using c1)).mono fun e w' k => ?_
      obtain ⟨y, e1, h3⟩ := k
      exact ⟨_, e1, ⟨A0, c, y⟩, rfl, (show St w0 (tlA y _ :: _ :: memA q ws1 ns' :: srcA r now ds1 :: row32 _ shelf :: L) w' from h3).re 5 [1, 4, 0, 2, 3]⟩
    | false =>
      refine (o_vis_core_pop h2 he hn k1 hds n0 n1 hk (by simpa using c0) (by simpa using c5) (by simpa using c1)).mono fun e w' k => ?_
      obtain ⟨y, e1, h3⟩ := k
      exact ⟨_, e1, ⟨A0, c, y⟩, rfl, (show St w0 (tlA y _ :: _ :: memA q ws1 ns' :: srcA r now ds1 :: row32 _ shelf :: L) w' from h3).re 5 [1, 4, 0, 2, 3]⟩
end parts
/-- A step of the part, whichever it is. -/
theorem op_pstep {w0 w : World} {q p r : Nat} {ws : List Int} {ns ns' : List Note} {now : Int} {ds : List Int} {L : List Asn} {S : OM} (hst : S.st = 0) (hn : ns ++ (S.pstep ws now ds).nt = ns') (hS : St w0 (memA q ws ns :: srcA r now ds :: opA p S :: L) w) (hok : S.ok ws.length ns.length) (hds : DsOk ds) (n0 : 0 ≤ now) (n1 : now < 18446744073709551616) (hk : ns.length ≤ 1000000000000) :
    Calls Tryz.prog 58 #[.pointer (some ⟨p, 0, none⟩), .pointer (some ⟨q, 0, none⟩), .pointer (some ⟨r, 0, none⟩)] w (PPost w0 q p r now L ns' S (S.pstep ws now ds)) := by
  obtain ⟨n, s, h, t, bud, base, wait, shelf, rg, ex, push, v, i, failed, part, st, retry⟩ := S
  dsimp only at hst
  subst hst
  cases part with
  | take A =>
    refine op_take ?_ hS hok hk
    rw [← hn]; unfold OM.pstep OM.took; dsimp only; split <;> rfl
  | give A =>
    refine op_give ?_ hS hok hk
    rw [← hn]; unfold OM.pstep OM.gave; dsimp only; split <;> rfl
  | tk T =>
    refine op_tried ?_ hS hok hk
    rw [← hn]; unfold OM.pstep OM.tried; dsimp only; (repeat' split) <;> rfl
  | visit E =>
    refine op_visit ?_ hS hok hds n0 n1 hk
    rw [← hn]; unfold OM.pstep OM.visited; dsimp only; (repeat' split) <;> rfl
  | acc a wr => exact op_acc hn hS hok hk
/-- What a step leaves as it was. -/
theorem OM.pstep_cfg (S : OM) (ws : List Int) (now : Int) (ds : List Int) : (S.pstep ws now ds).S.n = S.n ∧ (S.pstep ws now ds).S.s = S.s ∧ (S.pstep ws now ds).S.h = S.h ∧ (S.pstep ws now ds).S.t = S.t ∧ (S.pstep ws now ds).S.bud = S.bud ∧ (S.pstep ws now ds).S.base = S.base ∧ (S.pstep ws now ds).S.wait = S.wait ∧ (S.pstep ws now ds).S.push = S.push := by
  unfold OM.pstep
  cases S.part with
  | take A => dsimp only; unfold OM.took; dsimp only; split <;> exact ⟨rfl, rfl, rfl, rfl, rfl, rfl, rfl, rfl⟩
  | give A => dsimp only; unfold OM.gave; dsimp only; split <;> exact ⟨rfl, rfl, rfl, rfl, rfl, rfl, rfl, rfl⟩
  | tk T =>
    dsimp only
    unfold OM.tried
    dsimp only
    split
    · unfold OM.contS
      dsimp only
      (repeat' split) <;> exact ⟨rfl, rfl, rfl, rfl, rfl, rfl, rfl, rfl⟩
    · (repeat' split) <;> exact ⟨rfl, rfl, rfl, rfl, rfl, rfl, rfl, rfl⟩
  | visit E => dsimp only; unfold OM.visited; dsimp only; (repeat' split) <;> exact ⟨rfl, rfl, rfl, rfl, rfl, rfl, rfl, rfl⟩
  | acc a wr => dsimp only; unfold OM.accd; (repeat' split) <;> exact ⟨rfl, rfl, rfl, rfl, rfl, rfl, rfl, rfl⟩
/-- A step. -/
theorem op_step {w0 w : World} {q p r : Nat} {ws ws' : List Int} {ns ns' nt : List Note} {now : Int} {ds ds' : List Int} {L : List Asn} {S S' : OM} {a v : Int} (he : S.step ws now ds = ⟨a, S', ws', nt, ds'⟩) (hn : ns ++ nt = ns') (hv : S'.told a = v) (hS : St w0 (memA q ws ns :: srcA r now ds :: opA p S :: L) w) (hok : S.ok ws.length ns.length) (hds : DsOk ds) (n0 : 0 ≤ now) (n1 : now < 18446744073709551616) (hk : ns.length ≤ 1000000000000) :
    Calls Tryz.prog 18 #[.pointer (some ⟨p, 0, none⟩), .pointer (some ⟨q, 0, none⟩), .pointer (some ⟨r, 0, none⟩)] w fun e w' => e = .returned (.tuple #[.int .i64 a, .int .u64 v]) ∧ St w0 (memA q ws' ns' :: srcA r now ds' :: opA p S' :: L) w' := by
  by_cases hst : S.st = 0
  · have e1 : S.step ws now ds = ⟨(S.pstep ws now ds).r, { (S.pstep ws now ds).S with st := (S.pstep ws now ds).r }, (S.pstep ws now ds).ws, (S.pstep ws now ds).nt, (S.pstep ws now ds).ds⟩ := by unfold OM.step; rw [if_neg (by simp [hst])]
    rw [e1] at he
    obtain ⟨c1, c2, c3, c4, c5, c6, c7, c8⟩ := OM.pstep_cfg S ws now ds
    simp only [OOut.mk.injEq] at he
    obtain ⟨e2, e3, e4, e5, e6⟩ := he
    have hp := op_pstep hst (show ns ++ (S.pstep ws now ds).nt = ns' by rw [e5]; exact hn) hS hok hds n0 n1 hk
    obtain ⟨o, ho⟩ : ∃ o, S.pstep ws now ds = o := ⟨_, rfl⟩
    rw [ho] at hp e2 e3 e4 e5 e6 c1 c2 c3 c4 c5 c6 c7 c8
    obtain ⟨⟨A0, c, x⟩, h1⟩ := opA_open (hS.front 2 rfl)
    rw [hst] at h1
    have hp := hp.mono (R' := fun e w' => ∃ y : OIx, e = .returned (.int .i64 a) ∧ St w0 (opB p S.n S.s S.h S.t S.bud S.base S.wait (.slice y.1 o.S.shelf.length y.2.1) o.S.rg o.S.ex S.push o.S.v o.S.i o.S.failed (partV y.2.2 o.S.part) 0 o.S.retry :: row32 (.slice y.1 o.S.shelf.length y.2.1) o.S.shelf :: partA y.2.2 o.S.part :: memA q o.ws ns' :: srcA r now o.ds :: L) w') fun e w' k => by
      obtain ⟨c, k1, y, k2, k3⟩ := k
      exact ⟨y, by rw [k1, k2, e2], k3⟩
    have fin : ∀ (y : OIx) (w' : World), St w0 (opB p S.n S.s S.h S.t S.bud S.base S.wait (.slice y.1 o.S.shelf.length y.2.1) o.S.rg o.S.ex S.push o.S.v o.S.i o.S.failed (partV y.2.2 o.S.part) a o.S.retry :: row32 (.slice y.1 o.S.shelf.length y.2.1) o.S.shelf :: partA y.2.2 o.S.part :: memA q o.ws ns' :: srcA r now o.ds :: L) w' → St w0 (memA q ws' ns' :: srcA r now ds' :: opA p S' :: L) w' := by
      intro y w' h2
      have h3 : St w0 (opA p S' :: memA q ws' ns' :: srcA r now ds' :: L) w' := by
        rw [← e3, ← e4, ← e6, e2]
        refine opA_close y ?_
        dsimp only
        rw [c1, c2, c3, c4, c5, c6, c7, c8]
        exact h2
      exact h3.re 3 [1, 2, 0]
    have hpS : S'.push = S.push := by rw [← e3]; exact c8
    have hvS : S'.v = o.S.v := by rw [← e3]
    unfold OM.told at hv
    rw [hpS, hvS] at hv
    by_cases cp : S.push = true
    · rw [if_pos (.inl cp)] at hv
      subst hv
      rw [cp] at h1 hp
      refine (o_Step_live_push (R := fun y : OIx => _ :: _ :: _ :: _ :: L) h1 hp).mono fun e w' k => ?_
      obtain ⟨y, k1, k2⟩ := k
      exact ⟨k1, fin y w' (by rw [cp]; exact k2)⟩
    · have cp' : S.push = false := by simpa using cp
      rw [cp'] at h1 hp
      by_cases ca : a = 1
      · rw [if_neg (by simp [cp', ca])] at hv
        subst hv
        refine (o_Step_live_done (R := fun y : OIx => _ :: _ :: _ :: _ :: L) h1 hp ca).mono fun e w' k => ?_
        obtain ⟨y, k1, k2⟩ := k
        exact ⟨k1, fin y w' (by rw [cp']; exact k2)⟩
      · rw [if_pos (.inr ca)] at hv
        subst hv
        refine (o_Step_live_not (R := fun y : OIx => _ :: _ :: _ :: _ :: L) h1 hp (by simpa using ca)).mono fun e w' k => ?_
        obtain ⟨y, k1, k2⟩ := k
        exact ⟨k1, fin y w' (by rw [cp']; exact k2)⟩
  · have e1 : S.step ws now ds = ⟨S.st, S, ws, [], ds⟩ := by unfold OM.step; rw [if_pos hst]
    rw [e1] at he
    cases he
    rw [List.append_nil] at hn
    subst hn
    obtain ⟨x, h1⟩ := opA_open (hS.front 2 rfl)
    have fin : ∀ w', St w0 (opB p S.n S.s S.h S.t S.bud S.base S.wait (.slice x.1 S.shelf.length x.2.1) S.rg S.ex S.push S.v S.i S.failed (partV x.2.2 S.part) S.st S.retry :: row32 (.slice x.1 S.shelf.length x.2.1) S.shelf :: partA x.2.2 S.part :: memA q ws ns :: srcA r now ds :: L) w' → St w0 (memA q ws ns :: srcA r now ds :: opA p S :: L) w' := fun w' h2 => (opA_close x h2).re 3 [1, 2, 0]
    unfold OM.told at hv
    by_cases cp : S.push = true
    · rw [if_pos (.inl cp)] at hv
      subst hv
      rw [cp] at h1
      exact (o_Step_over_push h1 (by simpa using hst)).mono fun e w' k => ⟨k.1, fin w' (by rw [cp]; exact k.2)⟩
    · have cp' : S.push = false := by simpa using cp
      rw [cp'] at h1
      by_cases ca : S.st = 1
      · rw [if_neg (by simp [cp', ca])] at hv
        subst hv
        exact (o_Step_over_done h1 (by simpa using hst) ca).mono fun e w' k => ⟨k.1, fin w' (by rw [cp']; exact k.2)⟩
      · rw [if_pos (.inr ca)] at hv
        subst hv
        exact (o_Step_over_not h1 (by simpa using hst) (by simpa using ca)).mono fun e w' k => ⟨k.1, fin w' (by rw [cp']; exact k.2)⟩
end Go.Proofs.YtgfeagggkplegaaGreat
