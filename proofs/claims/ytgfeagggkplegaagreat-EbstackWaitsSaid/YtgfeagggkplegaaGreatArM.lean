/-
  arena's machines as machines of numbers: Take's Step and Give's Step do the same.
-/
import Derived.Test.YtgfeagggkplegaaGreatArS
namespace Go.Proofs.YtgfeagggkplegaaGreat
open Go.RowKit
set_option linter.unusedVariables false
set_option linter.unusedSimpArgs false

structure AM where
  n : Int
  s : Int
  h : Int
  t : Int
  give : Bool
  left : Int
  shelf : List Int
  node : Int
  now : Option TM
  st : Int
  i : Int
structure AOut where
  r : Int
  z : Int
  S : AM
  ws : List Int
  nt : List Note
def AM.fresh (S : AM) : TM := if S.give = true then newGv S.n S.s S.h S.t 1 S.node else newTk S.n S.s S.h S.t 1
def AM.try_ (S : AM) : TM := match S.now with | none => S.fresh | some T => T
/-- A step of a try. -/
def AM.goOn (S : AM) (ws : List Int) : AOut :=
  if S.st ≠ 0 then ⟨S.st, S.i, S, ws, []⟩
  else
    let o := S.try_.step ws
    let z := o.S.told o.r
    if o.r = 3 then
      if S.left = 0 then ⟨6, z, { S with now := none, st := 6, i := z, left := S.left - 1 }, o.ws, o.nt⟩
      else ⟨0, z, { S with now := none, st := 0, i := z, left := S.left - 1 }, o.ws, o.nt⟩
    else ⟨o.r, z, { S with now := some o.S, st := o.r, i := z }, o.ws, o.nt⟩
def AM.take (S : AM) (ws : List Int) : AOut :=
  if S.shelf ≠ [] ∧ S.st = 0 then ⟨1, S.shelf.getLastD 0, { S with shelf := S.shelf.dropLast, st := 1, i := S.shelf.getLastD 0 }, ws, []⟩
  else S.goOn ws
def AM.gives (S : AM) (ws : List Int) : AOut :=
  let o := S.goOn ws
  if o.r = 6 then ⟨1, S.node, { o.S with shelf := S.shelf ++ [S.node], st := 1, i := S.node }, o.ws, o.nt⟩ else o
def AM.step (S : AM) (ws : List Int) : AOut := if S.give = true then S.gives ws else S.take ws
/-- Numbers that fit. -/
structure AM.ok (S : AM) (N : Nat) : Prop where
  node0 : 0 ≤ S.node
  node1 : S.node < 4294967296
  l0 : -1 ≤ S.left
  l1 : S.left ≤ 9223372036854775807
  l2 : S.st = 0 → 0 ≤ S.left
  sl : S.shelf.length ≤ 1000000000000
  sl2 : S.st = 0 → S.shelf.length < 1000000000000
  srg : ∀ x ∈ S.shelf, 0 ≤ x ∧ x < 4294967296
  i0 : 0 ≤ S.i
  i1 : S.i < 4294967296
  now : ∀ T, S.now = some T → T.ok N ∧ T.give = S.give ∧ (S.st = 0 → T.st = 0)
theorem AM.fresh_ok {S : AM} {N : Nat} (h : S.ok N) : S.fresh.ok N ∧ S.fresh.give = S.give := by
  unfold AM.fresh
  by_cases c : S.give = true
  · rw [if_pos c]
    exact ⟨newGv_ok _ _ _ _ _ h.node0 h.node1 N, c.symm⟩
  · rw [if_neg c]
    exact ⟨newTk_ok _ _ _ _ _ N, (show S.give = false by simpa using c).symm⟩
theorem AM.try_ok {S : AM} {N : Nat} (h : S.ok N) : S.try_.ok N ∧ S.try_.give = S.give := by
  unfold AM.try_
  cases e : S.now with
  | none => exact AM.fresh_ok h
  | some T => exact ⟨(h.now T e).1, (h.now T e).2.1⟩
theorem St.unstarM {w0 w : World} {m : Asn} {l L : List Asn} (h : St w0 (m :: starA l :: L) w) : St w0 (m :: (l ++ L)) w := by
  have h1 : St w0 (l ++ m :: L) w := h.swap.unstar
  exact h1.perm List.perm_middle
theorem St.starM {w0 w : World} {m : Asn} {l L : List Asn} (h : St w0 (m :: (l ++ L)) w) : St w0 (m :: starA l :: L) w := by
  have h1 : St w0 (l ++ m :: L) w := h.perm List.perm_middle.symm
  exact h1.star.swap
/-- A machine in the heap. -/
def arA (p : Nat) (S : AM) : Asn :=
  match S.give, S.now with
  | false, none => exA fun x : Option Addr × Nat × Nat => starA [atB p S.left (.slice x.1 S.shelf.length x.2.1) (tkF x.2.2) .nilIface S.st S.i, row32 (.slice x.1 S.shelf.length x.2.1) S.shelf, bxC x.2.2 S.n S.s S.h S.t]
  | false, some T => exA fun x : Option Addr × Nat × Nat × Nat => starA [atB p S.left (.slice x.1 S.shelf.length x.2.1) (tkF x.2.2.1) (tkI x.2.2.2) S.st S.i, row32 (.slice x.1 S.shelf.length x.2.1) S.shelf, bxC x.2.2.1 S.n S.s S.h S.t, tlA x.2.2.2 T]
  | true, none => exA fun x : Option Addr × Nat × Nat × Nat => starA [agB p S.left (.slice x.1 S.shelf.length x.2.1) (gvF x.2.2.1 x.2.2.2) .nilIface S.st S.i S.node, row32 (.slice x.1 S.shelf.length x.2.1) S.shelf, bxC x.2.2.1 S.n S.s S.h S.t, bxN x.2.2.2 S.node]
  | true, some T => exA fun x : Option Addr × Nat × Nat × Nat × Nat => starA [agB p S.left (.slice x.1 S.shelf.length x.2.1) (gvF x.2.2.1 x.2.2.2.1) (gvI x.2.2.2.2) S.st S.i S.node, row32 (.slice x.1 S.shelf.length x.2.1) S.shelf, bxC x.2.2.1 S.n S.s S.h S.t, bxN x.2.2.2.1 S.node, tlA x.2.2.2.2 T]
section close
variable {w0 w : World} {m : Asn} {L : List Asn} {p : Nat} {n s h t left node st i : Int} {shelf : List Int} {A : Option Addr} {c bc bi v : Nat} {T : TM}
theorem arA_tn (hS : St w0 (m :: atB p left (.slice A shelf.length c) (tkF bc) .nilIface st i :: row32 (.slice A shelf.length c) shelf :: bxC bc n s h t :: L) w) : St w0 (m :: arA p ⟨n, s, h, t, false, left, shelf, node, none, st, i⟩ :: L) w :=
  St.unex2 (f := fun x : Option Addr × Nat × Nat => starA [_, _, _]) (A, c, bc) (St.starM (l := [_, _, _]) hS)
theorem arA_ts (hS : St w0 (m :: atB p left (.slice A shelf.length c) (tkF bc) (tkI v) st i :: row32 (.slice A shelf.length c) shelf :: bxC bc n s h t :: tlA v T :: L) w) : St w0 (m :: arA p ⟨n, s, h, t, false, left, shelf, node, some T, st, i⟩ :: L) w :=
  St.unex2 (f := fun x : Option Addr × Nat × Nat × Nat => starA [_, _, _, _]) (A, c, bc, v) (St.starM (l := [_, _, _, _]) hS)
theorem arA_gn (hS : St w0 (m :: agB p left (.slice A shelf.length c) (gvF bc bi) .nilIface st i node :: row32 (.slice A shelf.length c) shelf :: bxC bc n s h t :: bxN bi node :: L) w) : St w0 (m :: arA p ⟨n, s, h, t, true, left, shelf, node, none, st, i⟩ :: L) w :=
  St.unex2 (f := fun x : Option Addr × Nat × Nat × Nat => starA [_, _, _, _]) (A, c, bc, bi) (St.starM (l := [_, _, _, _]) hS)
theorem arA_gs (hS : St w0 (m :: agB p left (.slice A shelf.length c) (gvF bc bi) (gvI v) st i node :: row32 (.slice A shelf.length c) shelf :: bxC bc n s h t :: bxN bi node :: tlA v T :: L) w) : St w0 (m :: arA p ⟨n, s, h, t, true, left, shelf, node, some T, st, i⟩ :: L) w :=
  St.unex2 (f := fun x : Option Addr × Nat × Nat × Nat × Nat => starA [_, _, _, _, _]) (A, c, bc, bi, v) (St.starM (l := [_, _, _, _, _]) hS)
theorem arA_tn_open (hS : St w0 (m :: arA p ⟨n, s, h, t, false, left, shelf, node, none, st, i⟩ :: L) w) : ∃ A c bc, St w0 (m :: atB p left (.slice A shelf.length c) (tkF bc) .nilIface st i :: row32 (.slice A shelf.length c) shelf :: bxC bc n s h t :: L) w := by
  obtain ⟨⟨A, c, bc⟩, h1⟩ := St.ex2 hS
  exact ⟨A, c, bc, h1.unstarM⟩
theorem arA_ts_open (hS : St w0 (m :: arA p ⟨n, s, h, t, false, left, shelf, node, some T, st, i⟩ :: L) w) : ∃ A c bc v, St w0 (m :: atB p left (.slice A shelf.length c) (tkF bc) (tkI v) st i :: row32 (.slice A shelf.length c) shelf :: bxC bc n s h t :: tlA v T :: L) w := by
  obtain ⟨⟨A, c, bc, v⟩, h1⟩ := St.ex2 hS
  exact ⟨A, c, bc, v, h1.unstarM⟩
theorem arA_gn_open (hS : St w0 (m :: arA p ⟨n, s, h, t, true, left, shelf, node, none, st, i⟩ :: L) w) : ∃ A c bc bi, St w0 (m :: agB p left (.slice A shelf.length c) (gvF bc bi) .nilIface st i node :: row32 (.slice A shelf.length c) shelf :: bxC bc n s h t :: bxN bi node :: L) w := by
  obtain ⟨⟨A, c, bc, bi⟩, h1⟩ := St.ex2 hS
  exact ⟨A, c, bc, bi, h1.unstarM⟩
theorem arA_gs_open (hS : St w0 (m :: arA p ⟨n, s, h, t, true, left, shelf, node, some T, st, i⟩ :: L) w) : ∃ A c bc bi v, St w0 (m :: agB p left (.slice A shelf.length c) (gvF bc bi) (gvI v) st i node :: row32 (.slice A shelf.length c) shelf :: bxC bc n s h t :: bxN bi node :: tlA v T :: L) w := by
  obtain ⟨⟨A, c, bc, bi, v⟩, h1⟩ := St.ex2 hS
  exact ⟨A, c, bc, bi, v, h1.unstarM⟩
end close
/-- What a step leaves. -/
def ArPost (w0 : World) (q p : Nat) (ns : List Note) (L : List Asn) (o : AOut) (e : Ending) (w' : World) : Prop :=
  e = .returned (.tuple #[.int .i64 o.r, .int .u32 o.z]) ∧ St w0 (memA q o.ws (ns ++ o.nt) :: arA p o.S :: L) w'
/-- A step of a try, of a Take. -/
theorem take_goOn {w0 w : World} {q p : Nat} {ws : List Int} {ns : List Note} {L : List Asn} {S : AM} (hg : S.give = false) (hS : St w0 (memA q ws ns :: arA p S :: L) w) (hok : S.ok ws.length) (hk : ns.length ≤ 1000000000000) :
    Calls Tryz.prog 136 #[.pointer (some ⟨p, 0, none⟩), .pointer (some ⟨q, 0, none⟩)] w (ArPost w0 q p ns L (S.goOn ws)) := by
  obtain ⟨htok, htg⟩ := AM.try_ok hok
  have l0 := hok.l0
  have l1 := hok.l1
  obtain ⟨n, s, h, t, give, left, shelf, node, now, st, i⟩ := S
  dsimp only at hg htg l0 l1
  subst hg
  by_cases hst : st ≠ 0
  · have e : AM.goOn ⟨n, s, h, t, false, left, shelf, node, now, st, i⟩ ws = ⟨st, i, ⟨n, s, h, t, false, left, shelf, node, now, st, i⟩, ws, []⟩ := by simp [AM.goOn, hst]
    rw [e]
    unfold ArPost
    dsimp only
    rw [List.append_nil]
    cases now with
    | none =>
      obtain ⟨A, c, bc, h1⟩ := arA_tn_open hS
      exact (tka_over left _ _ _ st i h1 (by simpa using hst)).mono fun e w' k => ⟨k.1, arA_tn k.2⟩
    | some T =>
      obtain ⟨A, c, bc, v, h1⟩ := arA_ts_open hS
      exact (tka_over left _ _ _ st i h1 (by simpa using hst)).mono fun e w' k => ⟨k.1, arA_ts k.2⟩
  obtain rfl : st = 0 := by simpa using hst
  clear hst
  obtain ⟨⟨r, S', ws', nt⟩, he⟩ : ∃ o, (AM.try_ ⟨n, s, h, t, false, left, shelf, node, now, 0, i⟩).step ws = o := ⟨_, rfl⟩
  have hz : AM.goOn ⟨n, s, h, t, false, left, shelf, node, now, 0, i⟩ ws = (if r = 3 then (if left = 0 then ⟨6, S'.told r, ⟨n, s, h, t, false, left - 1, shelf, node, none, 6, S'.told r⟩, ws', nt⟩ else ⟨0, S'.told r, ⟨n, s, h, t, false, left - 1, shelf, node, none, 0, S'.told r⟩, ws', nt⟩) else ⟨r, S'.told r, ⟨n, s, h, t, false, left, shelf, node, some S', r, S'.told r⟩, ws', nt⟩) := by
    unfold AM.goOn
    simp only [ne_eq, not_true_eq_false, if_false, he]
  rw [hz]
  clear hz
  obtain ⟨z, hz⟩ : ∃ z, S'.told r = z := ⟨_, rfl⟩
  rw [hz]
  cases now with
  | none =>
    have hf : AM.try_ ⟨n, s, h, t, false, left, shelf, node, none, 0, i⟩ = newTk n s h t 1 := rfl
    rw [hf] at he htok
    obtain ⟨A, c, bc, h1⟩ := arA_tn_open hS
    have h3 : St w0 (memA q ws ns :: atB p left (.slice A shelf.length c) (tkF bc) .nilIface 0 i :: bxC bc n s h t :: row32 (.slice A shelf.length c) shelf :: L) w := h1.re 4 [0, 1, 3, 2]
    by_cases c3 : r = 3
    · rw [if_pos c3]
      by_cases c0 : left = 0
      · rw [if_pos c0]
        exact (tka_new_last left _ i bc n s h t r z h3 he rfl hz htok hk c3 (by simpa using c0) (by omega) l1).mono fun e w' k => by
          obtain ⟨v, k1, k2⟩ := k
          exact ⟨k1, arA_tn (k2.re 5 [0, 1, 4, 3])⟩
      · rw [if_neg c0]
        exact (tka_new_left left _ i bc n s h t r z h3 he rfl hz htok hk c3 (by simpa using c0) (by omega) l1).mono fun e w' k => by
          obtain ⟨v, k1, k2⟩ := k
          exact ⟨k1, arA_tn (k2.re 5 [0, 1, 4, 3])⟩
    · rw [if_neg c3]
      exact (tka_new_more left _ i bc n s h t r z h3 he rfl hz htok hk (by simpa using c3)).mono fun e w' k => by
        obtain ⟨v, k1, k2⟩ := k
        exact ⟨k1, arA_ts (k2.re 5 [0, 1, 4, 3, 2])⟩
  | some T =>
    have hf : AM.try_ ⟨n, s, h, t, false, left, shelf, node, some T, 0, i⟩ = T := rfl
    rw [hf] at he htok htg
    obtain ⟨A, c, bc, v, h1⟩ := arA_ts_open hS
    have h3 : St w0 (memA q ws ns :: atB p left (.slice A shelf.length c) (tkF bc) (tkI v) 0 i :: tlA v T :: row32 (.slice A shelf.length c) shelf :: bxC bc n s h t :: L) w := h1.re 5 [0, 1, 4, 2, 3]
    by_cases c3 : r = 3
    · rw [if_pos c3]
      by_cases c0 : left = 0
      · rw [if_pos c0]
        exact (tka_now_last left _ i v _ r z h3 he rfl hz htg htok hk c3 (by simpa using c0) (by omega) l1).mono fun e w' k => ⟨k.1, arA_tn (k.2.re 5 [0, 1, 3, 4])⟩
      · rw [if_neg c0]
        exact (tka_now_left left _ i v _ r z h3 he rfl hz htg htok hk c3 (by simpa using c0) (by omega) l1).mono fun e w' k => ⟨k.1, arA_tn (k.2.re 5 [0, 1, 3, 4])⟩
    · rw [if_neg c3]
      exact (tka_now_more left _ i v _ r z h3 he rfl hz htg htok hk (by simpa using c3)).mono fun e w' k => ⟨k.1, arA_ts (k.2.re 5 [0, 1, 3, 4, 2])⟩
/-- A step of a try, of a Give. -/
theorem give_goOn {w0 w : World} {q p : Nat} {ws : List Int} {ns : List Note} {L : List Asn} {S : AM} (hg : S.give = true) (hS : St w0 (memA q ws ns :: arA p S :: L) w) (hok : S.ok ws.length) (hk : ns.length ≤ 1000000000000) :
    Calls Tryz.prog 136 #[.pointer (some ⟨p, 0, none⟩), .pointer (some ⟨q, 0, none⟩)] w (ArPost w0 q p ns L (S.goOn ws)) := by
  obtain ⟨htok, htg⟩ := AM.try_ok hok
  have l0 := hok.l0
  have l1 := hok.l1
  obtain ⟨n, s, h, t, give, left, shelf, node, now, st, i⟩ := S
  dsimp only at hg htg l0 l1
  subst hg
  by_cases hst : st ≠ 0
  · have e : AM.goOn ⟨n, s, h, t, true, left, shelf, node, now, st, i⟩ ws = ⟨st, i, ⟨n, s, h, t, true, left, shelf, node, now, st, i⟩, ws, []⟩ := by simp [AM.goOn, hst]
    rw [e]
    unfold ArPost
    dsimp only
    rw [List.append_nil]
    cases now with
    | none =>
      obtain ⟨A, c, bc, bi, h1⟩ := arA_gn_open hS
      exact (gva_over left _ _ _ st i node h1 (by simpa using hst)).mono fun e w' k => ⟨k.1, arA_gn k.2⟩
    | some T =>
      obtain ⟨A, c, bc, bi, v, h1⟩ := arA_gs_open hS
      exact (gva_over left _ _ _ st i node h1 (by simpa using hst)).mono fun e w' k => ⟨k.1, arA_gs k.2⟩
  obtain rfl : st = 0 := by simpa using hst
  clear hst
  obtain ⟨⟨r, S', ws', nt⟩, he⟩ : ∃ o, (AM.try_ ⟨n, s, h, t, true, left, shelf, node, now, 0, i⟩).step ws = o := ⟨_, rfl⟩
  have hz : AM.goOn ⟨n, s, h, t, true, left, shelf, node, now, 0, i⟩ ws = (if r = 3 then (if left = 0 then ⟨6, S'.told r, ⟨n, s, h, t, true, left - 1, shelf, node, none, 6, S'.told r⟩, ws', nt⟩ else ⟨0, S'.told r, ⟨n, s, h, t, true, left - 1, shelf, node, none, 0, S'.told r⟩, ws', nt⟩) else ⟨r, S'.told r, ⟨n, s, h, t, true, left, shelf, node, some S', r, S'.told r⟩, ws', nt⟩) := by
    unfold AM.goOn
    simp only [ne_eq, not_true_eq_false, if_false, he]
  rw [hz]
  clear hz
  obtain ⟨z, hz⟩ : ∃ z, S'.told r = z := ⟨_, rfl⟩
  rw [hz]
  cases now with
  | none =>
    have hf : AM.try_ ⟨n, s, h, t, true, left, shelf, node, none, 0, i⟩ = newGv n s h t 1 node := rfl
    rw [hf] at he htok
    obtain ⟨A, c, bc, bi, h1⟩ := arA_gn_open hS
    have h3 : St w0 (memA q ws ns :: agB p left (.slice A shelf.length c) (gvF bc bi) .nilIface 0 i node :: bxC bc n s h t :: bxN bi node :: row32 (.slice A shelf.length c) shelf :: L) w := h1.re 5 [0, 1, 3, 4, 2]
    by_cases c3 : r = 3
    · rw [if_pos c3]
      by_cases c0 : left = 0
      · rw [if_pos c0]
        exact (gva_new_last left _ i bc bi n s h t node r z h3 he rfl hz htok hk c3 (by simpa using c0) (by omega) l1).mono fun e w' k => by
          obtain ⟨v, k1, k2⟩ := k
          exact ⟨k1, arA_gn (k2.re 6 [0, 1, 5, 3, 4])⟩
      · rw [if_neg c0]
        exact (gva_new_left left _ i bc bi n s h t node r z h3 he rfl hz htok hk c3 (by simpa using c0) (by omega) l1).mono fun e w' k => by
          obtain ⟨v, k1, k2⟩ := k
          exact ⟨k1, arA_gn (k2.re 6 [0, 1, 5, 3, 4])⟩
    · rw [if_neg c3]
      exact (gva_new_more left _ i bc bi n s h t node r z h3 he rfl hz htok hk (by simpa using c3)).mono fun e w' k => by
        obtain ⟨v, k1, k2⟩ := k
        exact ⟨k1, arA_gs (k2.re 6 [0, 1, 5, 3, 4, 2])⟩
  | some T =>
    have hf : AM.try_ ⟨n, s, h, t, true, left, shelf, node, some T, 0, i⟩ = T := rfl
    rw [hf] at he htok htg
    obtain ⟨A, c, bc, bi, v, h1⟩ := arA_gs_open hS
    have h3 : St w0 (memA q ws ns :: agB p left (.slice A shelf.length c) (gvF bc bi) (gvI v) 0 i node :: tlA v T :: row32 (.slice A shelf.length c) shelf :: bxC bc n s h t :: bxN bi node :: L) w := h1.re 6 [0, 1, 5, 2, 3, 4]
    by_cases c3 : r = 3
    · rw [if_pos c3]
      by_cases c0 : left = 0
      · rw [if_pos c0]
        exact (gva_now_last left _ i v _ node r z h3 he rfl hz htg htok hk c3 (by simpa using c0) (by omega) l1).mono fun e w' k => ⟨k.1, arA_gn (k.2.re 6 [0, 1, 3, 4, 5])⟩
      · rw [if_neg c0]
        exact (gva_now_left left _ i v _ node r z h3 he rfl hz htg htok hk c3 (by simpa using c0) (by omega) l1).mono fun e w' k => ⟨k.1, arA_gn (k.2.re 6 [0, 1, 3, 4, 5])⟩
    · rw [if_neg c3]
      exact (gva_now_more left _ i v _ node r z h3 he rfl hz htg htok hk (by simpa using c3)).mono fun e w' k => ⟨k.1, arA_gs (k.2.re 6 [0, 1, 3, 4, 5, 2])⟩
theorem last_app {l : List Int} (h : l ≠ []) : l.dropLast ++ [l.getLastD 0] = l := by
  rw [List.getLastD_eq_getLast?, List.getLast?_eq_some_getLast h]
  exact List.dropLast_concat_getLast h
/-- A Take's step. -/
theorem atake_step {w0 w : World} {q p : Nat} {ws : List Int} {ns : List Note} {L : List Asn} {S : AM} (hg : S.give = false) (hS : St w0 (memA q ws ns :: arA p S :: L) w) (hok : S.ok ws.length) (hk : ns.length ≤ 1000000000000) :
    Calls Tryz.prog 108 #[.pointer (some ⟨p, 0, none⟩), .pointer (some ⟨q, 0, none⟩)] w (ArPost w0 q p ns L (S.step ws)) := by
  have e0 : S.step ws = S.take ws := by unfold AM.step; rw [if_neg (by simp [hg])]
  rw [e0]
  clear e0
  have hgo := take_goOn hg hS hok hk
  have hsl := hok.sl
  by_cases hp : S.shelf ≠ [] ∧ S.st = 0
  · have e1 : S.take ws = ⟨1, S.shelf.getLastD 0, { S with shelf := S.shelf.dropLast, st := 1, i := S.shelf.getLastD 0 }, ws, []⟩ := by unfold AM.take; rw [if_pos hp]
    rw [e1]
    unfold ArPost
    dsimp only
    rw [List.append_nil]
    clear hgo e1
    obtain ⟨n, s, h, t, give, left, shelf, node, now, st, i⟩ := S
    dsimp only at hg hp hsl ⊢
    obtain ⟨hp1, rfl⟩ := hp
    subst hg
    obtain ⟨l, x, rfl⟩ : ∃ l x, shelf = l ++ [x] := ⟨_, _, (last_app hp1).symm⟩
    have d1 : (l ++ [x]).dropLast = l := by simp
    have d2 : (l ++ [x]).getLastD 0 = x := by simp [List.getLastD_eq_getLast?]
    rw [d1, d2]
    have hlen : (l ++ [x]).length = l.length + 1 := by simp
    rw [hlen] at hsl
    cases now with
    | none =>
      obtain ⟨A, c, bc, h1⟩ := arA_tn_open hS
      rw [hlen] at h1
      exact (ta_pop left A l.length c _ _ i x l h1 rfl (by omega)).mono fun e w' k => ⟨k.1, arA_tn k.2⟩
    | some T =>
      obtain ⟨A, c, bc, v, h1⟩ := arA_ts_open hS
      rw [hlen] at h1
      exact (ta_pop left A l.length c _ _ i x l h1 rfl (by omega)).mono fun e w' k => ⟨k.1, arA_ts k.2⟩
  · have e1 : S.take ws = S.goOn ws := by unfold AM.take; rw [if_neg hp]
    rw [e1]
    have body : ∀ (A : Option Addr) (c : Nat) (fv nv : Value) (L' : List Asn), St w0 (memA q ws ns :: atB p S.left (.slice A S.shelf.length c) fv nv S.st S.i :: L') w → Calls Tryz.prog 108 #[.pointer (some ⟨p, 0, none⟩), .pointer (some ⟨q, 0, none⟩)] w (ArPost w0 q p ns L (S.goOn ws)) := by
      intro A c fv nv L' h1
      by_cases c0 : S.shelf = []
      · have h2 : St w0 (memA q ws ns :: atB p S.left (.slice A 0 c) fv nv S.st S.i :: L') w := by
          have e : S.shelf.length = 0 := by rw [c0]; rfl
          rw [e] at h1
          exact h1
        exact ta_empty S.left A c fv nv S.st S.i _ _ _ h2 hgo
      · obtain ⟨k, hk1⟩ : ∃ k, S.shelf.length = k + 1 := ⟨S.shelf.length - 1, by have := List.length_pos_iff.2 c0; omega⟩
        rw [hk1] at h1
        have hst : S.st ≠ 0 := fun e => hp ⟨c0, e⟩
        exact ta_busy S.left A k c fv nv S.st S.i _ _ _ h1 (by simpa using hst) (by omega) hgo
    obtain ⟨n, s, h, t, give, left, shelf, node, now, st, i⟩ := S
    dsimp only at hg
    subst hg
    cases now with
    | none =>
      obtain ⟨A, c, bc, h1⟩ := arA_tn_open hS
      exact body A c _ _ _ h1
    | some T =>
      obtain ⟨A, c, bc, v, h1⟩ := arA_ts_open hS
      exact body A c _ _ _ h1
/-- A Give's step. -/
theorem agive_step {w0 w : World} {q p : Nat} {ws : List Int} {ns : List Note} {L : List Asn} {S : AM} (hg : S.give = true) (hS : St w0 (memA q ws ns :: arA p S :: L) w) (hok : S.ok ws.length) (hk : ns.length ≤ 1000000000000) :
    Calls Tryz.prog 111 #[.pointer (some ⟨p, 0, none⟩), .pointer (some ⟨q, 0, none⟩)] w (ArPost w0 q p ns L (S.step ws)) := by
  have e0 : S.step ws = S.gives ws := by unfold AM.step; rw [if_pos hg]
  rw [e0]
  clear e0
  have hgo := give_goOn hg hS hok hk
  have hsl := hok.sl
  by_cases h6 : (S.goOn ws).r = 6
  · have e1 : S.gives ws = ⟨1, S.node, { (S.goOn ws).S with shelf := S.shelf ++ [S.node], st := 1, i := S.node }, (S.goOn ws).ws, (S.goOn ws).nt⟩ := by unfold AM.gives; dsimp only; rw [if_pos h6]
    rw [e1]
    have hsh : (S.goOn ws).S.shelf = S.shelf ∧ (S.goOn ws).S.node = S.node ∧ (S.goOn ws).S.give = true := by
      unfold AM.goOn
      dsimp only
      repeat' split
      all_goals exact ⟨rfl, rfl, hg⟩
    unfold ArPost at hgo
    rw [h6] at hgo
    have hst6 : (S.goOn ws).S.st = 6 := by
      revert h6
      unfold AM.goOn
      dsimp only
      repeat' split
      · exact fun e => e
      · exact fun _ => rfl
      · exact fun e => by cases e
      · exact fun e => e
    generalize (S.goOn ws).z = z at *
    generalize (S.goOn ws).ws = ws' at *
    generalize (S.goOn ws).nt = nt at *
    generalize (S.goOn ws).S = S1 at *
    obtain ⟨h1, h2, h3⟩ := hsh
    obtain ⟨n, s, h, t, give, left, shelf, node, now, st, i⟩ := S1
    dsimp only at h1 h2 h3 hst6 ⊢
    subst h3 hst6
    rw [← h1, ← h2]
    rw [← h1] at hsl
    unfold ArPost
    dsimp only
    have hlen : (shelf ++ [node]).length = shelf.length + 1 := by simp
    cases now with
    | none =>
      refine (ga_retry shelf.length node z shelf (fun left' fv nv i' L' => left' = left ∧ ∃ bc bi, fv = gvF bc bi ∧ nv = .nilIface ∧ L' = bxC bc n s h t :: bxN bi node :: L) rfl hsl (hgo.mono fun e w' k => ⟨k.1, by
        obtain ⟨A, c, bc, bi, h1⟩ := arA_gn_open k.2
        exact ⟨_, A, c, _, _, _, _, ⟨rfl, bc, bi, rfl, rfl, rfl⟩, h1⟩⟩)).mono fun e w' k => ⟨k.1, ?_⟩
      obtain ⟨g, c', left', fv, nv, i', L', ⟨rfl, bc, bi, rfl, rfl, rfl⟩, k2⟩ := k.2
      rw [← hlen] at k2
      exact arA_gn k2
    | some T =>
      refine (ga_retry shelf.length node z shelf (fun left' fv nv i' L' => left' = left ∧ ∃ bc bi v, fv = gvF bc bi ∧ nv = gvI v ∧ L' = bxC bc n s h t :: bxN bi node :: tlA v T :: L) rfl hsl (hgo.mono fun e w' k => ⟨k.1, by
        obtain ⟨A, c, bc, bi, v, h1⟩ := arA_gs_open k.2
        exact ⟨_, A, c, _, _, _, _, ⟨rfl, bc, bi, v, rfl, rfl, rfl⟩, h1⟩⟩)).mono fun e w' k => ⟨k.1, ?_⟩
      obtain ⟨g, c', left', fv, nv, i', L', ⟨rfl, bc, bi, v, rfl, rfl, rfl⟩, k2⟩ := k.2
      rw [← hlen] at k2
      exact arA_gs k2
  · have e1 : S.gives ws = S.goOn ws := by unfold AM.gives; dsimp only; rw [if_neg h6]
    rw [e1]
    exact ga_plain _ _ _ (by simpa using h6) hgo
theorem TM.step_z {S : TM} {N : Nat} (h : S.ok N) (r : Int) : 0 ≤ S.told r ∧ S.told r < 4294967296 := by
  unfold TM.told
  split
  · exact ⟨h.i0, h.i1⟩
  · exact ⟨Int.le_refl _, by decide⟩
theorem TM.give_step_eq (S : TM) (ws : List Int) : (S.step ws).S.give = S.give := by
  unfold TM.step TM.head TM.second TM.last
  dsimp only
  repeat' split
  all_goals rfl
theorem TM.step_st {S : TM} (h : S.st = 0) (ws : List Int) : (S.step ws).S.st = (S.step ws).r ∧ (S.step ws).r ≠ 6 ∧ (S.step ws).r ≠ 4 ∧ 0 ≤ (S.step ws).r ∧ (S.step ws).r ≤ 5 := by
  unfold TM.step TM.head TM.second TM.last
  dsimp only
  repeat' split
  all_goals first | (exact absurd h (by assumption)) | simp [h]
theorem AM.try_st {S : AM} {N : Nat} (h : S.ok N) (hst : S.st = 0) : S.try_.st = 0 := by
  unfold AM.try_
  cases e : S.now with
  | none =>
    unfold AM.fresh
    dsimp only
    split <;> rfl
  | some T => exact (h.now T e).2.2 hst
theorem AM.goOn_ok {S : AM} {ws : List Int} (h : S.ok ws.length) (hr : ∀ i, i < ws.length → 0 ≤ rdW ws i ∧ rdW ws i < 18446744073709551616) : (S.goOn ws).S.ok ws.length ∧ ((S.goOn ws).S.give = S.give ∧ (S.goOn ws).S.shelf = S.shelf ∧ (S.goOn ws).S.node = S.node) ∧ (S.goOn ws).ws.length = ws.length ∧ (0 ≤ (S.goOn ws).z ∧ (S.goOn ws).z < 4294967296) ∧ (S.goOn ws).S.st = (S.goOn ws).r := by
  obtain ⟨h1, h2⟩ := AM.try_ok h
  have h3 := TM.step_ok h1 hr
  have h4 := TM.step_len S.try_ ws
  have h5 := TM.give_step_eq S.try_ ws
  have hz := TM.step_z h3 (S.try_.step ws).r
  have l2 := h.l2
  have l1 := h.l1
  have htst := AM.try_st h
  unfold AM.goOn
  dsimp only
  split
  · exact ⟨h, ⟨rfl, rfl, rfl⟩, rfl, ⟨h.i0, h.i1⟩, rfl⟩
  rename_i hst
  have hst' : S.st = 0 := by simpa using hst
  have l3 := l2 hst'
  have h6 := TM.step_st (htst hst') ws
  split
  · split
    · exact ⟨⟨h.node0, h.node1, (by show -1 ≤ S.left - 1; omega), (by show S.left - 1 ≤ _; omega), (fun e => by cases e), h.sl, (fun e => by cases e), h.srg, hz.1, hz.2, (fun T e => by cases e)⟩, ⟨rfl, rfl, rfl⟩, h4, hz, rfl⟩
    · rename_i hl
      exact ⟨⟨h.node0, h.node1, (by show -1 ≤ S.left - 1; omega), (by show S.left - 1 ≤ _; omega), (fun _ => by show 0 ≤ S.left - 1; omega), h.sl, (fun _ => h.sl2 hst'), h.srg, hz.1, hz.2, (fun T e => by cases e)⟩, ⟨rfl, rfl, rfl⟩, h4, hz, rfl⟩
  · exact ⟨⟨h.node0, h.node1, h.l0, h.l1, (fun _ => l3), h.sl, (fun _ => h.sl2 hst'), h.srg, hz.1, hz.2, (fun T e => by cases e; exact ⟨h3, h5.trans h2, fun c => h6.1.trans c⟩)⟩, ⟨rfl, rfl, rfl⟩, h4, hz, rfl⟩
theorem AM.step_ok {S : AM} {ws : List Int} (h : S.ok ws.length) (hg6 : S.give = true → S.st ≠ 6) (hr : ∀ i, i < ws.length → 0 ≤ rdW ws i ∧ rdW ws i < 18446744073709551616) : (S.step ws).S.ok ws.length ∧ (S.step ws).S.give = S.give ∧ (S.step ws).ws.length = ws.length ∧ (0 ≤ (S.step ws).z ∧ (S.step ws).z < 4294967296) ∧ (S.step ws).S.st = (S.step ws).r ∧ (S.give = true → (S.step ws).S.st ≠ 6) := by
  obtain ⟨h1, ⟨h2, h3, h3n⟩, h4, h5, h7⟩ := AM.goOn_ok h hr
  unfold AM.step
  split
  · rename_i hg
    unfold AM.gives
    dsimp only
    split
    · rename_i h6
      have hn : (S.goOn ws).S.node = S.node := h3n
      have hst : S.st = 0 := by
        by_cases c : S.st = 0
        · exact c
        · have e : (S.goOn ws).r = S.st := by unfold AM.goOn; dsimp only; rw [if_pos c]
          exact absurd (by rw [← e]; exact h6) (hg6 hg)
      refine ⟨⟨(by show 0 ≤ (S.goOn ws).S.node; rw [hn]; exact h.node0), (by show (S.goOn ws).S.node < _; rw [hn]; exact h.node1), h1.l0, h1.l1, (fun e => by cases e), ?_, (fun e => by cases e), ?_, h.node0, h.node1, (fun T e => ⟨(h1.now T e).1, (h1.now T e).2.1, fun c => by cases c⟩)⟩, h2, h4, ⟨h.node0, h.node1⟩, rfl, fun _ => by show (1 : Int) ≠ 6; decide⟩
      · show (S.shelf ++ [S.node]).length ≤ _
        rw [List.length_append]
        have := h.sl2 hst
        simp
        omega
      · intro x hx
        rcases List.mem_append.1 hx with hx | hx
        · exact h.srg x hx
        · obtain rfl := List.mem_singleton.1 hx
          exact ⟨h.node0, h.node1⟩
    · rename_i h6
      exact ⟨h1, h2, h4, h5, h7, fun _ => by rw [h7]; exact h6⟩
  · rename_i hg
    unfold AM.take
    split
    · rename_i hp
      have hx : S.shelf.getLastD 0 ∈ S.shelf := by
        rw [List.getLastD_eq_getLast?, List.getLast?_eq_some_getLast hp.1]
        exact List.getLast_mem hp.1
      have := h.srg _ hx
      refine ⟨⟨h.node0, h.node1, h.l0, h.l1, (fun e => by cases e), ?_, (fun e => by cases e), fun x hx => h.srg x (List.dropLast_subset _ hx), this.1, this.2, (fun T e => ⟨(h.now T e).1, (h.now T e).2.1, fun c => by cases c⟩)⟩, rfl, rfl, this, rfl, fun c => absurd c hg⟩
      have := h.sl
      show S.shelf.dropLast.length ≤ _
      rw [List.length_dropLast]
      omega
    · exact ⟨h1, h2, h4, h5, h7, fun c => absurd c hg⟩
end Go.Proofs.YtgfeagggkplegaaGreat
