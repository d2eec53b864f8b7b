/-
  Chapter 7: both memories and both machines, side by side.
-/
import Derived.Test.YtndigbkhaajjoaaMade7
import Derived.Test.YtndigbkhaajjoaaJobs7
import Derived.Test.YtndigbkhaajjoaaAlone7
namespace Go.Proofs.Ytndigbkhaajjoaa
open Go.RowKit
set_option linter.unusedVariables false
set_option linter.unusedSimpArgs false

set_option maxHeartbeats 4000000 in
theorem same7 (A B : Option Addr) (n c d : Nat) (ws : List Int) (w : World) (hA : RdU w A ws) (hB : RdU w B ws) (hn : ws.length = n) (hl : n ≤ 1024) :
    Calls Try.prog 33 #[.slice A n c, .slice B n d] w fun e w' => e = .returned (.bool true) ∧ Below w.heap.size w w' := by
  have HA := Lib.hid hA
  have HB := Lib.hid hB
  clear hA hB
  go_enter Try.func33, Try.ntmps33
  go_wp2
  go_loopg [5] 1025 (fun kq y w' => ∃ i : Nat, y = .int .i64 i ∧ i ≤ n ∧ i + kq = 1025 ∧ Below w.heap.size w w')
  case atStart => exact ⟨0, rfl, by omega, by omega, bl_refl w⟩
  case round =>
    obtain ⟨i, rfl, hi, hkq, hS⟩ := hrel
    have HS := Lib.hid hS
    cases gk with
    | zero => omega
    | succ kk =>
      by_cases c4 : i < n
      · have c4b : decide ((i : Int) < n) = true := decide_eq_true (by omega)
        have r0 : (0 : Int) ≤ (i : Int) := by omega
        have r1 : (i : Int) < (n : Int) := by omega
        obtain ⟨ad, rfl, hc⟩ := HA.out.cellA (show i < ws.length by omega)
        obtain ⟨bd, rfl, hd⟩ := HB.out.cellA (show i < ws.length by omega)
        have f1 := (hS.cell (World.block_lt_of_cell? _ _ hc)).trans hc
        have f2 := (hS.cell (World.block_lt_of_cell? _ _ hd)).trans hd
        clear hS hc hd
        go_wp2
        go_quiet (fail)
        go_wp2
        go_roundg kk
        case measure => omega
        case rel => exact ⟨i + 1, rfl, by omega, by omega, bl_drewN HS.out _⟩
      · have c4b : decide ((i : Int) < n) = false := decide_eq_false (by omega)
        clear hS
        go_wp2
        go_ret
        exact ⟨rfl, HS.out⟩
open Go.ChangeShapes Go.WideShapes in
theorem IsRow.rdU {w : World} {A : Option Addr} {len cap : Nat} {zs : List Int} (h : IsRow .u64 w A len cap zs) : RdU w A (zs.take len) ∧ (zs.take len).length = len ∧ ∀ x ∈ zs.take len, 0 ≤ x ∧ x < 18446744073709551616 := by
  rcases h with ⟨rfl, rfl, rfl, rfl⟩ | ⟨ad, rfl, hl, hm, hz, hc, hw⟩
  · exact ⟨⟨fun _ => rfl, fun h => by simp at h⟩, rfl, fun x hx => by simp at hx⟩
  · have hlen : (zs.take len).length = len := by rw [List.length_take]; omega
    refine ⟨⟨fun e => (by simp at e), fun _ => ⟨ad, rfl, fun j u hu => ?_⟩⟩, hlen, fun x hx => rngU64 (hw x (List.mem_of_mem_take hx))⟩
    rw [List.getElem?_map] at hu
    obtain ⟨v, hv, rfl⟩ := Option.map_eq_some_iff.1 hu
    rw [List.getElem?_take] at hv
    split at hv
    · have := hc j (List.getElem?_eq_some_iff.1 hv).1
      rw [List.getD_eq_getElem?_getD, hv] at this
      exact this
    · cases hv

noncomputable abbrev headA7 (q y : Nat) (ws : List Int) (ns : List Note) : Asn := starA [memA q ws ns, refA y ws ns]
/-- A machine of each kind: the program's at p, the document's at b. -/
abbrev Tw := Nat × Nat × TM
def thP (_ : Nat) (x : Tw) : Asn := starA [tlA x.1 x.2.2, rtA x.2.1 x.2.2]
def prA (x : Tw) : Value := if x.2.2.give = true then .pointer none else ptrV x.1
def prB (x : Tw) : Value := if x.2.2.give = true then ptrV x.1 else .pointer none
theorem pairOf_tw (x : Tw) : PairOf x.2.2 x.1 (prA x) (prB x) := by
  obtain ⟨p, b, S⟩ := x
  unfold PairOf prA prB
  cases h : S.give
  · left; simp [h, ptrV]
  · right; simp [h, ptrV]
def prs : List Tw → List Value
  | [] => []
  | x :: r => prA x :: prB x :: ptrV x.2.1 :: prs r
theorem prs_snoc (x : Tw) : ∀ l : List Tw, prs (l ++ [x]) = prs l ++ [prA x, prB x, ptrV x.2.1]
  | [] => rfl
  | y :: r => congrArg (fun z => prA y :: prB y :: ptrV y.2.1 :: z) (prs_snoc x r)
theorem prs_get : ∀ {l : List Tw} {k : Nat} {t : Tw}, l[k]? = some t → (prs l)[k * 3]? = some (prA t) ∧ (prs l)[k * 3 + 1]? = some (prB t) ∧ (prs l)[k * 3 + 2]? = some (ptrV t.2.1)
  | [], k, t, h => by simp at h
  | u :: r, 0, t, h => by
    simp only [List.getElem?_cons_zero, Option.some.injEq] at h
    subst h
    exact ⟨rfl, rfl, rfl⟩
  | u :: r, k + 1, t, h => by
    have := prs_get (l := r) (k := k) (t := t) (by simpa using h)
    rw [show (k + 1) * 3 = k * 3 + 1 + 1 + 1 by omega]
    exact this
theorem prs_set : ∀ {l : List Tw} {k : Nat} {t u : Tw}, l[k]? = some t → prA u = prA t → prB u = prB t → u.2.1 = t.2.1 → prs (l.set k u) = prs l
  | [], k, t, u, h, _, _, _ => by simp at h
  | y :: r, 0, t, u, h, ha, hb, hc => by
    simp only [List.getElem?_cons_zero, Option.some.injEq] at h
    subst h
    show prA u :: prB u :: ptrV u.2.1 :: prs r = prA y :: prB y :: ptrV y.2.1 :: prs r
    rw [ha, hb, hc]
  | y :: r, k + 1, t, u, h, ha, hb, hc => congrArg (fun z => prA y :: prB y :: ptrV y.2.1 :: z) (prs_set (l := r) (k := k) (by simpa using h) ha hb hc)
theorem prs_step {l : List Tw} {k p b : Nat} {S S' : TM} (h : l[k]? = some (p, b, S)) (hg : S'.give = S.give) : prs (l.set k (p, b, S')) = prs l :=
  prs_set h (by unfold prA; dsimp only; rw [hg]) (by unfold prB; dsimp only; rw [hg]) rfl
/-- What holds of the machines, and of the notes, behind i turns. -/
structure ST7 (N i : Nat) (ws : List Int) (ns : List Note) (xs : List Tw) : Prop where
  len : ws.length = N
  few : ns.length ≤ i
  ok : ∀ (k : Nat) (x : Tw), xs[k]? = some x → x.2.2.ok N
theorem ST7.snoc {N i : Nat} {ws : List Int} {ns : List Note} {xs : List Tw} (h : ST7 N i ws ns xs) {p b : Nat} {S : TM} (hS : S.ok N) : ST7 N i ws ns (xs ++ [(p, b, S)]) := by
  refine ⟨h.len, h.few, fun k x hx => ?_⟩
  rcases Nat.lt_or_ge k xs.length with hk | hk
  · rw [List.getElem?_append_left hk] at hx
    exact h.ok k x hx
  · rw [List.getElem?_append_right hk] at hx
    cases hj : k - xs.length with
    | zero =>
      rw [hj] at hx
      cases hx
      exact hS
    | succ j => rw [hj] at hx; cases hx
theorem TM.step_few (S : TM) (ws : List Int) : (S.step ws).nt.length ≤ 1 := by
  unfold TM.step TM.head TM.second TM.last
  dsimp only
  repeat' split
  all_goals simp
theorem ST7.step {N i : Nat} {ws : List Int} {ns : List Note} {xs : List Tw} (h : ST7 N i ws ns xs) (hr : ∀ i, i < ws.length → 0 ≤ rdW ws i ∧ rdW ws i < 18446744073709551616) {k p b : Nat} {S : TM} (hx : xs[k]? = some (p, b, S)) :
    ST7 N (i + 1) (S.step ws).ws (ns ++ (S.step ws).nt) (xs.set k (p, b, (S.step ws).S)) := by
  have h1 := TM.step_few S ws
  have h2 := h.few
  refine ⟨(TM.step_len _ _).trans h.len, by rw [List.length_append]; omega, fun j z hz => ?_⟩
  have hk : k < xs.length := (List.getElem?_eq_some_iff.1 hx).1
  rcases set_get hz hk with ⟨rfl, rfl⟩ | ⟨hj, hz2⟩
  · have a := h.ok _ _ hx
    rw [← h.len] at a ⊢
    exact TM.step_ok a hr
  · exact h.ok j z hz2
noncomputable abbrev sRow7 (va : Value) (n : Nat) (bc : Nat) (gn gs gh gt : Int) (xs : List Tw) : List Asn := [rowA 56 3 va n (prs xs), boxA bc #[.int .i64 gn, .int .i64 gs, .int .i64 gh, .int .u32 gt] 26]
/-- Machines that are made, one behind the other. -/
def SMake7 (w : World) (q y N bc : Nat) (gn gs gh gt : Int) (ws : List Int) (va : Value) (i : Nat) (w' : World) : Prop :=
  ∃ ps xs, ps.length = i ∧ xs.length = i ∧ ST7 N 0 ws [] xs ∧ St w (headA7 q y ws [] :: (sRow7 va i bc gn gs gh gt xs ++ manyA thP ps xs)) w'
def SRel7 (w : World) (q y N bc : Nat) (gn gs gh gt : Int) (ga ca : Nat) (ps : List Nat) (m i : Nat) (w' : World) : Prop :=
  ∃ ws ns xs, xs.length = m ∧ ST7 N i ws ns xs ∧ St w (headA7 q y ws ns :: (sRow7 (.slice (some ⟨ga, 0, none⟩) m ca) m bc gn gs gh gt xs ++ manyA thP ps xs)) w'
theorem infoP7 : (Try.prog.info? 56).map (fun i => (i.zero, i.size, i.bytes)) = some (some (.agg #[.pointer none, .pointer none, .pointer none]), 3, 24) := by kernel_rfl
end Go.Proofs.Ytndigbkhaajjoaa
