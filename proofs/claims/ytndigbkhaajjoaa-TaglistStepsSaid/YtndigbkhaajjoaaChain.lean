/-
  layout.Chain: the list of nodes that is there.
-/
import Derived.Test.YtndigbkhaajjoaaLst
import Derived.Test.YtndigbkhaajjoaaRe
import Derived.Test.YtndigbkhaajjoaaLayout2
import Derived.Test.YtndigbkhaajjoaaArS
import Derived.Deep.LoopGhost
namespace Go.Proofs.Ytndigbkhaajjoaa
open Go.RowKit
set_option linter.unusedVariables false
set_option linter.unusedSimpArgs false

/-- Two states, one since the other's world. -/
theorem St.join {w0 w w' : World} {L : List Asn} {a : Asn} (h : St w0 L w) (k : St w [a] w') : St w0 (a :: L) w' := by
  obtain ⟨hb, F, ho, hh⟩ := k
  exact h.more hb (a.mono (hh 0 a rfl) fun b _ hf => ⟨ho.lo 0 b hf, rfl⟩)
theorem lk_nil {ws : List Int} : lk ws [] := trivial
set_option maxRecDepth 100000 in
set_option maxHeartbeats 8000000 in
theorem chain_row (nn ss hh : Nat) (t : Int) (A0 : Option Addr) (N c0 : Nat) (ws : List Int) (x : Int) (l : List Int) (w : World) (hok : okC nn ss hh = true) (hN : N = 2 + 2 * nn + ss + hh) (hr : RdU w A0 ws) (hl : ws.length = N) (hx : x % 4294967296 = hdI l) (hlk : lk ws l) (hrg : ∀ i ∈ l, 1 ≤ i ∧ i ≤ nn) (hlen : l.length ≤ nn) (hv : ∀ x ∈ ws, 0 ≤ x ∧ x < 18446744073709551616) :
    Calls Try.prog 22 #[.agg #[.int .i64 nn, .int .i64 ss, .int .i64 hh, .int .u32 t], .slice A0 N c0, .int .u64 x] w fun e w' => ∃ A c, e = .returned (.tuple #[.slice A l.length c, .bool true]) ∧ St w [row32 (.slice A l.length c) l] w' := by
  obtain ⟨b1, b2, b3, b4, b5, b6⟩ := okC_bounds hok
  obtain ⟨i0, hi0, hz0, hz1, hz2⟩ := info_parts info32
  have H := Lib.hid ((St.nil w).alloc #[.int .i64 nn, .int .i64 ss, .int .i64 hh, .int .u32 t] 26)
  have HOK := Lib.hid hok
  have HC : Hid (cellsI nn ss hh = (N : Int)) := Lib.hid (by unfold cellsI; rw [if_pos hok]; omega)
  have HR := Lib.hid hr
  have HX := Lib.hid hx
  have HL := Lib.hid hl
  have HN := Lib.hid hN
  have HK := Lib.hid hlk
  have HG := Lib.hid hrg
  have HW := Lib.hid hv
  obtain ⟨q0, q1, q2, q3⟩ := cells4 (H.out.cells 0 rfl)
  clear hok hr hx hl hN hlk hrg hv
  go_enter Try.func22, Try.ntmps22
  go_wp2_with (first | (go_at_call 52; refine (check_yes nn ss hh t _ HOK.out).mono ?_; rintro e w1 ⟨rfl, hb⟩; (have H1 := Lib.hid (H.out.below hb)); clear hb q0 q1 q2 q3; (obtain ⟨q0, q1, q2, q3⟩ := cells4 (H1.out.cells 0 rfl))) | (go_at_call 17; refine (cells_any nn ss hh t _).mono ?_; rintro e w2 ⟨rfl, hb⟩; rw [HC.out]; (have H2 := Lib.hid (H1.out.below hb)); clear hb q0 q1 q2 q3; (obtain ⟨q0, q1, q2, q3⟩ := cells4 (H2.out.cells 0 rfl))) | (go_at_call 55; refine (index_is x _ _ HX.out).mono ?_; rintro e w3 ⟨rfl, hb⟩; (have H3 := Lib.hid (H2.out.below hb)); clear hb q0 q1 q2 q3; (obtain ⟨q0, q1, q2, q3⟩ := cells4 (H3.out.cells 0 rfl))))
  have HRel := Lib.hid (show St w (rowA 23 1 (.slice none 0 0) ([] : List Int).length (([] : List Int).map u32V) :: bxC w.heap.size nn ss hh t :: []) w3 from H3.out.rowNil _ _)
  go_loopg [8, 9] (nn + 1) (fun kq z y w' => ∃ (d r : List Int), y = .int .u32 (hdI r) ∧ d ++ r = l ∧ r.length + kq ≤ nn + 1 + r.length ∧ kq = nn + 1 - d.length ∧ St w (rowA 23 1 z d.length (d.map u32V) :: bxC w.heap.size nn ss hh t :: []) w')
  case atStart => exact ⟨[], l, rfl, rfl, by omega, by simp, HRel.out⟩
  case round =>
    obtain ⟨d, r, rfl, hdr, _, hkq, hS⟩ := hrel
    obtain ⟨A, c, rfl, hml⟩ := row_is (hS.rowOf 0 rfl)
    have hdl : d.length + r.length = l.length := by rw [← hdr, List.length_append]
    clear q0 q1 q2 q3
    obtain ⟨q0, q1, q2, q3⟩ := cells4 (hS.cells 1 rfl)
    have HS := Lib.hid hS
    clear hS HRel
    cases r with
    | nil =>
      have hdl' : d = l := by rw [← hdr, List.append_nil]
      subst hdl'
      have e0 : hdI [] = 0 := rfl
      rw [e0]
      cases gk with
      | zero => omega
      | succ kk =>
        go_wp2
        go_ret2
        exact ⟨A, c, rfl, HS.out.re 2 [0]⟩
    | cons i r =>
      have hin : i ∈ l := by rw [← hdr]; simp
      have hi := HG.out i hin
      have e0 : hdI (i :: r) = i := rfl
      rw [e0]
      simp only [List.length_cons] at hdl
      have hkr : lk ws (i :: r) := by
        have : ∀ (a b : List Int), lk ws (a ++ b) → lk ws b := by
          intro a
          induction a with
          | nil => exact fun b h => h
          | cons y a ih => exact fun b h => ih b h.2
        exact this d _ (by rw [hdr]; exact HK.out)
      obtain ⟨hk1, hk2⟩ := hkr
      obtain ⟨j, hj⟩ : ∃ j, (2 * i).toNat = j := ⟨_, rfl⟩
      have hA : atI nn ss hh 0 (2 * (i - 1)) = (j : Int) := by rw [← hj]; exact nx_at HOK.out hi.1 hi.2
      have hjN : j < N := by have := HN.out; omega
      have HA := Lib.hid hA
      rw [hj] at hk1
      obtain ⟨y, hy⟩ : ∃ y, rdW ws j = y := ⟨_, rfl⟩
      rw [hy] at hk1
      have HI := Lib.hid hk1
      have HY := Lib.hid hy
      have n0 : (i == 0) = false := by simp; omega
      have n1 : (i != 0) = true := by simp; omega
      have i00 : 0 ≤ i := by omega
      have i01 : i < 4294967296 := by omega
      have d0 : decide ((j : Int) < 0) = false := decide_eq_false (by omega)
      have d1 : decide ((nn : Int) ≤ (d.length : Int)) = false := decide_eq_false (by omega)
      have j0 : (0 : Int) ≤ (j : Int) := by omega
      have j1 : (j : Int) < (N : Int) := by omega
      have hd5 : d.length ≤ 1000 := by omega
      have HD := Lib.hid hdr
      have hmlx := hml
      unfold maxLen at hml
      obtain ⟨ad, hA0, hcell⟩ := HR.out.cellA (k := j) (by rw [HL.out]; exact hjN)
      rw [hy] at hcell
      have HCELL : Hid (∀ w', Below w.heap.size w w' → w'.cell? (ad.add j) = some (.int .u64 y)) := Lib.hid fun w' hb => (hb.cell (World.block_lt_of_cell? _ _ hcell)).trans hcell
      subst hA0
      clear hcell hA hj hy hk1 hdr
      cases gk with
      | zero => omega
      | succ kk =>
        go_wp2_with (first | ((have _h := H9); go_at_call 55; refine (index_is y _ _ HI.out).mono ?_; rintro e w10 ⟨rfl, hb⟩; (have H10 := Lib.hid (H9.out.below hb)); clear hb _h) | ((have _h := H8); go_at_call 20; refine (lnext_is nn ss hh t i j _ HA.out i00 i01).mono ?_; rintro e w9 ⟨rfl, hb⟩; (have H9 := Lib.hid (H8.out.below hb)); (have cc := HCELL.out _ H9.out.bel); clear hb _h H8) | ((have _h := H7); at_builtin; go_must (refine wpList_append_lies _ (by rfl) _ _ _ (by rfl) 0 23 i0 _ 1 4 Try.underlying33 hi0 hz0 hz1 hz2 rfl (by decide) (.slice A d.length c) d.length (d.map u32V) (by rfl) ((H7.out.below (bl_alloc (bl_refl _) _)).rowOf 0 rfl) ⟨w7.heap.size, 0, none⟩ 1 1 [.int .u32 i] (by rfl) rfl (by exact World.news_of_block (cs := #[.int .u32 i]) (t := 23) (fr := (0, 0)) (heap_new rfl)) (by simp [Value.oneCell']) (by decide) (by unfold maxLen; omega) (by omega) (Nat.zero_le _) _ rfl ?_); go_must (intro g cp wA hown hgrow hat hlt); (have H8 := Lib.hid ((H7.out.below (bl_alloc (bl_refl _) _)).append hown hgrow hat)); clear hown hgrow hat hlt _h; clear q0 q1 q2 q3; (obtain ⟨q0, q1, q2, q3⟩ := cells4 (H8.out.cells 1 rfl))) | (go_at_call 20; refine (lnext_is nn ss hh t i j _ HA.out i00 i01).mono ?_; rintro e w7 ⟨rfl, hb⟩; (have H7 := Lib.hid (HS.out.below hb)); clear hb q0 q1 q2 q3; (obtain ⟨q0, q1, q2, q3⟩ := cells4 (H7.out.cells 1 rfl))))
        go_roundg kk
        case measure => omega
        case rel =>
          exact ⟨d ++ [i], r, rfl, by rw [List.append_assoc]; exact HD.out, by omega, by simp; omega, by
            rw [List.length_append, List.map_append]
            exact H10.out⟩
/-- The list at a place. -/
theorem chain_at {w0 w : World} {L : List Asn} (nn ss hh : Nat) (t : Int) (A0 : Option Addr) (N c0 : Nat) (ws : List Int) (a : Nat) (x : Int) (l : List Int) (T : Int) (hS : St w0 L w) (hok : okC nn ss hh = true) (hN : N = 2 + 2 * nn + ss + hh) (hr : RdU w A0 ws) (hl : ws.length = N) (h : AtL nn ws a l T) (hlen : l.length ≤ nn) (hv : ∀ x ∈ ws, 0 ≤ x ∧ x < 18446744073709551616) (hx : rdW ws a = x) :
    Calls Try.prog 22 #[.agg #[.int .i64 nn, .int .i64 ss, .int .i64 hh, .int .u32 t], .slice A0 N c0, .int .u64 x] w fun e w' => ∃ A c, e = .returned (.tuple #[.slice A l.length c, .bool true]) ∧ Below w.heap.size w w' ∧ St w0 (row32 (.slice A l.length c) l :: L) w' := by
  obtain ⟨b1, b2, _⟩ := okC_bounds hok
  have hr2 := hdI_rng (nn := nn) (l := l) h.rng
  refine (chain_row nn ss hh t A0 N c0 ws x l w hok hN hr hl (by rw [← hx, h.word]; omega) h.lnk h.rng hlen hv).mono fun e w' k => ?_
  obtain ⟨A, c, k1, k2⟩ := k
  exact ⟨A, c, k1, k2.bel, hS.join k2⟩
end Go.Proofs.Ytndigbkhaajjoaa
