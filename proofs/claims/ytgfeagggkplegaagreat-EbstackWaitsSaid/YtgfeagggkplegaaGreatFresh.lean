/-
  layout.Fresh: the words of a beginning.
-/
import Derived.Test.YtgfeagggkplegaaGreatLayout2
import Derived.Deep.LoopGhost
import Derived.OwnWalk
namespace Go.Proofs.YtgfeagggkplegaaGreat
open Go.RowKit
set_option linter.unusedVariables false
set_option linter.unusedSimpArgs false

/-- A word of a beginning: nn nodes, of which those below i are linked; k slots are written; t the tag's word. -/
def frAt (t : Int) (nn i k : Nat) (j : Nat) : Int :=
  if j = 0 then t else if j = 1 then 1 + t
  else if j < 2 + 2 * nn then (if j % 2 = 0 ∧ j < 2 * i then (j / 2 : Nat) + 1 else 0)
  else if j < 2 + 2 * nn + k then t else 0
def frL (t : Int) (nn i k N : Nat) : List Int := (List.range N).map (frAt t nn i k)
theorem frL_len (t : Int) (nn i k N : Nat) : (frL t nn i k N).length = N := by simp [frL]
theorem frL_get (t : Int) (nn i k N : Nat) {j : Nat} (h : j < N) : (frL t nn i k N)[j]? = some (frAt t nn i k j) := by simp [frL, h]
theorem frL_rd (t : Int) (nn i k N : Nat) {j : Nat} (h : j < N) : rdW (frL t nn i k N) j = frAt t nn i k j := by
  unfold rdW
  simp [frL, h]
theorem frL_set {t : Int} {nn i k N : Nat} {j : Nat} {x : Int} {i' k' : Nat} (h : ∀ m, m < N → (if m = j then x else frAt t nn i k m) = frAt t nn i' k' m) : (frL t nn i k N).set j x = frL t nn i' k' N := by
  apply List.ext_getElem?
  intro m
  rcases Nat.lt_or_ge m N with hm | hm
  · rw [frL_get _ _ _ _ _ hm, List.getElem?_set]
    have := h m hm
    by_cases e : j = m
    · subst e
      simp only [if_true] at this ⊢
      rw [if_pos (by rw [frL_len]; exact hm), this]
    · rw [if_neg e, frL_get _ _ _ _ _ hm]
      rw [if_neg (fun q => e q.symm)] at this
      rw [this]
  · rw [List.getElem?_eq_none (by simpa [frL_len] using hm), List.getElem?_eq_none (by simpa [frL_len] using hm)]
theorem frL_node (t : Int) (nn i N : Nat) (h1 : 1 ≤ i) (h2 : i < nn) : (frL t nn i 0 N).set (2 * i) ((i : Int) + 1) = frL t nn (i + 1) 0 N := by
  refine frL_set fun m hm => ?_
  unfold frAt
  by_cases e : m = 2 * i
  · subst e
    rw [if_pos rfl, if_neg (by omega), if_neg (by omega), if_pos (by omega), if_pos ⟨by omega, by omega⟩]
    omega
  · rw [if_neg e]
    by_cases c : m % 2 = 0 ∧ m < 2 * i
    · have c' : m % 2 = 0 ∧ m < 2 * (i + 1) := ⟨c.1, by omega⟩
      simp [c, c']
    · have c' : ¬ (m % 2 = 0 ∧ m < 2 * (i + 1)) := fun q => c ⟨q.1, by omega⟩
      simp [c, c']
theorem frL_slot (t : Int) (nn i k N : Nat) : (frL t nn i k N).set (2 + 2 * nn + k) t = frL t nn i (k + 1) N := by
  refine frL_set fun m hm => ?_
  unfold frAt
  by_cases e : m = 2 + 2 * nn + k
  · subst e
    rw [if_pos rfl, if_neg (by omega), if_neg (by omega), if_neg (by omega), if_pos (by omega)]
  · rw [if_neg e]
    by_cases c : m < 2 + 2 * nn + k
    · have c' : m < 2 + 2 * nn + (k + 1) := by omega
      simp [c, c']
    · have c' : ¬ m < 2 + 2 * nn + (k + 1) := by omega
      simp [c, c']
theorem frL_rng {t : Int} {nn i k N : Nat} (t0 : 0 ≤ t) (t1 : t < 18446744073709551615) (hn : nn ≤ 64) : ∀ x ∈ frL t nn i k N, 0 ≤ x ∧ x < 18446744073709551616 := by
  intro x hx
  obtain ⟨j, hj, rfl⟩ := List.mem_map.1 hx
  unfold frAt
  repeat' split
  all_goals omega
theorem frL_zero {t : Int} {nn N : Nat} (h : 2 ≤ N) : ((List.replicate N (0 : Int)).set 0 t).set 1 (1 + t) = frL t nn 1 0 N := by
  apply List.ext_getElem?
  intro m
  rcases Nat.lt_or_ge m N with hm | hm
  · rw [frL_get _ _ _ _ _ hm]
    unfold frAt
    by_cases e1 : m = 1
    · subst e1
      simp [hm]
    by_cases e0 : m = 0
    · subst e0
      simp [hm]
    · rw [List.getElem?_set_ne (fun e => e1 e.symm), List.getElem?_set_ne (fun e => e0 e.symm), List.getElem?_replicate, if_pos hm, if_neg e0, if_neg e1]
      split
      · rw [if_neg (by omega)]
      · rw [if_neg (by omega)]
  · rw [List.getElem?_eq_none (by simpa using hm), List.getElem?_eq_none (by simpa [frL_len] using hm)]
theorem infoU : (Tryz.prog.info? 25).map (fun i => (i.zero, i.size, i.bytes)) = some (some (.int .u64 0), 1, 8) := by kernel_rfl
abbrev wsV (ws : List Int) : List Value := ws.map fun x => Value.int .u64 x

set_option maxRecDepth 100000 in
set_option maxHeartbeats 16000000 in
theorem fresh_ok {w0 w : World} {L : List Asn} (nn ss hh : Nat) (t T : Int) (N : Nat) (hS : St w0 L w) (hok : okC nn ss hh = true) (hN : N = 2 + 2 * nn + ss + hh) (hT : t * 4294967296 = T) (t0 : 0 ≤ t) (t1 : t < 4294967296) :
    Calls Tryz.prog 44 #[.agg #[.int .i64 nn, .int .i64 ss, .int .i64 hh, .int .u32 t]] w fun e w' => ∃ g, e = .returned (.tuple #[.slice (some ⟨g, 0, none⟩) N N, .int .i64 0]) ∧ St w0 (rowG g N 25 1 N (wsV (frL T nn nn ss N)) :: L) w' := by
  obtain ⟨b1, b2, b3, b4, b5, b6⟩ := okC_bounds hok
  obtain ⟨iU, hiU, hzU0, hzU1, hzU2⟩ : ∃ i, Tryz.prog.info? 25 = some i ∧ i.zero = some (.int .u64 0) ∧ i.size = 1 ∧ i.bytes = 8 := by
    have := infoU
    cases hq : Tryz.prog.info? 25 with
    | none => rw [hq] at this; simp at this
    | some i => rw [hq] at this; simp at this; exact ⟨i, rfl, this⟩
  have HOK := Lib.hid hok
  have HC : Hid (cellsI nn ss hh = (N : Int)) := Lib.hid (by unfold cellsI; rw [if_pos hok]; omega)
  have H := Lib.hid (hS.alloc #[.int .i64 nn, .int .i64 ss, .int .i64 hh, .int .u32 t] 24)
  have HN := Lib.hid hN
  have HT := Lib.hid hT
  have N2 : 2 ≤ N := by omega
  have N3 : N ≤ 1024 := by omega
  have i0a : (0 : Int) < (N : Int) := by omega
  have i1a : (1 : Int) < (N : Int) := by omega
  clear hS hok hN hT
  go_enter Tryz.func44, Tryz.ntmps44
  go_wp2_with (first | (go_at_call 54; refine (check_yes nn ss hh t _ HOK.out).mono ?_; rintro e w1 ⟨rfl, hb⟩; (have H1 := Lib.hid (H.out.below hb)); clear hb; obtain ⟨q0, q1, q2, q3⟩ := cells4 (H1.out.cells 0 rfl)) | (go_at_call 75; refine (cells_any nn ss hh t _).mono ?_; rintro e w2 ⟨rfl, hb⟩; rw [HC.out]; (have H2 := Lib.hid (H1.out.below hb)); clear hb q0 q1 q2 q3) | ((have _h := H2); refine wpList_make_full _ (by rfl) _ _ _ (by rfl) _ 25 iU _ 1 Tryz.underlying35 hiU hzU0 hzU1 .i64 .i64 _ _ N (by rfl) (by rfl) rfl rfl (by rw [hzU2]; omega) (by unfold maxLen; omega) (Nat.le_refl _) ?_; intro wH3 hown hgrow; (have H3 := Lib.hid (by have h9 := St.made H2.out hown hgrow; rw [show (madeCells (Value.int .u64 0).cells (N * 1)).toList = List.replicate N (.int .u64 0) from made_one _ _] at h9; exact h9)); clear hown hgrow _h))
  have HG0 : Hid ((List.replicate N (Value.int .u64 0))[0]? = some (.int .u64 0)) := Lib.hid (by rw [List.getElem?_replicate, if_pos (by omega)])
  have HG1 : Hid ((List.replicate N (Value.int .u64 0))[1]? = some (.int .u64 0)) := Lib.hid (by rw [List.getElem?_replicate, if_pos (by omega)])
  obtain ⟨k0, f0⟩ := H3.out.at_ 0 rfl 0 HG0.out
  obtain ⟨k1, f1⟩ := H3.out.at_ 0 rfl 1 HG1.out
  obtain ⟨q0, q1, q2, q3⟩ := cells4 (H3.out.cells 1 rfl)
  go_region_with (first | ((have _h := H4); go_at_call 76; refine (word_any 1 t _ (by decide) (by decide) t0 t1).mono ?_; rintro e w5 ⟨rfl, hb⟩; (have H5 := Lib.hid (H4.out.below hb)); clear hb _h k0 k1 f0 f1 q0 q1 q2 q3; (obtain ⟨k0, f0⟩ := H5.out.at_ 0 rfl 0 HG0.out); (obtain ⟨k1, f1⟩ := H5.out.at_ 0 rfl 1 HG1.out); (obtain ⟨q0, q1, q2, q3⟩ := cells4 (H5.out.cells 1 rfl))) | (go_at_call 76; refine (word_any 0 t _ (by decide) (by decide) t0 t1).mono ?_; rintro e w4 ⟨rfl, hb⟩; (have H4 := Lib.hid (H3.out.drew.below hb)); clear hb k0 k1 f0 f1 q0 q1 q2 q3; (obtain ⟨k0, f0⟩ := H4.out.at_ 0 rfl 0 HG0.out); (obtain ⟨k1, f1⟩ := H4.out.at_ 0 rfl 1 HG1.out); (obtain ⟨q0, q1, q2, q3⟩ := cells4 (H4.out.cells 1 rfl))))
  all_goals
    have h6 := (H5.out.rowSet 0 rfl 0 (by omega) (.int .u64 (t * 4294967296))).rowSet 0 rfl 1 (by omega) (.int .u64 (1 + t * 4294967296))
    generalize (w5.setCell ⟨w2.heap.size, 0, none⟩ (.int .u64 (t * 4294967296))).setCell ⟨w2.heap.size, 1, none⟩ (.int .u64 (1 + t * 4294967296)) = W6 at *
    have H6 : Hid (St w0 (rowG w2.heap.size N 25 1 N (wsV (frL T nn 1 0 N)) :: boxA w.heap.size #[.int .i64 nn, .int .i64 ss, .int .i64 hh, .int .u32 t] 24 :: L) W6) := Lib.hid (by
      have e : ((List.replicate N (Value.int .u64 0)).set 0 (.int .u64 (t * 4294967296))).set 1 (.int .u64 (1 + t * 4294967296)) = wsV (frL T nn 1 0 N) := by
        rw [← frL_zero N2, ← HT.out]
        simp [wsV, List.map_set]
      rw [← e]
      exact h6)
    clear h6 H5 H4 H3 H2 H1 H k0 k1 f0 f1 q0 q1 q2 q3
    generalize w2.heap.size = g at *
    go_wp2
    go_loopg [6] 65 (fun kq z w' => ∃ i : Nat, z = .int .u32 i ∧ 1 ≤ i ∧ i ≤ nn ∧ i + kq = 66 ∧ St w0 (rowG g N 25 1 N (wsV (frL T nn i 0 N)) :: boxA w.heap.size #[.int .i64 nn, .int .i64 ss, .int .i64 hh, .int .u32 t] 24 :: L) w')
    case atStart => exact ⟨1, rfl, by omega, by omega, by omega, H6.out⟩
    case round =>
      obtain ⟨i, rfl, hi1, hi2, hkq, hS⟩ := hrel
      have HS := Lib.hid hS
      obtain ⟨q0, q1, q2, q3⟩ := cells4 (hS.cells 1 rfl)
      cases gk with
      | zero => omega
      | succ kk =>
        by_cases c4 : i < nn
        · have c4b : decide ((i : Int) < nn) = true := decide_eq_true (by omega)
          obtain ⟨m, hm⟩ : ∃ m, 2 * i = m := ⟨_, rfl⟩
          have hmN : m < N := by have := HN.out; omega
          have HA : Hid (atI nn ss hh 0 (2 * ((i : Int) - 1)) = (m : Int)) := Lib.hid (by unfold atI lenI loI; rw [if_pos ⟨HOK.out, by omega, by simp; omega⟩]; simp; omega)
          have r0 : (0 : Int) ≤ (m : Int) := by omega
          have r1 : (m : Int) < (N : Int) := by omega
          have e2 : ((i : Int) + 1) % 4294967296 = (i : Int) + 1 := by omega
          have HU : Hid ((wsV (frL T nn i 0 N))[m]? = some (.int .u64 (frAt T nn i 0 m))) := Lib.hid (by unfold wsV; rw [List.getElem?_map, frL_get _ _ _ _ _ hmN]; rfl)
          have HM := Lib.hid hm
          have i0 : (0 : Int) ≤ (i : Int) := by omega
          have i1 : (i : Int) < 4294967296 := by omega
          clear hS hm
          go_wp2_with (go_at_call 77; refine (lnext_any nn ss hh t i _ i0 i1).mono ?_; rintro e w7 ⟨rfl, hb⟩; rw [HA.out]; (have H7 := Lib.hid (HS.out.below hb)); clear hb q0 q1 q2 q3; (obtain ⟨k0, f0⟩ := H7.out.at_ 0 rfl m HU.out))
          go_roundg kk
          case measure => omega
          case rel =>
            refine ⟨i + 1, by rfl, by omega, by omega, by omega, ?_⟩
            have h8 := H7.out.rowSet 0 rfl m (by omega) (.int .u64 ((i : Int) + 1))
            have e : (wsV (frL T nn i 0 N)).set m (.int .u64 ((i : Int) + 1)) = wsV (frL T nn (i + 1) 0 N) := by
              rw [← frL_node T nn i N hi1 c4, ← HM.out]
              simp [wsV, List.map_set]
            rw [← e]
            exact h8
        · have c4b : decide ((i : Int) < nn) = false := decide_eq_false (by omega)
          obtain rfl : nn = i := by omega
          clear hS
          go_wp2
          go_loopg [43] 17 (fun kq z w' => ∃ k : Nat, z = .int .i64 k ∧ k ≤ ss ∧ k + kq = 17 ∧ St w0 (rowG g N 25 1 N (wsV (frL T nn nn k N)) :: boxA w.heap.size #[.int .i64 nn, .int .i64 ss, .int .i64 hh, .int .u32 t] 24 :: L) w')
          case atStart => exact ⟨0, rfl, by omega, by omega, HS.out⟩
          case round =>
            obtain ⟨k, rfl, hi3, hkq2, hS⟩ := hrel
            clear HS
            have HS := Lib.hid hS
            clear q0 q1 q2 q3
            obtain ⟨q0, q1, q2, q3⟩ := cells4 (hS.cells 1 rfl)
            cases gk with
            | zero => omega
            | succ k2 =>
              by_cases c5 : k < ss
              · have c5b : decide ((k : Int) < ss) = true := decide_eq_true (by omega)
                obtain ⟨m, hm⟩ : ∃ m, 2 + 2 * nn + k = m := ⟨_, rfl⟩
                have hmN : m < N := by have := HN.out; omega
                have HA : Hid (atI nn ss hh 1 k = (m : Int)) := Lib.hid (by unfold atI lenI loI; rw [if_pos ⟨HOK.out, by omega, by simp; omega⟩]; simp; omega)
                have HW0 : Hid ((0 : Int) + t * 4294967296 = T) := Lib.hid (by rw [HT.out]; omega)
                have r0 : (0 : Int) ≤ (m : Int) := by omega
                have r1 : (m : Int) < (N : Int) := by omega
                have HU : Hid ((wsV (frL T nn nn k N))[m]? = some (.int .u64 (frAt T nn nn k m))) := Lib.hid (by unfold wsV; rw [List.getElem?_map, frL_get _ _ _ _ _ hmN]; rfl)
                have HM := Lib.hid hm
                obtain ⟨k0, f0⟩ := hS.at_ 0 rfl m HU.out
                clear hS hm
                go_wp2
                go_region_with (first | ((have _h := H7); go_at_call 76; refine (word_any 0 t _ (by decide) (by decide) t0 t1).mono ?_; rintro e w8 ⟨rfl, hb⟩; rw [HW0.out]; (have H8 := Lib.hid (H7.out.below hb)); clear hb _h k0 f0 q0 q1 q2 q3; (obtain ⟨k0, f0⟩ := H8.out.at_ 0 rfl m HU.out); (obtain ⟨q0, q1, q2, q3⟩ := cells4 (H8.out.cells 1 rfl))) | (go_at_call 52; refine (slot_any nn ss hh t k _).mono ?_; rintro e w7 ⟨rfl, hb⟩; rw [HA.out]; (have H7 := Lib.hid (HS.out.drew.below hb)); clear hb k0 f0 q0 q1 q2 q3; (obtain ⟨k0, f0⟩ := H7.out.at_ 0 rfl m HU.out); (obtain ⟨q0, q1, q2, q3⟩ := cells4 (H7.out.cells 1 rfl))))
                all_goals go_wp2
                all_goals go_roundg k2
                all_goals first | omega | exact ⟨k + 1, by rfl, by omega, by omega, by
                  have h9 := H8.out.rowSet 0 rfl m (by omega) (.int .u64 T)
                  have e : (wsV (frL T nn nn k N)).set m (.int .u64 T) = wsV (frL T nn nn (k + 1) N) := by
                    rw [← frL_slot T nn nn k N, HM.out]
                    simp [wsV, List.map_set]
                  rw [← e]
                  exact h9⟩
              · have c5b : decide ((k : Int) < ss) = false := decide_eq_false (by omega)
                obtain rfl : ss = k := by omega
                clear hS
                go_wp2
                go_ret2
                exact ⟨g, rfl, HS.out.drop1⟩
end Go.Proofs.YtgfeagggkplegaaGreat
