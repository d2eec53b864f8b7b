/-
  arena's machines: what a Step does beside its try.
-/
import Derived.Test.YtgfeagggkplegaaGreatArV
import Derived.Test.YtgfeagggkplegaaGreatRe
import Derived.Deep.AppendLies
import Derived.Deep.RegionLawGrows
namespace Go.Proofs.YtgfeagggkplegaaGreat
open Go.RowKit
set_option linter.unusedVariables false
set_option linter.unusedSimpArgs false

theorem info32 : (Tryz.prog.info? 22).map (fun i => (i.zero, i.size, i.bytes)) = some (some (.int .u32 0), 1, 4) := by kernel_rfl
/-- A row's last one away. -/
theorem row32_shrink {w0 w : World} {L : List Asn} {A : Option Addr} {m c : Nat} {l : List Int} {x : Int} (h : St w0 (row32 (.slice A (m + 1) c) (l ++ [x]) :: L) w) (hm : l.length = m) : St w0 (row32 (.slice A m c) l :: L) w := by
  subst hm
  refine h.change fun fp hp => ⟨fp, ⟨?_, fun b hb => hp.2 b (by cases A <;> exact hb)⟩, fun b hb _ => hb, Str.refl w, fun b _ _ => rfl⟩
  obtain ⟨h1, h2 | ⟨g, cap, cur, hv, h0, hh, h3, h4, h5, h6⟩⟩ := hp.1
  · cases h2.1
  · simp only [Value.slice.injEq] at hv
    obtain ⟨rfl, _, rfl⟩ := hv
    refine ⟨by simp, .inr ⟨g, c, cur, rfl, h0, hh, by simp only [List.length_append, List.length_singleton] at h3; omega, h4, h5, ?_⟩⟩
    have h7 := congrArg (List.take (l.length * 1)) h6
    rw [List.take_take] at h7
    simp only [List.length_append, List.length_singleton, List.map_append, Nat.mul_one] at h7 ⊢
    rw [show min l.length (l.length + 1) = l.length by omega] at h7
    rw [h7, List.take_append_of_le_length (by simp), List.take_of_length_le (by simp)]
theorem row32_last {w0 w : World} {L : List Asn} {A : Option Addr} {m c : Nat} {l : List Int} {x : Int} {j : Nat} {K : List Asn} (h : St w0 K w) (he : K[j]? = some (row32 (.slice A (m + 1) c) (l ++ [x]))) (hm : l.length = m) : ∃ g, A = some ⟨g, 0, none⟩ ∧ w.cell? ⟨g, m, none⟩ = some (.int .u32 x) ∧ m + 1 ≤ c ∧ c ≤ maxLen := by
  obtain ⟨h1, h2 | ⟨g, cap, cur, hv, h0, hh, h3, h4, h5, h6⟩⟩ := h.rowOf j he
  · cases h2.1
  · simp only [Value.slice.injEq] at hv
    obtain ⟨rfl, h7, rfl⟩ := hv
    refine ⟨g, rfl, ?_, by omega, h4⟩
    rw [cell_of hh]
    have hk : m < ((l ++ [x]).length) * 1 := by simp; omega
    have : ((l ++ [x]).map u32V)[m]? = some (.int .u32 x) := by rw [List.getElem?_map, ← hm, List.getElem?_concat_length]; rfl
    rw [← h6, List.getElem?_take, if_pos hk] at this
    simpa using this
set_option maxHeartbeats 4000000 in
theorem ta_empty {w0 w : World} {q p : Nat} {M : Asn} {L : List Asn} (left : Int) (A : Option Addr) (c : Nat) (fv nv : Value) (st i r z : Int) (R : World → Prop) (hS : St w0 (M :: atB p left (.slice A 0 c) fv nv st i :: L) w)
    (hc : Calls Tryz.prog 136 #[.pointer (some ⟨p, 0, none⟩), .pointer (some ⟨q, 0, none⟩)] w fun e w' => e = .returned (.tuple #[.int .i64 r, .int .u32 z]) ∧ R w') :
    Calls Tryz.prog 108 #[.pointer (some ⟨p, 0, none⟩), .pointer (some ⟨q, 0, none⟩)] w fun e w' => e = .returned (.tuple #[.int .i64 r, .int .u32 z]) ∧ R w' := by
  have HC := Lib.hid hc
  obtain ⟨⟨c0, c1, c2, c3, c4, c5⟩, ⟨z0, z1, z3, z4, z5⟩, lt0⟩ := cellsA6 (hS.cells 1 rfl)
  clear hS hc
  go_enter Tryz.func108, Tryz.ntmps108
  go_wp2_with (go_at_call 136; refine HC.out.mono ?_; rintro e w1 ⟨rfl, hr⟩; (have HR1 := Lib.hid hr); clear hr)
  go_ret2
  exact ⟨rfl, HR1.out⟩
set_option maxHeartbeats 4000000 in
theorem ta_busy {w0 w : World} {q p : Nat} {M : Asn} {L : List Asn} (left : Int) (A : Option Addr) (m c : Nat) (fv nv : Value) (st i r z : Int) (R : World → Prop) (hS : St w0 (M :: atB p left (.slice A (m + 1) c) fv nv st i :: L) w) (hs : (st == 0) = false) (hm : m ≤ 1000000000000)
    (hc : Calls Tryz.prog 136 #[.pointer (some ⟨p, 0, none⟩), .pointer (some ⟨q, 0, none⟩)] w fun e w' => e = .returned (.tuple #[.int .i64 r, .int .u32 z]) ∧ R w') :
    Calls Tryz.prog 108 #[.pointer (some ⟨p, 0, none⟩), .pointer (some ⟨q, 0, none⟩)] w fun e w' => e = .returned (.tuple #[.int .i64 r, .int .u32 z]) ∧ R w' := by
  have HC := Lib.hid hc
  obtain ⟨⟨c0, c1, c2, c3, c4, c5⟩, ⟨z0, z1, z3, z4, z5⟩, lt0⟩ := cellsA6 (hS.cells 1 rfl)
  have e1 : IntKind.i64.wrap (((m + 1 : Nat) : Int) - 1) = (m : Int) := by rw [IntKind.wrap_i64]; omega
  have e2 : decide ((0 : Int) ≤ (m : Int)) = true := decide_eq_true (by omega)
  obtain ⟨M1, hM1⟩ : ∃ M1, m + 1 = M1 := ⟨_, rfl⟩
  rw [hM1] at c1 e1
  clear hS hc hM1
  go_enter Tryz.func108, Tryz.ntmps108
  go_wp2_with (go_at_call 136; refine HC.out.mono ?_; rintro e w1 ⟨rfl, hr⟩; (have HR1 := Lib.hid hr); clear hr)
  go_ret2
  exact ⟨rfl, HR1.out⟩
set_option maxHeartbeats 4000000 in
theorem ta_pop {w0 w : World} {q p : Nat} {M : Asn} {L : List Asn} (left : Int) (A : Option Addr) (m c : Nat) (fv nv : Value) (i x : Int) (l : List Int) (hS : St w0 (M :: atB p left (.slice A (m + 1) c) fv nv 0 i :: row32 (.slice A (m + 1) c) (l ++ [x]) :: L) w) (hl : l.length = m) (hm : m ≤ 1000000000000) :
    Calls Tryz.prog 108 #[.pointer (some ⟨p, 0, none⟩), .pointer (some ⟨q, 0, none⟩)] w fun e w' => e = .returned (.tuple #[.int .i64 1, .int .u32 x]) ∧ St w0 (M :: atB p left (.slice A m c) fv nv 1 x :: row32 (.slice A m c) l :: L) w' := by
  obtain ⟨g, rfl, hx, hmc, hcm⟩ := row32_last (L := L) hS (j := 2) rfl hl
  have h5 := (hS.front 2 rfl)
  have h6 : St w0 (M :: atB p left (.slice (some ⟨g, 0, none⟩) (m + 1) c) fv nv 0 i :: row32 (.slice (some ⟨g, 0, none⟩) m c) l :: L) w := ((row32_shrink h5 hl).front 2 rfl).front 2 rfl
  have H := Lib.hid h6
  have HS := Lib.hid hS
  obtain ⟨⟨c0, c1, c2, c3, c4, c5⟩, ⟨z0, z1, z3, z4, z5⟩, lt0⟩ := cellsA6 (hS.cells 1 rfl)
  have e1 : IntKind.i64.wrap (((m + 1 : Nat) : Int) - 1) = (m : Int) := by rw [IntKind.wrap_i64]; omega
  have e2 : decide ((0 : Int) ≤ (m : Int)) = true := decide_eq_true (by omega)
  have r0 : (0 : Int) ≤ (m : Int) := by omega
  obtain ⟨M1, hM1⟩ : ∃ M1, m + 1 = M1 := ⟨_, rfl⟩
  have r1 : (m : Int) < (M1 : Int) := by omega
  have r2 : (m : Int) ≤ (c : Int) := by omega
  have r3 : m ≤ c := by omega
  have H := Lib.hid (show St w0 (M :: atB p left (.slice (some ⟨g, 0, none⟩) M1 c) fv nv 0 i :: row32 (.slice (some ⟨g, 0, none⟩) m c) l :: L) w by rw [← hM1]; exact h6)
  rw [hM1] at c1 e1
  clear hS h5 h6 hM1 HS
  go_enter Tryz.func108, Tryz.ntmps108
  go_wp2_with (go_at_call 135; refine (tka_ends left (.slice (some ⟨g, 0, none⟩) m c) fv nv 0 i 1 x ((H.out.setAt 1 rfl 1 (.slice (some ⟨g, 0, none⟩) m c)).front 1 rfl)).mono ?_; rintro e w1 ⟨rfl, h⟩; (have H1 := Lib.hid (h.front 1 rfl)); clear h)
  go_ret2
  exact ⟨rfl, H1.out⟩
set_option maxHeartbeats 4000000 in
theorem ga_plain {w : World} {q p : Nat} (r z : Int) (R : World → Prop) (hr : (r == 6) = false)
    (hc : Calls Tryz.prog 136 #[.pointer (some ⟨p, 0, none⟩), .pointer (some ⟨q, 0, none⟩)] w fun e w' => e = .returned (.tuple #[.int .i64 r, .int .u32 z]) ∧ R w') :
    Calls Tryz.prog 111 #[.pointer (some ⟨p, 0, none⟩), .pointer (some ⟨q, 0, none⟩)] w fun e w' => e = .returned (.tuple #[.int .i64 r, .int .u32 z]) ∧ R w' := by
  have HC := Lib.hid hc
  clear hc
  go_enter Tryz.func111, Tryz.ntmps111
  go_wp2_with (go_at_call 136; refine HC.out.mono ?_; rintro e w1 ⟨rfl, hr⟩; (have HR1 := Lib.hid hr); clear hr)
  go_ret2
  exact ⟨rfl, HR1.out⟩
set_option maxRecDepth 100000 in
set_option maxHeartbeats 8000000 in
theorem ga_retry {w0 w : World} {q p : Nat} {M : Asn} (m : Nat) (node z : Int) (l : List Int) (G : Int → Value → Value → Int → List Asn → Prop) (hl : l.length = m) (hm : m ≤ 1000000000000)
    (hc : Calls Tryz.prog 136 #[.pointer (some ⟨p, 0, none⟩), .pointer (some ⟨q, 0, none⟩)] w fun e w' => e = .returned (.tuple #[.int .i64 6, .int .u32 z]) ∧ ∃ left A c fv nv i L, G left fv nv i L ∧ St w0 (M :: agB p left (.slice A m c) fv nv 6 i node :: row32 (.slice A m c) l :: L) w') :
    Calls Tryz.prog 111 #[.pointer (some ⟨p, 0, none⟩), .pointer (some ⟨q, 0, none⟩)] w fun e w' => e = .returned (.tuple #[.int .i64 1, .int .u32 node]) ∧ ∃ g c' left fv nv i L, G left fv nv i L ∧ St w0 (M :: agB p left (.slice (some ⟨g, 0, none⟩) (m + 1) c') fv nv 1 node node :: row32 (.slice (some ⟨g, 0, none⟩) (m + 1) c') (l ++ [node]) :: L) w' := by
  obtain ⟨i0, hi0, hz0, hz1, hz2⟩ := info_parts info32
  have HC := Lib.hid hc
  have HL := Lib.hid hl
  clear hc hl
  go_enter Tryz.func111, Tryz.ntmps111
  go_wp2_with (go_at_call 136; refine HC.out.mono ?_; rintro e w2 ⟨rfl, left, A, c, fv, nv, i, L, hG, h⟩; (have HG := Lib.hid hG); (have H2 := Lib.hid h); obtain ⟨⟨c0, c1, c2, c3, c4, c5⟩, ⟨z0, z1, z3, z4, z5⟩, lt0, c6⟩ := cellsA7 (h.cells 1 rfl); clear h hG)
  have HR : Hid (∀ w', Below w2.heap.size w2 w' → St w0 (rowA 22 1 (.slice A m c) m (l.map u32V) :: M :: agB p left (.slice A m c) fv nv 6 i node :: L) w') := Lib.hid (fun w' hb => by
    have := (H2.out.below hb).front 2 rfl
    rw [← HL.out]
    rw [← HL.out] at this
    exact this)
  go_region_law ((refine step_append_lies _ (by rfl) _ _ _ (by rfl) 0 22 i0 _ 1 4 Tryz.underlying41 hi0 hz0 hz1 hz2 rfl (by decide) (.slice A m c) m (l.map u32V) (by rfl) ((HR.out _ (bl_alloc (bl_drew (bl_refl _)) _)).rowOf 0 rfl) ⟨w2.heap.size, 0, none⟩ 1 1 [.int .u32 node] (by rfl) rfl (by exact World.news_of_block (cs := #[.int .u32 node]) (t := 22) (fr := (0, 0)) (by exact heap_new rfl)) (by simp [Value.oneCell']) (by decide) (by unfold maxLen; omega) (by omega) (Nat.zero_le _) _ rfl ?_); intro g cp w3 hown hgrow hat hlt; (have H3 := Lib.hid ((HR.out _ (bl_alloc (bl_drew (bl_refl _)) _)).append hown hgrow hat)); clear hown hgrow hat hlt; clear c0 c1 c2 c3 c4 c5 z0 z1 z3 z4 z5 lt0 c6; obtain ⟨⟨c0, c1, c2, c3, c4, c5⟩, ⟨z0, z1, z3, z4, z5⟩, lt0, c6⟩ := cellsA7 (H3.out.cells 2 rfl))
  all_goals (have h5 := H3.out.setAt 2 rfl 1 (.slice (some ⟨g, 0, none⟩) (m + 1) cp))
  all_goals (generalize w3.setCell ⟨p, 1, none⟩ (.slice (some ⟨g, 0, none⟩) (m + 1) cp) = W at *)
  all_goals (have H5 := Lib.hid h5)
  all_goals (clear c0 c1 c2 c3 c4 c5 z0 z1 z3 z4 z5 lt0 c6; obtain ⟨⟨c0, c1, c2, c3, c4, c5⟩, ⟨z0, z1, z3, z4, z5⟩, lt0, c6⟩ := cellsA7 (h5.cells 2 rfl))
  all_goals clear h5
  all_goals try go_wp2
  all_goals go_region_held3 (fun w' => w'.cell? ⟨p, 6, none⟩ = some (.int .u32 node)) (first | exact c6 | exact d6) ((go_at_call 135; refine (gva_ends left (.slice (some ⟨g, 0, none⟩) (m + 1) cp) fv nv 6 i 1 node node (H5.out.drew.front 2 rfl)).mono ?_; rintro e w6 ⟨rfl, h⟩; (have H6 := Lib.hid h); (have d6 := (cellsA7 (h.cells 0 rfl)).2.2.2); clear h))
  all_goals go_wp2
  all_goals go_ret2
  all_goals refine ⟨rfl, g, cp, left, fv, nv, i, L, HG.out, ?_⟩
  all_goals (have h7 : St w0 (M :: agB p left (.slice (some ⟨g, 0, none⟩) (m + 1) cp) fv nv 1 node node :: rowG g cp 22 1 (m + 1) (l.map u32V ++ [.int .u32 node]) :: L) _ := H6.out.re 3 [2, 0, 1])
  all_goals (unfold row32; rw [List.length_append, List.map_append, HL.out])
  all_goals exact h7
end Go.Proofs.YtgfeagggkplegaaGreat
