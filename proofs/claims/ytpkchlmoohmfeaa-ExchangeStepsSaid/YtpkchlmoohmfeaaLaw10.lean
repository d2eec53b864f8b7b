/-
  Chapter 10: what its laws share; its example.
-/
import Derived.Test.YtpkchlmoohmfeaaVisitE
import Derived.Test.YtpkchlmoohmfeaaVinv
import Derived.Test.YtpkchlmoohmfeaaWf
import Derived.Deep.LoopGhost
namespace Go.Proofs.Ytpkchlmoohmfeaa
open Go.RowKit
set_option linter.unusedVariables false
set_option linter.unusedSimpArgs false

theorem lit1 {w : World} {b : Nat} {v : Int} {e : TypeId} (h : w.heap[b]? = some (.cells #[.int .u64 v] e (0, 0))) : RdU w (some ⟨b, 0, none⟩) [v] :=
  ⟨fun e => (by simp at e), fun _ => ⟨_, rfl, fun j u hu => by
    cases j with
    | zero => rw [add_zero', cell_of h]; simpa using hu
    | succ j => simp at hu⟩⟩
theorem rng1 {v : Int} (h0 : 0 ≤ v) (h1 : v < 18446744073709551616) : ∀ x ∈ [v], 0 ≤ x ∧ x < 18446744073709551616 := fun x hx => by
  obtain rfl := List.mem_singleton.1 hx
  exact ⟨h0, h1⟩
theorem St.sw12 {w0 w : World} {m a b : Asn} {l : List Asn} (h : St w0 (m :: a :: b :: l) w) : St w0 (m :: b :: a :: l) w := h.perm ((List.Perm.swap b a l).cons m)
/-- A step whose outcome is known. -/
theorem vstep {w0 w : World} {q p : Nat} {ws ws' : List Int} {ns ns' nt : List Note} {L : List Asn} {S S' : VM} {now r : Int} (z : Int) (he : S.step ws now = ⟨r, S', ws', nt⟩) (hn : ns ++ nt = ns') (hz : S'.told r = z) (h : St w0 (memA q ws ns :: visA p S :: L) w) (hok : S.ok ws.length ns.length) (hk : ns.length ≤ 1000000000000) :
    Calls Try.prog 15 #[.pointer (some ⟨p, 0, none⟩), .pointer (some ⟨q, 0, none⟩), .int .u64 now] w fun e w' => e = .returned (.tuple #[.int .i64 r, .int .u32 z]) ∧ St w0 (memA q ws' ns' :: visA p S' :: L) w' := by
  have := visit_step now h hok hk
  rw [he] at this
  subst hn hz
  exact this
/-- A memory's words, one at least. -/
def WordsPos (w : World) (ws : List Int) (n : Nat) (e : Ending) (w' : World) : Prop := ∃ g c, e = .returned (.slice (some ⟨g, 0, none⟩) n c) ∧ (∀ j, j < n → w'.cell? ⟨g, j, none⟩ = some (.int .u64 (rdW ws j))) ∧ RdU w' (some ⟨g, 0, none⟩) ws ∧ n ≤ c ∧ Below w.heap.size w w'
theorem words_pos {w0 w : World} {q : Nat} {ws : List Int} {ns : List Note} {l : List Asn} (n : Nat) (h : St w0 (memA q ws ns :: l) w) (hn : ws.length = n) (h0 : 0 < n) :
    Calls Try.prog 17 #[.pointer (some ⟨q, 0, none⟩)] w (WordsPos w ws n) := by
  subst hn
  obtain ⟨own, h1, h2⟩ := h.mem
  refine (words_any own 1 q ws ns w h1).mono ?_
  rintro e w' ⟨v, rfl, ho, hb, a, c, rfl⟩
  obtain ⟨h3, h4⟩ := row_rdU ho
  have ho' := ho
  rcases ho.2 with ⟨e, e0⟩ | ⟨g, cap, cur, e, hg, hh, h5, h6, h7, h8⟩
  · omega
  · simp only [Value.slice.injEq] at e
    obtain ⟨rfl, _, rfl⟩ := e
    exact ⟨g, _, rfl, fun j hj => by
      obtain ⟨ad, e1, hc⟩ := h3.cellA hj
      cases e1
      rw [add_zero'] at hc
      exact hc, h3, h4, hb⟩
def pickI (c n : Int) : Int := (if c < 0 then -(c + 1) else c) % n
theorem pickI_rng {c n : Int} (h : 0 < n) : 0 ≤ pickI c n ∧ pickI c n < n := ⟨Int.emod_nonneg _ (by omega), Int.emod_lt_of_pos _ h⟩
theorem pick_is (c n k : Int) (w : World) (hk : pickI c n = k) (h0 : 0 < n) (h1 : n < 9223372036854775808) (c0 : -9223372036854775808 ≤ c) (c1 : c < 9223372036854775808) :
    Calls Try.prog 14 #[.int .i64 c, .int .i64 n] w fun e w' => e = .returned (.int .i64 k) ∧ w = w' := by
  subst hk
  by_cases hc : c < 0
  · have e : pickI c n = (-(c + 1)) % n := by simp [pickI, hc]
    rw [e]
    have d0 : decide (c < 0) = true := decide_eq_true hc
    have b1 : 0 ≤ -(c + 1) := by omega
    have b2 : -(c + 1) < 9223372036854775808 := by omega
    have b3 : -9223372036854775808 ≤ c + 1 := by omega
    have b4 : (-(c + 1)).tmod n = (-(c + 1)) % n := Int.tmod_eq_emod_of_nonneg b1
    go_enter Try.func14, Try.ntmps14
    go_wp2
    go_ret
    exact ⟨rfl, rfl⟩
  · have e : pickI c n = c % n := by simp [pickI, hc]
    rw [e]
    have d0 : decide (c < 0) = false := decide_eq_false hc
    have b1 : 0 ≤ c := by omega
    go_enter Try.func14, Try.ntmps14
    go_wp2
    go_ret
    exact ⟨rfl, rfl⟩
-- PRINTED

theorem sh1 : (newVM 0 false 0 9 9).step [4294967317] 0 = ⟨0, ⟨0, false, 0, 9, 9, 4294967317, .claim, 0, false⟩, [4294967317], [ldN 0 4294967317]⟩ := by rfl
theorem sh2 : VM.step ⟨0, false, 0, 9, 9, 4294967317, .claim, 0, false⟩ [4294967317] 0 = ⟨1, ⟨0, false, 5, 9, 9, 4294967317, .claim, 1, false⟩, [4294967319], [swN 0 4294967317 4294967319]⟩ := by rfl
theorem sh2_ok : VM.ok ⟨0, false, 0, 9, 9, 4294967317, .claim, 0, false⟩ 1 1 := ⟨by decide, by decide, by decide, by decide, by decide, by decide, by decide, by decide, fun _ _ => by decide, (fun h => by cases h), (rfl : sMeets 4294967317 false = true)⟩
theorem sh3_ok : VM.ok ⟨0, false, 5, 9, 9, 4294967317, .claim, 1, false⟩ 1 2 := ⟨by decide, by decide, by decide, by decide, by decide, by decide, by decide, by decide, fun _ _ => by decide, (fun h => by cases h), (rfl : sMeets 4294967317 false = true)⟩
theorem nil_rd (w : World) : RdU w none [] := ⟨fun _ => rfl, fun h => by simp at h⟩
set_option maxHeartbeats 8000000 in
theorem shown10 (w : World) : Calls Try.prog 10 #[] w fun e w' => e = .returned (.bool true) ∧ Below w.heap.size w w' := by
  have H := Lib.hid (St.nil w)
  go_enter Try.func10, Try.ntmps10
  go_wp2_with (first | ((have _h := H5); go_at_call 16; refine (visit_met none 0 0 1 2 [] true H5.out sh3_ok (nil_rd _) rfl rfl).mono ?_; rintro e w6 ⟨rfl, hb⟩; (have H6 := Lib.hid (H5.out.below hb)); clear hb; clear _h) | ((have _h := H4); go_at_call 15; refine (vstep 5 sh2 rfl rfl H4.out sh2_ok (by simp)).mono ?_; rintro e w5 ⟨rfl, h⟩; (have H5 := Lib.hid (h)); clear h; clear _h) | ((have _h := H3); go_at_call 15; refine (vstep 0 sh1 rfl rfl H3.out (newVM_ok 1 0 (by decide) (by decide) (by decide) (by decide) (by decide)) (by simp)).mono ?_; rintro e w4 ⟨rfl, h⟩; (have H4 := Lib.hid (h)); clear h; clear _h) | ((have _h := H2); go_at_call 13; refine (visit_new 0 false 0 9 9 H2.out).mono ?_; rintro e w3 ⟨p, rfl, h⟩; (have H3 := Lib.hid (h)); clear h; clear _h) | ((have _h := H1); go_at_call 11; refine (new_st (H1.out.below (bl_alloc (bl_refl _) _)) (some ⟨_, 0, none⟩) _ 1 [4294967317] (lit1 (heap_new rfl)) (by decide) (rng1 (by decide) (by decide)) rfl).mono ?_; rintro e w2 ⟨q, rfl, h⟩; (have H2 := Lib.hid (h)); clear h; clear _h) | ((have _h := H); go_at_call 12; refine (slot_word 1 5 1 4294967317 _ (by decide) (by decide) (by decide) (by decide) (by decide) (by decide) (by decide)).mono ?_; rintro e w1 ⟨rfl, hb⟩; (have H1 := Lib.hid (H.out.below hb)); clear hb; clear _h))
  go_ret
  exact ⟨rfl, H6.out.bel⟩
end Go.Proofs.Ytpkchlmoohmfeaa
