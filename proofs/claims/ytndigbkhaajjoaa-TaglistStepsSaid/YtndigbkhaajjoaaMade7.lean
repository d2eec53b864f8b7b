/-
  Chapter 7: a machine of a job, and the document's.
-/
import Derived.Test.YtndigbkhaajjoaaR7D
import Derived.Test.YtndigbkhaajjoaaEnds7
namespace Go.Proofs.Ytndigbkhaajjoaa
open Go.RowKit
set_option linter.unusedVariables false
set_option linter.unusedSimpArgs false

set_option maxRecDepth 20000 in
set_option maxHeartbeats 8000000 in
theorem made7_th {w0 w : World} {L : List Asn} (n s h t at_ I : Int) (hS : St w0 L w) :
    Calls Try.prog 28 #[.agg #[.int .i64 n, .int .i64 s, .int .i64 h, .int .u32 t], .agg #[.bool false, .bool true, .int .i64 at_, .int .i64 I]] w fun e w' => ∃ p rb, e = .returned (.agg #[.pointer (some ⟨p, 0, none⟩), .pointer none, .pointer (some ⟨rb, 0, none⟩)]) ∧ St w0 (tlA p (newTk n s h t (at_)) :: rtA rb (newTk n s h t (at_)) :: L) w' := by
  have h1 := (((hS.alloc #[.int .i64 n, .int .i64 s, .int .i64 h, .int .u32 t] 26).alloc #[.bool false, .bool true, .int .i64 at_, .int .i64 I] 59).alloc #[.pointer none, .pointer none, .pointer none] 56).alloc #[.int .i64 n, .int .i64 s, .int .i64 h, .int .u32 t, .int .i64 (at_), .bool false, .int .u32 0, .int .i64 0, .int .u64 0, .int .u32 0, .int .i64 0] 112
  try simp only [World.size_alloc] at h1
  have H := Lib.hid h1
  clear hS h1
  go_enter Try.func28, Try.ntmps28
  go_wp2_with (go_at_call 36; refine (take_new n s h t (at_) H.out).mono ?_; rintro e w6 ⟨p, rfl, h⟩; (have H6 := Lib.hid h); clear h; (have hp2 := H6.out.cells 2 rfl); obtain ⟨k0, k1, k2⟩ := cells3 hp2; (have f0 := free_of hp2 0); (have f1 := free_of hp2 1); (have f2 := free_of hp2 2); (have lp := lt_of_heap hp2); clear hp2)
  have h9 := ((H6.out.setAt 2 rfl 0 (.pointer (some ⟨p, 0, none⟩))).setAt 2 rfl 1 (.pointer none)).setAt 2 rfl 2 (.pointer (some ⟨w.heap.size + 1 + 1 + 1, 0, none⟩))
  generalize ((w6.setCell ⟨w.heap.size + 1 + 1, 0, none⟩ (.pointer (some ⟨p, 0, none⟩))).setCell ⟨w.heap.size + 1 + 1, 1, none⟩ (.pointer none)).setCell ⟨w.heap.size + 1 + 1, 2, none⟩ (.pointer (some ⟨w.heap.size + 1 + 1 + 1, 0, none⟩)) = W9 at *
  have H9 := Lib.hid h9
  clear k0 k1 k2
  obtain ⟨k0, k1, k2⟩ := cells3 (h9.cells 2 rfl)
  clear h9
  refine bodyPost_ret (by simp [results, Try.results28, go_sem, k0, k1, k2]; try rfl) rfl ?_
  exact ⟨p, _, rfl, rtA_close (rt_new false n s h t (at_) 0 (fun _ => rfl) (Int.le_refl _) (by decide)) ((show St w0 (tlA p (newTk n s h t (at_)) :: rtB (w.heap.size + 1 + 1 + 1) n s h t (at_) false 0 0 0 0 0 :: boxA _ _ _ :: boxA _ _ _ :: boxA _ _ _ :: L) _ from H9.out).re 5 [0, 1])⟩
set_option maxRecDepth 20000 in
set_option maxHeartbeats 8000000 in
theorem made7_t {w0 w : World} {L : List Asn} (n s h t at_ I : Int) (hS : St w0 L w) :
    Calls Try.prog 28 #[.agg #[.int .i64 n, .int .i64 s, .int .i64 h, .int .u32 t], .agg #[.bool false, .bool false, .int .i64 at_, .int .i64 I]] w fun e w' => ∃ p rb, e = .returned (.agg #[.pointer (some ⟨p, 0, none⟩), .pointer none, .pointer (some ⟨rb, 0, none⟩)]) ∧ St w0 (tlA p (newTk n s h t (1)) :: rtA rb (newTk n s h t (1)) :: L) w' := by
  have h1 := (((hS.alloc #[.int .i64 n, .int .i64 s, .int .i64 h, .int .u32 t] 26).alloc #[.bool false, .bool false, .int .i64 at_, .int .i64 I] 59).alloc #[.pointer none, .pointer none, .pointer none] 56).alloc #[.int .i64 n, .int .i64 s, .int .i64 h, .int .u32 t, .int .i64 (1), .bool false, .int .u32 0, .int .i64 0, .int .u64 0, .int .u32 0, .int .i64 0] 112
  try simp only [World.size_alloc] at h1
  have H := Lib.hid h1
  clear hS h1
  go_enter Try.func28, Try.ntmps28
  go_wp2_with (go_at_call 36; refine (take_new n s h t (1) H.out).mono ?_; rintro e w6 ⟨p, rfl, h⟩; (have H6 := Lib.hid h); clear h; (have hp2 := H6.out.cells 2 rfl); obtain ⟨k0, k1, k2⟩ := cells3 hp2; (have f0 := free_of hp2 0); (have f1 := free_of hp2 1); (have f2 := free_of hp2 2); (have lp := lt_of_heap hp2); clear hp2)
  have h9 := ((H6.out.setAt 2 rfl 0 (.pointer (some ⟨p, 0, none⟩))).setAt 2 rfl 1 (.pointer none)).setAt 2 rfl 2 (.pointer (some ⟨w.heap.size + 1 + 1 + 1, 0, none⟩))
  generalize ((w6.setCell ⟨w.heap.size + 1 + 1, 0, none⟩ (.pointer (some ⟨p, 0, none⟩))).setCell ⟨w.heap.size + 1 + 1, 1, none⟩ (.pointer none)).setCell ⟨w.heap.size + 1 + 1, 2, none⟩ (.pointer (some ⟨w.heap.size + 1 + 1 + 1, 0, none⟩)) = W9 at *
  have H9 := Lib.hid h9
  clear k0 k1 k2
  obtain ⟨k0, k1, k2⟩ := cells3 (h9.cells 2 rfl)
  clear h9
  refine bodyPost_ret (by simp [results, Try.results28, go_sem, k0, k1, k2]; try rfl) rfl ?_
  exact ⟨p, _, rfl, rtA_close (rt_new false n s h t (1) 0 (fun _ => rfl) (Int.le_refl _) (by decide)) ((show St w0 (tlA p (newTk n s h t (1)) :: rtB (w.heap.size + 1 + 1 + 1) n s h t (1) false 0 0 0 0 0 :: boxA _ _ _ :: boxA _ _ _ :: boxA _ _ _ :: L) _ from H9.out).re 5 [0, 1])⟩
set_option maxRecDepth 20000 in
set_option maxHeartbeats 8000000 in
theorem made7_gh {w0 w : World} {L : List Asn} (n s h t at_ I i : Int) (hS : St w0 L w) (hi : I % 4294967296 = i) :
    Calls Try.prog 28 #[.agg #[.int .i64 n, .int .i64 s, .int .i64 h, .int .u32 t], .agg #[.bool true, .bool true, .int .i64 at_, .int .i64 I]] w fun e w' => ∃ p rb, e = .returned (.agg #[.pointer none, .pointer (some ⟨p, 0, none⟩), .pointer (some ⟨rb, 0, none⟩)]) ∧ St w0 (tlA p (newGv n s h t (at_) i) :: rtA rb (newGv n s h t (at_) i) :: L) w' := by
  have i0 : 0 ≤ i := by omega
  have i1 : i < 4294967296 := by omega
  have hW : IntKind.u32.wrap I = i := by rw [IntKind.wrap_u32]; exact hi
  have h1 := (((hS.alloc #[.int .i64 n, .int .i64 s, .int .i64 h, .int .u32 t] 26).alloc #[.bool true, .bool true, .int .i64 at_, .int .i64 I] 59).alloc #[.pointer none, .pointer none, .pointer none] 56).alloc #[.int .i64 n, .int .i64 s, .int .i64 h, .int .u32 t, .int .i64 (at_), .bool true, .int .u32 i, .int .i64 0, .int .u64 0, .int .u32 0, .int .i64 0] 112
  try simp only [World.size_alloc] at h1
  have H := Lib.hid h1
  clear hS h1
  go_enter Try.func28, Try.ntmps28
  go_wp2_with (go_at_call 38; refine (give_new n s h t (at_) i H.out).mono ?_; rintro e w6 ⟨p, rfl, h⟩; (have H6 := Lib.hid h); clear h; (have hp2 := H6.out.cells 2 rfl); obtain ⟨k0, k1, k2⟩ := cells3 hp2; (have f0 := free_of hp2 0); (have f1 := free_of hp2 1); (have f2 := free_of hp2 2); (have lp := lt_of_heap hp2); clear hp2)
  have h9 := ((H6.out.setAt 2 rfl 0 (.pointer none)).setAt 2 rfl 1 (.pointer (some ⟨p, 0, none⟩))).setAt 2 rfl 2 (.pointer (some ⟨w.heap.size + 1 + 1 + 1, 0, none⟩))
  generalize ((w6.setCell ⟨w.heap.size + 1 + 1, 0, none⟩ (.pointer none)).setCell ⟨w.heap.size + 1 + 1, 1, none⟩ (.pointer (some ⟨p, 0, none⟩))).setCell ⟨w.heap.size + 1 + 1, 2, none⟩ (.pointer (some ⟨w.heap.size + 1 + 1 + 1, 0, none⟩)) = W9 at *
  have H9 := Lib.hid h9
  clear k0 k1 k2
  obtain ⟨k0, k1, k2⟩ := cells3 (h9.cells 2 rfl)
  clear h9
  refine bodyPost_ret (by simp [results, Try.results28, go_sem, k0, k1, k2]; try rfl) rfl ?_
  exact ⟨p, _, rfl, rtA_close (rt_new true n s h t (at_) i (fun c => by cases c) i0 i1) ((show St w0 (tlA p (newGv n s h t (at_) i) :: rtB (w.heap.size + 1 + 1 + 1) n s h t (at_) true i 0 0 0 0 :: boxA _ _ _ :: boxA _ _ _ :: boxA _ _ _ :: L) _ from H9.out).re 5 [0, 1])⟩
set_option maxRecDepth 20000 in
set_option maxHeartbeats 8000000 in
theorem made7_g {w0 w : World} {L : List Asn} (n s h t at_ I i : Int) (hS : St w0 L w) (hi : I % 4294967296 = i) :
    Calls Try.prog 28 #[.agg #[.int .i64 n, .int .i64 s, .int .i64 h, .int .u32 t], .agg #[.bool true, .bool false, .int .i64 at_, .int .i64 I]] w fun e w' => ∃ p rb, e = .returned (.agg #[.pointer none, .pointer (some ⟨p, 0, none⟩), .pointer (some ⟨rb, 0, none⟩)]) ∧ St w0 (tlA p (newGv n s h t (1) i) :: rtA rb (newGv n s h t (1) i) :: L) w' := by
  have i0 : 0 ≤ i := by omega
  have i1 : i < 4294967296 := by omega
  have hW : IntKind.u32.wrap I = i := by rw [IntKind.wrap_u32]; exact hi
  have h1 := (((hS.alloc #[.int .i64 n, .int .i64 s, .int .i64 h, .int .u32 t] 26).alloc #[.bool true, .bool false, .int .i64 at_, .int .i64 I] 59).alloc #[.pointer none, .pointer none, .pointer none] 56).alloc #[.int .i64 n, .int .i64 s, .int .i64 h, .int .u32 t, .int .i64 (1), .bool true, .int .u32 i, .int .i64 0, .int .u64 0, .int .u32 0, .int .i64 0] 112
  try simp only [World.size_alloc] at h1
  have H := Lib.hid h1
  clear hS h1
  go_enter Try.func28, Try.ntmps28
  go_wp2_with (go_at_call 38; refine (give_new n s h t (1) i H.out).mono ?_; rintro e w6 ⟨p, rfl, h⟩; (have H6 := Lib.hid h); clear h; (have hp2 := H6.out.cells 2 rfl); obtain ⟨k0, k1, k2⟩ := cells3 hp2; (have f0 := free_of hp2 0); (have f1 := free_of hp2 1); (have f2 := free_of hp2 2); (have lp := lt_of_heap hp2); clear hp2)
  have h9 := ((H6.out.setAt 2 rfl 0 (.pointer none)).setAt 2 rfl 1 (.pointer (some ⟨p, 0, none⟩))).setAt 2 rfl 2 (.pointer (some ⟨w.heap.size + 1 + 1 + 1, 0, none⟩))
  generalize ((w6.setCell ⟨w.heap.size + 1 + 1, 0, none⟩ (.pointer none)).setCell ⟨w.heap.size + 1 + 1, 1, none⟩ (.pointer (some ⟨p, 0, none⟩))).setCell ⟨w.heap.size + 1 + 1, 2, none⟩ (.pointer (some ⟨w.heap.size + 1 + 1 + 1, 0, none⟩)) = W9 at *
  have H9 := Lib.hid h9
  clear k0 k1 k2
  obtain ⟨k0, k1, k2⟩ := cells3 (h9.cells 2 rfl)
  clear h9
  refine bodyPost_ret (by simp [results, Try.results28, go_sem, k0, k1, k2]; try rfl) rfl ?_
  exact ⟨p, _, rfl, rtA_close (rt_new true n s h t (1) i (fun c => by cases c) i0 i1) ((show St w0 (tlA p (newGv n s h t (1) i) :: rtB (w.heap.size + 1 + 1 + 1) n s h t (1) true i 0 0 0 0 :: boxA _ _ _ :: boxA _ _ _ :: boxA _ _ _ :: L) _ from H9.out).re 5 [0, 1])⟩
theorem made7T {w0 w : World} {L : List Asn} (n s h t at_ I a : Int) (hd : Bool) (hS : St w0 L w) (ha : (if hd = true then at_ else 1) = a) :
    Calls Try.prog 28 #[.agg #[.int .i64 n, .int .i64 s, .int .i64 h, .int .u32 t], .agg #[.bool false, .bool hd, .int .i64 at_, .int .i64 I]] w fun e w' => ∃ p rb, e = .returned (.agg #[.pointer (some ⟨p, 0, none⟩), .pointer none, .pointer (some ⟨rb, 0, none⟩)]) ∧ St w0 (tlA p (newTk n s h t a) :: rtA rb (newTk n s h t a) :: L) w' := by
  cases hd <;> subst ha
  · exact made7_t n s h t at_ I hS
  · exact made7_th n s h t at_ I hS
theorem made7G {w0 w : World} {L : List Asn} (n s h t at_ I a i : Int) (hd : Bool) (hS : St w0 L w) (ha : (if hd = true then at_ else 1) = a) (hi : I % 4294967296 = i) :
    Calls Try.prog 28 #[.agg #[.int .i64 n, .int .i64 s, .int .i64 h, .int .u32 t], .agg #[.bool true, .bool hd, .int .i64 at_, .int .i64 I]] w fun e w' => ∃ p rb, e = .returned (.agg #[.pointer none, .pointer (some ⟨p, 0, none⟩), .pointer (some ⟨rb, 0, none⟩)]) ∧ St w0 (tlA p (newGv n s h t a i) :: rtA rb (newGv n s h t a i) :: L) w' := by
  cases hd <;> subst ha
  · exact made7_g n s h t at_ I i hS hi
  · exact made7_gh n s h t at_ I i hS hi
end Go.Proofs.Ytndigbkhaajjoaa
