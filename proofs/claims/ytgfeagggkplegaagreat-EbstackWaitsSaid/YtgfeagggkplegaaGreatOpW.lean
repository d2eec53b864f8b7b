/-
  ebstack's Op: its visits, a step of whichever part, Step itself, what is made.
-/
import Derived.Test.YtgfeagggkplegaaGreatOpV
namespace Go.Proofs.YtgfeagggkplegaaGreat
open Go.RowKit
set_option linter.unusedVariables false
set_option linter.unusedSimpArgs false

set_option maxHeartbeats 8000000 in
theorem o_vis_0 {w0 w : World} {q r p x : Nat} {ws ws' : List Int} {ns ns' nt : List Note} {now : Int} {ds ds' : List Int} {E E' : EM} {a z : Int} {L : List Asn} {n s h t bud base wait : Int} {sv : Value} {rg ex : Int} {push : Bool} {v i failed : Int}  {st : Int} {retry : Bool} (hS : St w0 (memA q ws ns :: srcA r now ds :: emA x E :: opB p n s h t bud base wait sv rg ex push v i failed (pvI x) st retry :: L) w) (he : E.step ws now ds = ⟨a, z, E', ws', nt, ds'⟩) (hn : ns ++ nt = ns') (hok : E.ok ws.length ns.length) (hds : DsOk ds) (n0 : 0 ≤ now) (n1 : now < 18446744073709551616) (hk : ns.length ≤ 1000000000000) (ha : a = 0) :
    Calls Tryz.prog 90 #[.pointer (some ⟨p, 0, none⟩), .pointer (some ⟨q, 0, none⟩), .pointer (some ⟨r, 0, none⟩)] w fun e w' => e = .returned (.int .i64 0) ∧ St w0 (memA q ws' ns' :: srcA r now ds' :: emA x E' :: opB p n s h t bud base wait sv E'.rg E'.ex push v i failed (pvI x) st retry :: L) w' := by
  have H := Lib.hid hS
  have HE := Lib.hid he
  have HN := Lib.hid hn
  have HOK := Lib.hid hok
  subst ha
  have hAS := as_visit
  obtain ⟨⟨c0, c1, c2, c3, c4, c5, c6, c7, c8, c9, c10, c11, c12, c13, c14, c15, c16⟩, ⟨z7, z8, z9, z11, z12, z13, z14, z15, z16⟩, lp⟩ := cells17 (hS.cells 3 rfl)
  clear hS he hn hok
  go_enter Tryz.func90, Tryz.ntmps90
  go_wp2_with (first | ((have _h := H1); go_at_call 114; refine (e_state H1.out 2 rfl).mono ?_; rintro e w2 ⟨rfl, k⟩; (have H2 := Lib.hid (H1.out.below k)); clear k _h; clear c0 c1 c2 c3 c4 c5 c6 c7 c8 c9 c10 c11 c12 c13 c14 c15 c16 z7 z8 z9 z11 z12 z13 z14 z15 z16 lp; obtain ⟨⟨c0, c1, c2, c3, c4, c5, c6, c7, c8, c9, c10, c11, c12, c13, c14, c15, c16⟩, ⟨z7, z8, z9, z11, z12, z13, z14, z15, z16⟩, lp⟩ := cells17 (H2.out.cells 3 rfl)) | (go_at_call 113; refine (estep HE.out HN.out H.out HOK.out hds n0 n1 hk).mono ?_; rintro e w1 ⟨rfl, k⟩; (have H1 := Lib.hid k); clear k; clear c0 c1 c2 c3 c4 c5 c6 c7 c8 c9 c10 c11 c12 c13 c14 c15 c16 z7 z8 z9 z11 z12 z13 z14 z15 z16 lp; obtain ⟨⟨c0, c1, c2, c3, c4, c5, c6, c7, c8, c9, c10, c11, c12, c13, c14, c15, c16⟩, ⟨z7, z8, z9, z11, z12, z13, z14, z15, z16⟩, lp⟩ := cells17 (H1.out.cells 3 rfl)))
  go_ret
  exact ⟨rfl, ((H2.out.setAt 3 rfl 8 (.int .i64 E'.rg)).setAt 3 rfl 9 (.int .i64 E'.ex))⟩

set_option maxHeartbeats 8000000 in
theorem o_vis_5 {w0 w : World} {q r p x : Nat} {ws ws' : List Int} {ns ns' nt : List Note} {now : Int} {ds ds' : List Int} {E E' : EM} {a z : Int} {L : List Asn} {n s h t bud base wait : Int} {sv : Value} {rg ex : Int} {push : Bool} {v i failed : Int}  {st : Int} {retry : Bool} (hS : St w0 (memA q ws ns :: srcA r now ds :: emA x E :: opB p n s h t bud base wait sv rg ex push v i failed (pvI x) st retry :: L) w) (he : E.step ws now ds = ⟨a, z, E', ws', nt, ds'⟩) (hn : ns ++ nt = ns') (hok : E.ok ws.length ns.length) (hds : DsOk ds) (n0 : 0 ≤ now) (n1 : now < 18446744073709551616) (hk : ns.length ≤ 1000000000000) (ha : a = 5) :
    Calls Tryz.prog 90 #[.pointer (some ⟨p, 0, none⟩), .pointer (some ⟨q, 0, none⟩), .pointer (some ⟨r, 0, none⟩)] w fun e w' => e = .returned (.int .i64 5) ∧ St w0 (memA q ws' ns' :: srcA r now ds' :: emA x E' :: opB p n s h t bud base wait sv E'.rg E'.ex push v i failed (pvI x) st retry :: L) w' := by
  have H := Lib.hid hS
  have HE := Lib.hid he
  have HN := Lib.hid hn
  have HOK := Lib.hid hok
  subst ha
  have hAS := as_visit
  obtain ⟨⟨c0, c1, c2, c3, c4, c5, c6, c7, c8, c9, c10, c11, c12, c13, c14, c15, c16⟩, ⟨z7, z8, z9, z11, z12, z13, z14, z15, z16⟩, lp⟩ := cells17 (hS.cells 3 rfl)
  clear hS he hn hok
  go_enter Tryz.func90, Tryz.ntmps90
  go_wp2_with (first | ((have _h := H1); go_at_call 114; refine (e_state H1.out 2 rfl).mono ?_; rintro e w2 ⟨rfl, k⟩; (have H2 := Lib.hid (H1.out.below k)); clear k _h; clear c0 c1 c2 c3 c4 c5 c6 c7 c8 c9 c10 c11 c12 c13 c14 c15 c16 z7 z8 z9 z11 z12 z13 z14 z15 z16 lp; obtain ⟨⟨c0, c1, c2, c3, c4, c5, c6, c7, c8, c9, c10, c11, c12, c13, c14, c15, c16⟩, ⟨z7, z8, z9, z11, z12, z13, z14, z15, z16⟩, lp⟩ := cells17 (H2.out.cells 3 rfl)) | (go_at_call 113; refine (estep HE.out HN.out H.out HOK.out hds n0 n1 hk).mono ?_; rintro e w1 ⟨rfl, k⟩; (have H1 := Lib.hid k); clear k; clear c0 c1 c2 c3 c4 c5 c6 c7 c8 c9 c10 c11 c12 c13 c14 c15 c16 z7 z8 z9 z11 z12 z13 z14 z15 z16 lp; obtain ⟨⟨c0, c1, c2, c3, c4, c5, c6, c7, c8, c9, c10, c11, c12, c13, c14, c15, c16⟩, ⟨z7, z8, z9, z11, z12, z13, z14, z15, z16⟩, lp⟩ := cells17 (H1.out.cells 3 rfl)))
  go_ret
  exact ⟨rfl, ((H2.out.setAt 3 rfl 8 (.int .i64 E'.rg)).setAt 3 rfl 9 (.int .i64 E'.ex))⟩

set_option maxHeartbeats 8000000 in
theorem o_vis_core_push {w0 w : World} {q r p x : Nat} {ws ws' : List Int} {ns ns' nt : List Note} {now : Int} {ds ds' : List Int} {E E' : EM} {a z : Int} {L : List Asn} {n s h t bud base wait : Int} {sv : Value} {rg ex : Int}  {v i failed : Int}  {st : Int} {retry : Bool} (hS : St w0 (memA q ws ns :: srcA r now ds :: emA x E :: opB p n s h t bud base wait sv rg ex true v i failed (pvI x) st retry :: L) w) (he : E.step ws now ds = ⟨a, z, E', ws', nt, ds'⟩) (hn : ns ++ nt = ns') (hok : E.ok ws.length ns.length) (hds : DsOk ds) (n0 : 0 ≤ now) (n1 : now < 18446744073709551616) (hk : ns.length ≤ 1000000000000) (a0 : (a == 0) = false) (a5 : (a == 5) = false) (a1 : (a != 1) = true) :
    Calls Tryz.prog 90 #[.pointer (some ⟨p, 0, none⟩), .pointer (some ⟨q, 0, none⟩), .pointer (some ⟨r, 0, none⟩)] w fun e w' => ∃ y, e = .returned (.int .i64 0) ∧ St w0 (tlA y (newGv n s h t 0 i) :: opB p n s h t bud base wait sv E'.rg E'.ex true v i failed (gvI y) st retry :: memA q ws' ns' :: srcA r now ds' :: L) w' := by
  have H := Lib.hid hS
  have HE := Lib.hid he
  have HN := Lib.hid hn
  have HOK := Lib.hid hok
  have hAS := as_visit
  obtain ⟨⟨c0, c1, c2, c3, c4, c5, c6, c7, c8, c9, c10, c11, c12, c13, c14, c15, c16⟩, ⟨z7, z8, z9, z11, z12, z13, z14, z15, z16⟩, lp⟩ := cells17 (hS.cells 3 rfl)
  clear hS he hn hok
  go_enter Tryz.func90, Tryz.ntmps90
  go_wp2_with (first | ((have _h := H2); go_at_call 115; refine (o_core_push (((H2.out.setAt 3 rfl 8 (.int .i64 E'.rg)).setAt 3 rfl 9 (.int .i64 E'.ex)).front 3 rfl)).mono ?_; rintro e w3 ⟨y, rfl, k⟩; (have H3 := Lib.hid k); clear k _h) | ((have _h := H1); go_at_call 114; refine (e_state H1.out 2 rfl).mono ?_; rintro e w2 ⟨rfl, k⟩; (have H2 := Lib.hid (H1.out.below k)); clear k _h; clear c0 c1 c2 c3 c4 c5 c6 c7 c8 c9 c10 c11 c12 c13 c14 c15 c16 z7 z8 z9 z11 z12 z13 z14 z15 z16 lp; obtain ⟨⟨c0, c1, c2, c3, c4, c5, c6, c7, c8, c9, c10, c11, c12, c13, c14, c15, c16⟩, ⟨z7, z8, z9, z11, z12, z13, z14, z15, z16⟩, lp⟩ := cells17 (H2.out.cells 3 rfl)) | (go_at_call 113; refine (estep HE.out HN.out H.out HOK.out hds n0 n1 hk).mono ?_; rintro e w1 ⟨rfl, k⟩; (have H1 := Lib.hid k); clear k; clear c0 c1 c2 c3 c4 c5 c6 c7 c8 c9 c10 c11 c12 c13 c14 c15 c16 z7 z8 z9 z11 z12 z13 z14 z15 z16 lp; obtain ⟨⟨c0, c1, c2, c3, c4, c5, c6, c7, c8, c9, c10, c11, c12, c13, c14, c15, c16⟩, ⟨z7, z8, z9, z11, z12, z13, z14, z15, z16⟩, lp⟩ := cells17 (H1.out.cells 3 rfl)))
  go_ret
  exact ⟨y, rfl, (show St w0 (_ :: _ :: memA q ws' ns' :: srcA r now ds' :: emA x E' :: L) _ from H3.out).re 5 [0, 1, 2, 3]⟩

set_option maxHeartbeats 8000000 in
theorem o_vis_core_pop {w0 w : World} {q r p x : Nat} {ws ws' : List Int} {ns ns' nt : List Note} {now : Int} {ds ds' : List Int} {E E' : EM} {a z : Int} {L : List Asn} {n s h t bud base wait : Int} {sv : Value} {rg ex : Int}  {v i failed : Int}  {st : Int} {retry : Bool} (hS : St w0 (memA q ws ns :: srcA r now ds :: emA x E :: opB p n s h t bud base wait sv rg ex false v i failed (pvI x) st retry :: L) w) (he : E.step ws now ds = ⟨a, z, E', ws', nt, ds'⟩) (hn : ns ++ nt = ns') (hok : E.ok ws.length ns.length) (hds : DsOk ds) (n0 : 0 ≤ now) (n1 : now < 18446744073709551616) (hk : ns.length ≤ 1000000000000) (a0 : (a == 0) = false) (a5 : (a == 5) = false) (a1 : (a != 1) = true) :
    Calls Tryz.prog 90 #[.pointer (some ⟨p, 0, none⟩), .pointer (some ⟨q, 0, none⟩), .pointer (some ⟨r, 0, none⟩)] w fun e w' => ∃ y, e = .returned (.int .i64 0) ∧ St w0 (tlA y (newTk n s h t 0) :: opB p n s h t bud base wait sv E'.rg E'.ex false v i failed (tkI y) st retry :: memA q ws' ns' :: srcA r now ds' :: L) w' := by
  have H := Lib.hid hS
  have HE := Lib.hid he
  have HN := Lib.hid hn
  have HOK := Lib.hid hok
  have hAS := as_visit
  obtain ⟨⟨c0, c1, c2, c3, c4, c5, c6, c7, c8, c9, c10, c11, c12, c13, c14, c15, c16⟩, ⟨z7, z8, z9, z11, z12, z13, z14, z15, z16⟩, lp⟩ := cells17 (hS.cells 3 rfl)
  clear hS he hn hok
  go_enter Tryz.func90, Tryz.ntmps90
  go_wp2_with (first | ((have _h := H2); go_at_call 115; refine (o_core_pop (((H2.out.setAt 3 rfl 8 (.int .i64 E'.rg)).setAt 3 rfl 9 (.int .i64 E'.ex)).front 3 rfl)).mono ?_; rintro e w3 ⟨y, rfl, k⟩; (have H3 := Lib.hid k); clear k _h) | ((have _h := H1); go_at_call 114; refine (e_state H1.out 2 rfl).mono ?_; rintro e w2 ⟨rfl, k⟩; (have H2 := Lib.hid (H1.out.below k)); clear k _h; clear c0 c1 c2 c3 c4 c5 c6 c7 c8 c9 c10 c11 c12 c13 c14 c15 c16 z7 z8 z9 z11 z12 z13 z14 z15 z16 lp; obtain ⟨⟨c0, c1, c2, c3, c4, c5, c6, c7, c8, c9, c10, c11, c12, c13, c14, c15, c16⟩, ⟨z7, z8, z9, z11, z12, z13, z14, z15, z16⟩, lp⟩ := cells17 (H2.out.cells 3 rfl)) | (go_at_call 113; refine (estep HE.out HN.out H.out HOK.out hds n0 n1 hk).mono ?_; rintro e w1 ⟨rfl, k⟩; (have H1 := Lib.hid k); clear k; clear c0 c1 c2 c3 c4 c5 c6 c7 c8 c9 c10 c11 c12 c13 c14 c15 c16 z7 z8 z9 z11 z12 z13 z14 z15 z16 lp; obtain ⟨⟨c0, c1, c2, c3, c4, c5, c6, c7, c8, c9, c10, c11, c12, c13, c14, c15, c16⟩, ⟨z7, z8, z9, z11, z12, z13, z14, z15, z16⟩, lp⟩ := cells17 (H1.out.cells 3 rfl)))
  go_ret
  exact ⟨y, rfl, (show St w0 (_ :: _ :: memA q ws' ns' :: srcA r now ds' :: emA x E' :: L) _ from H3.out).re 5 [0, 1, 2, 3]⟩

set_option maxHeartbeats 8000000 in
theorem o_vis_1_push {w0 w : World} {q r p x : Nat} {ws ws' : List Int} {ns ns' nt : List Note} {now : Int} {ds ds' : List Int} {E E' : EM} {a z : Int} {L : List Asn} {n s h t bud base wait : Int} {sv : Value} {rg ex : Int}  {v i failed : Int}  {st : Int} {retry : Bool} (hS : St w0 (memA q ws ns :: srcA r now ds :: emA x E :: opB p n s h t bud base wait sv rg ex true v i failed (pvI x) st retry :: L) w) (he : E.step ws now ds = ⟨a, z, E', ws', nt, ds'⟩) (hn : ns ++ nt = ns') (hok : E.ok ws.length ns.length) (hds : DsOk ds) (n0 : 0 ≤ now) (n1 : now < 18446744073709551616) (hk : ns.length ≤ 1000000000000) (ha : a = 1) :
    Calls Tryz.prog 90 #[.pointer (some ⟨p, 0, none⟩), .pointer (some ⟨q, 0, none⟩), .pointer (some ⟨r, 0, none⟩)] w fun e w' => e = .returned (.int .i64 1) ∧ St w0 (memA q ws' ns' :: srcA r now ds' :: emA x E' :: opB p n s h t bud base wait sv E'.rg E'.ex true v 0 failed (pvI x) st retry :: L) w' := by
  have H := Lib.hid hS
  have HE := Lib.hid he
  have HN := Lib.hid hn
  have HOK := Lib.hid hok
  subst ha
  have hAS := as_visit
  obtain ⟨⟨c0, c1, c2, c3, c4, c5, c6, c7, c8, c9, c10, c11, c12, c13, c14, c15, c16⟩, ⟨z7, z8, z9, z11, z12, z13, z14, z15, z16⟩, lp⟩ := cells17 (hS.cells 3 rfl)
  clear hS he hn hok
  go_enter Tryz.func90, Tryz.ntmps90
  go_wp2_with (first | ((have _h := H1); go_at_call 114; refine (e_state H1.out 2 rfl).mono ?_; rintro e w2 ⟨rfl, k⟩; (have H2 := Lib.hid (H1.out.below k)); clear k _h; clear c0 c1 c2 c3 c4 c5 c6 c7 c8 c9 c10 c11 c12 c13 c14 c15 c16 z7 z8 z9 z11 z12 z13 z14 z15 z16 lp; obtain ⟨⟨c0, c1, c2, c3, c4, c5, c6, c7, c8, c9, c10, c11, c12, c13, c14, c15, c16⟩, ⟨z7, z8, z9, z11, z12, z13, z14, z15, z16⟩, lp⟩ := cells17 (H2.out.cells 3 rfl)) | (go_at_call 113; refine (estep HE.out HN.out H.out HOK.out hds n0 n1 hk).mono ?_; rintro e w1 ⟨rfl, k⟩; (have H1 := Lib.hid k); clear k; clear c0 c1 c2 c3 c4 c5 c6 c7 c8 c9 c10 c11 c12 c13 c14 c15 c16 z7 z8 z9 z11 z12 z13 z14 z15 z16 lp; obtain ⟨⟨c0, c1, c2, c3, c4, c5, c6, c7, c8, c9, c10, c11, c12, c13, c14, c15, c16⟩, ⟨z7, z8, z9, z11, z12, z13, z14, z15, z16⟩, lp⟩ := cells17 (H1.out.cells 3 rfl)))
  go_ret
  exact ⟨rfl, ((H2.out.setAt 3 rfl 8 (.int .i64 E'.rg)).setAt 3 rfl 9 (.int .i64 E'.ex)).setAt 3 rfl 12 _⟩

set_option maxHeartbeats 8000000 in
theorem o_vis_1_pop {w0 w : World} {q r p x : Nat} {ws ws' : List Int} {ns ns' nt : List Note} {now : Int} {ds ds' : List Int} {E E' : EM} {a z : Int} {L : List Asn} {n s h t bud base wait : Int} {sv : Value} {rg ex : Int}  {v i failed : Int}  {st : Int} {retry : Bool} (hS : St w0 (memA q ws ns :: srcA r now ds :: emA x E :: opB p n s h t bud base wait sv rg ex false v i failed (pvI x) st retry :: L) w) (he : E.step ws now ds = ⟨a, z, E', ws', nt, ds'⟩) (hn : ns ++ nt = ns') (hok : E.ok ws.length ns.length) (hds : DsOk ds) (n0 : 0 ≤ now) (n1 : now < 18446744073709551616) (hk : ns.length ≤ 1000000000000) (ha : a = 1) (z0 : 0 ≤ z) (z1 : z < 4294967296) (b : Int) (hb : valI n s h z = b) :
    Calls Tryz.prog 90 #[.pointer (some ⟨p, 0, none⟩), .pointer (some ⟨q, 0, none⟩), .pointer (some ⟨r, 0, none⟩)] w fun e w' => e = .returned (.int .i64 0) ∧ St w0 (opB p n s h t bud base wait sv E'.rg E'.ex false v z failed (paI b false) st retry :: memA q ws' ns' :: srcA r now ds' :: L) w' := by
  have H := Lib.hid hS
  have HE := Lib.hid he
  have HN := Lib.hid hn
  have HOK := Lib.hid hok
  subst ha
  have hAS := as_visit
  obtain ⟨⟨c0, c1, c2, c3, c4, c5, c6, c7, c8, c9, c10, c11, c12, c13, c14, c15, c16⟩, ⟨z7, z8, z9, z11, z12, z13, z14, z15, z16⟩, lp⟩ := cells17 (hS.cells 3 rfl)
  clear hS he hn hok
  go_enter Tryz.func90, Tryz.ntmps90
  go_wp2_with (first | ((have _h := H2); go_at_call 116; refine (o_has (((H2.out.setAt 3 rfl 8 (.int .i64 E'.rg)).setAt 3 rfl 9 (.int .i64 E'.ex)).front 3 rfl) z0 z1 b hb).mono ?_; rintro e w3 ⟨rfl, k⟩; (have H3 := Lib.hid k); clear k _h) | ((have _h := H1); go_at_call 114; refine (e_state H1.out 2 rfl).mono ?_; rintro e w2 ⟨rfl, k⟩; (have H2 := Lib.hid (H1.out.below k)); clear k _h; clear c0 c1 c2 c3 c4 c5 c6 c7 c8 c9 c10 c11 c12 c13 c14 c15 c16 z7 z8 z9 z11 z12 z13 z14 z15 z16 lp; obtain ⟨⟨c0, c1, c2, c3, c4, c5, c6, c7, c8, c9, c10, c11, c12, c13, c14, c15, c16⟩, ⟨z7, z8, z9, z11, z12, z13, z14, z15, z16⟩, lp⟩ := cells17 (H2.out.cells 3 rfl)) | (go_at_call 113; refine (estep HE.out HN.out H.out HOK.out hds n0 n1 hk).mono ?_; rintro e w1 ⟨rfl, k⟩; (have H1 := Lib.hid k); clear k; clear c0 c1 c2 c3 c4 c5 c6 c7 c8 c9 c10 c11 c12 c13 c14 c15 c16 z7 z8 z9 z11 z12 z13 z14 z15 z16 lp; obtain ⟨⟨c0, c1, c2, c3, c4, c5, c6, c7, c8, c9, c10, c11, c12, c13, c14, c15, c16⟩, ⟨z7, z8, z9, z11, z12, z13, z14, z15, z16⟩, lp⟩ := cells17 (H1.out.cells 3 rfl)))
  go_ret
  exact ⟨rfl, (show St w0 (_ :: memA q ws' ns' :: srcA r now ds' :: emA x E' :: L) _ from H3.out).re 4 [0, 1, 2]⟩

set_option maxHeartbeats 8000000 in
theorem o_step_take {w0 w : World} {p : Nat} {L : List Asn} {n s h t bud base wait : Int} {sv : Value} {rg ex : Int} {push : Bool} {v i failed : Int}  {st : Int} {retry : Bool} {q r : Nat} {x : Nat} {R : Int → World → Prop} (hS : St w0 L w) (k : Nat) (hk : L[k]? = some (opB p n s h t bud base wait sv rg ex push v i failed (ptI x) st retry)) (hC : Calls Tryz.prog 88 #[.pointer (some ⟨p, 0, none⟩), .pointer (some ⟨q, 0, none⟩)] w fun e w' => ∃ c, e = .returned (.int .i64 c) ∧ R c w') :
    Calls Tryz.prog 58 #[.pointer (some ⟨p, 0, none⟩), .pointer (some ⟨q, 0, none⟩), .pointer (some ⟨r, 0, none⟩)] w fun e w' => ∃ c, e = .returned (.int .i64 c) ∧ R c w' := by
  have HC := Lib.hid hC
  have hItake := is_take_take
  have hIgive := is_take_give
  have hIvisit := is_take_visit
  have hIacc := is_take_acc
  obtain ⟨⟨c0, c1, c2, c3, c4, c5, c6, c7, c8, c9, c10, c11, c12, c13, c14, c15, c16⟩, ⟨z7, z8, z9, z11, z12, z13, z14, z15, z16⟩, lp⟩ := cells17 (hS.cells k hk)
  clear hS hC hk
  go_enter Tryz.func58, Tryz.ntmps58
  go_wp2_with (go_at_call 88; refine HC.out.mono ?_; rintro e w1 ⟨cr, rfl, hq⟩; (have HQ := Lib.hid hq); clear hq)
  go_ret
  exact ⟨_, rfl, HQ.out⟩

set_option maxHeartbeats 8000000 in
theorem o_step_give {w0 w : World} {p : Nat} {L : List Asn} {n s h t bud base wait : Int} {sv : Value} {rg ex : Int} {push : Bool} {v i failed : Int}  {st : Int} {retry : Bool} {q r : Nat} {x : Nat} {R : Int → World → Prop} (hS : St w0 L w) (k : Nat) (hk : L[k]? = some (opB p n s h t bud base wait sv rg ex push v i failed (pgI x) st retry)) (hC : Calls Tryz.prog 89 #[.pointer (some ⟨p, 0, none⟩), .pointer (some ⟨q, 0, none⟩)] w fun e w' => ∃ c, e = .returned (.int .i64 c) ∧ R c w') :
    Calls Tryz.prog 58 #[.pointer (some ⟨p, 0, none⟩), .pointer (some ⟨q, 0, none⟩), .pointer (some ⟨r, 0, none⟩)] w fun e w' => ∃ c, e = .returned (.int .i64 c) ∧ R c w' := by
  have HC := Lib.hid hC
  have hItake := is_give_take
  have hIgive := is_give_give
  have hIvisit := is_give_visit
  have hIacc := is_give_acc
  obtain ⟨⟨c0, c1, c2, c3, c4, c5, c6, c7, c8, c9, c10, c11, c12, c13, c14, c15, c16⟩, ⟨z7, z8, z9, z11, z12, z13, z14, z15, z16⟩, lp⟩ := cells17 (hS.cells k hk)
  clear hS hC hk
  go_enter Tryz.func58, Tryz.ntmps58
  go_wp2_with (go_at_call 89; refine HC.out.mono ?_; rintro e w1 ⟨cr, rfl, hq⟩; (have HQ := Lib.hid hq); clear hq)
  go_ret
  exact ⟨_, rfl, HQ.out⟩

set_option maxHeartbeats 8000000 in
theorem o_step_visit {w0 w : World} {p : Nat} {L : List Asn} {n s h t bud base wait : Int} {sv : Value} {rg ex : Int} {push : Bool} {v i failed : Int}  {st : Int} {retry : Bool} {q r : Nat} {x : Nat} {R : Int → World → Prop} (hS : St w0 L w) (k : Nat) (hk : L[k]? = some (opB p n s h t bud base wait sv rg ex push v i failed (pvI x) st retry)) (hC : Calls Tryz.prog 90 #[.pointer (some ⟨p, 0, none⟩), .pointer (some ⟨q, 0, none⟩), .pointer (some ⟨r, 0, none⟩)] w fun e w' => ∃ c, e = .returned (.int .i64 c) ∧ R c w') :
    Calls Tryz.prog 58 #[.pointer (some ⟨p, 0, none⟩), .pointer (some ⟨q, 0, none⟩), .pointer (some ⟨r, 0, none⟩)] w fun e w' => ∃ c, e = .returned (.int .i64 c) ∧ R c w' := by
  have HC := Lib.hid hC
  have hItake := is_visit_take
  have hIgive := is_visit_give
  have hIvisit := is_visit_visit
  have hIacc := is_visit_acc
  obtain ⟨⟨c0, c1, c2, c3, c4, c5, c6, c7, c8, c9, c10, c11, c12, c13, c14, c15, c16⟩, ⟨z7, z8, z9, z11, z12, z13, z14, z15, z16⟩, lp⟩ := cells17 (hS.cells k hk)
  clear hS hC hk
  go_enter Tryz.func58, Tryz.ntmps58
  go_wp2_with (go_at_call 90; refine HC.out.mono ?_; rintro e w1 ⟨cr, rfl, hq⟩; (have HQ := Lib.hid hq); clear hq)
  go_ret
  exact ⟨_, rfl, HQ.out⟩

set_option maxHeartbeats 8000000 in
theorem o_step_tkT {w0 w : World} {p : Nat} {L : List Asn} {n s h t bud base wait : Int} {sv : Value} {rg ex : Int} {push : Bool} {v i failed : Int}  {st : Int} {retry : Bool} {q r : Nat} {x : Nat} {R : Int → World → Prop} (hS : St w0 L w) (k : Nat) (hk : L[k]? = some (opB p n s h t bud base wait sv rg ex push v i failed (tkI x) st retry)) (hC : Calls Tryz.prog 92 #[.pointer (some ⟨p, 0, none⟩), .pointer (some ⟨q, 0, none⟩)] w fun e w' => ∃ c, e = .returned (.int .i64 c) ∧ R c w') :
    Calls Tryz.prog 58 #[.pointer (some ⟨p, 0, none⟩), .pointer (some ⟨q, 0, none⟩), .pointer (some ⟨r, 0, none⟩)] w fun e w' => ∃ c, e = .returned (.int .i64 c) ∧ R c w' := by
  have HC := Lib.hid hC
  have hItake := is_tkT_take
  have hIgive := is_tkT_give
  have hIvisit := is_tkT_visit
  have hIacc := is_tkT_acc
  obtain ⟨⟨c0, c1, c2, c3, c4, c5, c6, c7, c8, c9, c10, c11, c12, c13, c14, c15, c16⟩, ⟨z7, z8, z9, z11, z12, z13, z14, z15, z16⟩, lp⟩ := cells17 (hS.cells k hk)
  clear hS hC hk
  go_enter Tryz.func58, Tryz.ntmps58
  go_wp2_with (go_at_call 92; refine HC.out.mono ?_; rintro e w1 ⟨cr, rfl, hq⟩; (have HQ := Lib.hid hq); clear hq)
  go_ret
  exact ⟨_, rfl, HQ.out⟩

set_option maxHeartbeats 8000000 in
theorem o_step_tkG {w0 w : World} {p : Nat} {L : List Asn} {n s h t bud base wait : Int} {sv : Value} {rg ex : Int} {push : Bool} {v i failed : Int}  {st : Int} {retry : Bool} {q r : Nat} {x : Nat} {R : Int → World → Prop} (hS : St w0 L w) (k : Nat) (hk : L[k]? = some (opB p n s h t bud base wait sv rg ex push v i failed (gvI x) st retry)) (hC : Calls Tryz.prog 92 #[.pointer (some ⟨p, 0, none⟩), .pointer (some ⟨q, 0, none⟩)] w fun e w' => ∃ c, e = .returned (.int .i64 c) ∧ R c w') :
    Calls Tryz.prog 58 #[.pointer (some ⟨p, 0, none⟩), .pointer (some ⟨q, 0, none⟩), .pointer (some ⟨r, 0, none⟩)] w fun e w' => ∃ c, e = .returned (.int .i64 c) ∧ R c w' := by
  have HC := Lib.hid hC
  have hItake := is_tkG_take
  have hIgive := is_tkG_give
  have hIvisit := is_tkG_visit
  have hIacc := is_tkG_acc
  obtain ⟨⟨c0, c1, c2, c3, c4, c5, c6, c7, c8, c9, c10, c11, c12, c13, c14, c15, c16⟩, ⟨z7, z8, z9, z11, z12, z13, z14, z15, z16⟩, lp⟩ := cells17 (hS.cells k hk)
  clear hS hC hk
  go_enter Tryz.func58, Tryz.ntmps58
  go_wp2_with (go_at_call 92; refine HC.out.mono ?_; rintro e w1 ⟨cr, rfl, hq⟩; (have HQ := Lib.hid hq); clear hq)
  go_ret
  exact ⟨_, rfl, HQ.out⟩

set_option maxHeartbeats 8000000 in
theorem o_step_acc {w0 w : World} {p : Nat} {L : List Asn} {n s h t bud base wait : Int} {sv : Value} {rg ex : Int} {push : Bool} {v i failed : Int}  {st : Int} {retry : Bool} {q r : Nat} {a : Int} {wr : Bool} {R : Int → World → Prop} (hS : St w0 L w) (k : Nat) (hk : L[k]? = some (opB p n s h t bud base wait sv rg ex push v i failed (paI a wr) st retry)) (hC : Calls Tryz.prog 91 #[.pointer (some ⟨p, 0, none⟩), .pointer (some ⟨q, 0, none⟩)] w fun e w' => ∃ c, e = .returned (.int .i64 c) ∧ R c w') :
    Calls Tryz.prog 58 #[.pointer (some ⟨p, 0, none⟩), .pointer (some ⟨q, 0, none⟩), .pointer (some ⟨r, 0, none⟩)] w fun e w' => ∃ c, e = .returned (.int .i64 c) ∧ R c w' := by
  have HC := Lib.hid hC
  have hItake := is_acc_take
  have hIgive := is_acc_give
  have hIvisit := is_acc_visit
  have hIacc := is_acc_acc
  obtain ⟨⟨c0, c1, c2, c3, c4, c5, c6, c7, c8, c9, c10, c11, c12, c13, c14, c15, c16⟩, ⟨z7, z8, z9, z11, z12, z13, z14, z15, z16⟩, lp⟩ := cells17 (hS.cells k hk)
  clear hS hC hk
  go_enter Tryz.func58, Tryz.ntmps58
  go_wp2_with (go_at_call 91; refine HC.out.mono ?_; rintro e w1 ⟨cr, rfl, hq⟩; (have HQ := Lib.hid hq); clear hq)
  go_ret
  exact ⟨_, rfl, HQ.out⟩

set_option maxHeartbeats 8000000 in
theorem o_Step_over_push {w0 w : World} {p : Nat} {L : List Asn} {n s h t bud base wait : Int} {sv : Value} {rg ex : Int}  {v i failed : Int} {pv : Value} {st : Int} {retry : Bool} {q r : Nat} (hS : St w0 (opB p n s h t bud base wait sv rg ex true v i failed pv st retry :: L) w) (h0 : (st == 0) = false) :
    Calls Tryz.prog 18 #[.pointer (some ⟨p, 0, none⟩), .pointer (some ⟨q, 0, none⟩), .pointer (some ⟨r, 0, none⟩)] w fun e w' => e = .returned (.tuple #[.int .i64 st, .int .u64 0]) ∧ St w0 (opB p n s h t bud base wait sv rg ex true v i failed pv st retry :: L) w' := by
  have H := Lib.hid hS
  obtain ⟨⟨c0, c1, c2, c3, c4, c5, c6, c7, c8, c9, c10, c11, c12, c13, c14, c15, c16⟩, ⟨z7, z8, z9, z11, z12, z13, z14, z15, z16⟩, lp⟩ := cells17 (hS.cells 0 rfl)
  clear hS
  go_enter Tryz.func18, Tryz.ntmps18
  go_wp2
  go_ret2
  exact ⟨rfl, H.out⟩

set_option maxHeartbeats 8000000 in
theorem o_Step_live_push {w0 w : World} {p : Nat} {L : List Asn} {n s h t bud base wait : Int} {sv : Value} {rg ex : Int}  {v i failed : Int} {pv : Value}  {retry : Bool} {q r : Nat} {ι : Type} {sv' pv' : ι → Value} {R : ι → List Asn} {rg' ex' v' i' failed' st' : Int} {retry' : Bool} (hS : St w0 (opB p n s h t bud base wait sv rg ex true v i failed pv 0 retry :: L) w) (hC : Calls Tryz.prog 58 #[.pointer (some ⟨p, 0, none⟩), .pointer (some ⟨q, 0, none⟩), .pointer (some ⟨r, 0, none⟩)] w fun e w' => ∃ y : ι, e = .returned (.int .i64 st') ∧ St w0 (opB p n s h t bud base wait (sv' y) rg' ex' true v' i' failed' (pv' y) 0 retry' :: R y) w') :
    Calls Tryz.prog 18 #[.pointer (some ⟨p, 0, none⟩), .pointer (some ⟨q, 0, none⟩), .pointer (some ⟨r, 0, none⟩)] w fun e w' => ∃ y : ι, e = .returned (.tuple #[.int .i64 st', .int .u64 0]) ∧ St w0 (opB p n s h t bud base wait (sv' y) rg' ex' true v' i' failed' (pv' y) st' retry' :: R y) w' := by
  have HC := Lib.hid hC
  obtain ⟨⟨c0, c1, c2, c3, c4, c5, c6, c7, c8, c9, c10, c11, c12, c13, c14, c15, c16⟩, ⟨z7, z8, z9, z11, z12, z13, z14, z15, z16⟩, lp⟩ := cells17 (hS.cells 0 rfl)
  clear hS hC
  go_enter Tryz.func18, Tryz.ntmps18
  go_wp2_with (go_at_call 58; refine HC.out.mono ?_; rintro e w1 ⟨y, rfl, hq⟩; (have H1 := Lib.hid hq); clear hq; clear c0 c1 c2 c3 c4 c5 c6 c7 c8 c9 c10 c11 c12 c13 c14 c15 c16 z7 z8 z9 z11 z12 z13 z14 z15 z16 lp; obtain ⟨⟨c0, c1, c2, c3, c4, c5, c6, c7, c8, c9, c10, c11, c12, c13, c14, c15, c16⟩, ⟨z7, z8, z9, z11, z12, z13, z14, z15, z16⟩, lp⟩ := cells17 (H1.out.cells 0 rfl))
  go_ret2
  exact ⟨y, rfl, H1.out.setAt 0 rfl 15 _⟩

set_option maxHeartbeats 8000000 in
theorem o_Step_over_not {w0 w : World} {p : Nat} {L : List Asn} {n s h t bud base wait : Int} {sv : Value} {rg ex : Int}  {v i failed : Int} {pv : Value} {st : Int} {retry : Bool} {q r : Nat} (hS : St w0 (opB p n s h t bud base wait sv rg ex false v i failed pv st retry :: L) w) (h0 : (st == 0) = false) (h1 : (st != 1) = true) :
    Calls Tryz.prog 18 #[.pointer (some ⟨p, 0, none⟩), .pointer (some ⟨q, 0, none⟩), .pointer (some ⟨r, 0, none⟩)] w fun e w' => e = .returned (.tuple #[.int .i64 st, .int .u64 0]) ∧ St w0 (opB p n s h t bud base wait sv rg ex false v i failed pv st retry :: L) w' := by
  have H := Lib.hid hS
  obtain ⟨⟨c0, c1, c2, c3, c4, c5, c6, c7, c8, c9, c10, c11, c12, c13, c14, c15, c16⟩, ⟨z7, z8, z9, z11, z12, z13, z14, z15, z16⟩, lp⟩ := cells17 (hS.cells 0 rfl)
  clear hS
  go_enter Tryz.func18, Tryz.ntmps18
  go_wp2
  go_ret2
  exact ⟨rfl, H.out⟩

set_option maxHeartbeats 8000000 in
theorem o_Step_live_not {w0 w : World} {p : Nat} {L : List Asn} {n s h t bud base wait : Int} {sv : Value} {rg ex : Int}  {v i failed : Int} {pv : Value}  {retry : Bool} {q r : Nat} {ι : Type} {sv' pv' : ι → Value} {R : ι → List Asn} {rg' ex' v' i' failed' st' : Int} {retry' : Bool} (hS : St w0 (opB p n s h t bud base wait sv rg ex false v i failed pv 0 retry :: L) w) (hC : Calls Tryz.prog 58 #[.pointer (some ⟨p, 0, none⟩), .pointer (some ⟨q, 0, none⟩), .pointer (some ⟨r, 0, none⟩)] w fun e w' => ∃ y : ι, e = .returned (.int .i64 st') ∧ St w0 (opB p n s h t bud base wait (sv' y) rg' ex' false v' i' failed' (pv' y) 0 retry' :: R y) w') (h1 : (st' != 1) = true) :
    Calls Tryz.prog 18 #[.pointer (some ⟨p, 0, none⟩), .pointer (some ⟨q, 0, none⟩), .pointer (some ⟨r, 0, none⟩)] w fun e w' => ∃ y : ι, e = .returned (.tuple #[.int .i64 st', .int .u64 0]) ∧ St w0 (opB p n s h t bud base wait (sv' y) rg' ex' false v' i' failed' (pv' y) st' retry' :: R y) w' := by
  have HC := Lib.hid hC
  obtain ⟨⟨c0, c1, c2, c3, c4, c5, c6, c7, c8, c9, c10, c11, c12, c13, c14, c15, c16⟩, ⟨z7, z8, z9, z11, z12, z13, z14, z15, z16⟩, lp⟩ := cells17 (hS.cells 0 rfl)
  clear hS hC
  go_enter Tryz.func18, Tryz.ntmps18
  go_wp2_with (go_at_call 58; refine HC.out.mono ?_; rintro e w1 ⟨y, rfl, hq⟩; (have H1 := Lib.hid hq); clear hq; clear c0 c1 c2 c3 c4 c5 c6 c7 c8 c9 c10 c11 c12 c13 c14 c15 c16 z7 z8 z9 z11 z12 z13 z14 z15 z16 lp; obtain ⟨⟨c0, c1, c2, c3, c4, c5, c6, c7, c8, c9, c10, c11, c12, c13, c14, c15, c16⟩, ⟨z7, z8, z9, z11, z12, z13, z14, z15, z16⟩, lp⟩ := cells17 (H1.out.cells 0 rfl))
  go_ret2
  exact ⟨y, rfl, H1.out.setAt 0 rfl 15 _⟩

set_option maxHeartbeats 8000000 in
theorem o_Step_over_done {w0 w : World} {p : Nat} {L : List Asn} {n s h t bud base wait : Int} {sv : Value} {rg ex : Int}  {v i failed : Int} {pv : Value} {st : Int} {retry : Bool} {q r : Nat} (hS : St w0 (opB p n s h t bud base wait sv rg ex false v i failed pv st retry :: L) w) (h0 : (st == 0) = false) (h1 : st = 1) :
    Calls Tryz.prog 18 #[.pointer (some ⟨p, 0, none⟩), .pointer (some ⟨q, 0, none⟩), .pointer (some ⟨r, 0, none⟩)] w fun e w' => e = .returned (.tuple #[.int .i64 st, .int .u64 v]) ∧ St w0 (opB p n s h t bud base wait sv rg ex false v i failed pv st retry :: L) w' := by
  have H := Lib.hid hS
  subst h1
  obtain ⟨⟨c0, c1, c2, c3, c4, c5, c6, c7, c8, c9, c10, c11, c12, c13, c14, c15, c16⟩, ⟨z7, z8, z9, z11, z12, z13, z14, z15, z16⟩, lp⟩ := cells17 (hS.cells 0 rfl)
  clear hS
  go_enter Tryz.func18, Tryz.ntmps18
  go_wp2
  go_quiet (fail)
  go_wp2
  go_ret2
  exact ⟨rfl, H.out.drewN nq⟩

set_option maxHeartbeats 8000000 in
theorem o_Step_live_done {w0 w : World} {p : Nat} {L : List Asn} {n s h t bud base wait : Int} {sv : Value} {rg ex : Int}  {v i failed : Int} {pv : Value}  {retry : Bool} {q r : Nat} {ι : Type} {sv' pv' : ι → Value} {R : ι → List Asn} {rg' ex' v' i' failed' st' : Int} {retry' : Bool} (hS : St w0 (opB p n s h t bud base wait sv rg ex false v i failed pv 0 retry :: L) w) (hC : Calls Tryz.prog 58 #[.pointer (some ⟨p, 0, none⟩), .pointer (some ⟨q, 0, none⟩), .pointer (some ⟨r, 0, none⟩)] w fun e w' => ∃ y : ι, e = .returned (.int .i64 st') ∧ St w0 (opB p n s h t bud base wait (sv' y) rg' ex' false v' i' failed' (pv' y) 0 retry' :: R y) w') (h1 : st' = 1) :
    Calls Tryz.prog 18 #[.pointer (some ⟨p, 0, none⟩), .pointer (some ⟨q, 0, none⟩), .pointer (some ⟨r, 0, none⟩)] w fun e w' => ∃ y : ι, e = .returned (.tuple #[.int .i64 st', .int .u64 v']) ∧ St w0 (opB p n s h t bud base wait (sv' y) rg' ex' false v' i' failed' (pv' y) st' retry' :: R y) w' := by
  have HC := Lib.hid hC
  subst h1
  obtain ⟨⟨c0, c1, c2, c3, c4, c5, c6, c7, c8, c9, c10, c11, c12, c13, c14, c15, c16⟩, ⟨z7, z8, z9, z11, z12, z13, z14, z15, z16⟩, lp⟩ := cells17 (hS.cells 0 rfl)
  clear hS hC
  go_enter Tryz.func18, Tryz.ntmps18
  go_wp2_with (go_at_call 58; refine HC.out.mono ?_; rintro e w1 ⟨y, rfl, hq⟩; (have H1 := Lib.hid hq); clear hq; clear c0 c1 c2 c3 c4 c5 c6 c7 c8 c9 c10 c11 c12 c13 c14 c15 c16 z7 z8 z9 z11 z12 z13 z14 z15 z16 lp; obtain ⟨⟨c0, c1, c2, c3, c4, c5, c6, c7, c8, c9, c10, c11, c12, c13, c14, c15, c16⟩, ⟨z7, z8, z9, z11, z12, z13, z14, z15, z16⟩, lp⟩ := cells17 (H1.out.cells 0 rfl))
  go_quiet (fail)
  go_wp2
  go_ret2
  exact ⟨y, rfl, (H1.out.setAt 0 rfl 15 _).drewN nq⟩

end Go.Proofs.YtgfeagggkplegaaGreat
