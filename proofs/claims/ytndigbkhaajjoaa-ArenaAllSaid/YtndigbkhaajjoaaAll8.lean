/-
  ArenaAll: four threads take nodes and give them back, in whatever turns.
-/
import Derived.Test.YtndigbkhaajjoaaWhole8
import Derived.Test.YtndigbkhaajjoaaShown8s
import Derived.Test.YtndigbkhaajjoaaPick8
import Derived.Test.YtndigbkhaajjoaaOpen2
import Derived.Test.YtndigbkhaajjoaaWf
import Derived.Laws.BitsLemmas
import Derived.Deep.DeepCutAuto
namespace Go.Proofs.Ytndigbkhaajjoaa
open Go.RowKit
set_option linter.unusedVariables false
set_option linter.unusedSimpArgs false

theorem rowRd {w : World} {base N : Nat} {a : Option Addr} {c : Nat} {ws : List Int} (ho : w.ownsRow base 35 1 (.slice a N c) N (wsV ws)) (hl : ws.length = N) : RdU w a ws := by
  subst hl
  exact (row_rdU ho).1
abbrev D8 := Th8 × Value × List Int
def mch8 : Th8 → Asn
  | none => factA True
  | some (p, _, S) => arA p S
def th8A (_ : Nat) (d : D8) : Asn := starA [rowA 23 1 d.2.1 d.2.2.length (d.2.2.map u32V), mch8 d.1]
abbrev alL (gh ga gs bc nn : Nat) (tg : Int) (hs : List Int) (ths : List Th8) (vs : List Value) : List Asn := [rowG gh 4 23 1 4 (hs.map u32V), rowG ga 4 84 3 4 (pcs8 ths), rowG gs 4 33 1 4 vs, bxC bc nn 0 0 tg]
/-- What holds of the data: threads, their shelves' slices, their shelves. -/
structure DOk (ds : List D8) (ths : List Th8) (vs : List Value) (shs : Nat → List Int) : Prop where
  len : ds.length = 4
  th : ths = ds.map (·.1)
  vs : vs = ds.map (·.2.1)
  sh : ∀ (k : Nat) (d : D8), ds[k]? = some d → d.2.2 = shs k
theorem DOk.set {ds : List D8} {ths : List Th8} {vs : List Value} {shs : Nat → List Int} (h : DOk ds ths vs shs) {k : Nat} (hk : k < 4) (t : Th8) (v : Value) (sh : List Int) : DOk (ds.set k (t, v, sh)) (ths.set k t) (vs.set k v) (upF shs k sh) := by
  refine ⟨by rw [List.length_set]; exact h.len, by rw [h.th, List.map_set], by rw [h.vs, List.map_set], fun j d hj => ?_⟩
  rcases set_get hj (by rw [h.len]; exact hk) with ⟨rfl, rfl⟩ | ⟨hne, hj⟩
  · rw [upF_self]
  · rw [upF_ne _ _ hne]; exact h.sh j d hj
def AlRel8 (w : World) (q gh ga gs bc nn N : Nat) (tg : Int) (i : Nat) (w' : World) : Prop :=
  ∃ ws ds ths vs shs hs ns, ns.length ≤ i ∧ MI8 nn N tg i ws ths hs shs ∧ DOk ds ths vs shs ∧ St w (memA q ws ns :: (alL gh ga gs bc nn tg hs ths vs ++ manyA th8A [0, 0, 0, 0] ds)) w'
/-- A thread is at a machine. -/
def AlMid (w : World) (q gh ga gs bc nn N : Nat) (tg : Int) (i k : Nat) (ws : List Int) (hs : List Int) (vs : List Value) (shs : Nat → List Int) (ns : List Note) (w' : World) : Prop :=
  ∃ p rb S ds ths, ths[k]? = some (some (p, rb, S)) ∧ MI8 nn N tg i ws ths hs shs ∧ DOk ds ths vs shs ∧ St w (memA q ws ns :: (alL gh ga gs bc nn tg hs ths vs ++ manyA th8A [0, 0, 0, 0] ds)) w'
theorem al_begin {w0 w : World} {q gh ga gs bc nn : Nat} {tg : Int} {ws : List Int} (h : St w0 (rowG ga 4 84 3 4 (pcs8 [none, none, none, none]) :: rowG gs 4 33 1 4 [.slice none 0 0, .slice none 0 0, .slice none 0 0, .slice none 0 0] :: rowG gh 4 23 1 4 (([0, 0, 0, 0] : List Int).map u32V) :: [memA q ws [], bxC bc nn 0 0 tg]) w) :
    St w0 (memA q ws [] :: (alL gh ga gs bc nn tg [0, 0, 0, 0] [none, none, none, none] [.slice none 0 0, .slice none 0 0, .slice none 0 0, .slice none 0 0] ++ manyA th8A [0, 0, 0, 0] [(none, .slice none 0 0, []), (none, .slice none 0 0, []), (none, .slice none 0 0, []), (none, .slice none 0 0, [])])) w := by
  have one : ∀ {L : List Asn}, St w0 L w → St w0 (th8A 0 (none, .slice none 0 0, []) :: L) w := fun h => (((h.factI (p := True) trivial).rowNil 23 1)).star (m := [_, _])
  exact (one (one (one (one h)))).re 9 [7, 6, 4, 5, 8, 0, 1, 2, 3]
theorem four0 {k : Nat} (h : k < 4) : ([0, 0, 0, 0] : List Nat)[k]? = some 0 := by
  match k, h with
  | 0, _ => rfl
  | 1, _ => rfl
  | 2, _ => rfl
  | 3, _ => rfl
theorem th8_pick {w0 w : World} {m : Asn} {A : List Asn} {ds : List D8} {k : Nat} {d : D8} (hk : k < 4) (h : St w0 (m :: (A ++ manyA th8A [0, 0, 0, 0] ds)) w) (hd : ds[k]? = some d) :
    ∃ R, St w0 (m :: rowA 23 1 d.2.1 d.2.2.length (d.2.2.map u32V) :: mch8 d.1 :: R) w ∧ ∀ w1 w' m' (d' : D8), St w1 (m' :: rowA 23 1 d'.2.1 d'.2.2.length (d'.2.2.map u32V) :: mch8 d'.1 :: R) w' → St w1 (m' :: (A ++ manyA th8A [0, 0, 0, 0] (ds.set k d'))) w' := by
  obtain ⟨R, h1, h2⟩ := h.pick (f := th8A) (four0 hk) hd
  exact ⟨R, h1.unstarM, fun w1 w' m' d' h3 => h2 w1 w' m' d' (St.starM (l := [_, _]) h3)⟩
theorem th8_rd {w0 w : World} {m : Asn} {A : List Asn} {ds : List D8} {k : Nat} {d : D8} (hk : k < 4) (h : St w0 (m :: (A ++ manyA th8A [0, 0, 0, 0] ds)) w) (hd : ds[k]? = some d) : ∃ a c, d.2.1 = .slice a d.2.2.length c ∧ Rd32 w a d.2.2 := by
  obtain ⟨R, h1, _⟩ := th8_pick hk h hd
  have h2 := h1.rowOf 1 rfl
  obtain ⟨a, c, e, _⟩ := row_is h2
  rw [e] at h2
  exact ⟨a, c, e, (row32_rd h2).1⟩
theorem made8_take {w0 w : World} {L : List Asn} (n s h t budget I : Int) (A : Option Addr) (m c : Nat) (l : List Int) (hS : St w0 L w) (hr : Rd32 w A l) (hn : l.length = m) (hm : m ≤ 1000000000000) :
    Calls Try.prog 43 #[.agg #[.int .i64 n, .int .i64 s, .int .i64 h, .int .u32 t], .agg #[.bool false, .int .i64 budget, .int .i64 I, .slice A m c]] w fun e w' => ∃ p rb, e = .returned (.agg #[.pointer (some ⟨p, 0, none⟩), .pointer none, .pointer (some rb)]) ∧ St w0 (arA p (newAT n s h t budget l) :: L) w' := by
  rcases Nat.eq_zero_or_pos m with rfl | h0
  · exact made8_tz n s h t budget I A c l hS hr hn
  · exact made8_t n s h t budget I A m c l hS hr hn h0 hm
theorem made8_give {w0 w : World} {L : List Asn} (n s h t budget I i : Int) (A : Option Addr) (m c : Nat) (l : List Int) (hS : St w0 L w) (hr : Rd32 w A l) (hn : l.length = m) (hm : m ≤ 1000000000000) (hi : I % 4294967296 = i) :
    Calls Try.prog 43 #[.agg #[.int .i64 n, .int .i64 s, .int .i64 h, .int .u32 t], .agg #[.bool true, .int .i64 budget, .int .i64 I, .slice A m c]] w fun e w' => ∃ p rb, e = .returned (.agg #[.pointer none, .pointer (some ⟨p, 0, none⟩), .pointer (some rb)]) ∧ St w0 (arA p (newAG n s h t budget l i) :: L) w' := by
  rcases Nat.eq_zero_or_pos m with rfl | h0
  · obtain rfl := List.length_eq_zero_iff.1 hn
    exact made8_gz n s h t budget I i A c [] hS hr rfl hi
  · exact made8_g n s h t budget I i A m c l hS hr hn h0 hm hi
theorem St.rngs8 {w0 w : World} {q : Nat} {ws : List Int} {ns : List Note} {l : List Asn} (h : St w0 (memA q ws ns :: l) w) : ∀ x ∈ ws, 0 ≤ x ∧ x < 18446744073709551616 := by
  obtain ⟨own, h1, _⟩ := h.mem
  exact h1.rng
theorem made_pairs8 : (madeCells (Value.agg #[.pointer none, .pointer none, .pointer none]).cells (4 * 3)).toList = pcs8 [none, none, none, none] := by first | rfl | kernel_rfl | simp [madeCells, Value.cells, pcs8, p8A, p8B, p8C]
theorem infoPair8 : (Try.prog.info? 84).map (fun i => (i.zero, i.size, i.bytes)) = some (some (.agg #[.pointer none, .pointer none, .pointer none]), 3, 24) := by kernel_rfl
theorem infoU32c : (Try.prog.info? 23).map (fun i => (i.zero, i.size, i.bytes)) = some (some (.int .u32 0), 1, 4) := by kernel_rfl
theorem infoS32 : (Try.prog.info? 33).map (fun i => (i.zero, i.size, i.bytes)) = some (some (.slice none 0 0), 1, 24) := by kernel_rfl
set_option maxRecDepth 20000 in
set_option maxHeartbeats 16000000 in
theorem arenaAll_body (a0 tg bg : Int) (B : Option Addr) (m d : Nat) (zs : List Int) (w : World) (hx0 : (Lit.int .i64 a0).wf = true) (hx1 : (Lit.int .u32 tg).wf = true) (hx2 : (Lit.int .i64 bg).wf = true) (hm : m ≤ 400) (hI : RdI w B zs m) :
    Calls Try.prog 12 #[.int .i64 a0, .int .u32 tg, .int .i64 bg, .slice B m d] w fun e w' => e = .returned (.bool true) ∧ Below w.heap.size w w' := by
  obtain ⟨g00, g01⟩ := rngI64 hx2
  obtain ⟨bd3, hbd3⟩ : ∃ b, pickI bg 3 = b := ⟨_, rfl⟩
  have hpb := pickI_rng (c := bg) (n := 3) (by decide)
  rw [hbd3] at hpb
  have hbb : bd3 ≤ 9223372036854775807 := by omega
  have HBD := Lib.hid hbd3
  clear hbd3 hpb hx2
  obtain ⟨a00, a01⟩ := rngI64 hx0
  obtain ⟨t0, t1⟩ := rngU32 hx1
  have hp := pickI_rng (c := a0) (n := 64) (by decide)
  obtain ⟨nn, hnn⟩ : ∃ nn : Nat, 1 + pickI a0 64 = (nn : Int) := Int.eq_ofNat_of_zero_le (by omega)
  have n1 : 1 ≤ nn := by omega
  have n2 : nn ≤ 64 := by omega
  obtain ⟨N, hN⟩ : ∃ N, N = 2 + 2 * nn + 0 + 0 := ⟨_, rfl⟩
  obtain ⟨T, hT⟩ : ∃ T, tg * 4294967296 = T := ⟨_, rfl⟩
  have hN4 : N ≤ 1024 := by omega
  have hN0 : 0 < N := by omega
  have HNN := Lib.hid hnn
  have HN := Lib.hid hN
  have HT := Lib.hid hT
  have HOK : Hid (okC (nn : Int) ((0 : Nat) : Int) ((0 : Nat) : Int) = true) := Lib.hid (by simp [okC]; omega)
  have HFR : Hid (∀ x ∈ frL T nn nn 0 N, 0 ≤ x ∧ x < 18446744073709551616) := Lib.hid (frL_rng (by omega) (by omega) n2)
  have HMI : Hid (MI8 nn N tg 0 (frL T nn nn 0 N) [none, none, none, none] [0, 0, 0, 0] (fun _ => [])) := Lib.hid (MI8.new hT t0 t1 (by omega) n1 n2)
  have H := Lib.hid (St.nil w)
  have d0 : decide ((nn : Int) < 1) = false := decide_eq_false (by omega)
  have d3 : decide ((400 : Int) < (m : Int)) = false := decide_eq_false (by omega)
  have HI := Lib.hid hI
  obtain ⟨iU, hiU, hzU0, hzU1, hzU2⟩ := info_parts infoU32c
  obtain ⟨iS, hiS, hzS0, hzS1, hzS2⟩ := info_parts infoS32
  obtain ⟨iP, hiP, hzP0, hzP1, hzP2⟩ := info_parts infoPair8
  clear hx0 hx1 hp hnn hN hT hI
  go_enter Try.func12, Try.ntmps12
  go_wp2_with (first | ((have _h := M2); refine wpList_make_full _ (by rfl) _ _ _ (by rfl) _ 84 iP _ 3 Try.underlying79 hiP hzP0 hzP1 .i64 .i64 _ _ 4 (by rfl) (by rfl) rfl rfl (by rw [hzP2]; decide) (by unfold maxLen; decide) (Nat.le_refl _) ?_; go_must (intro wM3 hown hgrow); go_must (have M3 := Lib.hid (show St w (rowG wM2.heap.size 4 84 3 4 (pcs8 [none, none, none, none]) :: rowG wM1.heap.size 4 33 1 4 [.slice none 0 0, .slice none 0 0, .slice none 0 0, .slice none 0 0] :: rowG w4.heap.size 4 23 1 4 (([0, 0, 0, 0] : List Int).map u32V) :: [memA q (frL T nn nn 0 N) [], bxC w2.heap.size nn 0 0 tg]) wM3 by have h9 := St.made M2.out hown hgrow; rw [made_pairs8] at h9; exact h9)); clear hown hgrow _h) | ((have _h := M1); refine wpList_make_full _ (by rfl) _ _ _ (by rfl) _ 33 iS _ 1 Try.underlying98 hiS hzS0 hzS1 .i64 .i64 _ _ 4 (by rfl) (by rfl) rfl rfl (by rw [hzS2]; decide) (by unfold maxLen; decide) (Nat.le_refl _) ?_; go_must (intro wM2 hown hgrow); go_must (have M2 := Lib.hid (show St w (rowG wM1.heap.size 4 33 1 4 [.slice none 0 0, .slice none 0 0, .slice none 0 0, .slice none 0 0] :: rowG w4.heap.size 4 23 1 4 (([0, 0, 0, 0] : List Int).map u32V) :: [memA q (frL T nn nn 0 N) [], bxC w2.heap.size nn 0 0 tg]) wM2 by have h9 := St.made M1.out hown hgrow; rw [show (madeCells (Value.slice none 0 0).cells (4 * 1)).toList = List.replicate 4 (.slice none 0 0) from made_one _ _] at h9; exact h9)); clear hown hgrow _h) | ((have _h := H4); refine wpList_make_full _ (by rfl) _ _ _ (by rfl) _ 23 iU _ 1 Try.underlying33 hiU hzU0 hzU1 .i64 .i64 _ _ 4 (by rfl) (by rfl) rfl rfl (by rw [hzU2]; decide) (by unfold maxLen; decide) (Nat.le_refl _) ?_; go_must (intro wM1 hown hgrow); go_must (have M1 := Lib.hid (show St w (rowG w4.heap.size 4 23 1 4 (([0, 0, 0, 0] : List Int).map u32V) :: [memA q (frL T nn nn 0 N) [], bxC w2.heap.size nn 0 0 tg]) wM1 by have h9 := St.made H4.out hown hgrow; rw [show (madeCells (Value.int .u32 0).cells (4 * 1)).toList = List.replicate 4 (.int .u32 0) from made_one _ _] at h9; exact h9)); clear hown hgrow _h) | ((have _h := H3); go_at_call 26; refine (new_st H3.out.tail (some ⟨_, 0, none⟩) _ N (frL T nn nn 0 N) (rowRd (H3.out.row 0 rfl) (frL_len _ _ _ _ _)) hN4 HFR.out (frL_len _ _ _ _ _)).mono ?_; rintro e w4 ⟨q, rfl, h⟩; (have H4 := Lib.hid (h)); clear h; clear q0 q1 q2 q3; (obtain ⟨q0, q1, q2, q3⟩ := cells4 (H4.out.cells 1 rfl)); clear _h) | ((have _h := H2); go_at_call 16; refine (fresh_ok nn 0 0 tg T N H2.out HOK.out HN.out HT.out t0 t1).mono ?_; rintro e w3 ⟨g, rfl, h⟩; (have H3 := Lib.hid (h)); clear h; clear q0 q1 q2 q3; (obtain ⟨q0, q1, q2, q3⟩ := cells4 (H3.out.cells 1 rfl)); clear _h) | ((have _h := H1); go_at_call 47; refine (cfg8_is a0 0 0 tg nn 0 0 _ HNN.out rfl rfl a00 a01 (by decide) (by decide) (by decide) (by decide)).mono ?_; rintro e w2 ⟨rfl, hb⟩; (have H2 := Lib.hid ((H1.out.below hb).alloc #[.int .i64 nn, .int .i64 0, .int .i64 0, .int .u32 tg] 26)); clear hb; (obtain ⟨q0, q1, q2, q3⟩ := cells4 (H2.out.cells 0 rfl)); clear _h) | ((have _h := H); go_at_call 42; refine (shown8 _).mono ?_; rintro e w1 ⟨rfl, hb⟩; (have H1 := Lib.hid (H.out.below hb)); clear hb; clear _h))
  have HREL := Lib.hid (show AlRel8 w q w4.heap.size wM2.heap.size wM1.heap.size w2.heap.size nn N tg 0 wM3 from ⟨_, [(none, .slice none 0 0, []), (none, .slice none 0 0, []), (none, .slice none 0 0, []), (none, .slice none 0 0, [])], _, _, _, _, [], Nat.le_refl _, HMI.out, ⟨rfl, rfl, rfl, fun k d hk => by
    match k, hk with
    | 0, hk => cases hk; rfl
    | 1, hk => cases hk; rfl
    | 2, hk => cases hk; rfl
    | 3, hk => cases hk; rfl
    | k + 4, hk => simp at hk⟩, (al_begin M3.out)⟩)
  obtain ⟨gh, hgh⟩ : ∃ gh, w4.heap.size = gh := ⟨_, rfl⟩
  obtain ⟨gs, hgs⟩ : ∃ gs, wM1.heap.size = gs := ⟨_, rfl⟩
  obtain ⟨ga, hga⟩ : ∃ ga, wM2.heap.size = ga := ⟨_, rfl⟩
  obtain ⟨bc, hbc⟩ : ∃ bc, w2.heap.size = bc := ⟨_, rfl⟩
  simp only [hgh, hgs, hga, hbc] at HREL ⊢
  clear H1 H2 H3 H4 M1 M2 M3 q0 q1 q2 q3 hgh hgs hga hbc hiU hzU0 hzU1 hzU2 hiP hzP0 hzP1 hzP2 hiS hzS0 hzS1 hzS2 HMI
  go_loopg [18] (m + 1) (fun kq y w' => ∃ i : Nat, y = .int .i64 i ∧ i ≤ m ∧ i + kq = m + 1 ∧ AlRel8 w q gh ga gs bc nn N tg i w')
  case atStart => exact ⟨0, rfl, Nat.zero_le _, by omega, HREL.out⟩
  case round =>
    obtain ⟨i, rfl, hi, hkq, ws, ds, ths, vs, shs, hs, ns, hns, hmi, hdo, hS⟩ := hrel
    clear HREL
    cases gk with
    | zero => omega
    | succ kk =>
      by_cases c4 : i < m
      · have c4b : decide ((i : Int) < (m : Int)) = true := decide_eq_true (by omega)
        obtain ⟨bd, rfl, hcell, hwf⟩ := HI.out i c4
        obtain ⟨z0, z1⟩ := rngI64 hwf
        have hpz := pickI_rng (c := zs.getD i 0) (n := 4) (by decide)
        obtain ⟨k, hk⟩ : ∃ k : Nat, pickI (zs.getD i 0) 4 = (k : Int) := Int.eq_ofNat_of_zero_le hpz.1
        have hk4 : k < 4 := by omega
        have HK := Lib.hid hk
        have hcz := (hS.bel.cell (World.block_lt_of_cell? _ _ hcell)).trans hcell
        obtain ⟨dd, hdd⟩ := getE (l := ds) (k := k) (by rw [hdo.len]; exact hk4)
        obtain ⟨th, v, sh⟩ := dd
        have hsh := hdo.sh k _ hdd
        dsimp only at hsh
        have hth : ths[k]? = some th := by rw [hdo.th, List.getElem?_map, hdd]; rfl
        have hv : vs[k]? = some v := by rw [hdo.vs, List.getElem?_map, hdd]; rfl
        obtain ⟨hh, hhs⟩ := getE (l := hs) (k := k) (by obtain ⟨_, _, h⟩ := hmi; rw [h.hl]; exact hk4)
        have hhr : 0 ≤ hh ∧ hh ≤ 64 := by obtain ⟨_, _, h⟩ := hmi; have := h.rg hh (List.mem_of_getElem? hhs); omega
        obtain ⟨a9, c9, hva, hrd⟩ := th8_rd hk4 hS hdd
        dsimp only at hva hrd
        have hshl : sh.length ≤ 64 := by
          obtain ⟨_, _, h⟩ := hmi
          have h1 : sh.Nodup := List.nodup_iff_count.2 fun x => by
            by_cases c : x ∈ sh
            · rw [hsh] at c
              have h2 := h.srg k x c
              have h3 := h.cnt x h2.1 h2.2
              unfold cntS at h3
              rw [hsh]
              rcases (show k = 0 ∨ k = 1 ∨ k = 2 ∨ k = 3 by omega) with e | e | e | e <;> rw [e] <;> omega
            · rw [List.count_eq_zero.2 c]; omega
          have := nodup_len h1 (by rw [hsh]; exact h.srg k)
          omega
        subst hva
        obtain ⟨p0, p1, p2⟩ := pcs8_get hth
        obtain ⟨e0, f0⟩ := hS.at_ 2 rfl (k * 3) p0
        obtain ⟨e1, f1⟩ := hS.at_ 2 rfl (k * 3 + 1) p1
        obtain ⟨e2, f2⟩ := hS.at_ 2 rfl (k * 3 + 2) p2
        obtain ⟨eh, fh⟩ := hS.at_ 1 rfl k (u := .int .u32 hh) (by rw [List.getElem?_map, hhs]; rfl)
        obtain ⟨es, fs⟩ := hS.at_ 3 rfl k hv
        obtain ⟨q0, q1, q2, q3⟩ := cells4 (hS.cells 4 rfl)
        have i0 : (0 : Int) ≤ (i : Int) := by omega
        have i1 : (i : Int) < (m : Int) := by omega
        have k0 : (0 : Int) ≤ (k : Int) := by omega
        have k1 : (k : Int) < 4 := by omega
        obtain ⟨R, hR1, hR2⟩ := th8_pick hk4 hS hdd
        dsimp only at hR1
        have HPK : Hid (St w (memA q ws ns :: rowA 23 1 (.slice a9 sh.length c9) sh.length (sh.map u32V) :: mch8 th :: R) wr ∧ ∀ w1 w' m' (d' : D8), St w1 (m' :: rowA 23 1 d'.2.1 d'.2.2.length (d'.2.2.map u32V) :: mch8 d'.1 :: R) w' → St w1 (m' :: (alL gh ga gs bc nn tg hs ths vs ++ manyA th8A [0, 0, 0, 0] (ds.set k d'))) w') := Lib.hid ⟨hR1, hR2⟩
        have HS := Lib.hid hS
        have HMI := Lib.hid hmi
        have HDO := Lib.hid hdo
        have HTH := Lib.hid hth
        have HHS := Lib.hid hhs
        have HVS := Lib.hid hv
        have HSH := Lib.hid hsh
        have HNS := Lib.hid hns
        have HRD := Lib.hid hrd
        have HP := Lib.hid (And.intro p0 (And.intro p1 p2))
        have HKL : Hid (k < ths.length) := Lib.hid (List.getElem?_eq_some_iff.1 hth).1
        have HK1 := Lib.hid hkq
        generalize zs.getD i 0 = z at *
        clear hR1 hR2 hS hmi hth hhs hns hk hpz hcell hwf p0 p1 p2 hkq c4 hdo hdd hv hsh hrd
        go_upto_region 16 with (go_at_call 44; refine (pick8_is z 4 k _ HK.out (by decide) (by decide) z0 z1).mono ?_; rintro e w1 ⟨rfl, rfl⟩)
        go_cut [87] (fun v w' => v = .bool th.isNone ∧ w' = wr)
        case first =>
          cases th with
          | none =>
            simp only [p8A, p8B] at e0 e1
            go_wp2
            go_meet
            case rel => exact ⟨rfl, rfl⟩
          | some ps =>
            obtain ⟨p, rb, S⟩ := ps
            simp only [p8A, p8B] at e0 e1
            cases hg : S.give with
            | true =>
              rw [hg] at e0 e1
              go_wp2
              go_meet
              case rel => exact ⟨rfl, rfl⟩
            | false =>
              rw [hg] at e0 e1
              go_wp2
              go_meet
              case rel => exact ⟨rfl, rfl⟩
        case rest =>
          obtain ⟨hv, hw⟩ := hcut
          subst hv hw
          go_upto_if 87 with fail
          go_cut [] (fun w' => AlMid w q gh ga gs bc nn N tg i k ws hs vs shs ns w')
          case first =>
            cases th with
            | none =>
              simp only [p8A, p8B, p8C] at e0 e1 e2
              by_cases ch : hh = 0
              · subst ch
                have HCG : Hid (∀ m x X w', St w (m :: rowG gh 4 23 1 4 (hs.map u32V) :: x :: rowG gs 4 33 1 4 vs :: bxC bc nn 0 0 tg :: X) w' → w'.cell? ⟨bc, 0, none⟩ = some (.int .i64 nn) ∧ w'.cell? ⟨bc, 1, none⟩ = some (.int .i64 0) ∧ w'.cell? ⟨bc, 2, none⟩ = some (.int .i64 0) ∧ w'.cell? ⟨bc, 3, none⟩ = some (.int .u32 tg) ∧ w'.cell? ⟨gh, k, none⟩ = some (.int .u32 0) ∧ w'.cell? ⟨gs, k, none⟩ = some (.slice a9 sh.length c9)) := Lib.hid fun m x X w' h => by
                  obtain ⟨a0, a1, a2, a3⟩ := cells4 (h.cells 4 rfl)
                  exact ⟨a0, a1, a2, a3, (h.at_ 1 rfl k (u := .int .u32 0) (by rw [List.getElem?_map, HHS.out]; rfl)).1, (h.at_ 3 rfl k HVS.out).1⟩
                go_wp2
                clear e0 e1 e2 f0 f1 f2 eh fh es fs q0 q1 q2 q3
                refine wp_region_held_drew (S := (fun w' => w'.cell? ⟨bc, 0, none⟩ = some (.int .i64 nn) ∧ w'.cell? ⟨bc, 1, none⟩ = some (.int .i64 0) ∧ w'.cell? ⟨bc, 2, none⟩ = some (.int .i64 0) ∧ w'.cell? ⟨bc, 3, none⟩ = some (.int .u32 tg) ∧ w'.cell? ⟨gh, k, none⟩ = some (.int .u32 0) ∧ w'.cell? ⟨gs, k, none⟩ = some (.slice a9 sh.length c9))) (by as_aux_lemma => kernel_rfl) ?_ (fun hHeld0 => ?_)
                · first | exact HCG.out _ _ _ _ HN1.out | exact HCG.out _ _ _ _ HS.out.drew | exact HCG.out _ _ _ _ (((HN1.out.rowSet 2 rfl (k * 3) (by omega) (p8A (some (p, rb, newAT nn 0 0 tg bd3 sh)))).rowSet 2 rfl (k * 3 + 1) (by omega) (p8B (some (p, rb, newAT nn 0 0 tg bd3 sh)))).rowSet 2 rfl (k * 3 + 2) (by omega) (p8C (some (p, rb, newAT nn 0 0 tg bd3 sh))))
                refine wpAnyH_take (i := 0) (v := ?_) rfl (by as_aux_lemma => kernel_rfl) (by as_aux_lemma => kernel_rfl) (by as_aux_lemma => kernel_rfl) (fun _ _ _ h => h) (Or.inl ⟨by rfl, ?_⟩) hHeld0 ?_
                rotate_left
                · intro w hSw
                  (try dsimp only at hSw)
                  go_simp
                  try (first | (with_reducible rfl) | rfl)
                try simp only [List.getElem_toArray, List.getElem_cons_zero, List.getElem_cons_succ, Act.put, List.setIfInBounds_toArray, List.set_cons_zero, List.set_cons_succ]
                refine wpAnyH_take (i := 1) (v := ?_) rfl (by as_aux_lemma => kernel_rfl) (by as_aux_lemma => kernel_rfl) (by as_aux_lemma => kernel_rfl) (fun _ _ _ h => h) (Or.inl ⟨by rfl, ?_⟩) hHeld0 ?_
                rotate_left
                · intro w hSw
                  (try dsimp only at hSw)
                  go_simp
                  try (first | (with_reducible rfl) | rfl)
                try simp only [List.getElem_toArray, List.getElem_cons_zero, List.getElem_cons_succ, Act.put, List.setIfInBounds_toArray, List.set_cons_zero, List.set_cons_succ]
                refine wpAnyH_take (i := 2) (v := ?_) rfl (by as_aux_lemma => kernel_rfl) (by as_aux_lemma => kernel_rfl) (by as_aux_lemma => kernel_rfl) (fun _ _ _ h => h) (Or.inl ⟨by rfl, ?_⟩) hHeld0 ?_
                rotate_left
                · intro w hSw
                  (try dsimp only at hSw)
                  go_simp
                  try (first | (with_reducible rfl) | rfl)
                try simp only [List.getElem_toArray, List.getElem_cons_zero, List.getElem_cons_succ, Act.put, List.setIfInBounds_toArray, List.set_cons_zero, List.set_cons_succ]
                refine wpAnyH_take (i := 3) (v := ?_) rfl (by as_aux_lemma => kernel_rfl) (by as_aux_lemma => kernel_rfl) (by as_aux_lemma => kernel_rfl) (fun _ _ _ h => h) (Or.inl ⟨by rfl, ?_⟩) hHeld0 ?_
                rotate_left
                · intro w hSw
                  (try dsimp only at hSw)
                  go_simp
                  try (first | (with_reducible rfl) | rfl)
                try simp only [List.getElem_toArray, List.getElem_cons_zero, List.getElem_cons_succ, Act.put, List.setIfInBounds_toArray, List.set_cons_zero, List.set_cons_succ]
                refine wpAnyH_take (i := 4) (v := ?_) rfl (by as_aux_lemma => kernel_rfl) (by as_aux_lemma => kernel_rfl) (by as_aux_lemma => kernel_rfl) (fun _ _ _ h => h) (Or.inl ⟨by rfl, ?_⟩) hHeld0 ?_
                rotate_left
                · intro w hSw
                  (try dsimp only at hSw)
                  go_simp
                  try (first | (with_reducible rfl) | rfl)
                try simp only [List.getElem_toArray, List.getElem_cons_zero, List.getElem_cons_succ, Act.put, List.setIfInBounds_toArray, List.set_cons_zero, List.set_cons_succ]
                refine wpAnyH_take (i := 5) (v := ?_) rfl (by as_aux_lemma => kernel_rfl) (by as_aux_lemma => kernel_rfl) (by as_aux_lemma => kernel_rfl) (fun _ _ _ h => h) (Or.inl ⟨by rfl, ?_⟩) hHeld0 ?_
                rotate_left
                · intro w hSw
                  (try dsimp only at hSw)
                  go_simp
                  try (first | (with_reducible rfl) | rfl)
                try simp only [List.getElem_toArray, List.getElem_cons_zero, List.getElem_cons_succ, Act.put, List.setIfInBounds_toArray, List.set_cons_zero, List.set_cons_succ]
                refine wpAnyH_take (i := 6) (v := ?_) rfl (by as_aux_lemma => kernel_rfl) (by as_aux_lemma => kernel_rfl) (by as_aux_lemma => kernel_rfl) (fun _ _ _ h => h) (Or.inl ⟨by rfl, ?_⟩) hHeld0 ?_
                rotate_left
                · intro w hSw
                  (try dsimp only at hSw)
                  go_simp
                  try (first | (with_reducible rfl) | rfl)
                try simp only [List.getElem_toArray, List.getElem_cons_zero, List.getElem_cons_succ, Act.put, List.setIfInBounds_toArray, List.set_cons_zero, List.set_cons_succ]
                refine wpAnyH_take (i := 7) (v := ?_) rfl (by as_aux_lemma => kernel_rfl) (by as_aux_lemma => kernel_rfl) (by as_aux_lemma => kernel_rfl) (fun _ _ _ h => h) (Or.inl ⟨by rfl, ?_⟩) hHeld0 ?_
                rotate_left
                · intro w hSw
                  (try dsimp only at hSw)
                  go_simp
                  try (first | (with_reducible rfl) | rfl)
                try simp only [List.getElem_toArray, List.getElem_cons_zero, List.getElem_cons_succ, Act.put, List.setIfInBounds_toArray, List.set_cons_zero, List.set_cons_succ]
                refine wpAnyH_take (i := 8) (v := ?_) rfl (by as_aux_lemma => kernel_rfl) (by as_aux_lemma => kernel_rfl) (by as_aux_lemma => kernel_rfl) (fun _ _ _ h => h) (Or.inl ⟨by rfl, ?_⟩) hHeld0 ?_
                rotate_left
                · intro w hSw
                  (try dsimp only at hSw)
                  go_simp
                  try (first | (with_reducible rfl) | rfl)
                try simp only [List.getElem_toArray, List.getElem_cons_zero, List.getElem_cons_succ, Act.put, List.setIfInBounds_toArray, List.set_cons_zero, List.set_cons_succ]
                refine wpAnyH_take (i := 10) (v := ?_) rfl (by as_aux_lemma => kernel_rfl) (by as_aux_lemma => kernel_rfl) (by as_aux_lemma => kernel_rfl) (fun _ _ _ h => h) (Or.inl ⟨by rfl, ?_⟩) hHeld0 ?_
                rotate_left
                · intro w hSw
                  (try dsimp only at hSw)
                  go_simp
                  try (first | (with_reducible rfl) | rfl)
                try simp only [List.getElem_toArray, List.getElem_cons_zero, List.getElem_cons_succ, Act.put, List.setIfInBounds_toArray, List.set_cons_zero, List.set_cons_succ]
                refine wpAnyH_take (i := 11) (v := ?_) rfl (by as_aux_lemma => kernel_rfl) (by as_aux_lemma => kernel_rfl) (by as_aux_lemma => kernel_rfl) (fun _ _ _ h => h) (Or.inl ⟨by rfl, ?_⟩) hHeld0 ?_
                rotate_left
                · intro w hSw
                  (try dsimp only at hSw)
                  go_simp
                  try (first | (with_reducible rfl) | rfl)
                try simp only [List.getElem_toArray, List.getElem_cons_zero, List.getElem_cons_succ, Act.put, List.setIfInBounds_toArray, List.set_cons_zero, List.set_cons_succ]
                refine wpAnyH_take (i := 12) (v := ?_) rfl (by as_aux_lemma => kernel_rfl) (by as_aux_lemma => kernel_rfl) (by as_aux_lemma => kernel_rfl) (fun _ _ _ h => h) (Or.inl ⟨by rfl, ?_⟩) hHeld0 ?_
                rotate_left
                · intro w hSw
                  (try dsimp only at hSw)
                  go_simp
                  try (first | (with_reducible rfl) | rfl)
                try simp only [List.getElem_toArray, List.getElem_cons_zero, List.getElem_cons_succ, Act.put, List.setIfInBounds_toArray, List.set_cons_zero, List.set_cons_succ]
                refine wpAnyH_take (i := 13) (v := ?_) rfl (by as_aux_lemma => kernel_rfl) (by as_aux_lemma => kernel_rfl) (by as_aux_lemma => kernel_rfl) (fun _ _ _ h => h) (Or.inl ⟨by rfl, ?_⟩) hHeld0 ?_
                rotate_left
                · intro w hSw
                  (try dsimp only at hSw)
                  go_simp
                  try (first | (with_reducible rfl) | rfl)
                try simp only [List.getElem_toArray, List.getElem_cons_zero, List.getElem_cons_succ, Act.put, List.setIfInBounds_toArray, List.set_cons_zero, List.set_cons_succ]
                refine wpAnyH_take (i := 14) (v := ?_) rfl (by as_aux_lemma => kernel_rfl) (by as_aux_lemma => kernel_rfl) (by as_aux_lemma => kernel_rfl) (fun _ _ _ h => h) (Or.inl ⟨by rfl, ?_⟩) hHeld0 ?_
                rotate_left
                · intro w hSw
                  (try dsimp only at hSw)
                  go_simp
                  try (first | (with_reducible rfl) | rfl)
                try simp only [List.getElem_toArray, List.getElem_cons_zero, List.getElem_cons_succ, Act.put, List.setIfInBounds_toArray, List.set_cons_zero, List.set_cons_succ]
                refine wpAnyH_take (i := 15) (v := ?_) rfl (by as_aux_lemma => kernel_rfl) (by as_aux_lemma => kernel_rfl) (by as_aux_lemma => kernel_rfl) (fun _ _ _ h => h) (Or.inl ⟨by rfl, ?_⟩) hHeld0 ?_
                rotate_left
                · intro w hSw
                  (try dsimp only at hSw)
                  go_simp
                  try (first | (with_reducible rfl) | rfl)
                try simp only [List.getElem_toArray, List.getElem_cons_zero, List.getElem_cons_succ, Act.put, List.setIfInBounds_toArray, List.set_cons_zero, List.set_cons_succ]
                refine wpAnyH_take (i := 16) (v := ?_) rfl (by as_aux_lemma => kernel_rfl) (by as_aux_lemma => kernel_rfl) (by as_aux_lemma => kernel_rfl) (fun _ _ _ h => h) (Or.inl ⟨by rfl, ?_⟩) hHeld0 ?_
                rotate_left
                · intro w hSw
                  (try dsimp only at hSw)
                  go_simp
                  try (first | (with_reducible rfl) | rfl)
                try simp only [List.getElem_toArray, List.getElem_cons_zero, List.getElem_cons_succ, Act.put, List.setIfInBounds_toArray, List.set_cons_zero, List.set_cons_succ]
                refine wpAnyH_take (i := 17) (v := ?_) rfl (by as_aux_lemma => kernel_rfl) (by as_aux_lemma => kernel_rfl) (by as_aux_lemma => kernel_rfl) (fun _ _ _ h => h) (Or.inl ⟨by rfl, ?_⟩) hHeld0 ?_
                rotate_left
                · intro w hSw
                  (try dsimp only at hSw)
                  go_simp
                  try (first | (with_reducible rfl) | rfl)
                try simp only [List.getElem_toArray, List.getElem_cons_zero, List.getElem_cons_succ, Act.put, List.setIfInBounds_toArray, List.set_cons_zero, List.set_cons_succ]
                refine wpAnyH_take (i := 18) (v := ?_) rfl (by as_aux_lemma => kernel_rfl) (by as_aux_lemma => kernel_rfl) (by as_aux_lemma => kernel_rfl) (fun _ _ _ h => h) (Or.inl ⟨by rfl, ?_⟩) hHeld0 ?_
                rotate_left
                · intro w hSw
                  (try dsimp only at hSw)
                  go_simp
                  try (first | (with_reducible rfl) | rfl)
                try simp only [List.getElem_toArray, List.getElem_cons_zero, List.getElem_cons_succ, Act.put, List.setIfInBounds_toArray, List.set_cons_zero, List.set_cons_succ]
                refine wpAnyH_ready (rs := [9]) (by as_aux_lemma => kernel_rfl) (by simp) ?_
                refine AllReadyH.cons rfl (fun K hK => ?_) ?_
                · go_simp
                  go_at_call 44; refine (pick8_is bg 3 bd3 _ HBD.out (by decide) (by decide) g00 g01).mono ?_; rintro e w1 ⟨rfl, rfl⟩
                  go_wp2_with fail
                  refine hK.out _ _ ?_ (fun hHeld18_9 => ?_)
                  · first | exact HCG.out _ _ _ _ HN1.out | exact HCG.out _ _ _ _ HS.out.drew | exact HCG.out _ _ _ _ (((HN1.out.rowSet 2 rfl (k * 3) (by omega) (p8A (some (p, rb, newAT nn 0 0 tg bd3 sh)))).rowSet 2 rfl (k * 3 + 1) (by omega) (p8B (some (p, rb, newAT nn 0 0 tg bd3 sh)))).rowSet 2 rfl (k * 3 + 2) (by omega) (p8C (some (p, rb, newAT nn 0 0 tg bd3 sh))))
                  clear hK K
                  try simp only [List.getElem_toArray, List.getElem_cons_zero, List.getElem_cons_succ, Act.put, List.setIfInBounds_toArray, List.set_cons_zero, List.set_cons_succ]
                  refine wpAnyH_take (i := 19) (v := ?_) rfl (by as_aux_lemma => kernel_rfl) (by as_aux_lemma => kernel_rfl) (by as_aux_lemma => kernel_rfl) (fun _ _ _ h => h) (Or.inl ⟨by rfl, ?_⟩) hHeld18_9 ?_
                  rotate_left
                  · intro w hSw
                    (try dsimp only at hSw)
                    go_simp
                    try (first | (with_reducible rfl) | rfl)
                  try simp only [List.getElem_toArray, List.getElem_cons_zero, List.getElem_cons_succ, Act.put, List.setIfInBounds_toArray, List.set_cons_zero, List.set_cons_succ]
                  refine wpAnyH_ready (rs := [20]) (by as_aux_lemma => kernel_rfl) (by simp) ?_
                  refine AllReadyH.cons rfl (fun K hK => ?_) ?_
                  · go_simp
                    go_at_call 43; refine (made8_take nn 0 0 tg bd3 0 a9 sh.length c9 sh HPK.out.1.drew (HRD.out.kept (bl_drew (bl_refl _))) rfl (by omega)).mono ?_; rintro e wn ⟨p, rb, rfl, h⟩; (have HN1 := Lib.hid (show St w (memA q ws ns :: (alL gh ga gs bc nn tg hs ths vs ++ manyA th8A [0, 0, 0, 0] (ds.set k (some (p, rb, newAT nn 0 0 tg bd3 sh), .slice a9 sh.length c9, sh)))) wn from HPK.out.2 _ _ _ (some (p, rb, newAT nn 0 0 tg bd3 sh), .slice a9 sh.length c9, sh) (show St w (memA q ws ns :: rowA 23 1 (.slice a9 sh.length c9) sh.length (sh.map u32V) :: arA p (newAT nn 0 0 tg bd3 sh) :: R) wn from h.re 4 [1, 2, 0]))); clear h; obtain ⟨e0, f0⟩ := HN1.out.at_ 2 rfl (k * 3) HP.out.1; obtain ⟨e1, f1⟩ := HN1.out.at_ 2 rfl (k * 3 + 1) HP.out.2.1; obtain ⟨e2, f2⟩ := HN1.out.at_ 2 rfl (k * 3 + 2) HP.out.2.2
                    go_wp2_with fail
                    refine hK.out _ _ ?_ (fun hHeld20_20 => ?_)
                    · first | exact HCG.out _ _ _ _ HN1.out | exact HCG.out _ _ _ _ HS.out.drew | exact HCG.out _ _ _ _ (((HN1.out.rowSet 2 rfl (k * 3) (by omega) (p8A (some (p, rb, newAT nn 0 0 tg bd3 sh)))).rowSet 2 rfl (k * 3 + 1) (by omega) (p8B (some (p, rb, newAT nn 0 0 tg bd3 sh)))).rowSet 2 rfl (k * 3 + 2) (by omega) (p8C (some (p, rb, newAT nn 0 0 tg bd3 sh))))
                    clear hK K
                    try simp only [List.getElem_toArray, List.getElem_cons_zero, List.getElem_cons_succ, Act.put, List.setIfInBounds_toArray, List.set_cons_zero, List.set_cons_succ]
                    refine wpAnyH_take (i := 21) (v := ?_) rfl (by as_aux_lemma => kernel_rfl) (by as_aux_lemma => kernel_rfl) (by as_aux_lemma => kernel_rfl) (fun _ _ _ h => h) (Or.inl ⟨by rfl, ?_⟩) hHeld20_20 ?_
                    rotate_left
                    · intro w hSw
                      (try dsimp only at hSw)
                      go_simp
                      try (first | (with_reducible rfl) | rfl)
                    try simp only [List.getElem_toArray, List.getElem_cons_zero, List.getElem_cons_succ, Act.put, List.setIfInBounds_toArray, List.set_cons_zero, List.set_cons_succ]
                    refine wpAnyH_ready (rs := [22]) (by as_aux_lemma => kernel_rfl) (by simp) ?_
                    refine AllReadyH.cons rfl (fun K hK => ?_) ?_
                    · go_simp
                      refine hK.out _ _ ?_ (fun hHeld22_22 => ?_)
                      · first | exact HCG.out _ _ _ _ HN1.out | exact HCG.out _ _ _ _ HS.out.drew | exact HCG.out _ _ _ _ (((HN1.out.rowSet 2 rfl (k * 3) (by omega) (p8A (some (p, rb, newAT nn 0 0 tg bd3 sh)))).rowSet 2 rfl (k * 3 + 1) (by omega) (p8B (some (p, rb, newAT nn 0 0 tg bd3 sh)))).rowSet 2 rfl (k * 3 + 2) (by omega) (p8C (some (p, rb, newAT nn 0 0 tg bd3 sh))))
                      clear hK K
                      try simp only [List.getElem_toArray, List.getElem_cons_zero, List.getElem_cons_succ, Act.put, List.setIfInBounds_toArray, List.set_cons_zero, List.set_cons_succ]
                      refine wpAnyH_done (by as_aux_lemma => kernel_rfl) ?_ _
                      go_wp2
                      go_meet
                      case rel =>
                        have hnew := HMI.out.make (t := tg) (bg := bd3) hk4 HHS.out HOK.out hbb p rb
                        rw [if_pos rfl, ← HSH.out] at hnew
                        have hup : upF shs k sh = shs := funext fun j => by
                          by_cases c : j = k
                          · subst c; rw [upF_self, HSH.out]
                          · rw [upF_ne _ _ c]
                        have hdo := HDO.out.set hk4 (some (p, rb, newAT nn 0 0 tg bd3 sh)) (.slice a9 sh.length c9) sh
                        rw [hup, set_same HVS.out] at hdo
                        refine ⟨p, rb, newAT nn 0 0 tg bd3 sh, _, _, List.getElem?_set_self HKL.out, hnew, hdo, ?_⟩
                        have h9 := (((HN1.out.rowSet 2 rfl (k * 3) (by omega) (p8A (some (p, rb, newAT nn 0 0 tg bd3 sh)))).rowSet 2 rfl (k * 3 + 1) (by omega) (p8B (some (p, rb, newAT nn 0 0 tg bd3 sh)))).rowSet 2 rfl (k * 3 + 2) (by omega) (p8C (some (p, rb, newAT nn 0 0 tg bd3 sh))))
                        have e9 := pcs8_set (l := ths) (k := k) (some (p, rb, newAT nn 0 0 tg bd3 sh)) HKL.out
                        simp only [List.set_cons_succ, List.set_cons_zero, List.cons_append, List.nil_append] at h9
                        rw [e9] at h9
                        exact h9
                    exact AllReadyH.nil
                  exact AllReadyH.nil
                exact AllReadyH.nil
              · have chb : (hh != 0) = true := by simp; exact ch
                have HCG : Hid (∀ m x X w', St w (m :: rowG gh 4 23 1 4 (hs.map u32V) :: x :: rowG gs 4 33 1 4 vs :: bxC bc nn 0 0 tg :: X) w' → w'.cell? ⟨bc, 0, none⟩ = some (.int .i64 nn) ∧ w'.cell? ⟨bc, 1, none⟩ = some (.int .i64 0) ∧ w'.cell? ⟨bc, 2, none⟩ = some (.int .i64 0) ∧ w'.cell? ⟨bc, 3, none⟩ = some (.int .u32 tg) ∧ w'.cell? ⟨gh, k, none⟩ = some (.int .u32 hh) ∧ w'.cell? ⟨gs, k, none⟩ = some (.slice a9 sh.length c9)) := Lib.hid fun m x X w' h => by
                  obtain ⟨a0, a1, a2, a3⟩ := cells4 (h.cells 4 rfl)
                  exact ⟨a0, a1, a2, a3, (h.at_ 1 rfl k (u := .int .u32 hh) (by rw [List.getElem?_map, HHS.out]; rfl)).1, (h.at_ 3 rfl k HVS.out).1⟩
                have hw1 : IntKind.i64.wrap hh = hh := by rw [IntKind.wrap_i64]; omega
                go_wp2
                clear e0 e1 e2 f0 f1 f2 eh fh es fs q0 q1 q2 q3
                refine wp_region_held_drew (S := (fun w' => w'.cell? ⟨bc, 0, none⟩ = some (.int .i64 nn) ∧ w'.cell? ⟨bc, 1, none⟩ = some (.int .i64 0) ∧ w'.cell? ⟨bc, 2, none⟩ = some (.int .i64 0) ∧ w'.cell? ⟨bc, 3, none⟩ = some (.int .u32 tg) ∧ w'.cell? ⟨gh, k, none⟩ = some (.int .u32 hh) ∧ w'.cell? ⟨gs, k, none⟩ = some (.slice a9 sh.length c9))) (by as_aux_lemma => kernel_rfl) ?_ (fun hHeld0 => ?_)
                · first | exact HCG.out _ _ _ _ HN1.out | exact HCG.out _ _ _ _ HS.out.drew | exact HCG.out _ _ _ _ (((HN1.out.rowSet 2 rfl (k * 3) (by omega) (p8A (some (p, rb, newAG nn 0 0 tg bd3 sh hh)))).rowSet 2 rfl (k * 3 + 1) (by omega) (p8B (some (p, rb, newAG nn 0 0 tg bd3 sh hh)))).rowSet 2 rfl (k * 3 + 2) (by omega) (p8C (some (p, rb, newAG nn 0 0 tg bd3 sh hh))))
                refine wpAnyH_take (i := 0) (v := ?_) rfl (by as_aux_lemma => kernel_rfl) (by as_aux_lemma => kernel_rfl) (by as_aux_lemma => kernel_rfl) (fun _ _ _ h => h) (Or.inl ⟨by rfl, ?_⟩) hHeld0 ?_
                rotate_left
                · intro w hSw
                  (try dsimp only at hSw)
                  go_simp
                  try (first | (with_reducible rfl) | rfl)
                try simp only [List.getElem_toArray, List.getElem_cons_zero, List.getElem_cons_succ, Act.put, List.setIfInBounds_toArray, List.set_cons_zero, List.set_cons_succ]
                refine wpAnyH_take (i := 1) (v := ?_) rfl (by as_aux_lemma => kernel_rfl) (by as_aux_lemma => kernel_rfl) (by as_aux_lemma => kernel_rfl) (fun _ _ _ h => h) (Or.inl ⟨by rfl, ?_⟩) hHeld0 ?_
                rotate_left
                · intro w hSw
                  (try dsimp only at hSw)
                  go_simp
                  try (first | (with_reducible rfl) | rfl)
                try simp only [List.getElem_toArray, List.getElem_cons_zero, List.getElem_cons_succ, Act.put, List.setIfInBounds_toArray, List.set_cons_zero, List.set_cons_succ]
                refine wpAnyH_take (i := 2) (v := ?_) rfl (by as_aux_lemma => kernel_rfl) (by as_aux_lemma => kernel_rfl) (by as_aux_lemma => kernel_rfl) (fun _ _ _ h => h) (Or.inl ⟨by rfl, ?_⟩) hHeld0 ?_
                rotate_left
                · intro w hSw
                  (try dsimp only at hSw)
                  go_simp
                  try (first | (with_reducible rfl) | rfl)
                try simp only [List.getElem_toArray, List.getElem_cons_zero, List.getElem_cons_succ, Act.put, List.setIfInBounds_toArray, List.set_cons_zero, List.set_cons_succ]
                refine wpAnyH_take (i := 3) (v := ?_) rfl (by as_aux_lemma => kernel_rfl) (by as_aux_lemma => kernel_rfl) (by as_aux_lemma => kernel_rfl) (fun _ _ _ h => h) (Or.inl ⟨by rfl, ?_⟩) hHeld0 ?_
                rotate_left
                · intro w hSw
                  (try dsimp only at hSw)
                  go_simp
                  try (first | (with_reducible rfl) | rfl)
                try simp only [List.getElem_toArray, List.getElem_cons_zero, List.getElem_cons_succ, Act.put, List.setIfInBounds_toArray, List.set_cons_zero, List.set_cons_succ]
                refine wpAnyH_take (i := 4) (v := ?_) rfl (by as_aux_lemma => kernel_rfl) (by as_aux_lemma => kernel_rfl) (by as_aux_lemma => kernel_rfl) (fun _ _ _ h => h) (Or.inl ⟨by rfl, ?_⟩) hHeld0 ?_
                rotate_left
                · intro w hSw
                  (try dsimp only at hSw)
                  go_simp
                  try (first | (with_reducible rfl) | rfl)
                try simp only [List.getElem_toArray, List.getElem_cons_zero, List.getElem_cons_succ, Act.put, List.setIfInBounds_toArray, List.set_cons_zero, List.set_cons_succ]
                refine wpAnyH_take (i := 5) (v := ?_) rfl (by as_aux_lemma => kernel_rfl) (by as_aux_lemma => kernel_rfl) (by as_aux_lemma => kernel_rfl) (fun _ _ _ h => h) (Or.inl ⟨by rfl, ?_⟩) hHeld0 ?_
                rotate_left
                · intro w hSw
                  (try dsimp only at hSw)
                  go_simp
                  try (first | (with_reducible rfl) | rfl)
                try simp only [List.getElem_toArray, List.getElem_cons_zero, List.getElem_cons_succ, Act.put, List.setIfInBounds_toArray, List.set_cons_zero, List.set_cons_succ]
                refine wpAnyH_take (i := 6) (v := ?_) rfl (by as_aux_lemma => kernel_rfl) (by as_aux_lemma => kernel_rfl) (by as_aux_lemma => kernel_rfl) (fun _ _ _ h => h) (Or.inl ⟨by rfl, ?_⟩) hHeld0 ?_
                rotate_left
                · intro w hSw
                  (try dsimp only at hSw)
                  go_simp
                  try (first | (with_reducible rfl) | rfl)
                try simp only [List.getElem_toArray, List.getElem_cons_zero, List.getElem_cons_succ, Act.put, List.setIfInBounds_toArray, List.set_cons_zero, List.set_cons_succ]
                refine wpAnyH_take (i := 7) (v := ?_) rfl (by as_aux_lemma => kernel_rfl) (by as_aux_lemma => kernel_rfl) (by as_aux_lemma => kernel_rfl) (fun _ _ _ h => h) (Or.inl ⟨by rfl, ?_⟩) hHeld0 ?_
                rotate_left
                · intro w hSw
                  (try dsimp only at hSw)
                  go_simp
                  try (first | (with_reducible rfl) | rfl)
                try simp only [List.getElem_toArray, List.getElem_cons_zero, List.getElem_cons_succ, Act.put, List.setIfInBounds_toArray, List.set_cons_zero, List.set_cons_succ]
                refine wpAnyH_take (i := 8) (v := ?_) rfl (by as_aux_lemma => kernel_rfl) (by as_aux_lemma => kernel_rfl) (by as_aux_lemma => kernel_rfl) (fun _ _ _ h => h) (Or.inl ⟨by rfl, ?_⟩) hHeld0 ?_
                rotate_left
                · intro w hSw
                  (try dsimp only at hSw)
                  go_simp
                  try (first | (with_reducible rfl) | rfl)
                try simp only [List.getElem_toArray, List.getElem_cons_zero, List.getElem_cons_succ, Act.put, List.setIfInBounds_toArray, List.set_cons_zero, List.set_cons_succ]
                refine wpAnyH_take (i := 10) (v := ?_) rfl (by as_aux_lemma => kernel_rfl) (by as_aux_lemma => kernel_rfl) (by as_aux_lemma => kernel_rfl) (fun _ _ _ h => h) (Or.inl ⟨by rfl, ?_⟩) hHeld0 ?_
                rotate_left
                · intro w hSw
                  (try dsimp only at hSw)
                  go_simp
                  try (first | (with_reducible rfl) | rfl)
                try simp only [List.getElem_toArray, List.getElem_cons_zero, List.getElem_cons_succ, Act.put, List.setIfInBounds_toArray, List.set_cons_zero, List.set_cons_succ]
                refine wpAnyH_take (i := 11) (v := ?_) rfl (by as_aux_lemma => kernel_rfl) (by as_aux_lemma => kernel_rfl) (by as_aux_lemma => kernel_rfl) (fun _ _ _ h => h) (Or.inl ⟨by rfl, ?_⟩) hHeld0 ?_
                rotate_left
                · intro w hSw
                  (try dsimp only at hSw)
                  go_simp
                  try (first | (with_reducible rfl) | rfl)
                try simp only [List.getElem_toArray, List.getElem_cons_zero, List.getElem_cons_succ, Act.put, List.setIfInBounds_toArray, List.set_cons_zero, List.set_cons_succ]
                refine wpAnyH_take (i := 12) (v := ?_) rfl (by as_aux_lemma => kernel_rfl) (by as_aux_lemma => kernel_rfl) (by as_aux_lemma => kernel_rfl) (fun _ _ _ h => h) (Or.inl ⟨by rfl, ?_⟩) hHeld0 ?_
                rotate_left
                · intro w hSw
                  (try dsimp only at hSw)
                  go_simp
                  try (first | (with_reducible rfl) | rfl)
                try simp only [List.getElem_toArray, List.getElem_cons_zero, List.getElem_cons_succ, Act.put, List.setIfInBounds_toArray, List.set_cons_zero, List.set_cons_succ]
                refine wpAnyH_take (i := 13) (v := ?_) rfl (by as_aux_lemma => kernel_rfl) (by as_aux_lemma => kernel_rfl) (by as_aux_lemma => kernel_rfl) (fun _ _ _ h => h) (Or.inl ⟨by rfl, ?_⟩) hHeld0 ?_
                rotate_left
                · intro w hSw
                  (try dsimp only at hSw)
                  go_simp
                  try (first | (with_reducible rfl) | rfl)
                try simp only [List.getElem_toArray, List.getElem_cons_zero, List.getElem_cons_succ, Act.put, List.setIfInBounds_toArray, List.set_cons_zero, List.set_cons_succ]
                refine wpAnyH_take (i := 14) (v := ?_) rfl (by as_aux_lemma => kernel_rfl) (by as_aux_lemma => kernel_rfl) (by as_aux_lemma => kernel_rfl) (fun _ _ _ h => h) (Or.inl ⟨by rfl, ?_⟩) hHeld0 ?_
                rotate_left
                · intro w hSw
                  (try dsimp only at hSw)
                  go_simp
                  try (first | (with_reducible rfl) | rfl)
                try simp only [List.getElem_toArray, List.getElem_cons_zero, List.getElem_cons_succ, Act.put, List.setIfInBounds_toArray, List.set_cons_zero, List.set_cons_succ]
                refine wpAnyH_take (i := 15) (v := ?_) rfl (by as_aux_lemma => kernel_rfl) (by as_aux_lemma => kernel_rfl) (by as_aux_lemma => kernel_rfl) (fun _ _ _ h => h) (Or.inl ⟨by rfl, ?_⟩) hHeld0 ?_
                rotate_left
                · intro w hSw
                  (try dsimp only at hSw)
                  go_simp
                  try (first | (with_reducible rfl) | rfl)
                try simp only [List.getElem_toArray, List.getElem_cons_zero, List.getElem_cons_succ, Act.put, List.setIfInBounds_toArray, List.set_cons_zero, List.set_cons_succ]
                refine wpAnyH_take (i := 16) (v := ?_) rfl (by as_aux_lemma => kernel_rfl) (by as_aux_lemma => kernel_rfl) (by as_aux_lemma => kernel_rfl) (fun _ _ _ h => h) (Or.inl ⟨by rfl, ?_⟩) hHeld0 ?_
                rotate_left
                · intro w hSw
                  (try dsimp only at hSw)
                  go_simp
                  try (first | (with_reducible rfl) | rfl)
                try simp only [List.getElem_toArray, List.getElem_cons_zero, List.getElem_cons_succ, Act.put, List.setIfInBounds_toArray, List.set_cons_zero, List.set_cons_succ]
                refine wpAnyH_take (i := 17) (v := ?_) rfl (by as_aux_lemma => kernel_rfl) (by as_aux_lemma => kernel_rfl) (by as_aux_lemma => kernel_rfl) (fun _ _ _ h => h) (Or.inl ⟨by rfl, ?_⟩) hHeld0 ?_
                rotate_left
                · intro w hSw
                  (try dsimp only at hSw)
                  go_simp
                  try (first | (with_reducible rfl) | rfl)
                try simp only [List.getElem_toArray, List.getElem_cons_zero, List.getElem_cons_succ, Act.put, List.setIfInBounds_toArray, List.set_cons_zero, List.set_cons_succ]
                refine wpAnyH_take (i := 18) (v := ?_) rfl (by as_aux_lemma => kernel_rfl) (by as_aux_lemma => kernel_rfl) (by as_aux_lemma => kernel_rfl) (fun _ _ _ h => h) (Or.inl ⟨by rfl, ?_⟩) hHeld0 ?_
                rotate_left
                · intro w hSw
                  (try dsimp only at hSw)
                  go_simp
                  try (first | (with_reducible rfl) | rfl)
                try simp only [List.getElem_toArray, List.getElem_cons_zero, List.getElem_cons_succ, Act.put, List.setIfInBounds_toArray, List.set_cons_zero, List.set_cons_succ]
                refine wpAnyH_ready (rs := [9]) (by as_aux_lemma => kernel_rfl) (by simp) ?_
                refine AllReadyH.cons rfl (fun K hK => ?_) ?_
                · go_simp
                  go_at_call 44; refine (pick8_is bg 3 bd3 _ HBD.out (by decide) (by decide) g00 g01).mono ?_; rintro e w1 ⟨rfl, rfl⟩
                  go_wp2_with fail
                  refine hK.out _ _ ?_ (fun hHeld18_9 => ?_)
                  · first | exact HCG.out _ _ _ _ HN1.out | exact HCG.out _ _ _ _ HS.out.drew | exact HCG.out _ _ _ _ (((HN1.out.rowSet 2 rfl (k * 3) (by omega) (p8A (some (p, rb, newAG nn 0 0 tg bd3 sh hh)))).rowSet 2 rfl (k * 3 + 1) (by omega) (p8B (some (p, rb, newAG nn 0 0 tg bd3 sh hh)))).rowSet 2 rfl (k * 3 + 2) (by omega) (p8C (some (p, rb, newAG nn 0 0 tg bd3 sh hh))))
                  clear hK K
                  try simp only [List.getElem_toArray, List.getElem_cons_zero, List.getElem_cons_succ, Act.put, List.setIfInBounds_toArray, List.set_cons_zero, List.set_cons_succ]
                  refine wpAnyH_take (i := 19) (v := ?_) rfl (by as_aux_lemma => kernel_rfl) (by as_aux_lemma => kernel_rfl) (by as_aux_lemma => kernel_rfl) (fun _ _ _ h => h) (Or.inl ⟨by rfl, ?_⟩) hHeld18_9 ?_
                  rotate_left
                  · intro w hSw
                    (try dsimp only at hSw)
                    go_simp
                    try (first | (with_reducible rfl) | rfl)
                  try simp only [List.getElem_toArray, List.getElem_cons_zero, List.getElem_cons_succ, Act.put, List.setIfInBounds_toArray, List.set_cons_zero, List.set_cons_succ]
                  refine wpAnyH_ready (rs := [20]) (by as_aux_lemma => kernel_rfl) (by simp) ?_
                  refine AllReadyH.cons rfl (fun K hK => ?_) ?_
                  · go_simp
                    go_at_call 43; refine (made8_give nn 0 0 tg bd3 hh hh a9 sh.length c9 sh HPK.out.1.drew (HRD.out.kept (bl_drew (bl_refl _))) rfl (by omega) (by omega)).mono ?_; rintro e wn ⟨p, rb, rfl, h⟩; (have HN1 := Lib.hid (show St w (memA q ws ns :: (alL gh ga gs bc nn tg hs ths vs ++ manyA th8A [0, 0, 0, 0] (ds.set k (some (p, rb, newAG nn 0 0 tg bd3 sh hh), .slice a9 sh.length c9, sh)))) wn from HPK.out.2 _ _ _ (some (p, rb, newAG nn 0 0 tg bd3 sh hh), .slice a9 sh.length c9, sh) (show St w (memA q ws ns :: rowA 23 1 (.slice a9 sh.length c9) sh.length (sh.map u32V) :: arA p (newAG nn 0 0 tg bd3 sh hh) :: R) wn from h.re 4 [1, 2, 0]))); clear h; obtain ⟨e0, f0⟩ := HN1.out.at_ 2 rfl (k * 3) HP.out.1; obtain ⟨e1, f1⟩ := HN1.out.at_ 2 rfl (k * 3 + 1) HP.out.2.1; obtain ⟨e2, f2⟩ := HN1.out.at_ 2 rfl (k * 3 + 2) HP.out.2.2
                    go_wp2_with fail
                    refine hK.out _ _ ?_ (fun hHeld20_20 => ?_)
                    · first | exact HCG.out _ _ _ _ HN1.out | exact HCG.out _ _ _ _ HS.out.drew | exact HCG.out _ _ _ _ (((HN1.out.rowSet 2 rfl (k * 3) (by omega) (p8A (some (p, rb, newAG nn 0 0 tg bd3 sh hh)))).rowSet 2 rfl (k * 3 + 1) (by omega) (p8B (some (p, rb, newAG nn 0 0 tg bd3 sh hh)))).rowSet 2 rfl (k * 3 + 2) (by omega) (p8C (some (p, rb, newAG nn 0 0 tg bd3 sh hh))))
                    clear hK K
                    try simp only [List.getElem_toArray, List.getElem_cons_zero, List.getElem_cons_succ, Act.put, List.setIfInBounds_toArray, List.set_cons_zero, List.set_cons_succ]
                    refine wpAnyH_take (i := 21) (v := ?_) rfl (by as_aux_lemma => kernel_rfl) (by as_aux_lemma => kernel_rfl) (by as_aux_lemma => kernel_rfl) (fun _ _ _ h => h) (Or.inl ⟨by rfl, ?_⟩) hHeld20_20 ?_
                    rotate_left
                    · intro w hSw
                      (try dsimp only at hSw)
                      go_simp
                      try (first | (with_reducible rfl) | rfl)
                    try simp only [List.getElem_toArray, List.getElem_cons_zero, List.getElem_cons_succ, Act.put, List.setIfInBounds_toArray, List.set_cons_zero, List.set_cons_succ]
                    refine wpAnyH_ready (rs := [22]) (by as_aux_lemma => kernel_rfl) (by simp) ?_
                    refine AllReadyH.cons rfl (fun K hK => ?_) ?_
                    · go_simp
                      refine hK.out _ _ ?_ (fun hHeld22_22 => ?_)
                      · first | exact HCG.out _ _ _ _ HN1.out | exact HCG.out _ _ _ _ HS.out.drew | exact HCG.out _ _ _ _ (((HN1.out.rowSet 2 rfl (k * 3) (by omega) (p8A (some (p, rb, newAG nn 0 0 tg bd3 sh hh)))).rowSet 2 rfl (k * 3 + 1) (by omega) (p8B (some (p, rb, newAG nn 0 0 tg bd3 sh hh)))).rowSet 2 rfl (k * 3 + 2) (by omega) (p8C (some (p, rb, newAG nn 0 0 tg bd3 sh hh))))
                      clear hK K
                      try simp only [List.getElem_toArray, List.getElem_cons_zero, List.getElem_cons_succ, Act.put, List.setIfInBounds_toArray, List.set_cons_zero, List.set_cons_succ]
                      refine wpAnyH_done (by as_aux_lemma => kernel_rfl) ?_ _
                      go_wp2
                      go_meet
                      case rel =>
                        have hnew := HMI.out.make (t := tg) (bg := bd3) hk4 HHS.out HOK.out hbb p rb
                        rw [if_neg ch, ← HSH.out] at hnew
                        have hup : upF shs k sh = shs := funext fun j => by
                          by_cases c : j = k
                          · subst c; rw [upF_self, HSH.out]
                          · rw [upF_ne _ _ c]
                        have hdo := HDO.out.set hk4 (some (p, rb, newAG nn 0 0 tg bd3 sh hh)) (.slice a9 sh.length c9) sh
                        rw [hup, set_same HVS.out] at hdo
                        refine ⟨p, rb, newAG nn 0 0 tg bd3 sh hh, _, _, List.getElem?_set_self HKL.out, hnew, hdo, ?_⟩
                        have h9 := (((HN1.out.rowSet 2 rfl (k * 3) (by omega) (p8A (some (p, rb, newAG nn 0 0 tg bd3 sh hh)))).rowSet 2 rfl (k * 3 + 1) (by omega) (p8B (some (p, rb, newAG nn 0 0 tg bd3 sh hh)))).rowSet 2 rfl (k * 3 + 2) (by omega) (p8C (some (p, rb, newAG nn 0 0 tg bd3 sh hh))))
                        have e9 := pcs8_set (l := ths) (k := k) (some (p, rb, newAG nn 0 0 tg bd3 sh hh)) HKL.out
                        simp only [List.set_cons_succ, List.set_cons_zero, List.cons_append, List.nil_append] at h9
                        rw [e9] at h9
                        exact h9
                    exact AllReadyH.nil
                  exact AllReadyH.nil
                exact AllReadyH.nil
            | some ps =>
              obtain ⟨p, rb, S⟩ := ps
              go_wp2
              go_meet
              case rel => exact ⟨p, rb, S, ds, ths, HTH.out, HMI.out, HDO.out, HS.out⟩
          case rest =>
            clear e0 e1 e2 f0 f1 f2 eh fh es fs q0 q1 q2 q3 HS HPK HMI HTH HP HKL HRD HSH HDO hshl
            obtain ⟨p, rb, S, ds2, th2, hth, hmi, hdo, hS⟩ := hcut
            have hiB : i < 4294967295 := by omega
            obtain ⟨p0, p1, p2⟩ := pcs8_get hth
            have hkl : k < th2.length := (List.getElem?_eq_some_iff.1 hth).1
            obtain ⟨dd, hdd⟩ := getE (l := ds2) (k := k) (by rw [hdo.len]; exact hk4)
            obtain ⟨th', v', sh'⟩ := dd
            have hth' : th2[k]? = some th' := by rw [hdo.th, List.getElem?_map, hdd]; rfl
            rw [hth] at hth'
            cases hth'
            obtain ⟨hok, r, z', S', ws2, nt, hst, hnt1, hgv, hsl, hend⟩ := hmi.step hth hiB (fun i hi => hS.rng hi)
            have hlN : ws.length = N := by obtain ⟨_, _, h⟩ := hmi; exact h.len
            have HOKS : Hid (S.ok ws.length) := Lib.hid (by rw [hlN]; exact hok)
            obtain ⟨R2, hR1, hR2⟩ := th8_pick hk4 hS hdd
            dsimp only at hR1
            have HPK : Hid (St w (memA q ws ns :: arA p S :: rowA 23 1 v' sh'.length (sh'.map u32V) :: R2) wc ∧ ∀ w1 w' m' (d' : D8), St w1 (m' :: rowA 23 1 d'.2.1 d'.2.2.length (d'.2.2.map u32V) :: mch8 d'.1 :: R2) w' → St w1 (m' :: (alL gh ga gs bc nn tg hs th2 vs ++ manyA th8A [0, 0, 0, 0] (ds2.set k d'))) w') := Lib.hid ⟨(show St w (memA q ws ns :: rowA 23 1 v' sh'.length (sh'.map u32V) :: arA p S :: R2) wc from hR1).sw12, hR2⟩
            obtain ⟨e0, f0⟩ := hS.at_ 2 rfl (k * 3) p0
            obtain ⟨e1, f1⟩ := hS.at_ 2 rfl (k * 3 + 1) p1
            obtain ⟨e2, f2⟩ := hS.at_ 2 rfl (k * 3 + 2) p2
            have HP := Lib.hid (And.intro p0 (And.intro p1 p2))
            have HKL := Lib.hid hkl
            have HTH := Lib.hid hth
            have HST := Lib.hid hst
            have HDO := Lib.hid hdo
            have hnl : ns.length ≤ 1000000000000 := by have := HNS.out; omega
            have hsl2 : S'.shelf.length ≤ 1000000000000 := by omega
            have hn12 : gh ≠ ga := hS.ne 1 2 (by decide) rfl rfl
            have hn21 : ga ≠ gh := fun e => hn12 e.symm
            have hn13 : gh ≠ gs := hS.ne 1 3 (by decide) rfl rfl
            have hn31 : gs ≠ gh := fun e => hn13 e.symm
            have hn23 : ga ≠ gs := hS.ne 2 3 (by decide) rfl rfl
            have hn32 : gs ≠ ga := fun e => hn23 e.symm
            clear hS hR1 hR2 hok hst hmi hth p0 p1 p2 hlN hkl hdo hdd
            simp only [p8A, p8B, p8C] at e0 e1 e2
            rcases hend with ⟨rfl, hM⟩ | ⟨hr26, hg0, hM⟩ | ⟨rfl, hg0, hM⟩ | ⟨rfl, hg0, hM⟩
            · cases hg : S.give with
              | true =>
                simp only [hg, if_true, if_false, Bool.false_eq_true] at e0 e1
                go_wp2_with (go_at_call 45; refine (pstep8_g (.pointer (some rb)) HST.out rfl hg HPK.out.1 HOKS.out hnl (hgv.trans hg) hsl2).mono ?_; rintro e wn ⟨a7, c7, rfl, h⟩; (have h := (show St w (rowA 23 1 (.slice a7 S'.shelf.length c7) S'.shelf.length (S'.shelf.map u32V) :: memA q ws2 (ns ++ nt) :: arA p S' :: rowA 23 1 v' sh'.length (sh'.map u32V) :: R2) wn from h)); (have HN1 := Lib.hid (show St w (memA q ws2 (ns ++ nt) :: (alL gh ga gs bc nn tg hs th2 vs ++ manyA th8A [0, 0, 0, 0] (ds2.set k ((some (p, rb, S')), .slice a7 S'.shelf.length c7, S'.shelf)))) wn from HPK.out.2 _ _ _ ((some (p, rb, S')), .slice a7 S'.shelf.length c7, S'.shelf) (show St w (memA q ws2 (ns ++ nt) :: rowA 23 1 (.slice a7 S'.shelf.length c7) S'.shelf.length (S'.shelf.map u32V) :: arA p S' :: R2) wn from h.re 4 [1, 0, 2]))); clear h e0 e1 e2 f0 f1 f2; obtain ⟨e0, f0⟩ := HN1.out.at_ 2 rfl (k * 3) HP.out.1; obtain ⟨e1, f1⟩ := HN1.out.at_ 2 rfl (k * 3 + 1) HP.out.2.1; obtain ⟨e2, f2⟩ := HN1.out.at_ 2 rfl (k * 3 + 2) HP.out.2.2; simp only [p8A, p8B, p8C, hg, if_true, if_false, Bool.false_eq_true] at e0 e1 e2; obtain ⟨eh, fh⟩ := HN1.out.at_ 1 rfl k (u := .int .u32 hh) (by rw [List.getElem?_map, HHS.out]; rfl); obtain ⟨es, fs⟩ := HN1.out.at_ 3 rfl k HVS.out)
                have hm' := hM
                have hd' := HDO.out.set hk4 (some (p, rb, S')) (.slice a7 S'.shelf.length c7) S'.shelf
                have e9 := pcs8_same (t := some (p, rb, S')) HTH.out (by simp only [p8A, hgv]) (by simp only [p8B, hgv]) (by simp only [p8C])
                have h9 := (HN1.out.rowSet 3 rfl k (by omega) (.slice a7 S'.shelf.length c7))
                simp only [List.set_cons_succ, List.set_cons_zero, List.cons_append, List.nil_append] at h9
                rw [← e9] at h9
                have H9 := Lib.hid (show St w (memA q ws2 (ns ++ nt) :: (alL gh ga gs bc nn tg hs (th2.set k (some (p, rb, S'))) (vs.set k (.slice a7 S'.shelf.length c7)) ++ manyA th8A [0, 0, 0, 0] (ds2.set k ((some (p, rb, S')), .slice a7 S'.shelf.length c7, S'.shelf)))) _ from h9)
                clear h9 e9 e0 e1 e2 f0 f1 f2 eh fh es fs
                obtain ⟨ds3, hds3⟩ : ∃ ds3, ds2.set k ((some (p, rb, S')), .slice a7 S'.shelf.length c7, S'.shelf) = ds3 := ⟨_, rfl⟩
                obtain ⟨shs3, hshs3⟩ : ∃ f, upF shs k S'.shelf = f := ⟨_, rfl⟩
                rw [hds3] at H9 hd'
                rw [hshs3] at hd' hm'
                clear hds3 hshs3
                obtain ⟨l1, T1, hA1, hAN, hl4, hwN⟩ := hm'.whole
                have HA1 := Lib.hid hA1
                have HAN := Lib.hid hAN
                have HL4 := Lib.hid hl4
                have HWN := Lib.hid hwN
                have HM2 := Lib.hid hm'
                have HD2 := Lib.hid hd'
                have HCQ : Hid (∀ m x y z X w', St w (m :: x :: y :: z :: bxC bc nn 0 0 tg :: X) w' → w'.cell? ⟨bc, 0, none⟩ = some (.int .i64 nn) ∧ w'.cell? ⟨bc, 1, none⟩ = some (.int .i64 0) ∧ w'.cell? ⟨bc, 2, none⟩ = some (.int .i64 0) ∧ w'.cell? ⟨bc, 3, none⟩ = some (.int .u32 tg)) := Lib.hid fun m x y z X w' h => cells4 (h.cells 4 rfl)
                clear hA1 hAN hl4 hwN hm' hd'
                refine wp_region_held_drew (S := (fun w' => w'.cell? ⟨bc, 0, none⟩ = some (.int .i64 nn) ∧ w'.cell? ⟨bc, 1, none⟩ = some (.int .i64 0) ∧ w'.cell? ⟨bc, 2, none⟩ = some (.int .i64 0) ∧ w'.cell? ⟨bc, 3, none⟩ = some (.int .u32 tg))) (by as_aux_lemma => kernel_rfl) ?_ (fun hHeld0 => ?_)
                · first | exact HCQ.out _ _ _ _ _ _ HZ.out | exact HCQ.out _ _ _ _ _ _ HV.out | exact HCQ.out _ _ _ _ _ _ H9.out.drew
                refine wpAnyH_take (i := 0) (v := ?_) rfl (by as_aux_lemma => kernel_rfl) (by as_aux_lemma => kernel_rfl) (by as_aux_lemma => kernel_rfl) (fun _ _ _ h => h) (Or.inl ⟨by rfl, ?_⟩) hHeld0 ?_
                rotate_left
                · intro w hSw
                  (try dsimp only at hSw)
                  go_simp
                  try (first | (with_reducible rfl) | rfl)
                try simp only [List.getElem_toArray, List.getElem_cons_zero, List.getElem_cons_succ, Act.put, List.setIfInBounds_toArray, List.set_cons_zero, List.set_cons_succ]
                refine wpAnyH_take (i := 1) (v := ?_) rfl (by as_aux_lemma => kernel_rfl) (by as_aux_lemma => kernel_rfl) (by as_aux_lemma => kernel_rfl) (fun _ _ _ h => h) (Or.inl ⟨by rfl, ?_⟩) hHeld0 ?_
                rotate_left
                · intro w hSw
                  (try dsimp only at hSw)
                  go_simp
                  try (first | (with_reducible rfl) | rfl)
                try simp only [List.getElem_toArray, List.getElem_cons_zero, List.getElem_cons_succ, Act.put, List.setIfInBounds_toArray, List.set_cons_zero, List.set_cons_succ]
                refine wpAnyH_take (i := 3) (v := ?_) rfl (by as_aux_lemma => kernel_rfl) (by as_aux_lemma => kernel_rfl) (by as_aux_lemma => kernel_rfl) (fun _ _ _ h => h) (Or.inl ⟨by rfl, ?_⟩) hHeld0 ?_
                rotate_left
                · intro w hSw
                  (try dsimp only at hSw)
                  go_simp
                  try (first | (with_reducible rfl) | rfl)
                try simp only [List.getElem_toArray, List.getElem_cons_zero, List.getElem_cons_succ, Act.put, List.setIfInBounds_toArray, List.set_cons_zero, List.set_cons_succ]
                refine wpAnyH_take (i := 4) (v := ?_) rfl (by as_aux_lemma => kernel_rfl) (by as_aux_lemma => kernel_rfl) (by as_aux_lemma => kernel_rfl) (fun _ _ _ h => h) (Or.inl ⟨by rfl, ?_⟩) hHeld0 ?_
                rotate_left
                · intro w hSw
                  (try dsimp only at hSw)
                  go_simp
                  try (first | (with_reducible rfl) | rfl)
                try simp only [List.getElem_toArray, List.getElem_cons_zero, List.getElem_cons_succ, Act.put, List.setIfInBounds_toArray, List.set_cons_zero, List.set_cons_succ]
                refine wpAnyH_ready (rs := [2]) (by as_aux_lemma => kernel_rfl) (by simp) ?_
                refine AllReadyH.cons rfl (fun K hK => ?_) ?_
                · go_simp
                  go_at_call 34; refine (words_pos N H9.out.drew HWN.out hN0).mono ?_; rintro e wv ⟨g5, c5, rfl, _, hrd, _, hb⟩; (have HRD5 := Lib.hid hrd); (have HV := Lib.hid (H9.out.drew.below hb)); clear hrd hb
                  go_wp2_with fail
                  refine hK.out _ _ ?_ (fun hHeld4_2 => ?_)
                  · first | exact HCQ.out _ _ _ _ _ _ HZ.out | exact HCQ.out _ _ _ _ _ _ HV.out | exact HCQ.out _ _ _ _ _ _ H9.out.drew
                  clear hK K
                  try simp only [List.getElem_toArray, List.getElem_cons_zero, List.getElem_cons_succ, Act.put, List.setIfInBounds_toArray, List.set_cons_zero, List.set_cons_succ]
                  refine wpAnyH_ready (rs := [5]) (by as_aux_lemma => kernel_rfl) (by simp) ?_
                  refine AllReadyH.cons rfl (fun K hK => ?_) ?_
                  · go_simp
                    go_at_call 50; refine (whole8 nn N tg g5 c5 _ gh 4 gs 4 _ l1 shs3 T1 _ HOK.out HN.out HRD5.out HWN.out HA1.out HV.out.rngs8 (HV.out.rd32 1 rfl HL4.out) HL4.out (fun j hj => by obtain ⟨dj, hdj⟩ := getE (l := ds3) (k := j) (by rw [HD2.out.len]; exact hj); obtain ⟨a8, c8, k1, k2⟩ := th8_rd hj HV.out hdj; have k3 := HD2.out.sh j dj hdj; rw [k3] at k1 k2; exact ⟨a8, _, c8, (HV.out.at_ 3 rfl j (by rw [HD2.out.vs, List.getElem?_map, hdj]; exact congrArg some k1)).1, k2, rfl⟩) HAN.out).mono ?_; rintro e wz ⟨rfl, hb⟩; (have HZ := Lib.hid (HV.out.below hb)); clear hb
                    go_wp2_with fail
                    refine hK.out _ _ ?_ (fun hHeld5_5 => ?_)
                    · first | exact HCQ.out _ _ _ _ _ _ HZ.out | exact HCQ.out _ _ _ _ _ _ HV.out | exact HCQ.out _ _ _ _ _ _ H9.out.drew
                    clear hK K
                    try simp only [List.getElem_toArray, List.getElem_cons_zero, List.getElem_cons_succ, Act.put, List.setIfInBounds_toArray, List.set_cons_zero, List.set_cons_succ]
                    refine wpAnyH_take (i := 6) (v := ?_) rfl (by as_aux_lemma => kernel_rfl) (by as_aux_lemma => kernel_rfl) (by as_aux_lemma => kernel_rfl) (fun _ _ _ h => h) (Or.inl ⟨by rfl, ?_⟩) hHeld5_5 ?_
                    rotate_left
                    · intro w hSw
                      (try dsimp only at hSw)
                      go_simp
                      try (first | (with_reducible rfl) | rfl)
                    try simp only [List.getElem_toArray, List.getElem_cons_zero, List.getElem_cons_succ, Act.put, List.setIfInBounds_toArray, List.set_cons_zero, List.set_cons_succ]
                    refine wpAnyH_done (by as_aux_lemma => kernel_rfl) ?_ _
                    go_wp2
                    go_roundg kk
                    case measure => omega
                    case rel => exact ⟨i + 1, rfl, by omega, by have := HK1.out; omega, _, ds3, _, _, shs3, _, _, by have := HNS.out; have := hnt1; rw [List.length_append]; omega, HM2.out, HD2.out, HZ.out⟩
                  exact AllReadyH.nil
                exact AllReadyH.nil
              | false =>
                simp only [hg, if_true, if_false, Bool.false_eq_true] at e0 e1
                go_wp2_with (go_at_call 45; refine (pstep8_t (.pointer (some rb)) HST.out rfl hg HPK.out.1 HOKS.out hnl (hgv.trans hg) hsl2).mono ?_; rintro e wn ⟨a7, c7, rfl, h⟩; (have h := (show St w (rowA 23 1 (.slice a7 S'.shelf.length c7) S'.shelf.length (S'.shelf.map u32V) :: memA q ws2 (ns ++ nt) :: arA p S' :: rowA 23 1 v' sh'.length (sh'.map u32V) :: R2) wn from h)); (have HN1 := Lib.hid (show St w (memA q ws2 (ns ++ nt) :: (alL gh ga gs bc nn tg hs th2 vs ++ manyA th8A [0, 0, 0, 0] (ds2.set k ((some (p, rb, S')), .slice a7 S'.shelf.length c7, S'.shelf)))) wn from HPK.out.2 _ _ _ ((some (p, rb, S')), .slice a7 S'.shelf.length c7, S'.shelf) (show St w (memA q ws2 (ns ++ nt) :: rowA 23 1 (.slice a7 S'.shelf.length c7) S'.shelf.length (S'.shelf.map u32V) :: arA p S' :: R2) wn from h.re 4 [1, 0, 2]))); clear h e0 e1 e2 f0 f1 f2; obtain ⟨e0, f0⟩ := HN1.out.at_ 2 rfl (k * 3) HP.out.1; obtain ⟨e1, f1⟩ := HN1.out.at_ 2 rfl (k * 3 + 1) HP.out.2.1; obtain ⟨e2, f2⟩ := HN1.out.at_ 2 rfl (k * 3 + 2) HP.out.2.2; simp only [p8A, p8B, p8C, hg, if_true, if_false, Bool.false_eq_true] at e0 e1 e2; obtain ⟨eh, fh⟩ := HN1.out.at_ 1 rfl k (u := .int .u32 hh) (by rw [List.getElem?_map, HHS.out]; rfl); obtain ⟨es, fs⟩ := HN1.out.at_ 3 rfl k HVS.out)
                have hm' := hM
                have hd' := HDO.out.set hk4 (some (p, rb, S')) (.slice a7 S'.shelf.length c7) S'.shelf
                have e9 := pcs8_same (t := some (p, rb, S')) HTH.out (by simp only [p8A, hgv]) (by simp only [p8B, hgv]) (by simp only [p8C])
                have h9 := (HN1.out.rowSet 3 rfl k (by omega) (.slice a7 S'.shelf.length c7))
                simp only [List.set_cons_succ, List.set_cons_zero, List.cons_append, List.nil_append] at h9
                rw [← e9] at h9
                have H9 := Lib.hid (show St w (memA q ws2 (ns ++ nt) :: (alL gh ga gs bc nn tg hs (th2.set k (some (p, rb, S'))) (vs.set k (.slice a7 S'.shelf.length c7)) ++ manyA th8A [0, 0, 0, 0] (ds2.set k ((some (p, rb, S')), .slice a7 S'.shelf.length c7, S'.shelf)))) _ from h9)
                clear h9 e9 e0 e1 e2 f0 f1 f2 eh fh es fs
                obtain ⟨ds3, hds3⟩ : ∃ ds3, ds2.set k ((some (p, rb, S')), .slice a7 S'.shelf.length c7, S'.shelf) = ds3 := ⟨_, rfl⟩
                obtain ⟨shs3, hshs3⟩ : ∃ f, upF shs k S'.shelf = f := ⟨_, rfl⟩
                rw [hds3] at H9 hd'
                rw [hshs3] at hd' hm'
                clear hds3 hshs3
                obtain ⟨l1, T1, hA1, hAN, hl4, hwN⟩ := hm'.whole
                have HA1 := Lib.hid hA1
                have HAN := Lib.hid hAN
                have HL4 := Lib.hid hl4
                have HWN := Lib.hid hwN
                have HM2 := Lib.hid hm'
                have HD2 := Lib.hid hd'
                have HCQ : Hid (∀ m x y z X w', St w (m :: x :: y :: z :: bxC bc nn 0 0 tg :: X) w' → w'.cell? ⟨bc, 0, none⟩ = some (.int .i64 nn) ∧ w'.cell? ⟨bc, 1, none⟩ = some (.int .i64 0) ∧ w'.cell? ⟨bc, 2, none⟩ = some (.int .i64 0) ∧ w'.cell? ⟨bc, 3, none⟩ = some (.int .u32 tg)) := Lib.hid fun m x y z X w' h => cells4 (h.cells 4 rfl)
                clear hA1 hAN hl4 hwN hm' hd'
                refine wp_region_held_drew (S := (fun w' => w'.cell? ⟨bc, 0, none⟩ = some (.int .i64 nn) ∧ w'.cell? ⟨bc, 1, none⟩ = some (.int .i64 0) ∧ w'.cell? ⟨bc, 2, none⟩ = some (.int .i64 0) ∧ w'.cell? ⟨bc, 3, none⟩ = some (.int .u32 tg))) (by as_aux_lemma => kernel_rfl) ?_ (fun hHeld0 => ?_)
                · first | exact HCQ.out _ _ _ _ _ _ HZ.out | exact HCQ.out _ _ _ _ _ _ HV.out | exact HCQ.out _ _ _ _ _ _ H9.out.drew
                refine wpAnyH_take (i := 0) (v := ?_) rfl (by as_aux_lemma => kernel_rfl) (by as_aux_lemma => kernel_rfl) (by as_aux_lemma => kernel_rfl) (fun _ _ _ h => h) (Or.inl ⟨by rfl, ?_⟩) hHeld0 ?_
                rotate_left
                · intro w hSw
                  (try dsimp only at hSw)
                  go_simp
                  try (first | (with_reducible rfl) | rfl)
                try simp only [List.getElem_toArray, List.getElem_cons_zero, List.getElem_cons_succ, Act.put, List.setIfInBounds_toArray, List.set_cons_zero, List.set_cons_succ]
                refine wpAnyH_take (i := 1) (v := ?_) rfl (by as_aux_lemma => kernel_rfl) (by as_aux_lemma => kernel_rfl) (by as_aux_lemma => kernel_rfl) (fun _ _ _ h => h) (Or.inl ⟨by rfl, ?_⟩) hHeld0 ?_
                rotate_left
                · intro w hSw
                  (try dsimp only at hSw)
                  go_simp
                  try (first | (with_reducible rfl) | rfl)
                try simp only [List.getElem_toArray, List.getElem_cons_zero, List.getElem_cons_succ, Act.put, List.setIfInBounds_toArray, List.set_cons_zero, List.set_cons_succ]
                refine wpAnyH_take (i := 3) (v := ?_) rfl (by as_aux_lemma => kernel_rfl) (by as_aux_lemma => kernel_rfl) (by as_aux_lemma => kernel_rfl) (fun _ _ _ h => h) (Or.inl ⟨by rfl, ?_⟩) hHeld0 ?_
                rotate_left
                · intro w hSw
                  (try dsimp only at hSw)
                  go_simp
                  try (first | (with_reducible rfl) | rfl)
                try simp only [List.getElem_toArray, List.getElem_cons_zero, List.getElem_cons_succ, Act.put, List.setIfInBounds_toArray, List.set_cons_zero, List.set_cons_succ]
                refine wpAnyH_take (i := 4) (v := ?_) rfl (by as_aux_lemma => kernel_rfl) (by as_aux_lemma => kernel_rfl) (by as_aux_lemma => kernel_rfl) (fun _ _ _ h => h) (Or.inl ⟨by rfl, ?_⟩) hHeld0 ?_
                rotate_left
                · intro w hSw
                  (try dsimp only at hSw)
                  go_simp
                  try (first | (with_reducible rfl) | rfl)
                try simp only [List.getElem_toArray, List.getElem_cons_zero, List.getElem_cons_succ, Act.put, List.setIfInBounds_toArray, List.set_cons_zero, List.set_cons_succ]
                refine wpAnyH_ready (rs := [2]) (by as_aux_lemma => kernel_rfl) (by simp) ?_
                refine AllReadyH.cons rfl (fun K hK => ?_) ?_
                · go_simp
                  go_at_call 34; refine (words_pos N H9.out.drew HWN.out hN0).mono ?_; rintro e wv ⟨g5, c5, rfl, _, hrd, _, hb⟩; (have HRD5 := Lib.hid hrd); (have HV := Lib.hid (H9.out.drew.below hb)); clear hrd hb
                  go_wp2_with fail
                  refine hK.out _ _ ?_ (fun hHeld4_2 => ?_)
                  · first | exact HCQ.out _ _ _ _ _ _ HZ.out | exact HCQ.out _ _ _ _ _ _ HV.out | exact HCQ.out _ _ _ _ _ _ H9.out.drew
                  clear hK K
                  try simp only [List.getElem_toArray, List.getElem_cons_zero, List.getElem_cons_succ, Act.put, List.setIfInBounds_toArray, List.set_cons_zero, List.set_cons_succ]
                  refine wpAnyH_ready (rs := [5]) (by as_aux_lemma => kernel_rfl) (by simp) ?_
                  refine AllReadyH.cons rfl (fun K hK => ?_) ?_
                  · go_simp
                    go_at_call 50; refine (whole8 nn N tg g5 c5 _ gh 4 gs 4 _ l1 shs3 T1 _ HOK.out HN.out HRD5.out HWN.out HA1.out HV.out.rngs8 (HV.out.rd32 1 rfl HL4.out) HL4.out (fun j hj => by obtain ⟨dj, hdj⟩ := getE (l := ds3) (k := j) (by rw [HD2.out.len]; exact hj); obtain ⟨a8, c8, k1, k2⟩ := th8_rd hj HV.out hdj; have k3 := HD2.out.sh j dj hdj; rw [k3] at k1 k2; exact ⟨a8, _, c8, (HV.out.at_ 3 rfl j (by rw [HD2.out.vs, List.getElem?_map, hdj]; exact congrArg some k1)).1, k2, rfl⟩) HAN.out).mono ?_; rintro e wz ⟨rfl, hb⟩; (have HZ := Lib.hid (HV.out.below hb)); clear hb
                    go_wp2_with fail
                    refine hK.out _ _ ?_ (fun hHeld5_5 => ?_)
                    · first | exact HCQ.out _ _ _ _ _ _ HZ.out | exact HCQ.out _ _ _ _ _ _ HV.out | exact HCQ.out _ _ _ _ _ _ H9.out.drew
                    clear hK K
                    try simp only [List.getElem_toArray, List.getElem_cons_zero, List.getElem_cons_succ, Act.put, List.setIfInBounds_toArray, List.set_cons_zero, List.set_cons_succ]
                    refine wpAnyH_take (i := 6) (v := ?_) rfl (by as_aux_lemma => kernel_rfl) (by as_aux_lemma => kernel_rfl) (by as_aux_lemma => kernel_rfl) (fun _ _ _ h => h) (Or.inl ⟨by rfl, ?_⟩) hHeld5_5 ?_
                    rotate_left
                    · intro w hSw
                      (try dsimp only at hSw)
                      go_simp
                      try (first | (with_reducible rfl) | rfl)
                    try simp only [List.getElem_toArray, List.getElem_cons_zero, List.getElem_cons_succ, Act.put, List.setIfInBounds_toArray, List.set_cons_zero, List.set_cons_succ]
                    refine wpAnyH_done (by as_aux_lemma => kernel_rfl) ?_ _
                    go_wp2
                    go_roundg kk
                    case measure => omega
                    case rel => exact ⟨i + 1, rfl, by omega, by have := HK1.out; omega, _, ds3, _, _, shs3, _, _, by have := HNS.out; have := hnt1; rw [List.length_append]; omega, HM2.out, HD2.out, HZ.out⟩
                  exact AllReadyH.nil
                exact AllReadyH.nil
            · have hg := hg0
              clear hg0
              simp only [hg, if_true, if_false, Bool.false_eq_true] at e0 e1
              rcases hr26 with rfl | rfl
              · go_wp2_with (go_at_call 45; refine (pstep8_t (.pointer (some rb)) HST.out rfl hg HPK.out.1 HOKS.out hnl (hgv.trans hg) hsl2).mono ?_; rintro e wn ⟨a7, c7, rfl, h⟩; (have h := (show St w (rowA 23 1 (.slice a7 S'.shelf.length c7) S'.shelf.length (S'.shelf.map u32V) :: memA q ws2 (ns ++ nt) :: arA p S' :: rowA 23 1 v' sh'.length (sh'.map u32V) :: R2) wn from h)); (have HN1 := Lib.hid (show St w (memA q ws2 (ns ++ nt) :: (alL gh ga gs bc nn tg hs th2 vs ++ manyA th8A [0, 0, 0, 0] (ds2.set k (none, .slice a7 S'.shelf.length c7, S'.shelf)))) wn from HPK.out.2 _ _ _ (none, .slice a7 S'.shelf.length c7, S'.shelf) (show St w (memA q ws2 (ns ++ nt) :: rowA 23 1 (.slice a7 S'.shelf.length c7) S'.shelf.length (S'.shelf.map u32V) :: factA True :: R2) wn from ((show St w (memA q ws2 (ns ++ nt) :: rowA 23 1 (.slice a7 S'.shelf.length c7) S'.shelf.length (S'.shelf.map u32V) :: R2) wn from h.re 4 [1, 0]).factI (p := True) trivial).re 3 [1, 2, 0]))); clear h e0 e1 e2 f0 f1 f2; obtain ⟨e0, f0⟩ := HN1.out.at_ 2 rfl (k * 3) HP.out.1; obtain ⟨e1, f1⟩ := HN1.out.at_ 2 rfl (k * 3 + 1) HP.out.2.1; obtain ⟨e2, f2⟩ := HN1.out.at_ 2 rfl (k * 3 + 2) HP.out.2.2; simp only [p8A, p8B, p8C, hg, if_true, if_false, Bool.false_eq_true] at e0 e1 e2; obtain ⟨eh, fh⟩ := HN1.out.at_ 1 rfl k (u := .int .u32 hh) (by rw [List.getElem?_map, HHS.out]; rfl); obtain ⟨es, fs⟩ := HN1.out.at_ 3 rfl k HVS.out)
                have hm' := hM
                have hd' := HDO.out.set hk4 none (.slice a7 S'.shelf.length c7) S'.shelf
                have e9 := pcs8_set (l := th2) (k := k) none HKL.out
                simp only [p8A, p8B, p8C] at e9
                have h9 := (((HN1.out.rowSet 3 rfl k (by omega) (.slice a7 S'.shelf.length c7)).rowSet 2 rfl (k * 3) (by omega) (.pointer none)).rowSet 2 rfl (k * 3 + 1) (by omega) (.pointer none)).rowSet 2 rfl (k * 3 + 2) (by omega) (.pointer none)
                simp only [List.set_cons_succ, List.set_cons_zero, List.cons_append, List.nil_append] at h9
                rw [e9] at h9
                have H9 := Lib.hid (show St w (memA q ws2 (ns ++ nt) :: (alL gh ga gs bc nn tg hs (th2.set k none) (vs.set k (.slice a7 S'.shelf.length c7)) ++ manyA th8A [0, 0, 0, 0] (ds2.set k (none, .slice a7 S'.shelf.length c7, S'.shelf)))) _ from h9)
                clear h9 e9 e0 e1 e2 f0 f1 f2 eh fh es fs
                obtain ⟨ds3, hds3⟩ : ∃ ds3, ds2.set k (none, .slice a7 S'.shelf.length c7, S'.shelf) = ds3 := ⟨_, rfl⟩
                obtain ⟨shs3, hshs3⟩ : ∃ f, upF shs k S'.shelf = f := ⟨_, rfl⟩
                rw [hds3] at H9 hd'
                rw [hshs3] at hd' hm'
                clear hds3 hshs3
                obtain ⟨l1, T1, hA1, hAN, hl4, hwN⟩ := hm'.whole
                have HA1 := Lib.hid hA1
                have HAN := Lib.hid hAN
                have HL4 := Lib.hid hl4
                have HWN := Lib.hid hwN
                have HM2 := Lib.hid hm'
                have HD2 := Lib.hid hd'
                have HCQ : Hid (∀ m x y z X w', St w (m :: x :: y :: z :: bxC bc nn 0 0 tg :: X) w' → w'.cell? ⟨bc, 0, none⟩ = some (.int .i64 nn) ∧ w'.cell? ⟨bc, 1, none⟩ = some (.int .i64 0) ∧ w'.cell? ⟨bc, 2, none⟩ = some (.int .i64 0) ∧ w'.cell? ⟨bc, 3, none⟩ = some (.int .u32 tg)) := Lib.hid fun m x y z X w' h => cells4 (h.cells 4 rfl)
                clear hA1 hAN hl4 hwN hm' hd'
                refine wp_region_held_drew (S := (fun w' => w'.cell? ⟨bc, 0, none⟩ = some (.int .i64 nn) ∧ w'.cell? ⟨bc, 1, none⟩ = some (.int .i64 0) ∧ w'.cell? ⟨bc, 2, none⟩ = some (.int .i64 0) ∧ w'.cell? ⟨bc, 3, none⟩ = some (.int .u32 tg))) (by as_aux_lemma => kernel_rfl) ?_ (fun hHeld0 => ?_)
                · first | exact HCQ.out _ _ _ _ _ _ HZ.out | exact HCQ.out _ _ _ _ _ _ HV.out | exact HCQ.out _ _ _ _ _ _ H9.out.drew
                refine wpAnyH_take (i := 0) (v := ?_) rfl (by as_aux_lemma => kernel_rfl) (by as_aux_lemma => kernel_rfl) (by as_aux_lemma => kernel_rfl) (fun _ _ _ h => h) (Or.inl ⟨by rfl, ?_⟩) hHeld0 ?_
                rotate_left
                · intro w hSw
                  (try dsimp only at hSw)
                  go_simp
                  try (first | (with_reducible rfl) | rfl)
                try simp only [List.getElem_toArray, List.getElem_cons_zero, List.getElem_cons_succ, Act.put, List.setIfInBounds_toArray, List.set_cons_zero, List.set_cons_succ]
                refine wpAnyH_take (i := 1) (v := ?_) rfl (by as_aux_lemma => kernel_rfl) (by as_aux_lemma => kernel_rfl) (by as_aux_lemma => kernel_rfl) (fun _ _ _ h => h) (Or.inl ⟨by rfl, ?_⟩) hHeld0 ?_
                rotate_left
                · intro w hSw
                  (try dsimp only at hSw)
                  go_simp
                  try (first | (with_reducible rfl) | rfl)
                try simp only [List.getElem_toArray, List.getElem_cons_zero, List.getElem_cons_succ, Act.put, List.setIfInBounds_toArray, List.set_cons_zero, List.set_cons_succ]
                refine wpAnyH_take (i := 3) (v := ?_) rfl (by as_aux_lemma => kernel_rfl) (by as_aux_lemma => kernel_rfl) (by as_aux_lemma => kernel_rfl) (fun _ _ _ h => h) (Or.inl ⟨by rfl, ?_⟩) hHeld0 ?_
                rotate_left
                · intro w hSw
                  (try dsimp only at hSw)
                  go_simp
                  try (first | (with_reducible rfl) | rfl)
                try simp only [List.getElem_toArray, List.getElem_cons_zero, List.getElem_cons_succ, Act.put, List.setIfInBounds_toArray, List.set_cons_zero, List.set_cons_succ]
                refine wpAnyH_take (i := 4) (v := ?_) rfl (by as_aux_lemma => kernel_rfl) (by as_aux_lemma => kernel_rfl) (by as_aux_lemma => kernel_rfl) (fun _ _ _ h => h) (Or.inl ⟨by rfl, ?_⟩) hHeld0 ?_
                rotate_left
                · intro w hSw
                  (try dsimp only at hSw)
                  go_simp
                  try (first | (with_reducible rfl) | rfl)
                try simp only [List.getElem_toArray, List.getElem_cons_zero, List.getElem_cons_succ, Act.put, List.setIfInBounds_toArray, List.set_cons_zero, List.set_cons_succ]
                refine wpAnyH_ready (rs := [2]) (by as_aux_lemma => kernel_rfl) (by simp) ?_
                refine AllReadyH.cons rfl (fun K hK => ?_) ?_
                · go_simp
                  go_at_call 34; refine (words_pos N H9.out.drew HWN.out hN0).mono ?_; rintro e wv ⟨g5, c5, rfl, _, hrd, _, hb⟩; (have HRD5 := Lib.hid hrd); (have HV := Lib.hid (H9.out.drew.below hb)); clear hrd hb
                  go_wp2_with fail
                  refine hK.out _ _ ?_ (fun hHeld4_2 => ?_)
                  · first | exact HCQ.out _ _ _ _ _ _ HZ.out | exact HCQ.out _ _ _ _ _ _ HV.out | exact HCQ.out _ _ _ _ _ _ H9.out.drew
                  clear hK K
                  try simp only [List.getElem_toArray, List.getElem_cons_zero, List.getElem_cons_succ, Act.put, List.setIfInBounds_toArray, List.set_cons_zero, List.set_cons_succ]
                  refine wpAnyH_ready (rs := [5]) (by as_aux_lemma => kernel_rfl) (by simp) ?_
                  refine AllReadyH.cons rfl (fun K hK => ?_) ?_
                  · go_simp
                    go_at_call 50; refine (whole8 nn N tg g5 c5 _ gh 4 gs 4 _ l1 shs3 T1 _ HOK.out HN.out HRD5.out HWN.out HA1.out HV.out.rngs8 (HV.out.rd32 1 rfl HL4.out) HL4.out (fun j hj => by obtain ⟨dj, hdj⟩ := getE (l := ds3) (k := j) (by rw [HD2.out.len]; exact hj); obtain ⟨a8, c8, k1, k2⟩ := th8_rd hj HV.out hdj; have k3 := HD2.out.sh j dj hdj; rw [k3] at k1 k2; exact ⟨a8, _, c8, (HV.out.at_ 3 rfl j (by rw [HD2.out.vs, List.getElem?_map, hdj]; exact congrArg some k1)).1, k2, rfl⟩) HAN.out).mono ?_; rintro e wz ⟨rfl, hb⟩; (have HZ := Lib.hid (HV.out.below hb)); clear hb
                    go_wp2_with fail
                    refine hK.out _ _ ?_ (fun hHeld5_5 => ?_)
                    · first | exact HCQ.out _ _ _ _ _ _ HZ.out | exact HCQ.out _ _ _ _ _ _ HV.out | exact HCQ.out _ _ _ _ _ _ H9.out.drew
                    clear hK K
                    try simp only [List.getElem_toArray, List.getElem_cons_zero, List.getElem_cons_succ, Act.put, List.setIfInBounds_toArray, List.set_cons_zero, List.set_cons_succ]
                    refine wpAnyH_take (i := 6) (v := ?_) rfl (by as_aux_lemma => kernel_rfl) (by as_aux_lemma => kernel_rfl) (by as_aux_lemma => kernel_rfl) (fun _ _ _ h => h) (Or.inl ⟨by rfl, ?_⟩) hHeld5_5 ?_
                    rotate_left
                    · intro w hSw
                      (try dsimp only at hSw)
                      go_simp
                      try (first | (with_reducible rfl) | rfl)
                    try simp only [List.getElem_toArray, List.getElem_cons_zero, List.getElem_cons_succ, Act.put, List.setIfInBounds_toArray, List.set_cons_zero, List.set_cons_succ]
                    refine wpAnyH_done (by as_aux_lemma => kernel_rfl) ?_ _
                    go_wp2
                    go_roundg kk
                    case measure => omega
                    case rel => exact ⟨i + 1, rfl, by omega, by have := HK1.out; omega, _, ds3, _, _, shs3, _, _, by have := HNS.out; have := hnt1; rw [List.length_append]; omega, HM2.out, HD2.out, HZ.out⟩
                  exact AllReadyH.nil
                exact AllReadyH.nil
              · go_wp2_with (go_at_call 45; refine (pstep8_t (.pointer (some rb)) HST.out rfl hg HPK.out.1 HOKS.out hnl (hgv.trans hg) hsl2).mono ?_; rintro e wn ⟨a7, c7, rfl, h⟩; (have h := (show St w (rowA 23 1 (.slice a7 S'.shelf.length c7) S'.shelf.length (S'.shelf.map u32V) :: memA q ws2 (ns ++ nt) :: arA p S' :: rowA 23 1 v' sh'.length (sh'.map u32V) :: R2) wn from h)); (have HN1 := Lib.hid (show St w (memA q ws2 (ns ++ nt) :: (alL gh ga gs bc nn tg hs th2 vs ++ manyA th8A [0, 0, 0, 0] (ds2.set k (none, .slice a7 S'.shelf.length c7, S'.shelf)))) wn from HPK.out.2 _ _ _ (none, .slice a7 S'.shelf.length c7, S'.shelf) (show St w (memA q ws2 (ns ++ nt) :: rowA 23 1 (.slice a7 S'.shelf.length c7) S'.shelf.length (S'.shelf.map u32V) :: factA True :: R2) wn from ((show St w (memA q ws2 (ns ++ nt) :: rowA 23 1 (.slice a7 S'.shelf.length c7) S'.shelf.length (S'.shelf.map u32V) :: R2) wn from h.re 4 [1, 0]).factI (p := True) trivial).re 3 [1, 2, 0]))); clear h e0 e1 e2 f0 f1 f2; obtain ⟨e0, f0⟩ := HN1.out.at_ 2 rfl (k * 3) HP.out.1; obtain ⟨e1, f1⟩ := HN1.out.at_ 2 rfl (k * 3 + 1) HP.out.2.1; obtain ⟨e2, f2⟩ := HN1.out.at_ 2 rfl (k * 3 + 2) HP.out.2.2; simp only [p8A, p8B, p8C, hg, if_true, if_false, Bool.false_eq_true] at e0 e1 e2; obtain ⟨eh, fh⟩ := HN1.out.at_ 1 rfl k (u := .int .u32 hh) (by rw [List.getElem?_map, HHS.out]; rfl); obtain ⟨es, fs⟩ := HN1.out.at_ 3 rfl k HVS.out)
                have hm' := hM
                have hd' := HDO.out.set hk4 none (.slice a7 S'.shelf.length c7) S'.shelf
                have e9 := pcs8_set (l := th2) (k := k) none HKL.out
                simp only [p8A, p8B, p8C] at e9
                have h9 := (((HN1.out.rowSet 3 rfl k (by omega) (.slice a7 S'.shelf.length c7)).rowSet 2 rfl (k * 3) (by omega) (.pointer none)).rowSet 2 rfl (k * 3 + 1) (by omega) (.pointer none)).rowSet 2 rfl (k * 3 + 2) (by omega) (.pointer none)
                simp only [List.set_cons_succ, List.set_cons_zero, List.cons_append, List.nil_append] at h9
                rw [e9] at h9
                have H9 := Lib.hid (show St w (memA q ws2 (ns ++ nt) :: (alL gh ga gs bc nn tg hs (th2.set k none) (vs.set k (.slice a7 S'.shelf.length c7)) ++ manyA th8A [0, 0, 0, 0] (ds2.set k (none, .slice a7 S'.shelf.length c7, S'.shelf)))) _ from h9)
                clear h9 e9 e0 e1 e2 f0 f1 f2 eh fh es fs
                obtain ⟨ds3, hds3⟩ : ∃ ds3, ds2.set k (none, .slice a7 S'.shelf.length c7, S'.shelf) = ds3 := ⟨_, rfl⟩
                obtain ⟨shs3, hshs3⟩ : ∃ f, upF shs k S'.shelf = f := ⟨_, rfl⟩
                rw [hds3] at H9 hd'
                rw [hshs3] at hd' hm'
                clear hds3 hshs3
                obtain ⟨l1, T1, hA1, hAN, hl4, hwN⟩ := hm'.whole
                have HA1 := Lib.hid hA1
                have HAN := Lib.hid hAN
                have HL4 := Lib.hid hl4
                have HWN := Lib.hid hwN
                have HM2 := Lib.hid hm'
                have HD2 := Lib.hid hd'
                have HCQ : Hid (∀ m x y z X w', St w (m :: x :: y :: z :: bxC bc nn 0 0 tg :: X) w' → w'.cell? ⟨bc, 0, none⟩ = some (.int .i64 nn) ∧ w'.cell? ⟨bc, 1, none⟩ = some (.int .i64 0) ∧ w'.cell? ⟨bc, 2, none⟩ = some (.int .i64 0) ∧ w'.cell? ⟨bc, 3, none⟩ = some (.int .u32 tg)) := Lib.hid fun m x y z X w' h => cells4 (h.cells 4 rfl)
                clear hA1 hAN hl4 hwN hm' hd'
                refine wp_region_held_drew (S := (fun w' => w'.cell? ⟨bc, 0, none⟩ = some (.int .i64 nn) ∧ w'.cell? ⟨bc, 1, none⟩ = some (.int .i64 0) ∧ w'.cell? ⟨bc, 2, none⟩ = some (.int .i64 0) ∧ w'.cell? ⟨bc, 3, none⟩ = some (.int .u32 tg))) (by as_aux_lemma => kernel_rfl) ?_ (fun hHeld0 => ?_)
                · first | exact HCQ.out _ _ _ _ _ _ HZ.out | exact HCQ.out _ _ _ _ _ _ HV.out | exact HCQ.out _ _ _ _ _ _ H9.out.drew
                refine wpAnyH_take (i := 0) (v := ?_) rfl (by as_aux_lemma => kernel_rfl) (by as_aux_lemma => kernel_rfl) (by as_aux_lemma => kernel_rfl) (fun _ _ _ h => h) (Or.inl ⟨by rfl, ?_⟩) hHeld0 ?_
                rotate_left
                · intro w hSw
                  (try dsimp only at hSw)
                  go_simp
                  try (first | (with_reducible rfl) | rfl)
                try simp only [List.getElem_toArray, List.getElem_cons_zero, List.getElem_cons_succ, Act.put, List.setIfInBounds_toArray, List.set_cons_zero, List.set_cons_succ]
                refine wpAnyH_take (i := 1) (v := ?_) rfl (by as_aux_lemma => kernel_rfl) (by as_aux_lemma => kernel_rfl) (by as_aux_lemma => kernel_rfl) (fun _ _ _ h => h) (Or.inl ⟨by rfl, ?_⟩) hHeld0 ?_
                rotate_left
                · intro w hSw
                  (try dsimp only at hSw)
                  go_simp
                  try (first | (with_reducible rfl) | rfl)
                try simp only [List.getElem_toArray, List.getElem_cons_zero, List.getElem_cons_succ, Act.put, List.setIfInBounds_toArray, List.set_cons_zero, List.set_cons_succ]
                refine wpAnyH_take (i := 3) (v := ?_) rfl (by as_aux_lemma => kernel_rfl) (by as_aux_lemma => kernel_rfl) (by as_aux_lemma => kernel_rfl) (fun _ _ _ h => h) (Or.inl ⟨by rfl, ?_⟩) hHeld0 ?_
                rotate_left
                · intro w hSw
                  (try dsimp only at hSw)
                  go_simp
                  try (first | (with_reducible rfl) | rfl)
                try simp only [List.getElem_toArray, List.getElem_cons_zero, List.getElem_cons_succ, Act.put, List.setIfInBounds_toArray, List.set_cons_zero, List.set_cons_succ]
                refine wpAnyH_take (i := 4) (v := ?_) rfl (by as_aux_lemma => kernel_rfl) (by as_aux_lemma => kernel_rfl) (by as_aux_lemma => kernel_rfl) (fun _ _ _ h => h) (Or.inl ⟨by rfl, ?_⟩) hHeld0 ?_
                rotate_left
                · intro w hSw
                  (try dsimp only at hSw)
                  go_simp
                  try (first | (with_reducible rfl) | rfl)
                try simp only [List.getElem_toArray, List.getElem_cons_zero, List.getElem_cons_succ, Act.put, List.setIfInBounds_toArray, List.set_cons_zero, List.set_cons_succ]
                refine wpAnyH_ready (rs := [2]) (by as_aux_lemma => kernel_rfl) (by simp) ?_
                refine AllReadyH.cons rfl (fun K hK => ?_) ?_
                · go_simp
                  go_at_call 34; refine (words_pos N H9.out.drew HWN.out hN0).mono ?_; rintro e wv ⟨g5, c5, rfl, _, hrd, _, hb⟩; (have HRD5 := Lib.hid hrd); (have HV := Lib.hid (H9.out.drew.below hb)); clear hrd hb
                  go_wp2_with fail
                  refine hK.out _ _ ?_ (fun hHeld4_2 => ?_)
                  · first | exact HCQ.out _ _ _ _ _ _ HZ.out | exact HCQ.out _ _ _ _ _ _ HV.out | exact HCQ.out _ _ _ _ _ _ H9.out.drew
                  clear hK K
                  try simp only [List.getElem_toArray, List.getElem_cons_zero, List.getElem_cons_succ, Act.put, List.setIfInBounds_toArray, List.set_cons_zero, List.set_cons_succ]
                  refine wpAnyH_ready (rs := [5]) (by as_aux_lemma => kernel_rfl) (by simp) ?_
                  refine AllReadyH.cons rfl (fun K hK => ?_) ?_
                  · go_simp
                    go_at_call 50; refine (whole8 nn N tg g5 c5 _ gh 4 gs 4 _ l1 shs3 T1 _ HOK.out HN.out HRD5.out HWN.out HA1.out HV.out.rngs8 (HV.out.rd32 1 rfl HL4.out) HL4.out (fun j hj => by obtain ⟨dj, hdj⟩ := getE (l := ds3) (k := j) (by rw [HD2.out.len]; exact hj); obtain ⟨a8, c8, k1, k2⟩ := th8_rd hj HV.out hdj; have k3 := HD2.out.sh j dj hdj; rw [k3] at k1 k2; exact ⟨a8, _, c8, (HV.out.at_ 3 rfl j (by rw [HD2.out.vs, List.getElem?_map, hdj]; exact congrArg some k1)).1, k2, rfl⟩) HAN.out).mono ?_; rintro e wz ⟨rfl, hb⟩; (have HZ := Lib.hid (HV.out.below hb)); clear hb
                    go_wp2_with fail
                    refine hK.out _ _ ?_ (fun hHeld5_5 => ?_)
                    · first | exact HCQ.out _ _ _ _ _ _ HZ.out | exact HCQ.out _ _ _ _ _ _ HV.out | exact HCQ.out _ _ _ _ _ _ H9.out.drew
                    clear hK K
                    try simp only [List.getElem_toArray, List.getElem_cons_zero, List.getElem_cons_succ, Act.put, List.setIfInBounds_toArray, List.set_cons_zero, List.set_cons_succ]
                    refine wpAnyH_take (i := 6) (v := ?_) rfl (by as_aux_lemma => kernel_rfl) (by as_aux_lemma => kernel_rfl) (by as_aux_lemma => kernel_rfl) (fun _ _ _ h => h) (Or.inl ⟨by rfl, ?_⟩) hHeld5_5 ?_
                    rotate_left
                    · intro w hSw
                      (try dsimp only at hSw)
                      go_simp
                      try (first | (with_reducible rfl) | rfl)
                    try simp only [List.getElem_toArray, List.getElem_cons_zero, List.getElem_cons_succ, Act.put, List.setIfInBounds_toArray, List.set_cons_zero, List.set_cons_succ]
                    refine wpAnyH_done (by as_aux_lemma => kernel_rfl) ?_ _
                    go_wp2
                    go_roundg kk
                    case measure => omega
                    case rel => exact ⟨i + 1, rfl, by omega, by have := HK1.out; omega, _, ds3, _, _, shs3, _, _, by have := HNS.out; have := hnt1; rw [List.length_append]; omega, HM2.out, HD2.out, HZ.out⟩
                  exact AllReadyH.nil
                exact AllReadyH.nil
            · have hg := hg0
              clear hg0
              simp only [hg, if_true, if_false, Bool.false_eq_true] at e0 e1
              go_wp2_with (go_at_call 45; refine (pstep8_t (.pointer (some rb)) HST.out rfl hg HPK.out.1 HOKS.out hnl (hgv.trans hg) hsl2).mono ?_; rintro e wn ⟨a7, c7, rfl, h⟩; (have h := (show St w (rowA 23 1 (.slice a7 S'.shelf.length c7) S'.shelf.length (S'.shelf.map u32V) :: memA q ws2 (ns ++ nt) :: arA p S' :: rowA 23 1 v' sh'.length (sh'.map u32V) :: R2) wn from h)); (have HN1 := Lib.hid (show St w (memA q ws2 (ns ++ nt) :: (alL gh ga gs bc nn tg hs th2 vs ++ manyA th8A [0, 0, 0, 0] (ds2.set k (none, .slice a7 S'.shelf.length c7, S'.shelf)))) wn from HPK.out.2 _ _ _ (none, .slice a7 S'.shelf.length c7, S'.shelf) (show St w (memA q ws2 (ns ++ nt) :: rowA 23 1 (.slice a7 S'.shelf.length c7) S'.shelf.length (S'.shelf.map u32V) :: factA True :: R2) wn from ((show St w (memA q ws2 (ns ++ nt) :: rowA 23 1 (.slice a7 S'.shelf.length c7) S'.shelf.length (S'.shelf.map u32V) :: R2) wn from h.re 4 [1, 0]).factI (p := True) trivial).re 3 [1, 2, 0]))); clear h e0 e1 e2 f0 f1 f2; obtain ⟨e0, f0⟩ := HN1.out.at_ 2 rfl (k * 3) HP.out.1; obtain ⟨e1, f1⟩ := HN1.out.at_ 2 rfl (k * 3 + 1) HP.out.2.1; obtain ⟨e2, f2⟩ := HN1.out.at_ 2 rfl (k * 3 + 2) HP.out.2.2; simp only [p8A, p8B, p8C, hg, if_true, if_false, Bool.false_eq_true] at e0 e1 e2; obtain ⟨eh, fh⟩ := HN1.out.at_ 1 rfl k (u := .int .u32 hh) (by rw [List.getElem?_map, HHS.out]; rfl); obtain ⟨es, fs⟩ := HN1.out.at_ 3 rfl k HVS.out)
              have hm' := hM
              have hd' := HDO.out.set hk4 none (.slice a7 S'.shelf.length c7) S'.shelf
              have e9 := pcs8_set (l := th2) (k := k) none HKL.out
              simp only [p8A, p8B, p8C] at e9
              have h9 := ((((HN1.out.rowSet 3 rfl k (by omega) (.slice a7 S'.shelf.length c7)).rowSet 1 rfl k (by omega) (.int .u32 z')).rowSet 2 rfl (k * 3) (by omega) (.pointer none)).rowSet 2 rfl (k * 3 + 1) (by omega) (.pointer none)).rowSet 2 rfl (k * 3 + 2) (by omega) (.pointer none)
              simp only [List.set_cons_succ, List.set_cons_zero, List.cons_append, List.nil_append] at h9
              rw [e9] at h9
              have e8 : (hs.map u32V).set k (.int .u32 z') = (hs.set k z').map u32V := by rw [List.map_set]; rfl
              rw [e8] at h9
              have H9 := Lib.hid (show St w (memA q ws2 (ns ++ nt) :: (alL gh ga gs bc nn tg (hs.set k z') (th2.set k none) (vs.set k (.slice a7 S'.shelf.length c7)) ++ manyA th8A [0, 0, 0, 0] (ds2.set k (none, .slice a7 S'.shelf.length c7, S'.shelf)))) _ from h9)
              clear h9 e9 e0 e1 e2 f0 f1 f2 eh fh es fs
              obtain ⟨ds3, hds3⟩ : ∃ ds3, ds2.set k (none, .slice a7 S'.shelf.length c7, S'.shelf) = ds3 := ⟨_, rfl⟩
              obtain ⟨shs3, hshs3⟩ : ∃ f, upF shs k S'.shelf = f := ⟨_, rfl⟩
              rw [hds3] at H9 hd'
              rw [hshs3] at hd' hm'
              clear hds3 hshs3
              obtain ⟨l1, T1, hA1, hAN, hl4, hwN⟩ := hm'.whole
              have HA1 := Lib.hid hA1
              have HAN := Lib.hid hAN
              have HL4 := Lib.hid hl4
              have HWN := Lib.hid hwN
              have HM2 := Lib.hid hm'
              have HD2 := Lib.hid hd'
              have HCQ : Hid (∀ m x y z X w', St w (m :: x :: y :: z :: bxC bc nn 0 0 tg :: X) w' → w'.cell? ⟨bc, 0, none⟩ = some (.int .i64 nn) ∧ w'.cell? ⟨bc, 1, none⟩ = some (.int .i64 0) ∧ w'.cell? ⟨bc, 2, none⟩ = some (.int .i64 0) ∧ w'.cell? ⟨bc, 3, none⟩ = some (.int .u32 tg)) := Lib.hid fun m x y z X w' h => cells4 (h.cells 4 rfl)
              clear hA1 hAN hl4 hwN hm' hd'
              refine wp_region_held_drew (S := (fun w' => w'.cell? ⟨bc, 0, none⟩ = some (.int .i64 nn) ∧ w'.cell? ⟨bc, 1, none⟩ = some (.int .i64 0) ∧ w'.cell? ⟨bc, 2, none⟩ = some (.int .i64 0) ∧ w'.cell? ⟨bc, 3, none⟩ = some (.int .u32 tg))) (by as_aux_lemma => kernel_rfl) ?_ (fun hHeld0 => ?_)
              · first | exact HCQ.out _ _ _ _ _ _ HZ.out | exact HCQ.out _ _ _ _ _ _ HV.out | exact HCQ.out _ _ _ _ _ _ H9.out.drew
              refine wpAnyH_take (i := 0) (v := ?_) rfl (by as_aux_lemma => kernel_rfl) (by as_aux_lemma => kernel_rfl) (by as_aux_lemma => kernel_rfl) (fun _ _ _ h => h) (Or.inl ⟨by rfl, ?_⟩) hHeld0 ?_
              rotate_left
              · intro w hSw
                (try dsimp only at hSw)
                go_simp
                try (first | (with_reducible rfl) | rfl)
              try simp only [List.getElem_toArray, List.getElem_cons_zero, List.getElem_cons_succ, Act.put, List.setIfInBounds_toArray, List.set_cons_zero, List.set_cons_succ]
              refine wpAnyH_take (i := 1) (v := ?_) rfl (by as_aux_lemma => kernel_rfl) (by as_aux_lemma => kernel_rfl) (by as_aux_lemma => kernel_rfl) (fun _ _ _ h => h) (Or.inl ⟨by rfl, ?_⟩) hHeld0 ?_
              rotate_left
              · intro w hSw
                (try dsimp only at hSw)
                go_simp
                try (first | (with_reducible rfl) | rfl)
              try simp only [List.getElem_toArray, List.getElem_cons_zero, List.getElem_cons_succ, Act.put, List.setIfInBounds_toArray, List.set_cons_zero, List.set_cons_succ]
              refine wpAnyH_take (i := 3) (v := ?_) rfl (by as_aux_lemma => kernel_rfl) (by as_aux_lemma => kernel_rfl) (by as_aux_lemma => kernel_rfl) (fun _ _ _ h => h) (Or.inl ⟨by rfl, ?_⟩) hHeld0 ?_
              rotate_left
              · intro w hSw
                (try dsimp only at hSw)
                go_simp
                try (first | (with_reducible rfl) | rfl)
              try simp only [List.getElem_toArray, List.getElem_cons_zero, List.getElem_cons_succ, Act.put, List.setIfInBounds_toArray, List.set_cons_zero, List.set_cons_succ]
              refine wpAnyH_take (i := 4) (v := ?_) rfl (by as_aux_lemma => kernel_rfl) (by as_aux_lemma => kernel_rfl) (by as_aux_lemma => kernel_rfl) (fun _ _ _ h => h) (Or.inl ⟨by rfl, ?_⟩) hHeld0 ?_
              rotate_left
              · intro w hSw
                (try dsimp only at hSw)
                go_simp
                try (first | (with_reducible rfl) | rfl)
              try simp only [List.getElem_toArray, List.getElem_cons_zero, List.getElem_cons_succ, Act.put, List.setIfInBounds_toArray, List.set_cons_zero, List.set_cons_succ]
              refine wpAnyH_ready (rs := [2]) (by as_aux_lemma => kernel_rfl) (by simp) ?_
              refine AllReadyH.cons rfl (fun K hK => ?_) ?_
              · go_simp
                go_at_call 34; refine (words_pos N H9.out.drew HWN.out hN0).mono ?_; rintro e wv ⟨g5, c5, rfl, _, hrd, _, hb⟩; (have HRD5 := Lib.hid hrd); (have HV := Lib.hid (H9.out.drew.below hb)); clear hrd hb
                go_wp2_with fail
                refine hK.out _ _ ?_ (fun hHeld4_2 => ?_)
                · first | exact HCQ.out _ _ _ _ _ _ HZ.out | exact HCQ.out _ _ _ _ _ _ HV.out | exact HCQ.out _ _ _ _ _ _ H9.out.drew
                clear hK K
                try simp only [List.getElem_toArray, List.getElem_cons_zero, List.getElem_cons_succ, Act.put, List.setIfInBounds_toArray, List.set_cons_zero, List.set_cons_succ]
                refine wpAnyH_ready (rs := [5]) (by as_aux_lemma => kernel_rfl) (by simp) ?_
                refine AllReadyH.cons rfl (fun K hK => ?_) ?_
                · go_simp
                  go_at_call 50; refine (whole8 nn N tg g5 c5 _ gh 4 gs 4 _ l1 shs3 T1 _ HOK.out HN.out HRD5.out HWN.out HA1.out HV.out.rngs8 (HV.out.rd32 1 rfl HL4.out) HL4.out (fun j hj => by obtain ⟨dj, hdj⟩ := getE (l := ds3) (k := j) (by rw [HD2.out.len]; exact hj); obtain ⟨a8, c8, k1, k2⟩ := th8_rd hj HV.out hdj; have k3 := HD2.out.sh j dj hdj; rw [k3] at k1 k2; exact ⟨a8, _, c8, (HV.out.at_ 3 rfl j (by rw [HD2.out.vs, List.getElem?_map, hdj]; exact congrArg some k1)).1, k2, rfl⟩) HAN.out).mono ?_; rintro e wz ⟨rfl, hb⟩; (have HZ := Lib.hid (HV.out.below hb)); clear hb
                  go_wp2_with fail
                  refine hK.out _ _ ?_ (fun hHeld5_5 => ?_)
                  · first | exact HCQ.out _ _ _ _ _ _ HZ.out | exact HCQ.out _ _ _ _ _ _ HV.out | exact HCQ.out _ _ _ _ _ _ H9.out.drew
                  clear hK K
                  try simp only [List.getElem_toArray, List.getElem_cons_zero, List.getElem_cons_succ, Act.put, List.setIfInBounds_toArray, List.set_cons_zero, List.set_cons_succ]
                  refine wpAnyH_take (i := 6) (v := ?_) rfl (by as_aux_lemma => kernel_rfl) (by as_aux_lemma => kernel_rfl) (by as_aux_lemma => kernel_rfl) (fun _ _ _ h => h) (Or.inl ⟨by rfl, ?_⟩) hHeld5_5 ?_
                  rotate_left
                  · intro w hSw
                    (try dsimp only at hSw)
                    go_simp
                    try (first | (with_reducible rfl) | rfl)
                  try simp only [List.getElem_toArray, List.getElem_cons_zero, List.getElem_cons_succ, Act.put, List.setIfInBounds_toArray, List.set_cons_zero, List.set_cons_succ]
                  refine wpAnyH_done (by as_aux_lemma => kernel_rfl) ?_ _
                  go_wp2
                  go_roundg kk
                  case measure => omega
                  case rel => exact ⟨i + 1, rfl, by omega, by have := HK1.out; omega, _, ds3, _, _, shs3, _, _, by have := HNS.out; have := hnt1; rw [List.length_append]; omega, HM2.out, HD2.out, HZ.out⟩
                exact AllReadyH.nil
              exact AllReadyH.nil
            · have hg := hg0
              clear hg0
              simp only [hg, if_true, if_false, Bool.false_eq_true] at e0 e1
              go_wp2_with (go_at_call 45; refine (pstep8_g (.pointer (some rb)) HST.out rfl hg HPK.out.1 HOKS.out hnl (hgv.trans hg) hsl2).mono ?_; rintro e wn ⟨a7, c7, rfl, h⟩; (have h := (show St w (rowA 23 1 (.slice a7 S'.shelf.length c7) S'.shelf.length (S'.shelf.map u32V) :: memA q ws2 (ns ++ nt) :: arA p S' :: rowA 23 1 v' sh'.length (sh'.map u32V) :: R2) wn from h)); (have HN1 := Lib.hid (show St w (memA q ws2 (ns ++ nt) :: (alL gh ga gs bc nn tg hs th2 vs ++ manyA th8A [0, 0, 0, 0] (ds2.set k (none, .slice a7 S'.shelf.length c7, S'.shelf)))) wn from HPK.out.2 _ _ _ (none, .slice a7 S'.shelf.length c7, S'.shelf) (show St w (memA q ws2 (ns ++ nt) :: rowA 23 1 (.slice a7 S'.shelf.length c7) S'.shelf.length (S'.shelf.map u32V) :: factA True :: R2) wn from ((show St w (memA q ws2 (ns ++ nt) :: rowA 23 1 (.slice a7 S'.shelf.length c7) S'.shelf.length (S'.shelf.map u32V) :: R2) wn from h.re 4 [1, 0]).factI (p := True) trivial).re 3 [1, 2, 0]))); clear h e0 e1 e2 f0 f1 f2; obtain ⟨e0, f0⟩ := HN1.out.at_ 2 rfl (k * 3) HP.out.1; obtain ⟨e1, f1⟩ := HN1.out.at_ 2 rfl (k * 3 + 1) HP.out.2.1; obtain ⟨e2, f2⟩ := HN1.out.at_ 2 rfl (k * 3 + 2) HP.out.2.2; simp only [p8A, p8B, p8C, hg, if_true, if_false, Bool.false_eq_true] at e0 e1 e2; obtain ⟨eh, fh⟩ := HN1.out.at_ 1 rfl k (u := .int .u32 hh) (by rw [List.getElem?_map, HHS.out]; rfl); obtain ⟨es, fs⟩ := HN1.out.at_ 3 rfl k HVS.out)
              have hm' := hM
              have hd' := HDO.out.set hk4 none (.slice a7 S'.shelf.length c7) S'.shelf
              have e9 := pcs8_set (l := th2) (k := k) none HKL.out
              simp only [p8A, p8B, p8C] at e9
              have h9 := (((((HN1.out.rowSet 3 rfl k (by omega) (.slice a7 S'.shelf.length c7)).rowSet 1 rfl k (by omega) (.int .u32 z')).rowSet 1 rfl k (by omega) (.int .u32 0)).rowSet 2 rfl (k * 3) (by omega) (.pointer none)).rowSet 2 rfl (k * 3 + 1) (by omega) (.pointer none)).rowSet 2 rfl (k * 3 + 2) (by omega) (.pointer none)
              simp only [List.set_cons_succ, List.set_cons_zero, List.cons_append, List.nil_append] at h9
              rw [e9] at h9
              have e8 : ((hs.map u32V).set k (.int .u32 z')).set k (.int .u32 0) = (hs.set k 0).map u32V := by rw [List.set_set, List.map_set]; rfl
              rw [e8] at h9
              have H9 := Lib.hid (show St w (memA q ws2 (ns ++ nt) :: (alL gh ga gs bc nn tg (hs.set k 0) (th2.set k none) (vs.set k (.slice a7 S'.shelf.length c7)) ++ manyA th8A [0, 0, 0, 0] (ds2.set k (none, .slice a7 S'.shelf.length c7, S'.shelf)))) _ from h9)
              clear h9 e9 e0 e1 e2 f0 f1 f2 eh fh es fs
              obtain ⟨ds3, hds3⟩ : ∃ ds3, ds2.set k (none, .slice a7 S'.shelf.length c7, S'.shelf) = ds3 := ⟨_, rfl⟩
              obtain ⟨shs3, hshs3⟩ : ∃ f, upF shs k S'.shelf = f := ⟨_, rfl⟩
              rw [hds3] at H9 hd'
              rw [hshs3] at hd' hm'
              clear hds3 hshs3
              obtain ⟨l1, T1, hA1, hAN, hl4, hwN⟩ := hm'.whole
              have HA1 := Lib.hid hA1
              have HAN := Lib.hid hAN
              have HL4 := Lib.hid hl4
              have HWN := Lib.hid hwN
              have HM2 := Lib.hid hm'
              have HD2 := Lib.hid hd'
              have HCQ : Hid (∀ m x y z X w', St w (m :: x :: y :: z :: bxC bc nn 0 0 tg :: X) w' → w'.cell? ⟨bc, 0, none⟩ = some (.int .i64 nn) ∧ w'.cell? ⟨bc, 1, none⟩ = some (.int .i64 0) ∧ w'.cell? ⟨bc, 2, none⟩ = some (.int .i64 0) ∧ w'.cell? ⟨bc, 3, none⟩ = some (.int .u32 tg)) := Lib.hid fun m x y z X w' h => cells4 (h.cells 4 rfl)
              clear hA1 hAN hl4 hwN hm' hd'
              refine wp_region_held_drew (S := (fun w' => w'.cell? ⟨bc, 0, none⟩ = some (.int .i64 nn) ∧ w'.cell? ⟨bc, 1, none⟩ = some (.int .i64 0) ∧ w'.cell? ⟨bc, 2, none⟩ = some (.int .i64 0) ∧ w'.cell? ⟨bc, 3, none⟩ = some (.int .u32 tg))) (by as_aux_lemma => kernel_rfl) ?_ (fun hHeld0 => ?_)
              · first | exact HCQ.out _ _ _ _ _ _ HZ.out | exact HCQ.out _ _ _ _ _ _ HV.out | exact HCQ.out _ _ _ _ _ _ H9.out.drew
              refine wpAnyH_take (i := 0) (v := ?_) rfl (by as_aux_lemma => kernel_rfl) (by as_aux_lemma => kernel_rfl) (by as_aux_lemma => kernel_rfl) (fun _ _ _ h => h) (Or.inl ⟨by rfl, ?_⟩) hHeld0 ?_
              rotate_left
              · intro w hSw
                (try dsimp only at hSw)
                go_simp
                try (first | (with_reducible rfl) | rfl)
              try simp only [List.getElem_toArray, List.getElem_cons_zero, List.getElem_cons_succ, Act.put, List.setIfInBounds_toArray, List.set_cons_zero, List.set_cons_succ]
              refine wpAnyH_take (i := 1) (v := ?_) rfl (by as_aux_lemma => kernel_rfl) (by as_aux_lemma => kernel_rfl) (by as_aux_lemma => kernel_rfl) (fun _ _ _ h => h) (Or.inl ⟨by rfl, ?_⟩) hHeld0 ?_
              rotate_left
              · intro w hSw
                (try dsimp only at hSw)
                go_simp
                try (first | (with_reducible rfl) | rfl)
              try simp only [List.getElem_toArray, List.getElem_cons_zero, List.getElem_cons_succ, Act.put, List.setIfInBounds_toArray, List.set_cons_zero, List.set_cons_succ]
              refine wpAnyH_take (i := 3) (v := ?_) rfl (by as_aux_lemma => kernel_rfl) (by as_aux_lemma => kernel_rfl) (by as_aux_lemma => kernel_rfl) (fun _ _ _ h => h) (Or.inl ⟨by rfl, ?_⟩) hHeld0 ?_
              rotate_left
              · intro w hSw
                (try dsimp only at hSw)
                go_simp
                try (first | (with_reducible rfl) | rfl)
              try simp only [List.getElem_toArray, List.getElem_cons_zero, List.getElem_cons_succ, Act.put, List.setIfInBounds_toArray, List.set_cons_zero, List.set_cons_succ]
              refine wpAnyH_take (i := 4) (v := ?_) rfl (by as_aux_lemma => kernel_rfl) (by as_aux_lemma => kernel_rfl) (by as_aux_lemma => kernel_rfl) (fun _ _ _ h => h) (Or.inl ⟨by rfl, ?_⟩) hHeld0 ?_
              rotate_left
              · intro w hSw
                (try dsimp only at hSw)
                go_simp
                try (first | (with_reducible rfl) | rfl)
              try simp only [List.getElem_toArray, List.getElem_cons_zero, List.getElem_cons_succ, Act.put, List.setIfInBounds_toArray, List.set_cons_zero, List.set_cons_succ]
              refine wpAnyH_ready (rs := [2]) (by as_aux_lemma => kernel_rfl) (by simp) ?_
              refine AllReadyH.cons rfl (fun K hK => ?_) ?_
              · go_simp
                go_at_call 34; refine (words_pos N H9.out.drew HWN.out hN0).mono ?_; rintro e wv ⟨g5, c5, rfl, _, hrd, _, hb⟩; (have HRD5 := Lib.hid hrd); (have HV := Lib.hid (H9.out.drew.below hb)); clear hrd hb
                go_wp2_with fail
                refine hK.out _ _ ?_ (fun hHeld4_2 => ?_)
                · first | exact HCQ.out _ _ _ _ _ _ HZ.out | exact HCQ.out _ _ _ _ _ _ HV.out | exact HCQ.out _ _ _ _ _ _ H9.out.drew
                clear hK K
                try simp only [List.getElem_toArray, List.getElem_cons_zero, List.getElem_cons_succ, Act.put, List.setIfInBounds_toArray, List.set_cons_zero, List.set_cons_succ]
                refine wpAnyH_ready (rs := [5]) (by as_aux_lemma => kernel_rfl) (by simp) ?_
                refine AllReadyH.cons rfl (fun K hK => ?_) ?_
                · go_simp
                  go_at_call 50; refine (whole8 nn N tg g5 c5 _ gh 4 gs 4 _ l1 shs3 T1 _ HOK.out HN.out HRD5.out HWN.out HA1.out HV.out.rngs8 (HV.out.rd32 1 rfl HL4.out) HL4.out (fun j hj => by obtain ⟨dj, hdj⟩ := getE (l := ds3) (k := j) (by rw [HD2.out.len]; exact hj); obtain ⟨a8, c8, k1, k2⟩ := th8_rd hj HV.out hdj; have k3 := HD2.out.sh j dj hdj; rw [k3] at k1 k2; exact ⟨a8, _, c8, (HV.out.at_ 3 rfl j (by rw [HD2.out.vs, List.getElem?_map, hdj]; exact congrArg some k1)).1, k2, rfl⟩) HAN.out).mono ?_; rintro e wz ⟨rfl, hb⟩; (have HZ := Lib.hid (HV.out.below hb)); clear hb
                  go_wp2_with fail
                  refine hK.out _ _ ?_ (fun hHeld5_5 => ?_)
                  · first | exact HCQ.out _ _ _ _ _ _ HZ.out | exact HCQ.out _ _ _ _ _ _ HV.out | exact HCQ.out _ _ _ _ _ _ H9.out.drew
                  clear hK K
                  try simp only [List.getElem_toArray, List.getElem_cons_zero, List.getElem_cons_succ, Act.put, List.setIfInBounds_toArray, List.set_cons_zero, List.set_cons_succ]
                  refine wpAnyH_take (i := 6) (v := ?_) rfl (by as_aux_lemma => kernel_rfl) (by as_aux_lemma => kernel_rfl) (by as_aux_lemma => kernel_rfl) (fun _ _ _ h => h) (Or.inl ⟨by rfl, ?_⟩) hHeld5_5 ?_
                  rotate_left
                  · intro w hSw
                    (try dsimp only at hSw)
                    go_simp
                    try (first | (with_reducible rfl) | rfl)
                  try simp only [List.getElem_toArray, List.getElem_cons_zero, List.getElem_cons_succ, Act.put, List.setIfInBounds_toArray, List.set_cons_zero, List.set_cons_succ]
                  refine wpAnyH_done (by as_aux_lemma => kernel_rfl) ?_ _
                  go_wp2
                  go_roundg kk
                  case measure => omega
                  case rel => exact ⟨i + 1, rfl, by omega, by have := HK1.out; omega, _, ds3, _, _, shs3, _, _, by have := HNS.out; have := hnt1; rw [List.length_append]; omega, HM2.out, HD2.out, HZ.out⟩
                exact AllReadyH.nil
              exact AllReadyH.nil
      · obtain rfl : m = i := by omega
        have c4b : decide (((m : Nat) : Int) < (m : Int)) = false := decide_eq_false (by omega)
        have HS := Lib.hid hS
        clear hS hmi hdo
        go_wp2
        go_ret
        exact ⟨rfl, HS.out.bel⟩
set_option maxRecDepth 20000 in
set_option maxHeartbeats 8000000 in
theorem arenaAll_long (a0 tg bg : Int) (B : Option Addr) (m d : Nat) (w : World) (hx0 : (Lit.int .i64 a0).wf = true) (hx1 : (Lit.int .u32 tg).wf = true) (hm : 400 < m) (hM : m ≤ maxLen) :
    Calls Try.prog 12 #[.int .i64 a0, .int .u32 tg, .int .i64 bg, .slice B m d] w fun e w' => e = .returned (.bool true) ∧ Below w.heap.size w w' := by
  unfold maxLen at hM
  obtain ⟨a00, a01⟩ := rngI64 hx0
  obtain ⟨t0, t1⟩ := rngU32 hx1
  have hp := pickI_rng (c := a0) (n := 64) (by decide)
  obtain ⟨nn, hnn⟩ : ∃ nn : Nat, 1 + pickI a0 64 = (nn : Int) := Int.eq_ofNat_of_zero_le (by omega)
  have n1 : 1 ≤ nn := by omega
  have n2 : nn ≤ 64 := by omega
  obtain ⟨N, hN⟩ : ∃ N, N = 2 + 2 * nn + 0 + 0 := ⟨_, rfl⟩
  obtain ⟨T, hT⟩ : ∃ T, tg * 4294967296 = T := ⟨_, rfl⟩
  have hN4 : N ≤ 1024 := by omega
  have hN0 : 0 < N := by omega
  have HNN := Lib.hid hnn
  have HN := Lib.hid hN
  have HT := Lib.hid hT
  have HOK : Hid (okC (nn : Int) ((0 : Nat) : Int) ((0 : Nat) : Int) = true) := Lib.hid (by simp [okC]; omega)
  have HFR : Hid (∀ x ∈ frL T nn nn 0 N, 0 ≤ x ∧ x < 18446744073709551616) := Lib.hid (frL_rng (by omega) (by omega) n2)
  have HMI : Hid (MI8 nn N tg 0 (frL T nn nn 0 N) [none, none, none, none] [0, 0, 0, 0] (fun _ => [])) := Lib.hid (MI8.new hT t0 t1 (by omega) n1 n2)
  have H := Lib.hid (St.nil w)
  have d0 : decide ((nn : Int) < 1) = false := decide_eq_false (by omega)
  have d3 : decide ((400 : Int) < (m : Int)) = true := decide_eq_true (by omega)
  clear hx0 hx1 hp hnn hN hT HMI
  go_enter Try.func12, Try.ntmps12
  go_wp2_with (first | ((have _h := H2); go_at_call 16; refine (fresh_ok nn 0 0 tg T N H2.out HOK.out HN.out HT.out t0 t1).mono ?_; rintro e w3 ⟨g, rfl, h⟩; (have H3 := Lib.hid (h)); clear h; clear q0 q1 q2 q3; (obtain ⟨q0, q1, q2, q3⟩ := cells4 (H3.out.cells 1 rfl)); clear _h) | ((have _h := H1); go_at_call 47; refine (cfg8_is a0 0 0 tg nn 0 0 _ HNN.out rfl rfl a00 a01 (by decide) (by decide) (by decide) (by decide)).mono ?_; rintro e w2 ⟨rfl, hb⟩; (have H2 := Lib.hid ((H1.out.below hb).alloc #[.int .i64 nn, .int .i64 0, .int .i64 0, .int .u32 tg] 26)); clear hb; (obtain ⟨q0, q1, q2, q3⟩ := cells4 (H2.out.cells 0 rfl)); clear _h) | ((have _h := H); go_at_call 42; refine (shown8 _).mono ?_; rintro e w1 ⟨rfl, hb⟩; (have H1 := Lib.hid (H.out.below hb)); clear hb; clear _h))
  go_ret
  exact ⟨rfl, H3.out.bel⟩
theorem arenaAll_walk (a0 tg bg : Int) (B : Option Addr) (m d : Nat) (zs : List Int) (w : World) (hx0 : (Lit.int .i64 a0).wf = true) (hx1 : (Lit.int .u32 tg).wf = true) (hx2 : (Lit.int .i64 bg).wf = true) (hI : IsRow .i64 w B m d zs) :
    Calls Try.prog 12 #[.int .i64 a0, .int .u32 tg, .int .i64 bg, .slice B m d] w fun e w' => e = .returned (.bool true) ∧ Below w.heap.size w w' := by
  by_cases h : m ≤ 400
  · exact arenaAll_body a0 tg bg B m d zs w hx0 hx1 hx2 h hI.rdI
  · exact arenaAll_long a0 tg bg B m d w hx0 hx1 (by omega) hI.le
end Go.Proofs.Ytndigbkhaajjoaa
