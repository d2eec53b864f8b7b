/-
  The law ElimSteps: what its walk keeps.
-/
import Derived.Test.YthnjeiandfdpgaaRElP
import Derived.Test.YthnjeiandfdpgaaJobs12
namespace Go.Proofs.Ythnjeiandfdpgaa
open Go.RowKit
set_option linter.unusedVariables false
set_option linter.unusedSimpArgs false

theorem IsRow.rdU {w : World} {A : Option Addr} {len cap : Nat} {zs : List Int} (h : IsRow .u64 w A len cap zs) : RdU w A (zs.take len) ∧ (zs.take len).length = len ∧ ∀ x ∈ zs.take len, 0 ≤ x ∧ x < 18446744073709551616 := by
  rcases h with ⟨rfl, rfl, rfl, rfl⟩ | ⟨ad, rfl, hl, hm, hz, hc, hw⟩
  · exact ⟨⟨fun _ => rfl, fun h => by simp at h⟩, rfl, fun x hx => by simp at hx⟩
  · have hlen : (zs.take len).length = len := by rw [List.length_take]; omega
    refine ⟨⟨fun e => (by simp at e), fun _ => ⟨ad, rfl, fun j u hu => ?_⟩⟩, hlen, fun x hx => rngU64 (hw x (List.mem_of_mem_take hx))⟩
    rw [List.getElem?_map] at hu
    obtain ⟨v, hv, rfl⟩ := Option.map_eq_some_iff.1 hu
    rw [List.getElem?_take] at hv
    split at hv
    · have := hc j (List.getElem?_eq_some_iff.1 hv).1
      rw [List.getD_eq_getElem?_getD, hv] at this
      exact this
    · cases hv
set_option maxHeartbeats 4000000 in
theorem same10 (A B : Option Addr) (n c d : Nat) (ws : List Int) (w : World) (hA : RdU w A ws) (hB : RdU w B ws) (hn : ws.length = n) (hl : n ≤ 1024) :
    Calls Try.prog 35 #[.slice A n c, .slice B n d] w fun e w' => e = .returned (.bool true) ∧ Below w.heap.size w w' := by
  have HA := Lib.hid hA
  have HB := Lib.hid hB
  clear hA hB
  go_enter Try.func35, Try.ntmps35
  go_wp2
  go_loopg [5] 1025 (fun kq y w' => ∃ i : Nat, y = .int .i64 i ∧ i ≤ n ∧ i + kq = 1025 ∧ Below w.heap.size w w')
  case atStart => exact ⟨0, rfl, by omega, by omega, bl_refl w⟩
  case round =>
    obtain ⟨i, rfl, hi, hkq, hS⟩ := hrel
    have HS := Lib.hid hS
    cases gk with
    | zero => omega
    | succ kk =>
      by_cases c4 : i < n
      · have c4b : decide ((i : Int) < n) = true := decide_eq_true (by omega)
        have r0 : (0 : Int) ≤ (i : Int) := by omega
        have r1 : (i : Int) < (n : Int) := by omega
        obtain ⟨ad, rfl, hc⟩ := HA.out.cellA (show i < ws.length by omega)
        obtain ⟨bd, rfl, hd⟩ := HB.out.cellA (show i < ws.length by omega)
        have f1 := (hS.cell (World.block_lt_of_cell? _ _ hc)).trans hc
        have f2 := (hS.cell (World.block_lt_of_cell? _ _ hd)).trans hd
        clear hS hc hd
        go_wp2
        go_quiet (fail)
        go_wp2
        go_roundg kk
        case measure => omega
        case rel => exact ⟨i + 1, rfl, by omega, by omega, bl_drewN HS.out _⟩
      · have c4b : decide ((i : Int) < n) = false := decide_eq_false (by omega)
        clear hS
        go_wp2
        go_ret
        exact ⟨rfl, HS.out⟩
theorem cells6 {w : World} {b : Nat} {a0 a1 a2 a3 a4 a5 : Value} {e : TypeId} (h : w.heap[b]? = some (.cells #[a0, a1, a2, a3, a4, a5] e (0, 0))) : w.cell? ⟨b, 0, none⟩ = some a0 ∧ w.cell? ⟨b, 1, none⟩ = some a1 ∧ w.cell? ⟨b, 2, none⟩ = some a2 ∧ w.cell? ⟨b, 3, none⟩ = some a3 ∧ w.cell? ⟨b, 4, none⟩ = some a4 ∧ w.cell? ⟨b, 5, none⟩ = some a5 := ⟨cell_of h 0, cell_of h 1, cell_of h 2, cell_of h 3, cell_of h 4, cell_of h 5⟩
theorem cells3 {w : World} {b : Nat} {a0 a1 a2 : Value} {e : TypeId} (h : w.heap[b]? = some (.cells #[a0, a1, a2] e (0, 0))) : w.cell? ⟨b, 0, none⟩ = some a0 ∧ w.cell? ⟨b, 1, none⟩ = some a1 ∧ w.cell? ⟨b, 2, none⟩ = some a2 := ⟨cell_of h 0, cell_of h 1, cell_of h 2⟩
theorem infoEV : (Try.prog.info? 33).map (fun i => (i.zero, i.size, i.bytes)) = some (some (.pointer none), 1, 8) := by kernel_rfl
theorem infoRE : (Try.prog.info? 74).map (fun i => (i.zero, i.size, i.bytes)) = some (some (.pointer none), 1, 8) := by kernel_rfl
/-- Both memories, both sources. -/
noncomputable abbrev headE (q y r r2 : Nat) (ws : List Int) (ns : List Note) (now : Int) (ds : List Int) : Asn := starA [memA q ws ns, refA y ws ns, srcA r now ds, rsA r2 now ds]
/-- A visit of each kind: the program's at p, the document's at x.1; x.2.1: looks it may have had. -/
def evA (p : Nat) (x : Nat × Nat × EM) : Asn := starA [emA p x.2.2, rfA x.1 x.2.1 x.2.2]
abbrev eRows (va vb : Value) (n : Nat) (ps : List Nat) (xs : List (Nat × Nat × EM)) (bc : Nat) (C : Array Value) : List Asn := [rowA 33 1 va n (ps.map ptrV), rowA 74 1 vb n (xs.map fun x => ptrV x.1), boxA bc C 28]
/-- What holds behind i turns. -/
structure ETurn (N i : Nat) (ws : List Int) (ns : List Note) (now : Int) (ds : List Int) (xs : List (Nat × Nat × EM)) : Prop where
  len : ws.length = N
  few : ns.length ≤ i
  n0 : 0 ≤ now
  n1 : now < 18446744073709551616
  dok : DsOk ds
  dl : ds.length ≤ i
  ok : ∀ (k : Nat) (x : Nat × Nat × EM), xs[k]? = some x → x.2.2.ok N ns.length ∧ x.2.1 ≤ i ∧ (x.2.2.en = 2 → x.2.2.fit = false)
theorem ETurn.snoc {N i : Nat} {ws : List Int} {ns : List Note} {now : Int} {ds : List Int} {xs : List (Nat × Nat × EM)} (h : ETurn N i ws ns now ds xs) (b : Nat) {S : EM} (hS : S.ok N ns.length) (he : S.en = 0) : ETurn N i ws ns now ds (xs ++ [(b, 0, S)]) := by
  refine ⟨h.len, h.few, h.n0, h.n1, h.dok, h.dl, fun k x hx => ?_⟩
  rcases Nat.lt_or_ge k xs.length with hk | hk
  · rw [List.getElem?_append_left hk] at hx
    exact h.ok k x hx
  · rw [List.getElem?_append_right hk] at hx
    cases hj : k - xs.length with
    | zero =>
      rw [hj] at hx
      cases hx
      exact ⟨hS, Nat.zero_le _, fun e => by rw [he] at e; cases e⟩
    | succ j => rw [hj] at hx; cases hx
theorem EM.step_un {S : EM} (h : S.en = 2 → S.fit = false) {N k : Nat} (hok : S.ok N k) (ws : List Int) (now : Int) (ds : List Int) : (S.step ws now ds).S.en = 2 → (S.step ws now ds).S.fit = false := by
  have hst : ∀ V, S.V = some V → V.st ≠ 2 := fun V e => (hok.vok V e).2.2
  unfold EM.step
  by_cases c2 : S.en = 2
  · rw [if_pos c2]
    exact h
  rw [if_neg c2]
  have run : ∀ (T : EM) (V : VM) (dd : List Int), T.en ≠ 2 → V.st ≠ 2 → (T.run V ws now dd).S.en ≠ 2 := fun T V dd h1 h2 => by
    have h3 := (VM.step_r h2 ws now).1
    unfold EM.run
    dsimp only
    split
    · exact h3
    · exact h1
  cases e : S.V with
  | some V =>
    dsimp only
    exact fun e2 => absurd e2 (run S V ds c2 (hst V e))
  | none =>
    dsimp only
    by_cases hf : S.fit = true
    · rw [if_pos hf]
      exact fun e2 => absurd e2 (run _ _ _ c2 (by show (0 : Int) ≠ 2; decide))
    · rw [if_neg hf]
      intro _
      have : S.fit = false := by simpa using hf
      exact this
theorem ETurn.step {N i : Nat} {ws : List Int} {ns : List Note} {now : Int} {ds : List Int} {xs : List (Nat × Nat × EM)} (h : ETurn N i ws ns now ds xs) (hr : ∀ i, i < ws.length → 0 ≤ rdW ws i ∧ rdW ws i < 18446744073709551616) {k : Nat} {x : Nat × Nat × EM} (hx : xs[k]? = some x) :
    ETurn N (i + 1) (x.2.2.step ws now ds).ws (ns ++ (x.2.2.step ws now ds).nt) now (x.2.2.step ws now ds).ds (xs.set k (x.1, x.2.1 + 1, (x.2.2.step ws now ds).S)) := by
  have h1 := EM.step_len x.2.2 ws now ds
  have h2 := h.few
  have h3 := EM.step_ds (S := x.2.2) h.dok ws now
  have h4 := h.dl
  refine ⟨h1.1.trans h.len, by rw [List.length_append]; omega, h.n0, h.n1, h3.1, by omega, fun j z hz => ?_⟩
  have hk : k < xs.length := (List.getElem?_eq_some_iff.1 hx).1
  rcases set_get hz hk with ⟨rfl, rfl⟩ | ⟨hj, hz2⟩
  · obtain ⟨a, b, c⟩ := h.ok _ x hx
    refine ⟨?_, by show x.2.1 + 1 ≤ i + 1; omega, EM.step_un c a ws now ds⟩
    rw [← h.len] at a ⊢
    rw [List.length_append]
    exact EM.step_ok ds a h.n0 h.n1 hr
  · obtain ⟨a, b, c⟩ := h.ok j z hz2
    exact ⟨a.more (by rw [List.length_append]; omega), by omega, c⟩
theorem ETurn.tick {N i : Nat} {ws : List Int} {ns : List Note} {now : Int} {ds : List Int} {xs : List (Nat × Nat × EM)} (h : ETurn N i ws ns now ds xs) {k : Int} (k0 : 0 ≤ k) : ETurn N (i + 1) ws ns (dlI now k) ds xs := by
  have := dlI_rng h.n0 h.n1 k0
  have h2 := h.few
  have h4 := h.dl
  exact ⟨h.len, by omega, this.1, this.2, h.dok, by omega, fun j z hz => ⟨(h.ok j z hz).1, by have := (h.ok j z hz).2.1; omega, (h.ok j z hz).2.2⟩⟩
theorem ETurn.add {N i : Nat} {ws : List Int} {ns : List Note} {now : Int} {ds : List Int} {xs : List (Nat × Nat × EM)} (h : ETurn N i ws ns now ds xs) {d : Int} (d0 : 0 ≤ d) : ETurn N (i + 1) ws ns now (addR ds d) xs := by
  have h2 := h.few
  have h4 := h.dl
  refine ⟨h.len, by omega, h.n0, h.n1, h.dok.add d0, ?_, fun j z hz => ⟨(h.ok j z hz).1, by have := (h.ok j z hz).2.1; omega, (h.ok j z hz).2.2⟩⟩
  unfold addR
  split
  · omega
  · rw [List.length_append]; simp; omega
theorem St.cutNil {w0 w : World} {l : List Asn} (h : St w0 l w) : St w0 (cutA (.slice none 0 0) [] :: l) w := h.more (bl_refl w) ⟨none, 0, rfl, Nat.le_refl _, by decide, .inl rfl⟩
theorem St.open6 {w0 w : World} {q y r r2 p : Nat} {ws : List Int} {ns : List Note} {now : Int} {ds : List Int} {x : Nat × Nat × EM} {R : List Asn} (h : St w0 (headE q y r r2 ws ns now ds :: evA p x :: R) w) :
    St w0 (memA q ws ns :: srcA r now ds :: emA p x.2.2 :: refA y ws ns :: rsA r2 now ds :: rfA x.1 x.2.1 x.2.2 :: R) w := by
  have h1 : St w0 (evA p x :: memA q ws ns :: refA y ws ns :: srcA r now ds :: rsA r2 now ds :: R) w := h.unstar.front 4 rfl
  have h2 : St w0 (emA p x.2.2 :: rfA x.1 x.2.1 x.2.2 :: memA q ws ns :: refA y ws ns :: srcA r now ds :: rsA r2 now ds :: R) w := St.unstar (m := [emA p x.2.2, rfA x.1 x.2.1 x.2.2]) h1
  exact ((((((h2.front 1 rfl).front 5 rfl).front 4 rfl).front 3 rfl).front 5 rfl).front 5 rfl)
theorem St.close6 {w0 w : World} {q y r r2 p : Nat} {ws : List Int} {ns : List Note} {now : Int} {ds : List Int} {b k : Nat} {S : EM} {R : List Asn}
    (h : St w0 (memA q ws ns :: srcA r now ds :: emA p S :: refA y ws ns :: rsA r2 now ds :: rfA b k S :: R) w) : St w0 (headE q y r r2 ws ns now ds :: evA p (b, k, S) :: R) w := by
  have h1 : St w0 ([emA p S, rfA b k S] ++ memA q ws ns :: refA y ws ns :: srcA r now ds :: rsA r2 now ds :: R) w := ((((((h.front 4 rfl).front 2 rfl).front 4 rfl).front 3 rfl).front 5 rfl).front 5 rfl)
  have h2 : St w0 (evA p (b, k, S) :: memA q ws ns :: refA y ws ns :: srcA r now ds :: rsA r2 now ds :: R) w := h1.star
  have h3 : St w0 ([memA q ws ns, refA y ws ns, srcA r now ds, rsA r2 now ds] ++ evA p (b, k, S) :: R) w := ((((h2.front 4 rfl).front 4 rfl).front 4 rfl).front 4 rfl)
  exact h3.star
/-- Visits that are made, one behind the other. -/
def EMake (w : World) (q y r r2 N : Nat) (ws : List Int) (bc : Nat) (C : Array Value) (va vb : Value) (i : Nat) (w' : World) : Prop :=
  ∃ ps xs, ps.length = i ∧ xs.length = i ∧ ETurn N 0 ws [] 0 [] xs ∧ St w (headE q y r r2 ws [] 0 [] :: (eRows va vb i ps xs bc C ++ manyA evA ps xs)) w'
def ERel (w : World) (q y r r2 N : Nat) (bc : Nat) (C : Array Value) (ga ca gb cb : Nat) (ps : List Nat) (m i : Nat) (w' : World) : Prop :=
  ∃ ws ns now ds xs, xs.length = m ∧ ETurn N i ws ns now ds xs ∧ St w (headE q y r r2 ws ns now ds :: (eRows (.slice (some ⟨ga, 0, none⟩) m ca) (.slice (some ⟨gb, 0, none⟩) m cb) m ps xs bc C ++ manyA evA ps xs)) w'
/-- Back behind a turn in which nothing but the heads changed. -/
theorem St.head4 {w0 w : World} {q y r r2 : Nat} {ws : List Int} {ns : List Note} {now : Int} {ds : List Int} {R : List Asn} (h : St w0 (memA q ws ns :: refA y ws ns :: srcA r now ds :: rsA r2 now ds :: R) w) : St w0 (headE q y r r2 ws ns now ds :: R) w :=
  St.star [memA q ws ns, refA y ws ns, srcA r now ds, rsA r2 now ds] h
end Go.Proofs.Ythnjeiandfdpgaa
