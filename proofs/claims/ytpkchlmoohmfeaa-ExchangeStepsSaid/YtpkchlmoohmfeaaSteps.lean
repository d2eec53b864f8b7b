/-
  The law ExchangeSteps: the walk.
-/
import Derived.Test.YtpkchlmoohmfeaaShort
import Derived.Test.YtpkchlmoohmfeaaDuo10
namespace Go.Proofs.Ytpkchlmoohmfeaa
open Go.RowKit
set_option linter.unusedVariables false
set_option linter.unusedSimpArgs false

theorem IsRow.rdU {w : World} {A : Option Addr} {len cap : Nat} {zs : List Int} (h : IsRow .u64 w A len cap zs) : RdU w A (zs.take len) ∧ (zs.take len).length = len ∧ ∀ x ∈ zs.take len, 0 ≤ x ∧ x < 18446744073709551616 := by
  rcases h with ⟨rfl, rfl, rfl, rfl⟩ | ⟨ad, rfl, hl, hm, hz, hc, hw⟩
  · exact ⟨⟨fun _ => rfl, fun h => by simp at h⟩, rfl, fun x hx => by simp at hx⟩
  · have hlen : (zs.take len).length = len := by rw [List.length_take]; omega
    refine ⟨⟨fun e => (by simp at e), fun _ => ⟨ad, rfl, fun j u hu => ?_⟩⟩, hlen, fun x hx => rngU64 (hw x (List.mem_of_mem_take hx))⟩
    rw [List.getElem?_map] at hu
    obtain ⟨v, hv, rfl⟩ := Option.map_eq_some_iff.1 hu
    rw [List.getElem?_take] at hv
    split at hv
    · have := hc j (List.getElem?_eq_some_iff.1 hv).1
      rw [List.getD_eq_getElem?_getD, hv] at this
      exact this
    · cases hv
theorem cellsJ {w : World} {b : Nat} {a0 a1 a2 a3 a4 : Value} {e : TypeId} (h : w.heap[b]? = some (.cells #[a0, a1, a2, a3, a4] e (0, 0))) : w.cell? ⟨b, 0, none⟩ = some a0 ∧ w.cell? ⟨b, 1, none⟩ = some a1 ∧ w.cell? ⟨b, 2, none⟩ = some a2 ∧ w.cell? ⟨b, 3, none⟩ = some a3 ∧ w.cell? ⟨b, 4, none⟩ = some a4 := ⟨cell_of h 0, cell_of h 1, cell_of h 2, cell_of h 3, cell_of h 4⟩
theorem cellsT {w : World} {b : Nat} {a0 a1 a2 a3 : Value} {e : TypeId} (h : w.heap[b]? = some (.cells #[a0, a1, a2, a3] e (0, 0))) : w.cell? ⟨b, 0, none⟩ = some a0 ∧ w.cell? ⟨b, 1, none⟩ = some a1 ∧ w.cell? ⟨b, 2, none⟩ = some a2 ∧ w.cell? ⟨b, 3, none⟩ = some a3 := ⟨cell_of h 0, cell_of h 1, cell_of h 2, cell_of h 3⟩
theorem set_kept {α : Type} {l : List α} {k : Nat} {a : α} (h : l[k]? = some a) : l.set k a = l := by
  apply List.ext_getElem?
  intro j
  rw [List.getElem?_set]
  by_cases e : k = j
  · subst e
    obtain ⟨hk, e⟩ := List.getElem?_eq_some_iff.1 h
    simp [hk, e]
  · simp [e]
theorem infoRV : (Try.prog.info? 57).map (fun i => (i.zero, i.size, i.bytes)) = some (some (.pointer none), 1, 8) := by kernel_rfl
noncomputable abbrev headA (q y : Nat) (ws : List Int) (ns : List Note) : Asn := starA [memA q ws ns, refA y ws ns]
abbrev sRows (va vb : Value) (n : Nat) (ps : List Nat) (xs : List (Nat × Nat × VM)) : List Asn := [rowA 36 1 va n (ps.map ptrV), rowA 57 1 vb n (xs.map fun x => ptrV x.1)]
/-- What holds of the visits, and of the notes, behind i turns. -/
structure STurn (N i : Nat) (ws : List Int) (ns : List Note) (xs : List (Nat × Nat × VM)) : Prop where
  len : ws.length = N
  few : ns.length ≤ i
  ok : ∀ (k : Nat) (x : Nat × Nat × VM), xs[k]? = some x → x.2.2.ok N ns.length ∧ x.2.1 ≤ i
theorem STurn.snoc {N i : Nat} {ws : List Int} {ns : List Note} {xs : List (Nat × Nat × VM)} (h : STurn N i ws ns xs) (b : Nat) {S : VM} (hS : S.ok N ns.length) : STurn N i ws ns (xs ++ [(b, 0, S)]) := by
  refine ⟨h.len, h.few, fun k x hx => ?_⟩
  rcases Nat.lt_or_ge k xs.length with hk | hk
  · rw [List.getElem?_append_left hk] at hx
    exact h.ok k x hx
  · rw [List.getElem?_append_right hk] at hx
    cases hj : k - xs.length with
    | zero =>
      rw [hj] at hx
      cases hx
      exact ⟨hS, Nat.zero_le _⟩
    | succ j => rw [hj] at hx; cases hx
theorem VM.go_few (S : VM) (ws : List Int) (a : Nat) (now : Int) : (S.go ws a now).nt.length ≤ 1 := by
  unfold VM.go
  split <;> dsimp only <;> (repeat' split) <;> simp
theorem VM.step_few (S : VM) (ws : List Int) (now : Int) : (S.step ws now).nt.length ≤ 1 := by
  unfold VM.step
  split
  · simp
  split
  · simp
  · exact VM.go_few _ _ _ _
theorem STurn.step {N i : Nat} {ws : List Int} {ns : List Note} {xs : List (Nat × Nat × VM)} (h : STurn N i ws ns xs) (now : Int) (hr : ∀ i, i < ws.length → 0 ≤ rdW ws i ∧ rdW ws i < 18446744073709551616) {k : Nat} {x : Nat × Nat × VM} (hx : xs[k]? = some x) :
    STurn N (i + 1) (x.2.2.step ws now).ws (ns ++ (x.2.2.step ws now).nt) (xs.set k (x.1, x.2.1 + 1, (x.2.2.step ws now).S)) := by
  have h1 := VM.step_few x.2.2 ws now
  have h2 := h.few
  refine ⟨(VM.step_len _ _ _).trans h.len, by rw [List.length_append]; omega, fun j z hz => ?_⟩
  have hk : k < xs.length := (List.getElem?_eq_some_iff.1 hx).1
  rcases set_get hz hk with ⟨rfl, rfl⟩ | ⟨hj, hz2⟩
  · obtain ⟨a, b⟩ := h.ok _ x hx
    rw [← h.len] at a ⊢
    rw [List.length_append]
    exact ⟨VM.step_ok now a hr, by show x.2.1 + 1 ≤ i + 1; omega⟩
  · obtain ⟨a, b⟩ := h.ok j z hz2
    exact ⟨a.more (by rw [List.length_append]; omega), by omega⟩
theorem STurn.raw {N i : Nat} {ws : List Int} {ns : List Note} {xs : List (Nat × Nat × VM)} (h : STurn N i ws ns xs) (k : Nat) (v : Int) : STurn N (i + 1) (stWs ws k v) (ns ++ stNs ws k v) xs := by
  have h1 := stNs_len ws k v
  have h2 := h.few
  refine ⟨(stWs_len _ _ _).trans h.len, by rw [List.length_append]; omega, fun j z hz => ?_⟩
  obtain ⟨a, b⟩ := h.ok j z hz
  exact ⟨a.more (by rw [List.length_append]; omega), by omega⟩
/-- Visits that are made, one behind the other. -/
def SMake (w : World) (q y N : Nat) (ws : List Int) (va vb : Value) (i : Nat) (w' : World) : Prop :=
  ∃ ps xs, ps.length = i ∧ xs.length = i ∧ STurn N 0 ws [] xs ∧ St w (headA q y ws [] :: (sRows va vb i ps xs ++ manyA vpA ps xs)) w'
def SRel (w : World) (q y N ga ca gb cb : Nat) (ps : List Nat) (m i : Nat) (w' : World) : Prop :=
  ∃ ws ns xs, xs.length = m ∧ STurn N i ws ns xs ∧ St w (headA q y ws ns :: (sRows (.slice (some ⟨ga, 0, none⟩) m ca) (.slice (some ⟨gb, 0, none⟩) m cb) m ps xs ++ manyA vpA ps xs)) w'
theorem St.pairUp {w0 w : World} {m a b : Asn} {L : List Asn} (h : St w0 (m :: b :: a :: L) w) : St w0 (m :: starA [a, b] :: L) w := by
  have h1 : St w0 ([a, b] ++ m :: L) w := h.perm (by
    show List.Perm (m :: b :: a :: L) (a :: b :: m :: L)
    exact ((List.Perm.swap a b L).cons m).trans ((List.Perm.swap a m (b :: L)).trans ((List.Perm.swap b m L).cons a)))
  exact h1.star.swap
theorem St.rot5 {w0 w : World} {a b c d e : Asn} {L : List Asn} (h : St w0 (a :: b :: c :: d :: e :: L) w) : St w0 (b :: c :: d :: e :: a :: L) w := h.perm
  ((List.Perm.swap b a _).trans (((List.Perm.swap c a _).trans (((List.Perm.swap d a _).trans ((List.Perm.swap e a _).cons d)).cons c)).cons b))
theorem St.rot6 {w0 w : World} {a b c d e f : Asn} {L : List Asn} (h : St w0 (a :: b :: c :: d :: e :: f :: L) w) : St w0 (b :: c :: d :: e :: f :: a :: L) w := h.perm
  ((List.Perm.swap b a _).trans (((List.Perm.swap c a _).trans (((List.Perm.swap d a _).trans (((List.Perm.swap e a _).trans ((List.Perm.swap f a _).cons e)).cons d)).cons c)).cons b))
theorem St.pick2 {w0 w : World} {m : Asn} {A : List Asn} {σ : Type} {f : Nat → σ → Asn} {ps : List Nat} {Ss : List σ} {k p : Nat} {S : σ} (h : St w0 (m :: (A ++ manyA f ps Ss)) w) (hp : ps[k]? = some p) (hS : Ss[k]? = some S) :
    ∃ R, St w0 (m :: f p S :: (A ++ R)) w ∧ ∀ w1 w' m' S', St w1 (m' :: f p S' :: (A ++ R)) w' → St w1 (m' :: (A ++ manyA f ps (Ss.set k S'))) w' := by
  have e : (m :: (A ++ manyA f ps Ss))[1 + A.length + k]? = some (f p S) := by
    rw [show 1 + A.length + k = (A.length + k) + 1 by omega, List.getElem?_cons_succ, List.getElem?_append_right (by omega), show A.length + k - A.length = k by omega]
    exact many_get hp hS
  have hk : k < (manyA f ps Ss).length := (List.getElem?_eq_some_iff.1 (many_get (f := f) hp hS)).1
  have h1 := h.front _ e
  have e2 : (m :: (A ++ manyA f ps Ss)).eraseIdx (1 + A.length + k) = m :: (A ++ (manyA f ps Ss).eraseIdx k) := by
    rw [show 1 + A.length + k = (A.length + k) + 1 by omega, List.eraseIdx_cons_succ, List.eraseIdx_append_of_length_le (by omega), show A.length + k - A.length = k by omega]
  rw [e2] at h1
  refine ⟨(manyA f ps Ss).eraseIdx k, h1.swap, fun w1 w' m' S' h2 => ?_⟩
  have h3 := h2.swap
  have e3 : (m' :: (A ++ manyA f ps Ss)).eraseIdx (1 + A.length + k) = m' :: (A ++ (manyA f ps Ss).eraseIdx k) := by
    rw [show 1 + A.length + k = (A.length + k) + 1 by omega, List.eraseIdx_cons_succ, List.eraseIdx_append_of_length_le (by omega), show A.length + k - A.length = k by omega]
  rw [← e3] at h3
  have h4 := h3.back (1 + A.length + k) (by simp; omega)
  rw [show 1 + A.length + k = (A.length + k) + 1 by omega, List.set_cons_succ, List.set_append_right _ _ (by omega), show A.length + k - A.length = k by omega, many_set hp] at h4
  exact h4
theorem rvstep {w0 w : World} {q p n : Nat} {ws ws' : List Int} {ns ns' nt : List Note} {L : List Asn} {S S' : VM} {now r : Int} (z : Int) (he : S.step ws now = ⟨r, S', ws', nt⟩) (hn : ns ++ nt = ns') (hz : S'.told r = z) (h : St w0 (refA q ws ns :: rvA p n S :: L) w) (hok : S.ok ws.length ns.length) (hk : ns.length ≤ 1000000000000) (hn2 : n ≤ 1000000000000) :
    Calls Try.prog 23 #[.pointer (some ⟨p, 0, none⟩), .pointer (some ⟨q, 0, none⟩), .int .u64 now] w fun e w' => e = .returned (.tuple #[.int .i64 r, .int .u32 z]) ∧ St w0 (refA q ws' ns' :: rvA p (n + 1) S' :: L) w' := by
  have := rvisit_step now h hok hk hn2
  rw [he] at this
  subst hn hz
  exact this
theorem St.rot4' {w0 w : World} {a b c d : Asn} {L : List Asn} (h : St w0 (a :: b :: c :: d :: L) w) : St w0 (b :: c :: d :: a :: L) w := h.perm
  ((List.Perm.swap b a _).trans (((List.Perm.swap c a _).trans ((List.Perm.swap d a _).cons c)).cons b))

set_option maxHeartbeats 16000000 in
set_option maxRecDepth 100000 in
theorem steps_near_none (A : Option Addr) (N c : Nat) (B : Option Addr) (m cb : Nat) (D : Option Addr) (t cd : Nat) (w : World) (hN : N ≤ maxLen) (hm : m ≤ maxLen) (ht : t ≤ maxLen) (ws : List Int) (hr : RdU w A ws) (hws : ws.length = N) (hv : ∀ x ∈ ws, 0 ≤ x ∧ x < 18446744073709551616) (hN1 : N ≤ 1024) (h0 : m = 0) :
    Calls Try.prog 6 #[.slice A N c, .slice B m cb, .slice D t cd] w fun e w' => e = .returned (.bool true) ∧ Below w.heap.size w w' := by
  unfold maxLen at hN hm ht
  subst h0
  have b0 : (((0 : Nat) : Int) == 0) = true := rfl
  have bN : decide ((1024 : Int) < N) = false := decide_eq_false (by omega)
  have HR := Lib.hid hr
  have HWS := Lib.hid hws
  have HV := Lib.hid hv
  clear hr hws hv
  have H := Lib.hid (St.nil w)
  go_enter Try.func6, Try.ntmps6
  go_wp2_with (first | ((have _h := H2); go_at_call 20; refine (rnew_st H2.out A c N ws (HR.out.kept H2.out.bel) hN1 HV.out HWS.out).mono ?_; rintro e w3 ⟨y, rfl, h⟩; (have H3 := Lib.hid (h)); clear h; clear _h) | ((have _h := H1); go_at_call 11; refine (new_st H1.out A c N ws (HR.out.kept H1.out.bel) hN1 HV.out HWS.out).mono ?_; rintro e w2 ⟨q, rfl, h⟩; (have H2 := Lib.hid (h)); clear h; clear _h) | ((have _h := H); go_at_call 10; refine (shown10 _).mono ?_; rintro e w1 ⟨rfl, hb⟩; (have H1 := Lib.hid (H.out.below hb)); clear hb; clear _h))
  go_ret
  exact ⟨rfl, H3.out.bel⟩
set_option maxHeartbeats 16000000 in
set_option maxRecDepth 100000 in
theorem steps_near_many (A : Option Addr) (N c : Nat) (B : Option Addr) (m cb : Nat) (D : Option Addr) (t cd : Nat) (w : World) (hN : N ≤ maxLen) (hm : m ≤ maxLen) (ht : t ≤ maxLen) (ws : List Int) (hr : RdU w A ws) (hws : ws.length = N) (hv : ∀ x ∈ ws, 0 ≤ x ∧ x < 18446744073709551616) (hN1 : N ≤ 1024) (h0 : 20 < m) :
    Calls Try.prog 6 #[.slice A N c, .slice B m cb, .slice D t cd] w fun e w' => e = .returned (.bool true) ∧ Below w.heap.size w w' := by
  unfold maxLen at hN hm ht
  have b0 : ((m : Int) == 0) = false := by simp; omega
  have b1 : decide ((20 : Int) < m) = true := decide_eq_true (by omega)
  have bN : decide ((1024 : Int) < N) = false := decide_eq_false (by omega)
  have HR := Lib.hid hr
  have HWS := Lib.hid hws
  have HV := Lib.hid hv
  clear hr hws hv
  have H := Lib.hid (St.nil w)
  go_enter Try.func6, Try.ntmps6
  go_wp2_with (first | ((have _h := H2); go_at_call 20; refine (rnew_st H2.out A c N ws (HR.out.kept H2.out.bel) hN1 HV.out HWS.out).mono ?_; rintro e w3 ⟨y, rfl, h⟩; (have H3 := Lib.hid (h)); clear h; clear _h) | ((have _h := H1); go_at_call 11; refine (new_st H1.out A c N ws (HR.out.kept H1.out.bel) hN1 HV.out HWS.out).mono ?_; rintro e w2 ⟨q, rfl, h⟩; (have H2 := Lib.hid (h)); clear h; clear _h) | ((have _h := H); go_at_call 10; refine (shown10 _).mono ?_; rintro e w1 ⟨rfl, hb⟩; (have H1 := Lib.hid (H.out.below hb)); clear hb; clear _h))
  go_ret
  exact ⟨rfl, H3.out.bel⟩
set_option maxHeartbeats 16000000 in
set_option maxRecDepth 100000 in
theorem steps_near_long (A : Option Addr) (N c : Nat) (B : Option Addr) (m cb : Nat) (D : Option Addr) (t cd : Nat) (w : World) (hN : N ≤ maxLen) (hm : m ≤ maxLen) (ht : t ≤ maxLen) (ws : List Int) (hr : RdU w A ws) (hws : ws.length = N) (hv : ∀ x ∈ ws, 0 ≤ x ∧ x < 18446744073709551616) (hN1 : N ≤ 1024) (h0 : 0 < m) (h1 : m ≤ 20) (h2 : 200 < t) :
    Calls Try.prog 6 #[.slice A N c, .slice B m cb, .slice D t cd] w fun e w' => e = .returned (.bool true) ∧ Below w.heap.size w w' := by
  unfold maxLen at hN hm ht
  have b0 : ((m : Int) == 0) = false := by simp; omega
  have b1 : decide ((20 : Int) < m) = false := decide_eq_false (by omega)
  have b2 : decide ((200 : Int) < t) = true := decide_eq_true (by omega)
  have bN : decide ((1024 : Int) < N) = false := decide_eq_false (by omega)
  have HR := Lib.hid hr
  have HWS := Lib.hid hws
  have HV := Lib.hid hv
  clear hr hws hv
  have H := Lib.hid (St.nil w)
  go_enter Try.func6, Try.ntmps6
  go_wp2_with (first | ((have _h := H2); go_at_call 20; refine (rnew_st H2.out A c N ws (HR.out.kept H2.out.bel) hN1 HV.out HWS.out).mono ?_; rintro e w3 ⟨y, rfl, h⟩; (have H3 := Lib.hid (h)); clear h; clear _h) | ((have _h := H1); go_at_call 11; refine (new_st H1.out A c N ws (HR.out.kept H1.out.bel) hN1 HV.out HWS.out).mono ?_; rintro e w2 ⟨q, rfl, h⟩; (have H2 := Lib.hid (h)); clear h; clear _h) | ((have _h := H); go_at_call 10; refine (shown10 _).mono ?_; rintro e w1 ⟨rfl, hb⟩; (have H1 := Lib.hid (H.out.below hb)); clear hb; clear _h))
  go_ret
  exact ⟨rfl, H3.out.bel⟩
set_option maxHeartbeats 16000000 in
set_option maxRecDepth 100000 in
theorem steps_far_none (A : Option Addr) (N c : Nat) (B : Option Addr) (m cb : Nat) (D : Option Addr) (t cd : Nat) (w : World) (hN : N ≤ maxLen) (hm : m ≤ maxLen) (ht : t ≤ maxLen) (hN1 : 1024 < N) (h0 : m = 0) :
    Calls Try.prog 6 #[.slice A N c, .slice B m cb, .slice D t cd] w fun e w' => e = .returned (.bool true) ∧ Below w.heap.size w w' := by
  unfold maxLen at hN hm ht
  subst h0
  have b0 : (((0 : Nat) : Int) == 0) = true := rfl
  have bN : decide ((1024 : Int) < N) = true := decide_eq_true (by omega)
  have H := Lib.hid (St.nil w)
  go_enter Try.func6, Try.ntmps6
  go_wp2_with (first | ((have _h := H2); go_at_call 20; refine (rnew_no A N c _ hN1).mono ?_; rintro e w3 ⟨rfl, rfl⟩; (have H3 := Lib.hid (H2.out)); clear _h) | ((have _h := H1); go_at_call 11; refine (new_no A N c _ hN1).mono ?_; rintro e w2 ⟨rfl, rfl⟩; (have H2 := Lib.hid (H1.out)); clear _h) | ((have _h := H); go_at_call 10; refine (shown10 _).mono ?_; rintro e w1 ⟨rfl, hb⟩; (have H1 := Lib.hid (H.out.below hb)); clear hb; clear _h))
  go_ret
  exact ⟨rfl, H3.out.bel⟩
set_option maxHeartbeats 16000000 in
set_option maxRecDepth 100000 in
theorem steps_far_many (A : Option Addr) (N c : Nat) (B : Option Addr) (m cb : Nat) (D : Option Addr) (t cd : Nat) (w : World) (hN : N ≤ maxLen) (hm : m ≤ maxLen) (ht : t ≤ maxLen) (hN1 : 1024 < N) (h0 : 20 < m) :
    Calls Try.prog 6 #[.slice A N c, .slice B m cb, .slice D t cd] w fun e w' => e = .returned (.bool true) ∧ Below w.heap.size w w' := by
  unfold maxLen at hN hm ht
  have b0 : ((m : Int) == 0) = false := by simp; omega
  have b1 : decide ((20 : Int) < m) = true := decide_eq_true (by omega)
  have bN : decide ((1024 : Int) < N) = true := decide_eq_true (by omega)
  have H := Lib.hid (St.nil w)
  go_enter Try.func6, Try.ntmps6
  go_wp2_with (first | ((have _h := H2); go_at_call 20; refine (rnew_no A N c _ hN1).mono ?_; rintro e w3 ⟨rfl, rfl⟩; (have H3 := Lib.hid (H2.out)); clear _h) | ((have _h := H1); go_at_call 11; refine (new_no A N c _ hN1).mono ?_; rintro e w2 ⟨rfl, rfl⟩; (have H2 := Lib.hid (H1.out)); clear _h) | ((have _h := H); go_at_call 10; refine (shown10 _).mono ?_; rintro e w1 ⟨rfl, hb⟩; (have H1 := Lib.hid (H.out.below hb)); clear hb; clear _h))
  go_ret
  exact ⟨rfl, H3.out.bel⟩
set_option maxHeartbeats 16000000 in
set_option maxRecDepth 100000 in
theorem steps_far_long (A : Option Addr) (N c : Nat) (B : Option Addr) (m cb : Nat) (D : Option Addr) (t cd : Nat) (w : World) (hN : N ≤ maxLen) (hm : m ≤ maxLen) (ht : t ≤ maxLen) (hN1 : 1024 < N) (h0 : 0 < m) (h1 : m ≤ 20) (h2 : 200 < t) :
    Calls Try.prog 6 #[.slice A N c, .slice B m cb, .slice D t cd] w fun e w' => e = .returned (.bool true) ∧ Below w.heap.size w w' := by
  unfold maxLen at hN hm ht
  have b0 : ((m : Int) == 0) = false := by simp; omega
  have b1 : decide ((20 : Int) < m) = false := decide_eq_false (by omega)
  have b2 : decide ((200 : Int) < t) = true := decide_eq_true (by omega)
  have bN : decide ((1024 : Int) < N) = true := decide_eq_true (by omega)
  have H := Lib.hid (St.nil w)
  go_enter Try.func6, Try.ntmps6
  go_wp2_with (first | ((have _h := H2); go_at_call 20; refine (rnew_no A N c _ hN1).mono ?_; rintro e w3 ⟨rfl, rfl⟩; (have H3 := Lib.hid (H2.out)); clear _h) | ((have _h := H1); go_at_call 11; refine (new_no A N c _ hN1).mono ?_; rintro e w2 ⟨rfl, rfl⟩; (have H2 := Lib.hid (H1.out)); clear _h) | ((have _h := H); go_at_call 10; refine (shown10 _).mono ?_; rintro e w1 ⟨rfl, hb⟩; (have H1 := Lib.hid (H.out.below hb)); clear hb; clear _h))
  go_ret
  exact ⟨rfl, H3.out.bel⟩
set_option maxHeartbeats 16000000 in
set_option maxRecDepth 100000 in
theorem steps_far_fine (A : Option Addr) (N c : Nat) (B : Option Addr) (m cb : Nat) (D : Option Addr) (t cd : Nat) (w : World) (hN : N ≤ maxLen) (hm : m ≤ maxLen) (ht : t ≤ maxLen) (hN1 : 1024 < N) (h0 : 0 < m) (h1 : m ≤ 20) (h2 : t ≤ 200) :
    Calls Try.prog 6 #[.slice A N c, .slice B m cb, .slice D t cd] w fun e w' => e = .returned (.bool true) ∧ Below w.heap.size w w' := by
  unfold maxLen at hN hm ht
  have b0 : ((m : Int) == 0) = false := by simp; omega
  have b1 : decide ((20 : Int) < m) = false := decide_eq_false (by omega)
  have b2 : decide ((200 : Int) < t) = false := decide_eq_false (by omega)
  have bN : decide ((1024 : Int) < N) = true := decide_eq_true (by omega)
  have H := Lib.hid (St.nil w)
  go_enter Try.func6, Try.ntmps6
  go_wp2_with (first | ((have _h := H2); go_at_call 20; refine (rnew_no A N c _ hN1).mono ?_; rintro e w3 ⟨rfl, rfl⟩; (have H3 := Lib.hid (H2.out)); clear _h) | ((have _h := H1); go_at_call 11; refine (new_no A N c _ hN1).mono ?_; rintro e w2 ⟨rfl, rfl⟩; (have H2 := Lib.hid (H1.out)); clear _h) | ((have _h := H); go_at_call 10; refine (shown10 _).mono ?_; rintro e w1 ⟨rfl, hb⟩; (have H1 := Lib.hid (H.out.below hb)); clear hb; clear _h))
  go_ret
  exact ⟨rfl, H3.out.bel⟩
set_option maxHeartbeats 16000000 in
set_option maxRecDepth 100000 in
theorem steps_body (A : Option Addr) (N c : Nat) (B : Option Addr) (m cb : Nat) (D : Option Addr) (t cd : Nat) (w : World) (hN : N ≤ maxLen) (hm : m ≤ maxLen) (ht : t ≤ maxLen) (ws : List Int) (hr : RdU w A ws) (hws : ws.length = N) (hv : ∀ x ∈ ws, 0 ≤ x ∧ x < 18446744073709551616) (hN1 : N ≤ 1024) (h0 : 0 < m) (h1 : m ≤ 20) (h2 : t ≤ 200) (F : Nat → PJob) (T : Nat → PTurn) (hF : RdJob w B m F) (hT : RdTurn w D t T) :
    Calls Try.prog 6 #[.slice A N c, .slice B m cb, .slice D t cd] w fun e w' => e = .returned (.bool true) ∧ Below w.heap.size w w' := by
  unfold maxLen at hN hm ht
  have b0 : ((m : Int) == 0) = false := by simp; omega
  have b1 : decide ((20 : Int) < m) = false := decide_eq_false (by omega)
  have b2 : decide ((200 : Int) < t) = false := decide_eq_false (by omega)
  have HR := Lib.hid hr
  have HWS := Lib.hid hws
  have HV := Lib.hid hv
  clear hr hws hv
  have HF := Lib.hid hF
  have HT := Lib.hid hT
  clear hF hT
  obtain ⟨iA, hiA, hzA0, hzA1, hzA2⟩ := info_parts infoPV
  obtain ⟨iB, hiB, hzB0, hzB1, hzB2⟩ := info_parts infoRV
  have H := Lib.hid (St.nil w)
  go_enter Try.func6, Try.ntmps6
  go_wp2_with (first | ((have _h := H2); go_at_call 20; refine (rnew_st H2.out A c N ws (HR.out.kept H2.out.bel) hN1 HV.out HWS.out).mono ?_; rintro e w3 ⟨y, rfl, h⟩; (have H3 := Lib.hid (h)); clear h; clear _h) | ((have _h := H1); go_at_call 11; refine (new_st H1.out A c N ws (HR.out.kept H1.out.bel) hN1 HV.out HWS.out).mono ?_; rintro e w2 ⟨q, rfl, h⟩; (have H2 := Lib.hid (h)); clear h; clear _h) | ((have _h := H); go_at_call 10; refine (shown10 _).mono ?_; rintro e w1 ⟨rfl, hb⟩; (have H1 := Lib.hid (H.out.below hb)); clear hb; clear _h))
  have HRel := Lib.hid (show SMake w q y N ws (.slice none 0 0) (.slice none 0 0) 0 w3 from ⟨[], [], rfl, rfl, ⟨HWS.out, by simp, fun k x h => by simp at h⟩, ((H3.out.swap.star (m := [memA q ws [], refA y ws []])).rowNil _ _ |>.rowNil _ _).rot3.swap⟩)
  clear H1 H2 H3
  go_loopg [12, 13, 14] 21 (fun kq va vb z w' => ∃ i : Nat, z = .int .i64 i ∧ i ≤ m ∧ i + kq = 21 ∧ SMake w q y N ws va vb i w')
  case atStart => exact ⟨0, rfl, by omega, by omega, HRel.out⟩
  case round =>
    obtain ⟨i, rfl, hi, hkq, ps, xs, hps, hxs, hT0, hS⟩ := hrel
    obtain ⟨A1, c1, rfl, hml⟩ := row_is (hS.rowOf 1 rfl)
    obtain ⟨A2, c2, rfl, _⟩ := row_is (hS.rowOf 2 rfl)
    have HE := Lib.hid hS
    unfold maxLen at hml
    clear HRel
    cases gk with
    | zero => omega
    | succ kk =>
      by_cases c4 : i < m
      · have c4b : decide ((i : Int) < m) = true := decide_eq_true (by omega)
        obtain ⟨bd, rfl, f0, f1, f2, f3, f4, hok⟩ := (HF.out.kept hS.bel).at_ c4
        have r0 : (0 : Int) ≤ (i : Int) := by omega
        have r1 : (i : Int) < (m : Int) := by omega
        obtain ⟨⟨o0, o1⟩, ⟨o2, o3⟩, ⟨o4, o5⟩, o6, o7⟩ := hok
        have HPS := Lib.hid (And.intro hps (And.intro hxs hT0))
        clear hS hps hxs hT0
        go_wp2_with (first | ((have _h := L2); at_builtin; go_must (refine wpList_append_lies _ (by rfl) _ _ _ (by rfl) 0 57 iB _ 1 8 Try.underlying54 hiB hzB0 hzB1 hzB2 rfl (by decide) (.slice A2 i c2) i (xs.map fun x => ptrV x.1) (by rfl) (((L2.out.alloc _ _).below (bl_alloc (bl_refl _) _)).rowOf 5 rfl) ⟨wL.heap.size + 1, 0, none⟩ 1 1 [.pointer (some ⟨wL.heap.size, 0, none⟩)] (by rfl) rfl (by exact World.news_of_block (cs := #[.pointer (some ⟨wL.heap.size, 0, none⟩)]) (t := 57) (fr := (0, 0)) (heap_new (by simp))) (by simp [Value.oneCell']) (by decide) (by unfold maxLen; omega) (by omega) (Nat.zero_le _) _ rfl ?_); go_must (intro g cp wB hown hgrow hat hlt); (have L3 := Lib.hid (((((L2.out.alloc #[.int .i64 (F i).at_, .bool (F i).push, .int .u32 (F i).i, .int .u64 (F i).d, .int .i64 (F i).polls, .int .i64 0, .int .i64 0, .int .u64 0, .int .u64 0, .int .i64 0, .bool false] 59).below (bl_alloc (bl_refl _) _)).front 5 rfl).append hown hgrow hat))); clear hown hgrow hat hlt _h) | ((have _h := N1); at_builtin; go_must (refine wpList_append_lies _ (by rfl) _ _ _ (by rfl) 0 36 iA _ 1 8 Try.underlying33 hiA hzA0 hzA1 hzA2 rfl (by decide) (.slice A1 i c1) i (ps.map ptrV) (by rfl) ((N1.out.below (bl_alloc (bl_refl _) _)).rowOf 3 rfl) ⟨wN.heap.size, 0, none⟩ 1 1 [.pointer (some ⟨p, 0, none⟩)] (by rfl) rfl (by exact World.news_of_block (cs := #[.pointer (some ⟨p, 0, none⟩)]) (t := 36) (fr := (0, 0)) (heap_new rfl)) (by simp [Value.oneCell']) (by decide) (by unfold maxLen; omega) (by omega) (Nat.zero_le _) _ rfl ?_); go_must (intro g cp wL hown hgrow hat hlt); (have L2 := Lib.hid ((((N1.out.below (bl_alloc (bl_refl _) _)).front 3 rfl).append hown hgrow hat).rot4')); clear hown hgrow hat hlt _h; obtain ⟨k0, k1, k2, k3, k4⟩ := cellsJ (L2.out.cells 2 rfl)) | ((have _h := HE); go_at_call 13; refine (visit_new (F i).at_ (F i).push (F i).i (F i).d (F i).polls (HE.out.alloc _ _).swap).mono ?_; rintro e wN ⟨p, rfl, h⟩; (have N1 := Lib.hid h); clear h _h))
        go_roundg kk
        case measure => omega
        case rel => exact ⟨i + 1, rfl, by omega, by omega, ps ++ [p], xs ++ [(wL.heap.size, 0, newVM (F i).at_ (F i).push (F i).i (F i).d (F i).polls)], by simp [HPS.out.1], by simp [HPS.out.2.1], HPS.out.2.2.snoc _ (newVM_ok _ _ o2 o3 o4 o5 (by omega)), by
          have h5 := ((L3.out.rot6.swap).front 3 rfl).tail
          have h6 := St.snoc (A := [_, _]) (f := vpA) (p := p) (S := (wL.heap.size, 0, newVM (F i).at_ (F i).push (F i).i (F i).d (F i).polls)) (rvA_new h5).pairUp (by rw [HPS.out.1, HPS.out.2.1])
          unfold sRows
          rw [show (ps ++ [p]).map ptrV = ps.map ptrV ++ [ptrV p] from List.map_append, List.map_append]
          exact h6⟩
      · obtain rfl : m = i := by omega
        have c4b : decide (((m : Nat) : Int) < (m : Int)) = false := decide_eq_false (by omega)
        obtain ⟨ga, ca, he1⟩ := row_some (hS.rowOf 1 rfl) h0
        obtain ⟨gb, cb', he2⟩ := row_some (hS.rowOf 2 rfl) h0
        cases he1
        cases he2
        have HS2 := Lib.hid (show SRel w q y N ga c1 gb c2 ps m 0 wr from ⟨ws, [], xs, hxs, hT0, hS⟩)
        have HPS := Lib.hid hps
        clear hS hxs hT0 c4 HE hps hiA hzA0 hzA1 hzA2 hiB hzB0 hzB1 hzB2
        have hm0 : (0 : Int) < (m : Int) := by omega
        have hm1 : (m : Int) < 9223372036854775808 := by omega
        go_wp2
        go_loopg [17, 18] 201 (fun kq nw z w' => ∃ (i : Nat) (tn : Int), nw = .int .u64 tn ∧ z = .int .i64 i ∧ 0 ≤ tn ∧ tn ≤ 100 * i ∧ i ≤ t ∧ i + kq = 201 ∧ SRel w q y N ga c1 gb c2 ps m i w')
        case atStart => exact ⟨0, 0, rfl, rfl, by omega, by omega, by omega, by omega, HS2.out⟩
        case round =>
          obtain ⟨i, tn, rfl, rfl, t0, t1, hi, hkq, ws, ns, xs, hxs, hT1, hS⟩ := hrel
          clear HS2
          cases gk with
          | zero => omega
          | succ k3 =>
            by_cases c4 : i < t
            · have c4b : decide ((i : Int) < t) = true := decide_eq_true (by omega)
              obtain ⟨bd, rfl, f0, f1, f2, f3, hok⟩ := (HT.out.kept hS.bel).at_ c4
              obtain ⟨⟨o0, o1⟩, ⟨o2, o3⟩, o4, o5⟩ := hok
              have r0 : (0 : Int) ≤ (i : Int) := by omega
              have r1 : (i : Int) < (t : Int) := by omega
              obtain ⟨lt, hlt⟩ : ∃ lt, (T i).later % 100 = lt := ⟨_, rfl⟩
              have g0 : 0 ≤ lt := by omega
              have g1 : lt < 100 := by omega
              have g2 : (T i).later.tmod 100 = lt := by rw [Int.tmod_eq_emod_of_nonneg o2]; exact hlt
              have g3 : (tn + lt) % 18446744073709551616 = tn + lt := by omega
              have hnl : ns.length ≤ 1000000000000 := by have := hT1.few; omega
              by_cases hraw : (T i).raw = true
              · rw [hraw] at f2
                obtain ⟨kk0, kk1⟩ := pickI_rng (c := (T i).which) (n := 2) (by decide)
                obtain ⟨k, hk⟩ := Int.eq_ofNat_of_zero_le kk0
                have HK := Lib.hid hk
                obtain ⟨se, hse⟩ : ∃ se, stE ws k = se := ⟨_, rfl⟩
                have HSE := Lib.hid hse
                have HB := Lib.hid ((hS.unstar.alloc #[.int .i64 (T i).which, .int .u64 (T i).later, .bool true, .int .u64 (T i).word] 61).rot3)
                have HT1 := Lib.hid hT1
                have HXS := Lib.hid hxs
                clear hk hse hS hT1 hxs kk0 kk1
                go_wp2
                go_region_held3 (fun w' => w'.cell? ⟨wr.heap.size, 0, none⟩ = some (.int .i64 (T i).which) ∧ w'.cell? ⟨wr.heap.size, 3, none⟩ = some (.int .u64 (T i).word)) (first | exact ⟨(cellsT (SF.out.cells 2 rfl)).1, (cellsT (SF.out.cells 2 rfl)).2.2.2⟩ | exact ⟨(cellsT (SA.out.cells 2 rfl)).1, (cellsT (SA.out.cells 2 rfl)).2.2.2⟩ | exact ⟨(cellsT (SB.out.cells 2 rfl)).1, (cellsT (SB.out.cells 2 rfl)).2.2.2⟩ | exact ⟨(cellsT (HB.out.drew.cells 2 rfl)).1, (cellsT (HB.out.drew.cells 2 rfl)).2.2.2⟩ | exact ⟨(cellsT (HB.out.cells 2 rfl)).1, (cellsT (HB.out.cells 2 rfl)).2.2.2⟩) (first | ((have _h := SB); go_at_call 21; refine (store_any SB.out k (T i).word se hnl o4 o5 HSE.out).mono ?_; rintro e wS ⟨rfl, h⟩; (have SF := Lib.hid h); clear h _h SB) | (go_at_call 21; refine (store_any HB.out.drew k (T i).word se hnl o4 o5 HSE.out).mono ?_; rintro e wS ⟨rfl, h⟩; (have SA := Lib.hid h); clear h) | ((have _h := SA); go_at_call 22; refine (rstore_any SA.out.swap k (T i).word se hnl o4 o5 HSE.out).mono ?_; rintro e wS ⟨rfl, h⟩; (have SF := Lib.hid h.swap); clear h _h SA) | (go_at_call 22; refine (rstore_any HB.out.drew.swap k (T i).word se hnl o4 o5 HSE.out).mono ?_; rintro e wS ⟨rfl, h⟩; (have SB := Lib.hid h.swap); clear h) | (go_at_call 14; refine (pick_is (T i).which 2 (k : Int) _ HK.out (by decide) (by decide) o0 o1).mono ?_; rintro e w' ⟨rfl, rfl⟩))
                all_goals go_wp2
                all_goals go_roundg k3
                all_goals first | omega | exact ⟨i + 1, tn + lt, rfl, rfl, by omega, by omega, by omega, by omega, stWs ws k (T i).word, ns ++ stNs ws k (T i).word, xs, HXS.out, HT1.out.raw k _, ((SF.out.front 2 rfl).tail).star (m := [memA _ _ _, refA _ _ _])⟩
              · have hraw' : (T i).raw = false := by simpa using hraw
                rw [hraw'] at f2
                obtain ⟨kk0, kk1⟩ := pickI_rng (c := (T i).which) hm0
                obtain ⟨k, hk⟩ := Int.eq_ofNat_of_zero_le kk0
                have hkm : k < m := by omega
                have k0 : (0 : Int) ≤ (k : Int) := by omega
                have k1 : (k : Int) < (m : Int) := by omega
                obtain ⟨x, hxk⟩ := getE (l := xs) (k := k) (by omega)
                obtain ⟨p, hpk⟩ := getE (l := ps) (k := k) (by have := HPS.out; omega)
                obtain ⟨R, hR1, hR2⟩ := hS.pick2 hpk hxk
                have hok := hT1.ok k x hxk
                have hns := hT1.step (tn + lt) (fun j hj => hS.unstar.rng hj) hxk
                obtain ⟨b, nx, S⟩ := x
                dsimp only at hok hns
                obtain ⟨⟨r, S', ws', nt⟩, ho⟩ : ∃ o, S.step ws (tn + lt) = o := ⟨_, rfl⟩
                rw [ho] at hns
                dsimp only at hns
                obtain ⟨z, hz⟩ : ∃ z, S'.told r = z := ⟨_, rfl⟩
                obtain ⟨ns', hns'⟩ : ∃ ns', ns ++ nt = ns' := ⟨_, rfl⟩
                obtain ⟨mb, hmb⟩ : ∃ mb, S'.met ws' = mb := ⟨_, rfl⟩
                rw [hns'] at hns
                have HK := Lib.hid hk
                have HST := Lib.hid ho
                have HZ := Lib.hid hz
                have HN2 := Lib.hid hns'
                have HMB := Lib.hid hmb
                have HOK : Hid (S.ok ws.length ns.length) := Lib.hid (by rw [hT1.len]; exact hok.1)
                have HNX : Hid (nx ≤ 1000000000000) := Lib.hid (by have := hok.2; omega)
                have HT2 := Lib.hid hns
                have HOK2 : Hid (S'.ok N ns'.length) := Lib.hid (by
                  have hkl : k < xs.length := by omega
                  exact (hns.ok k (b, nx + 1, S') (by rw [List.getElem?_set_self hkl])).1)
                have HL2 : Hid (ws'.length = N) := Lib.hid hns.len
                have HPK : Hid (∀ w1 w' m' S', St w1 (m' :: vpA p S' :: ([_, _] ++ R)) w' → St w1 (m' :: (sRows (.slice (some ⟨ga, 0, none⟩) m c1) (.slice (some ⟨gb, 0, none⟩) m c2) m ps xs ++ manyA vpA ps (xs.set k S'))) w') := Lib.hid hR2
                have HB := Lib.hid ((hR1.duo.alloc #[.int .i64 (T i).which, .int .u64 (T i).later, .bool false, .int .u64 (T i).word] 61).rot3)
                have HXK := Lib.hid hxk
                have HPKK := Lib.hid hpk
                have HXS := Lib.hid hxs
                have q1 : (wr.alloc (.cells #[.int .i64 (T i).which, .int .u64 (T i).later, .bool false, .int .u64 (T i).word] 61)).cell? ⟨ga, k, none⟩ = some (.pointer (some ⟨p, 0, none⟩)) := ((hS.alloc _ _).at_ 2 rfl k (u := ptrV p) (by rw [List.getElem?_map, hpk]; rfl)).1
                clear hk ho hz hns' hmb hok hns hS hT1 hxs hR1 hR2 hxk hpk kk0 kk1
                go_wp2_with (first | ((have _h := V1); go_at_call 23; refine (rvstep z HST.out HN2.out HZ.out V1.out HOK.out hnl HNX.out).mono ?_; rintro e w2 ⟨rfl, h⟩; (have V2 := Lib.hid h); clear h _h V1) | ((have _h := HB); go_at_call 15; refine (vstep z HST.out HN2.out HZ.out HB.out HOK.out hnl).mono ?_; rintro e w1 ⟨rfl, h⟩; (have V1 := Lib.hid ((h.front 2 rfl).tail.turn4)); clear h _h q1; obtain ⟨q2, f5⟩ := V1.out.at_ 5 rfl k (u := ptrV b) (by rw [List.getElem?_map, HXK.out]; rfl); (have q2 : w1.cell? ⟨gb, k, none⟩ = some (.pointer (some ⟨b, 0, none⟩)) := q2); clear HB) | (go_at_call 14; refine (pick_is (T i).which m (k : Int) _ HK.out hm0 hm1 o0 o1).mono ?_; rintro e w' ⟨rfl, rfl⟩))
                clear q2 f5 f0 f1 f2 f3
                have HC : Hid (∀ w', Below w2.heap.size w2 w' → w'.cell? ⟨ga, k, none⟩ = some (.pointer (some ⟨p, 0, none⟩)) ∧ w'.cell? ⟨gb, k, none⟩ = some (.pointer (some ⟨b, 0, none⟩))) := Lib.hid (fun w' hb => by
                  have h := V2.out.below hb
                  exact ⟨(h.at_ 4 rfl k (u := ptrV p) (by rw [List.getElem?_map, HPKK.out]; rfl)).1, (h.at_ 5 rfl k (u := ptrV b) (by rw [List.getElem?_map, HXK.out]; rfl)).1⟩)
                obtain ⟨A3, c3, B3, d3, n0, n1, hr3, _⟩ := V2.out.refCells 0 rfl
                rw [HL2.out] at n0
                have HY : Hid (∀ w', Below w2.heap.size w2 w' → w'.cell? ⟨y, 0, none⟩ = some (.slice A3 N c3) ∧ w'.cell? ⟨y, 1, none⟩ = some (.slice B3 ns'.length d3) ∧ RdU w' A3 ws') := Lib.hid (fun w' hb => ⟨(hb.cell (World.block_lt_of_cell? _ _ n0)).trans n0, (hb.cell (World.block_lt_of_cell? _ _ n1)).trans n1, hr3.kept hb⟩)
                have HBW := Lib.hid (Below.refl w2.heap.size w2)
                have HBD := Lib.hid ((Below.refl w2.heap.size w2).drew)
                clear n0 n1 hr3
                go_region_held3 (fun w' => w'.cell? ⟨ga, k, none⟩ = some (.pointer (some ⟨p, 0, none⟩)) ∧ w'.cell? ⟨gb, k, none⟩ = some (.pointer (some ⟨b, 0, none⟩)) ∧ w'.cell? ⟨y, 0, none⟩ = some (.slice A3 N c3) ∧ w'.cell? ⟨y, 1, none⟩ = some (.slice B3 ns'.length d3)) (first | exact ⟨(HC.out _ HBD.out).1, (HC.out _ HBD.out).2, (HY.out _ HBD.out).1, (HY.out _ HBD.out).2.1⟩ | exact ⟨(HC.out _ HBW.out).1, (HC.out _ HBW.out).2, (HY.out _ HBW.out).1, (HY.out _ HBW.out).2.1⟩) (first | (go_at_call 19; refine (count_st ((V2.out.below HBD.out).front 2 rfl) (ns'.length : Int) rfl).mono ?_; rintro e w' ⟨rfl, rfl⟩) | (go_at_call 17; refine (words_st ((V2.out.below HBD.out).front 2 rfl) N HL2.out).mono ?_; rintro e w4 ⟨al, c4', rfl, hrw, _, hb⟩; (have HZ2 := Lib.hid (HBD.out.trans (hb.mono HBD.out.size))); (have HWM : Hid (∀ w', Below w4.heap.size w4 w' → RdU w' al ws') := Lib.hid (fun w' hb => hrw.kept hb)); (have HB4 := Lib.hid (Below.refl w4.heap.size w4)); clear hrw hb HBD; (have HBD := HZ2); clear HZ2) | (go_at_call 16; refine (visit_met _ N _ N ns'.length ws' mb ((V2.out.below HBD.out).turn4) HOK2.out (HWM.out _ HB4.out) HL2.out HMB.out).mono ?_; rintro e w5 ⟨rfl, hb⟩; (have HZ2 := Lib.hid (HBD.out.trans (hb.mono HBD.out.size))); clear hb HBD HB4 HWM; (have HBD := HZ2); clear HZ2) | (go_at_call 24; refine (rvisit_met _ N _ N ns'.length ws' mb (V2.out.below HBD.out) HOK2.out (HY.out _ HBD.out).2.2 HL2.out HMB.out).mono ?_; rintro e w6 ⟨rfl, hb⟩; (have HZ2 := Lib.hid (HBD.out.trans (hb.mono HBD.out.size))); (try (have HB5 := Lib.hid (HB4.out.trans (hb.mono HB4.out.size)); clear HB4; have HB4 := HB5; clear HB5)); clear hb HBD; (have HBD := HZ2); clear HZ2))
                all_goals go_wp2
                all_goals go_roundg k3
                all_goals first | omega | exact ⟨i + 1, tn + lt, rfl, rfl, by omega, by omega, by omega, by omega, ws', ns', xs.set k (b, nx + 1, S'), by rw [List.length_set]; exact HXS.out, HT2.out, by
                  have h5 := HPK.out _ _ _ (b, nx + 1, S') ((V2.out.below HBD.out).turn4.unduo)
                  have hkl : k < xs.length := by have := HXS.out; omega
                  have e5 : ((xs.set k (b, nx + 1, S')).map fun x => ptrV x.1) = xs.map fun x => ptrV x.1 := by
                    rw [List.map_set]
                    exact set_kept (by rw [List.getElem?_map, HXK.out]; rfl)
                  unfold sRows
                  rw [e5]
                  exact h5⟩
            · have c4b : decide ((i : Int) < t) = false := decide_eq_false (by omega)
              have HE := Lib.hid hS.unstar
              obtain ⟨A3, c3, B3, d3, n0, n1, hr3, hl3⟩ := HE.out.refCells 1 rfl
              have hlN : ws.length = N := hT1.len
              have HLN := Lib.hid hlN
              rw [hlN] at n0
              have HY : Hid (∀ w', Below wr.heap.size wr w' → w'.cell? ⟨y, 0, none⟩ = some (.slice A3 N c3) ∧ RdU w' A3 ws) := Lib.hid (fun w' hb => ⟨(hb.cell (World.block_lt_of_cell? _ _ n0)).trans n0, hr3.kept hb⟩)
              have HBD := Lib.hid ((Below.refl wr.heap.size wr).drew)
              clear hS hT1 hxs n0 n1 hr3 hlN hl3
              go_wp2
              go_region_held3 (fun w' => w'.cell? ⟨y, 0, none⟩ = some (.slice A3 N c3)) (first | exact (HY.out _ HBD.out).1 | exact (HY.out _ (Below.refl _ _)).1) (first | (go_at_call 17; refine (words_st (HE.out.below HBD.out) N HLN.out).mono ?_; rintro e w4 ⟨al, c4', rfl, hrw, _, hb⟩; (have HZ2 := Lib.hid (HBD.out.trans (hb.mono HBD.out.size))); (have HWM := Lib.hid hrw); clear hrw hb HBD; (have HBD := HZ2); clear HZ2) | (go_at_call 25; refine (same10 _ _ N _ _ ws _ HWM.out (HY.out _ HBD.out).2 HLN.out hN1).mono ?_; rintro e w5 ⟨rfl, hb⟩; (have HZ2 := Lib.hid (HBD.out.trans (hb.mono HBD.out.size))); clear hb HBD HWM; (have HBD := HZ2); clear HZ2))
              all_goals go_wp2
              all_goals go_ret
              all_goals exact ⟨rfl, (HE.out.below HBD.out).bel⟩

theorem exchangeSteps_walk (A : Option Addr) (N c : Nat) (zs : List Int) (B : Option Addr) (m cb : Nat) (F : Nat → PJob) (D : Option Addr) (t cd : Nat) (T : Nat → PTurn) (w : World) (h : IsRow .u64 w A N c zs) (hF : RdJob w B m F) (hT : RdTurn w D t T) :
    Calls Try.prog 6 #[.slice A N c, .slice B m cb, .slice D t cd] w fun e w' => e = .returned (.bool true) ∧ Below w.heap.size w w' := by
  obtain ⟨hr, hws, hv⟩ := h.rdU
  by_cases n1 : N ≤ 1024
  · by_cases h0 : m = 0
    · exact steps_near_none A N c B m cb D t cd w h.le hF.1 hT.1 _ hr hws hv n1 h0
    by_cases h1 : 20 < m
    · exact steps_near_many A N c B m cb D t cd w h.le hF.1 hT.1 _ hr hws hv n1 h1
    by_cases h2 : 200 < t
    · exact steps_near_long A N c B m cb D t cd w h.le hF.1 hT.1 _ hr hws hv n1 (by omega) (by omega) h2
    · exact steps_body A N c B m cb D t cd w h.le hF.1 hT.1 _ hr hws hv n1 (by omega) (by omega) (by omega) F T hF hT
  · by_cases h0 : m = 0
    · exact steps_far_none A N c B m cb D t cd w h.le hF.1 hT.1 (by omega) h0
    by_cases h1 : 20 < m
    · exact steps_far_many A N c B m cb D t cd w h.le hF.1 hT.1 (by omega) h1
    by_cases h2 : 200 < t
    · exact steps_far_long A N c B m cb D t cd w h.le hF.1 hT.1 (by omega) (by omega) (by omega) h2
    · exact steps_far_fine A N c B m cb D t cd w h.le hF.1 hT.1 (by omega) (by omega) (by omega) (by omega)
end Go.Proofs.Ytpkchlmoohmfeaa
