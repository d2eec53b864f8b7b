/-
  The methods of a memory: what each tells, and what it leaves of the memory.
-/
import Derived.Test.YtdhkppijeocaoaaClone
namespace Go.Proofs.Ytdhkppijeocaoaa
open Go.RowKit
set_option linter.unusedVariables false
set_option linter.unusedSimpArgs false

def rdW (ws : List Int) (i : Nat) : Int := ws.getD i 0
theorem cur_at {cur : Array Value} {ws : List Int} (h : cur.toList.take ws.length = ws.map (fun x => .int .u64 x)) {i : Nat} (hi : i < ws.length) : cur[i]? = some (.int .u64 (rdW ws i)) := by
  have h1 : (cur.toList.take ws.length)[i]? = some (.int .u64 (rdW ws i)) := by
    rw [h, List.getElem?_map, List.getElem?_eq_getElem hi]
    simp [rdW, hi]
  rw [List.getElem?_take, if_pos hi] at h1
  simpa using h1
theorem set_self {ws : List Int} {i : Nat} (hi : i < ws.length) : ws.set i (rdW ws i) = ws := by
  have : rdW ws i = ws[i] := by simp [rdW, hi]
  rw [this, List.set_getElem_self]
theorem rdW_rng {ws : List Int} (h : ∀ x ∈ ws, 0 ≤ x ∧ x < 18446744073709551616) {i : Nat} (hi : i < ws.length) : 0 ≤ rdW ws i ∧ rdW ws i < 18446744073709551616 := by
  have : rdW ws i = ws[i] := by simp [rdW, hi]
  rw [this]
  exact h _ (List.getElem_mem hi)

/-- What is asked of a memory to be accessed at place i. -/
structure At (own : Nat → Nat) (t : Nat) (w : World) (p : Nat) (ws : List Int) (ns : List Note) (g c : Nat) (nv : Value) (cur : Array Value) : Prop where
  hP : w.heap[p]? = some (.cells #[.slice (some ⟨g, 0, none⟩) ws.length c, nv] 82 (0, 0))
  hn : w.ownsRow 0 115 5 nv ns.length (noteCells ns)
  hb : ∀ b, nv.ownBlock = some b → own b = t ∧ b ≠ p
  hg : own g = t
  hpg : p ≠ g
  hG : w.heap[g]? = some (.cells cur 41 (0, 0))
  hcur : cur.toList.take ws.length = ws.map (fun x => .int .u64 x)
  hng : nv.ownBlock ≠ some g
theorem At.np {own : Nat → Nat} {t : Nat} {w : World} {p : Nat} {ws : List Int} {ns : List Note} {g c : Nat} {nv : Value} {cur : Array Value} (a : At own t w p ws ns g c nv cur) : nv.ownBlock ≠ some p := fun e => (a.hb p e).2 rfl
theorem IsMem.at_ {own : Nat → Nat} {t : Nat} {w : World} {p : Nat} {ws : List Int} {ns : List Note} (h : IsMem own t w p ws ns) {i : Nat} (hi : i < ws.length) : ∃ g c nv cur, At own t w p ws ns g c nv cur := by
  obtain ⟨A, c, nv, hP, hn, hb, hg⟩ := h.body
  rcases hg with e | ⟨g, cur, rfl, e2, e3, e4, e5, e6⟩
  · subst e; cases hi
  · exact ⟨g, c, nv, cur, hP, hn, hb, e2, e3, e4, e5, e6⟩
theorem At.after {own : Nat → Nat} {t : Nat} {w w' : World} {p : Nat} {ws : List Int} {ns : List Note} {g c : Nat} {nv : Value} {cur : Array Value} (a : At own t w p ws ns g c nv cur) (h : IsMem own t w p ws ns) {i : Nat} (hi : i < ws.length) {x : Int} {nt : Note} (x0 : 0 ≤ x) (x1 : x < 18446744073709551616)
    (post : AccPost w w' p g (.slice (some ⟨g, 0, none⟩) ws.length c) nv cur ns.length (noteCells ns) i (.int .u64 x) nt.cells) : ∃ own', Fr own own' (· = t) w w' ∧ IsMem own' t w' p (ws.set i x) (ns ++ [nt]) :=
  h.acc a.hn a.hb a.hg (lt_of_heap a.hG) (lt_of_heap a.hP) a.hpg a.hng a.hcur hi x0 x1 post
/-- What a method that accesses leaves. -/
def MemPost (own : Nat → Nat) (t : Nat) (w : World) (p : Nat) (ws : List Int) (ns : List Note) (w' : World) : Prop := ∃ own', Fr own own' (· = t) w w' ∧ IsMem own' t w' p ws ns
theorem MemPost.below {own : Nat → Nat} {t : Nat} {w w1 w2 : World} {p : Nat} {ws : List Int} {ns : List Note} (h : MemPost own t w p ws ns w1) (b : Below w1.heap.size w1 w2) : MemPost own t w p ws ns w2 := by
  obtain ⟨o, f, m⟩ := h
  exact ⟨o, f.trans (Fr.below b), m.below b⟩

set_option maxHeartbeats 1000000 in
theorem load_in (own : Nat → Nat) (t p : Nat) (ws : List Int) (ns : List Note) (i : Nat) (w : World) (h : IsMem own t w p ws ns) (hi : i < ws.length) (hk : ns.length ≤ 1000000000000) :
    Calls Try.prog 50 #[.pointer (some ⟨p, 0, none⟩), .int .i64 i] w fun e w' => e = .returned (.tuple #[.int .u64 (rdW ws i), .int .i64 0]) ∧ MemPost own t w p ws (ns ++ [⟨108, i, rdW ws i, rdW ws i, true⟩]) w' := by
  obtain ⟨g, c, nv, cur, a⟩ := h.at_ hi
  have hl := h.len
  have hx := rdW_rng h.rng hi
  have HA := Lib.hid (acc_load p g ws.length c nv cur ns.length (noteCells ns) i (rdW ws i) w a.hP a.hG (cur_at a.hcur hi) hi (by omega) a.hpg a.hn a.np a.hng hk)
  go_enter Try.func50, Try.ntmps50
  go_wp2_with (go_at_call 56; refine HA.out.mono ?_; rintro e w' ⟨rfl, hp⟩; (have HP := Lib.hid hp); clear hp)
  go_ret2
  refine ⟨rfl, ?_⟩
  have h1 : MemPost own t w p ws (ns ++ [⟨108, i, rdW ws i, rdW ws i, true⟩]) w' := by
    have := a.after h hi (nt := ⟨108, i, rdW ws i, rdW ws i, true⟩) hx.1 hx.2 HP.out
    rw [set_self hi] at this
    exact this
  exact h1.below (by repeat (first | exact bl_refl _ | refine bl_alloc ?_ _ | refine bl_drew ?_))

set_option maxHeartbeats 1000000 in
theorem store_in (own : Nat → Nat) (t p : Nat) (ws : List Int) (ns : List Note) (i : Nat) (v : Int) (w : World) (h : IsMem own t w p ws ns) (hi : i < ws.length) (hk : ns.length ≤ 1000000000000) (v0 : 0 ≤ v) (v1 : v < 18446744073709551616) :
    Calls Try.prog 59 #[.pointer (some ⟨p, 0, none⟩), .int .i64 i, .int .u64 v] w fun e w' => e = .returned (.int .i64 0) ∧ MemPost own t w p (ws.set i v) (ns ++ [⟨115, i, rdW ws i, v, true⟩]) w' := by
  obtain ⟨g, c, nv, cur, a⟩ := h.at_ hi
  have hl := h.len
  have HA := Lib.hid (acc_store p g ws.length c nv cur ns.length (noteCells ns) i (rdW ws i) v w a.hP a.hG (cur_at a.hcur hi) hi (by omega) a.hpg a.hn a.np a.hng hk)
  have HV0 := Lib.hid v0
  have HV1 := Lib.hid v1
  clear v0 v1
  go_enter Try.func59, Try.ntmps59
  go_wp2_with (go_at_call 56; refine HA.out.mono ?_; rintro e w' ⟨rfl, hp⟩; (have HP := Lib.hid hp); clear hp)
  go_ret
  refine ⟨rfl, ?_⟩
  have h1 : MemPost own t w p (ws.set i v) (ns ++ [⟨115, i, rdW ws i, v, true⟩]) w' := a.after h hi (nt := ⟨115, i, rdW ws i, v, true⟩) HV0.out HV1.out HP.out
  exact h1.below (by repeat (first | exact bl_refl _ | refine bl_alloc ?_ _ | refine bl_drew ?_))

set_option maxHeartbeats 1000000 in
theorem swap_in (own : Nat → Nat) (t p : Nat) (ws : List Int) (ns : List Note) (i : Nat) (v : Int) (w : World) (h : IsMem own t w p ws ns) (hi : i < ws.length) (hk : ns.length ≤ 1000000000000) (v0 : 0 ≤ v) (v1 : v < 18446744073709551616) :
    Calls Try.prog 61 #[.pointer (some ⟨p, 0, none⟩), .int .i64 i, .int .u64 (rdW ws i), .int .u64 v] w fun e w' => e = .returned (.tuple #[.bool true, .int .i64 0]) ∧ MemPost own t w p (ws.set i v) (ns ++ [⟨99, i, rdW ws i, v, true⟩]) w' := by
  obtain ⟨g, c, nv, cur, a⟩ := h.at_ hi
  have hl := h.len
  have HA := Lib.hid (acc_swap p g ws.length c nv cur ns.length (noteCells ns) i (rdW ws i) v w a.hP a.hG (cur_at a.hcur hi) hi (by omega) a.hpg a.hn a.np a.hng hk)
  have HV0 := Lib.hid v0
  have HV1 := Lib.hid v1
  clear v0 v1
  go_enter Try.func61, Try.ntmps61
  go_wp2_with (go_at_call 56; refine HA.out.mono ?_; rintro e w' ⟨rfl, hp⟩; (have HP := Lib.hid hp); clear hp)
  go_ret2
  refine ⟨rfl, ?_⟩
  have h1 : MemPost own t w p (ws.set i v) (ns ++ [⟨99, i, rdW ws i, v, true⟩]) w' := a.after h hi (nt := ⟨99, i, rdW ws i, v, true⟩) HV0.out HV1.out HP.out
  exact h1.below (by repeat (first | exact bl_refl _ | refine bl_alloc ?_ _ | refine bl_drew ?_))

set_option maxHeartbeats 1000000 in
theorem swap_miss (own : Nat → Nat) (t p : Nat) (ws : List Int) (ns : List Note) (i : Nat) (old v : Int) (w : World) (h : IsMem own t w p ws ns) (hi : i < ws.length) (hk : ns.length ≤ 1000000000000) (hne : (rdW ws i == old) = false) :
    Calls Try.prog 61 #[.pointer (some ⟨p, 0, none⟩), .int .i64 i, .int .u64 old, .int .u64 v] w fun e w' => e = .returned (.tuple #[.bool false, .int .i64 0]) ∧ MemPost own t w p ws (ns ++ [⟨99, i, rdW ws i, rdW ws i, false⟩]) w' := by
  obtain ⟨g, c, nv, cur, a⟩ := h.at_ hi
  have hl := h.len
  have hx := rdW_rng h.rng hi
  have HA := Lib.hid (acc_miss p g ws.length c nv cur ns.length (noteCells ns) i (rdW ws i) old v w a.hP a.hG (cur_at a.hcur hi) hi (by omega) a.hpg a.hn a.np a.hng hk hne)
  clear hne
  go_enter Try.func61, Try.ntmps61
  go_wp2_with (go_at_call 56; refine HA.out.mono ?_; rintro e w' ⟨rfl, hp⟩; (have HP := Lib.hid hp); clear hp)
  go_ret2
  refine ⟨rfl, ?_⟩
  have h1 : MemPost own t w p ws (ns ++ [⟨99, i, rdW ws i, rdW ws i, false⟩]) w' := by
    have := a.after h hi (nt := ⟨99, i, rdW ws i, rdW ws i, false⟩) hx.1 hx.2 HP.out
    rw [set_self hi] at this
    exact this
  exact h1.below (by repeat (first | exact bl_refl _ | refine bl_alloc ?_ _ | refine bl_drew ?_))

set_option maxHeartbeats 1000000 in
theorem count_any (own : Nat → Nat) (t p : Nat) (ws : List Int) (ns : List Note) (w : World) (h : IsMem own t w p ws ns) :
    Calls Try.prog 22 #[.pointer (some ⟨p, 0, none⟩)] w fun e w' => e = .returned (.int .i64 ns.length) ∧ w' = w := by
  obtain ⟨A, c, nv, hP, hn, hb, hg⟩ := h.body
  obtain ⟨c0, c1, _, _⟩ := cells2 hP
  rcases hn.2 with ⟨rfl, e0⟩ | ⟨g, cap, cur, rfl, _, _, _, _, _, _⟩
  · have H0 := Lib.hid e0
    clear e0 hb hg hP hn h
    go_enter Try.func22, Try.ntmps22
    go_wp2
    go_ret
    exact ⟨by rw [H0.out]; rfl, rfl⟩
  · clear hb hg hP hn h
    go_enter Try.func22, Try.ntmps22
    go_wp2
    go_ret
    exact ⟨rfl, rfl⟩
end Go.Proofs.Ytdhkppijeocaoaa
