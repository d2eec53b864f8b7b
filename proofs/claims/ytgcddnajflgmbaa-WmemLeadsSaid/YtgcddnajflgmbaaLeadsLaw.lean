/-
  How notes, one behind the other, lead from the first words to the last ones.
-/
import Derived.Test.YtgcddnajflgmbaaView
namespace Go.Proofs.Ytgcddnajflgmbaa
open Go.RowKit Go.Proofs.YtgcddnajflgmbaaW.PrintWords
set_option linter.unusedVariables false
set_option linter.unusedSimpArgs false

def KindOk (a : Note) : Prop := a.kind = 108 ∧ a.new = a.old ∧ a.ok = true ∨ a.kind = 115 ∧ a.ok = true ∨ a.kind = 99 ∧ (a.ok = true ∨ a.new = a.old ∧ a.ok = false)
def nowAt (ws : List Int) (ns : List Note) (j : Nat) : List Int := (ns.take j).foldl (fun l a => l.set a.at_.toNat a.new) ws
theorem nowAt_len (ws : List Int) (ns : List Note) (j : Nat) : (nowAt ws ns j).length = ws.length := by
  unfold nowAt
  generalize ns.take j = l
  induction l generalizing ws with
  | nil => rfl
  | cons a l ih => simp [ih]
theorem nowAt_succ (ws : List Int) (ns : List Note) (j : Nat) (a : Note) (h : ns[j]? = some a) : nowAt ws ns (j + 1) = (nowAt ws ns j).set a.at_.toNat a.new := by
  unfold nowAt
  rw [List.take_add_one, h]
  simp [List.foldl_append]
theorem nowAt_snoc (ws : List Int) (ns : List Note) (a : Note) (j : Nat) (h : j ≤ ns.length) : nowAt ws (ns ++ [a]) j = nowAt ws ns j := by
  unfold nowAt
  rw [List.take_append_of_le_length h]
structure LeadsTo (ws0 : List Int) (ns : List Note) (ws : List Int) : Prop where
  each : ∀ (j : Nat) (a : Note), ns[j]? = some a → ∃ i : Nat, a.at_ = i ∧ i < ws0.length ∧ a.old = rdW (nowAt ws0 ns j) i ∧ KindOk a
  last : nowAt ws0 ns ns.length = ws
theorem LeadsTo.nil (ws : List Int) : LeadsTo ws [] ws := ⟨fun j a h => by simp at h, rfl⟩
theorem LeadsTo.step {ws0 ws ws' : List Int} {ns ns' : List Note} (h : LeadsTo ws0 ns ws) (s : Step ws ns ws' ns') : LeadsTo ws0 ns' ws' := by
  rcases s with ⟨rfl, rfl⟩ | ⟨i, a, hi, ha, ho, rfl, rfl, hk⟩
  · exact h
  · have hl : ws.length = ws0.length := by rw [← h.last, nowAt_len]
    refine ⟨fun j b hb => ?_, ?_⟩
    · rcases Nat.lt_or_ge j ns.length with hj | hj
      · rw [List.getElem?_append_left hj] at hb
        rw [nowAt_snoc _ _ _ _ (by omega)]
        exact h.each j b hb
      · have hj2 := (List.getElem?_eq_some_iff.1 hb).1
        simp at hj2
        obtain rfl : j = ns.length := by omega
        simp at hb
        subst hb
        exact ⟨i, ha, by omega, by rw [nowAt_snoc _ _ _ _ (Nat.le_refl _), h.last]; exact ho, hk⟩
    · rw [List.length_append, List.length_singleton, nowAt_succ _ _ _ a (by simp), nowAt_snoc _ _ _ _ (Nat.le_refl _), h.last, ha]
      rfl
theorem LeadsTo.none {ns : List Note} {ws : List Int} (h : LeadsTo [] ns ws) : ns = [] := by
  cases ns with
  | nil => rfl
  | cons a l => obtain ⟨i, _, hi, _⟩ := h.each 0 a rfl; simp at hi
/-- A row of words in block g, whose first n are 'now'. -/
def NowRow (w : World) (g : Nat) (now : List Int) : Prop := ∃ cur, w.heap[g]? = some (.cells cur 23 (0, 0)) ∧ cur.toList.take now.length = now.map (fun x => .int .u64 x)
theorem NowRow.cell {w : World} {g : Nat} {now : List Int} (h : NowRow w g now) {i : Nat} (hi : i < now.length) : w.cell? ⟨g, i, none⟩ = some (.int .u64 (rdW now i)) ∧ w.frozen? ⟨g, i, none⟩ = false ∧ g < w.heap.size := by
  obtain ⟨cur, hh, hc⟩ := h
  exact ⟨(cell_of hh i).trans (cur_at hc hi), free_of hh i, lt_of_heap hh⟩
theorem NowRow.set {w : World} {g i : Nat} {now : List Int} (h : NowRow w g now) (hi : i < now.length) (v : Int) : NowRow (w.setCell ⟨g, i, none⟩ (.int .u64 v)) g (now.set i v) := by
  obtain ⟨cur, hh, hc⟩ := h
  refine ⟨_, heap_set hh, ?_⟩
  rw [Array.setIfInBounds_def]
  split
  · rename_i hlt
    rw [Array.toList_set, List.length_set, take_set _ hi, hc, List.map_set]
  · rename_i hlt
    have : now.length ≤ cur.toList.length := by
      have := congrArg List.length hc
      simp at this
      simp
      omega
    simp at this
    omega
theorem NowRow.rdU {w : World} {g : Nat} {now : List Int} (h : NowRow w g now) : RdU w (some ⟨g, 0, none⟩) now := by
  obtain ⟨cur, hh, hc⟩ := h
  refine ⟨fun e => (by cases e), fun h0 => ⟨_, rfl, fun j u hu => ?_⟩⟩
  rw [add_zero', cell_of hh]
  rw [← hc] at hu
  have hj : j < now.length := by
    rcases Nat.lt_or_ge j now.length with h1 | h1
    · exact h1
    · rw [List.getElem?_take, if_neg (by omega)] at hu; cases hu
  rw [List.getElem?_take, if_pos hj] at hu
  simpa using hu
/-- All but block g is as it was. -/
structure But (g : Nat) (w w' : World) : Prop where
  str : Str w w'
  keep : ∀ b, b < w.heap.size → b ≠ g → w'.heap[b]? = w.heap[b]?
theorem But.refl (g : Nat) (w : World) : But g w w := ⟨Str.refl _, fun _ _ _ => rfl⟩
theorem But.trans {g : Nat} {a b c : World} (h : But g a b) (k : But g b c) : But g a c := ⟨h.str.trans k.str, fun x hx hg => (k.keep x (Nat.lt_of_lt_of_le hx h.str.size) hg).trans (h.keep x hx hg)⟩
theorem But.below {g : Nat} {a b : World} (h : Below a.heap.size a b) : But g a b := ⟨⟨h.os, h.tape, h.output, h.size⟩, fun x hx _ => h.block x hx⟩
theorem But.set {g i : Nat} {a : World} (v : Value) : But g a (a.setCell ⟨g, i, none⟩ v) := ⟨(Str.refl a).set _ _, fun x hx hg => heap_set_ne hg⟩
theorem But.fr {g : Nat} {a b : World} {o : Nat → Nat} (h : But g a b) (ho : o g = 3) : Fr o o (· = 3) a b := ⟨h.str, fun x hx ht => h.keep x hx (fun e => ht (by rw [e]; exact ho)), fun _ _ => rfl⟩
theorem NowRow.below {w w' : World} {g : Nat} {now : List Int} (h : NowRow w g now) (hb : Below w.heap.size w w') : NowRow w' g now := by
  obtain ⟨cur, hh, hc⟩ := h
  exact ⟨cur, (hb.block _ (lt_of_heap hh)).trans hh, hc⟩
theorem RdNotes.but {w w' : World} {A : Option Addr} {ms : List Note} {g : Nat} (h : RdNotes w A ms) (hb : But g w w') (hg : ∀ ad, A = some ad → ms ≠ [] → ad.block ≠ g) : RdNotes w' A ms := by
  intro j a ha
  obtain ⟨ad, rfl, hlt, hc⟩ := h j a ha
  have hne : ms ≠ [] := by rintro rfl; simp at ha
  refine ⟨ad, rfl, Nat.lt_of_lt_of_le hlt hb.str.size, fun t v ht => ?_⟩
  have e : (ad.add (j * 5 + t)).block = ad.block := by unfold Addr.add; split <;> rfl
  rw [World.cell?_of_block (w := w) (hb.keep _ (by rw [e]; exact hlt) (by rw [e]; exact hg ad rfl hne)), hc t v ht]
theorem own_from {w : World} {base n c : Nat} {e : TypeId} {A : Option Addr} {ms : List Note} (h : w.ownsRow base e 5 (.slice A n c) n (noteCells ms)) : ∀ ad, A = some ad → ms ≠ [] → base ≤ ad.block := by
  rintro ad rfl hne
  rcases h.2 with ⟨e1, e0⟩ | ⟨g, cap, cur, e1, hg0, _⟩
  · cases e1
  · simp only [Value.slice.injEq] at e1
    obtain ⟨e1, _, _⟩ := e1
    cases e1
    exact hg0
def LeadsRel (w : World) (p q i : Nat) (ws0 : List Int) (w' : World) : Prop := ∃ o ws ns, Duo w o w' p q ws ns ∧ ns.length ≤ i ∧ LeadsTo ws0 ns ws
/-- What holds in the second loop: the row 'now' is as far as the notes were played. -/
def LeadSt (w11 : World) (g j : Nat) (ws0 : List Int) (ns : List Note) (w' : World) : Prop := But g w11 w' ∧ NowRow w' g (nowAt ws0 ns j)
theorem bl_undrew {w w' : World} (h : Below w.drew.heap.size w.drew w') : Below w.heap.size w w' := ⟨h.os, h.tape, h.output, h.size, h.block⟩
theorem lead_next {w11 wr W : World} {g j n i : Nat} {ws : List Int} {ns : List Note} {k : Int} {old new : Int} {okb : Bool} (hb : But g w11 wr) (hw : Below wr.heap.size wr W) (hn : NowRow wr g (nowAt ws ns j)) (ha : ns[j]? = some ⟨k, i, old, new, okb⟩) (hi : i < (nowAt ws ns j).length) :
    LeadSt w11 g (j + 1) ws ns ((W.drewN n).setCell ⟨g, i, none⟩ (.int .u64 new)) := by
  have h1 : Below wr.heap.size wr (W.drewN n) := bl_drewN hw n
  refine ⟨(hb.trans (But.below h1)).trans (But.set _), ?_⟩
  rw [nowAt_succ _ _ _ _ ha]
  exact (hn.below h1).set hi new
theorem But.to_below {w wr w10 w11 w' : World} {g : Nat} (h : But g w11 w') (h1 : Below wr.heap.size wr w10) (h2 : Below w10.heap.size w10 w11) (h0 : Below w.heap.size w wr) (hg : wr.heap.size ≤ g) : Below w.heap.size w w' := by
  have s0 := h0.size
  have s1 := h1.size
  have s2 := h2.size
  refine (h0.trans ((h1.mono s0).trans (h2.mono (by omega)))).trans ⟨h.str.os, h.str.tape, h.str.output, h.str.size, fun b hb => h.keep b (by omega) (by omega)⟩
theorem mem_but {own : Nat → Nat} {t p g : Nat} {ws : List Int} {ns : List Note} {w w' : World} (h : IsMem own t w p ws ns) (ht : t ≠ 3) (hg : own g = 3) (hb : But g w w') : IsMem own t w' p ws ns := h.kept (hb.fr hg) ht
theorem made_row {own : Nat → Nat} {t p : Nat} {ws : List Int} {ns : List Note} {w w' : World} (h : IsMem own t w p ws ns) (hb : Below w.heap.size w w') : IsMem (fun b => if b < w.heap.size then own b else 3) t w' p ws ns := h.kept (Below.fr_new (own := own) (t := 3) hb) (fun h => h)
theorem now_own {w : World} {base n : Nat} {ws : List Int} {v : Value} (h : w.ownsRow base 23 1 v n (ws.map fun x => Value.int .u64 x)) (h0 : 0 < n) (hn : ws.length = n) : ∃ g cap, v = .slice (some ⟨g, 0, none⟩) n cap ∧ base ≤ g ∧ NowRow w g ws := by
  subst hn
  rcases h.2 with ⟨e1, e0⟩ | ⟨g, cap, cur, e1, hg0, hh, hc1, hc2, hc3, hc4⟩
  · omega
  · exact ⟨g, cap, e1, hg0, cur, hh, by rw [Nat.mul_one] at hc4; exact hc4⟩
end Go.Proofs.Ytgcddnajflgmbaa
