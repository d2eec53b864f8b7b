/-
  taglist's machines as machines of numbers: Take's Step and Give's Step do the same.
-/
import Derived.Test.YtgfeagggkplegaaGreatTlS
import Derived.Test.YtgfeagggkplegaaGreatNoteN
namespace Go.Proofs.YtgfeagggkplegaaGreat
open Go.RowKit
set_option linter.unusedVariables false
set_option linter.unusedSimpArgs false

/-- What comes next: the first step, the second one, or the last one with the word that was loaded. -/
inductive TPh where
  | first
  | second
  | last (x : Int)
structure TM where
  n : Int
  s : Int
  h : Int
  t : Int
  at_ : Int
  i : Int
  w : Int
  give : Bool
  ph : TPh
  st : Int
structure TOut where
  r : Int
  S : TM
  ws : List Int
  nt : List Note
def TM.nx (S : TM) : Int := atI S.n S.s S.h 0 (2 * (S.i - 1))
def TM.told (S : TM) (r : Int) : Int := if r = 1 then S.i else 0
def TM.head (S : TM) (ws : List Int) : TOut :=
  if S.give = true then
    if S.nx < 0 then ⟨5, { S with st := 5 }, ws, []⟩
    else if S.at_ < 0 ∨ (ws.length : Int) ≤ S.at_ then ⟨5, { S with st := 5 }, ws, []⟩
    else ⟨0, { S with w := rdW ws S.at_.toNat, ph := .second }, ws, [ldN S.at_.toNat (rdW ws S.at_.toNat)]⟩
  else if S.at_ < 0 ∨ (ws.length : Int) ≤ S.at_ then ⟨5, { S with w := 0, i := 0, st := 5 }, ws, []⟩
  else
    let y := rdW ws S.at_.toNat
    if y % 4294967296 = 0 then ⟨2, { S with w := y, i := 0, st := 2 }, ws, [ldN S.at_.toNat y]⟩
    else if atI S.n S.s S.h 0 (2 * (y % 4294967296 - 1)) < 0 then ⟨5, { S with w := y, i := y % 4294967296, st := 5 }, ws, [ldN S.at_.toNat y]⟩
    else ⟨0, { S with w := y, i := y % 4294967296, ph := .second }, ws, [ldN S.at_.toNat y]⟩
def TM.second (S : TM) (ws : List Int) : TOut :=
  if (ws.length : Int) ≤ S.nx then ⟨5, { S with st := 5 }, ws, []⟩
  else
    let y := rdW ws S.nx.toNat
    if S.give = true then ⟨0, { S with ph := .last 0 }, ws.set S.nx.toNat (S.w % 4294967296), [stN S.nx.toNat y (S.w % 4294967296)]⟩
    else ⟨0, { S with ph := .last y }, ws, [ldN S.nx.toNat y]⟩
/-- The node that comes first then. -/
def TM.fst (S : TM) (x : Int) : Int := if S.give = true then S.i else x % 4294967296
def TM.last (S : TM) (x : Int) (ws : List Int) : TOut :=
  let y := rdW ws S.at_.toNat
  if y = S.w then ⟨1, { S with st := 1 }, ws.set S.at_.toNat (nextW S.w (S.fst x)), [swN S.at_.toNat y (nextW S.w (S.fst x))]⟩
  else ⟨3, { S with st := 3 }, ws, [noN S.at_.toNat y]⟩
def TM.step (S : TM) (ws : List Int) : TOut :=
  if S.st ≠ 0 then ⟨S.st, S, ws, []⟩
  else match S.ph with
  | .first => S.head ws
  | .second => S.second ws
  | .last x => S.last x ws
/-- Numbers that fit, in a memory of N words. -/
structure TM.ok (S : TM) (N : Nat) : Prop where
  i0 : 0 ≤ S.i
  i1 : S.i < 4294967296
  w0 : 0 ≤ S.w
  w1 : S.w < 18446744073709551616
  pl : S.ph ≠ .first → 0 ≤ S.at_ ∧ S.at_ < N
  sec : S.ph = .second → 0 ≤ S.nx
  lst : ∀ x, S.ph = .last x → 0 ≤ x ∧ x < 18446744073709551616
theorem TM.step_len (S : TM) (ws : List Int) : (S.step ws).ws.length = ws.length := by
  unfold TM.step TM.head TM.second TM.last
  dsimp only
  repeat' split
  all_goals first | rfl | simp
theorem TM.step_ok {S : TM} {ws : List Int} (h : S.ok ws.length) (hr : ∀ i, i < ws.length → 0 ≤ rdW ws i ∧ rdW ws i < 18446744073709551616) : (S.step ws).S.ok ws.length := by
  unfold TM.step
  split
  · exact h
  rename_i hst
  split
  · rename_i e
    unfold TM.head
    split
    · split
      · exact ⟨h.i0, h.i1, h.w0, h.w1, h.pl, h.sec, h.lst⟩
      split
      · exact ⟨h.i0, h.i1, h.w0, h.w1, h.pl, h.sec, h.lst⟩
      · rename_i c1 c2
        have := hr S.at_.toNat (by omega)
        exact ⟨h.i0, h.i1, this.1, this.2, fun _ => by show 0 ≤ S.at_ ∧ S.at_ < _; omega, fun _ => by show 0 ≤ S.nx; omega, fun x e => by cases e⟩
    split
    · exact ⟨Int.le_refl _, by show (0 : Int) < _; decide, Int.le_refl _, by show (0 : Int) < _; decide, fun c => absurd e c, fun c => by rw [show S.ph = .second from c] at e; (cases e), fun x c => by rw [show S.ph = .last x from c] at e; (cases e)⟩
    · rename_i c1
      have h1 := hr S.at_.toNat (by omega)
      dsimp only
      split
      · exact ⟨Int.le_refl _, by show (0 : Int) < _; decide, h1.1, h1.2, fun c => absurd e c, fun c => by rw [show S.ph = .second from c] at e; (cases e), fun x c => by rw [show S.ph = .last x from c] at e; (cases e)⟩
      split
      · exact ⟨by show 0 ≤ rdW ws S.at_.toNat % 4294967296; omega, by show rdW ws S.at_.toNat % 4294967296 < _; omega, h1.1, h1.2, fun c => absurd e c, fun c => by rw [show S.ph = .second from c] at e; (cases e), fun x c => by rw [show S.ph = .last x from c] at e; (cases e)⟩
      · rename_i c2 c3
        exact ⟨by show 0 ≤ rdW ws S.at_.toNat % 4294967296; omega, by show rdW ws S.at_.toNat % 4294967296 < _; omega, h1.1, h1.2, fun _ => by show 0 ≤ S.at_ ∧ S.at_ < _; omega, fun _ => by show 0 ≤ atI S.n S.s S.h 0 (2 * (rdW ws S.at_.toNat % 4294967296 - 1)); omega, fun x e => by cases e⟩
  · rename_i e
    unfold TM.second
    split
    · exact ⟨h.i0, h.i1, h.w0, h.w1, h.pl, h.sec, h.lst⟩
    · rename_i c1
      have h0 := h.sec e
      have h2 := h.pl (by rw [e]; simp)
      have h1 := hr S.nx.toNat (by omega)
      dsimp only
      split
      · exact ⟨h.i0, h.i1, h.w0, h.w1, fun _ => h2, fun c => (by cases c), fun x c => by cases c; exact ⟨Int.le_refl _, by decide⟩⟩
      · exact ⟨h.i0, h.i1, h.w0, h.w1, fun _ => h2, fun c => (by cases c), fun x c => by cases c; exact h1⟩
  · rename_i x e
    unfold TM.last
    dsimp only
    split
    · exact ⟨h.i0, h.i1, h.w0, h.w1, h.pl, h.sec, h.lst⟩
    · exact ⟨h.i0, h.i1, h.w0, h.w1, h.pl, h.sec, h.lst⟩

/-- A machine in the heap. -/
def tlA (p : Nat) (S : TM) : Asn :=
  match S.give, S.ph with
  | false, .first => tlB 180 p S.n S.s S.h S.t S.at_ S.i S.w (.func (.func 87) #[.pointer (some ⟨p, 0, none⟩)] #[]) S.st
  | false, .second => tlB 180 p S.n S.s S.h S.t S.at_ S.i S.w (.func (.func 107) #[.pointer (some ⟨p, 0, none⟩)] #[]) S.st
  | false, .last x => exA fun b : Nat × Nat => starA [tlB 180 p S.n S.s S.h S.t S.at_ S.i S.w (.func (.func 133) #[] #[.pointer (some ⟨b.1, 0, none⟩), .pointer (some ⟨b.2, 0, none⟩)]) S.st, bxTk b.1 p, bxW b.2 x]
  | true, .first => tlB 250 p S.n S.s S.h S.t S.at_ S.i S.w (.func (.func 159) #[.pointer (some ⟨p, 0, none⟩)] #[]) S.st
  | true, .second => tlB 250 p S.n S.s S.h S.t S.at_ S.i S.w (.func (.func 176) #[.pointer (some ⟨p, 0, none⟩)] #[]) S.st
  | true, .last _ => exA fun b : Nat => starA [tlB 250 p S.n S.s S.h S.t S.at_ S.i S.w (.func (.func 180) #[] #[.pointer (some ⟨b, 0, none⟩)]) S.st, bxGv b p]
theorem St.tri {w0 w : World} {m a b c : Asn} {l : List Asn} (h : St w0 (m :: a :: b :: c :: l) w) : St w0 (m :: starA [a, b, c] :: l) w := by
  have h1 : St w0 ([a, b, c] ++ m :: l) w := h.perm ((List.Perm.swap a m _).trans (((List.Perm.swap b m _).trans ((List.Perm.swap c m _).cons b)).cons a))
  exact h1.star.swap
theorem St.untri {w0 w : World} {m a b c : Asn} {l : List Asn} (h : St w0 (m :: starA [a, b, c] :: l) w) : St w0 (m :: a :: b :: c :: l) w := by
  have h1 : St w0 ([a, b, c] ++ m :: l) w := h.swap.unstar
  exact h1.perm ((List.Perm.swap a m _).trans (((List.Perm.swap b m _).trans ((List.Perm.swap c m _).cons b)).cons a)).symm
theorem St.two {w0 w : World} {m a b : Asn} {l : List Asn} (h : St w0 (m :: a :: b :: l) w) : St w0 (m :: starA [a, b] :: l) w := by
  have h1 : St w0 ([a, b] ++ m :: l) w := h.perm ((List.Perm.swap a m _).trans ((List.Perm.swap b m _).cons a))
  exact h1.star.swap
theorem St.untwo {w0 w : World} {m a b : Asn} {l : List Asn} (h : St w0 (m :: starA [a, b] :: l) w) : St w0 (m :: a :: b :: l) w := by
  have h1 : St w0 ([a, b] ++ m :: l) w := h.swap.unstar
  exact h1.perm ((List.Perm.swap a m _).trans ((List.Perm.swap b m _).cons a)).symm
theorem St.ex2 {w0 w : World} {α : Type} {m : Asn} {f : α → Asn} {l : List Asn} (h : St w0 (m :: exA f :: l) w) : ∃ x, St w0 (m :: f x :: l) w := by
  obtain ⟨x, hx⟩ := h.swap.ex
  exact ⟨x, hx.swap⟩
theorem St.unex2 {w0 w : World} {α : Type} {m : Asn} {f : α → Asn} {l : List Asn} (x : α) (h : St w0 (m :: f x :: l) w) : St w0 (m :: exA f :: l) w := (h.swap.unex x).swap
theorem tlA_last {w0 w : World} {m : Asn} {l : List Asn} {p b1 b2 : Nat} {n s h t a i x z st : Int}
    (hS : St w0 (m :: tlB 180 p n s h t a i x (.func (.func 133) #[] #[.pointer (some ⟨b1, 0, none⟩), .pointer (some ⟨b2, 0, none⟩)]) st :: bxTk b1 p :: bxW b2 z :: l) w) : St w0 (m :: tlA p ⟨n, s, h, t, a, i, x, false, .last z, st⟩ :: l) w := hS.tri.unex2 (b1, b2)
theorem glA_last {w0 w : World} {m : Asn} {l : List Asn} {p b1 : Nat} {n s h t a i x z st : Int}
    (hS : St w0 (m :: tlB 250 p n s h t a i x (.func (.func 180) #[] #[.pointer (some ⟨b1, 0, none⟩)]) st :: bxGv b1 p :: l) w) : St w0 (m :: tlA p ⟨n, s, h, t, a, i, x, true, .last z, st⟩ :: l) w := hS.two.unex2 b1
theorem tlA_open {w0 w : World} {m : Asn} {l : List Asn} {p : Nat} {S : TM} (h : St w0 (m :: tlA p S :: l) w) :
    ∃ nx X, St w0 (m :: tlB (if S.give = true then 250 else 180) p S.n S.s S.h S.t S.at_ S.i S.w nx S.st :: (X ++ l)) w ∧ ∀ w1 w' m', St w1 (m' :: tlB (if S.give = true then 250 else 180) p S.n S.s S.h S.t S.at_ S.i S.w nx S.st :: (X ++ l)) w' → St w1 (m' :: tlA p S :: l) w' := by
  obtain ⟨n, s, hh, t, a, i, x, give, ph, st⟩ := S
  cases give <;> cases ph with
  | first => exact ⟨_, [], h, fun _ _ _ k => k⟩
  | second => exact ⟨_, [], h, fun _ _ _ k => k⟩
  | last z =>
    obtain ⟨b, h1⟩ := h.ex2
    first
      | exact ⟨_, [bxTk b.1 p, bxW b.2 z], h1.untri, fun _ _ _ k => k.tri.unex2 b⟩
      | exact ⟨_, [bxGv b p], h1.untwo, fun _ _ _ k => k.two.unex2 b⟩
/-- What a step leaves. -/
def TlPost (w0 : World) (q p : Nat) (ns : List Note) (L : List Asn) (o : TOut) (e : Ending) (w' : World) : Prop :=
  e = .returned (.tuple #[.int .i64 o.r, .int .u32 (o.S.told o.r)]) ∧ St w0 (memA q o.ws (ns ++ o.nt) :: tlA p o.S :: L) w'
theorem take_step {w0 w : World} {q p : Nat} {ws : List Int} {ns : List Note} {L : List Asn} {S : TM} (hg : S.give = false) (h : St w0 (memA q ws ns :: tlA p S :: L) w) (hok : S.ok ws.length) (hk : ns.length ≤ 1000000000000) :
    Calls Tryz.prog 215 #[.pointer (some ⟨p, 0, none⟩), .pointer (some ⟨q, 0, none⟩)] w (TlPost w0 q p ns L (S.step ws)) := by
  refine tk_wrap p q _ _ _ w ?_
  by_cases hst : S.st ≠ 0
  · obtain ⟨nx, X, h1, h2⟩ := tlA_open h
    have e : S.step ws = ⟨S.st, S, ws, []⟩ := by simp [TM.step, hst]
    rw [e]
    rw [if_neg (by simp [hg])] at h1 h2
    refine (tk_step_over S.n S.s S.h S.t S.at_ S.i S.w S.st nx _ h1 hst rfl).mono fun e w' k => ⟨k.1, ?_⟩
    show St w0 (memA q ws (ns ++ []) :: tlA p S :: L) w'
    rw [List.append_nil]
    exact h2 _ _ _ k.2
  obtain ⟨i0, i1, x0, x1, hpl, hsec, hlst⟩ := hok
  obtain ⟨n, s, hh, t, a, i, x, give, ph, st⟩ := S
  dsimp only at hg hst i0 i1 x0 x1 hpl hsec hlst
  obtain rfl : st = 0 := by simpa using hst
  subst hg
  clear hst
  cases ph with
  | first =>
    by_cases ha : a < 0 ∨ (ws.length : Int) ≤ a
    · have e : TM.step ⟨n, s, hh, t, a, i, x, false, .first, 0⟩ ws = ⟨5, ⟨n, s, hh, t, a, 0, 0, false, .first, 5⟩, ws, []⟩ := by simp [TM.step, TM.head, ha]
      rw [e]
      refine (tk_step_head n s hh t a i x 0 0 5 _ (fun nx' L' => nx' = .func (.func 87) #[.pointer (some ⟨p, 0, none⟩)] #[] ∧ L' = L) h rfl ((tk_head_out n s hh t a i x 0 _ h ha).mono fun e w' k => ⟨k.1, _, _, ⟨rfl, rfl⟩, k.2⟩)).mono fun e w' k => ⟨k.1, ?_⟩
      obtain ⟨nx', L', ⟨rfl, rfl⟩, k2⟩ := k.2
      show St w0 (memA q ws (ns ++ []) :: _) w'
      rw [List.append_nil]
      exact k2
    obtain ⟨a, rfl⟩ := Int.eq_ofNat_of_zero_le (show 0 ≤ a by omega)
    have ha' : a < ws.length := by omega
    obtain ⟨y, hy⟩ : ∃ y, rdW ws a = y := ⟨_, rfl⟩
    by_cases hz : y % 4294967296 = 0
    · have e : TM.step ⟨n, s, hh, t, a, i, x, false, .first, 0⟩ ws = ⟨2, ⟨n, s, hh, t, a, 0, y, false, .first, 2⟩, ws, [ldN a y]⟩ := by simp [TM.step, TM.head, ha, ha', hy, hz]
      rw [e]
      refine (tk_step_head n s hh t a i x 0 y 2 _ (fun nx' L' => nx' = .func (.func 87) #[.pointer (some ⟨p, 0, none⟩)] #[] ∧ L' = L) h rfl ((tk_head_none n s hh t i x 0 _ a y h hk ha' hy hz).mono fun e w' k => ⟨k.1, _, _, ⟨rfl, rfl⟩, k.2⟩)).mono fun e w' k => ⟨k.1, ?_⟩
      obtain ⟨nx', L', ⟨rfl, rfl⟩, k2⟩ := k.2
      exact k2
    by_cases hv : atI n s hh 0 (2 * (y % 4294967296 - 1)) < 0
    · have e : TM.step ⟨n, s, hh, t, a, i, x, false, .first, 0⟩ ws = ⟨5, ⟨n, s, hh, t, a, y % 4294967296, y, false, .first, 5⟩, ws, [ldN a y]⟩ := by simp [TM.step, TM.head, ha, ha', hy, hz, hv]
      rw [e]
      refine (tk_step_head n s hh t a i x (y % 4294967296) y 5 _ (fun nx' L' => nx' = .func (.func 87) #[.pointer (some ⟨p, 0, none⟩)] #[] ∧ L' = L) h rfl ((tk_head_bad n s hh t i x 0 _ a y _ _ h hk ha' hy rfl hz rfl hv).mono fun e w' k => ⟨k.1, _, _, ⟨rfl, rfl⟩, k.2⟩)).mono fun e w' k => ⟨k.1, ?_⟩
      obtain ⟨nx', L', ⟨rfl, rfl⟩, k2⟩ := k.2
      exact k2
    · have e : TM.step ⟨n, s, hh, t, a, i, x, false, .first, 0⟩ ws = ⟨0, ⟨n, s, hh, t, a, y % 4294967296, y, false, .second, 0⟩, ws, [ldN a y]⟩ := by simp [TM.step, TM.head, ha, ha', hy, hz, hv]
      rw [e]
      refine (tk_step_head n s hh t a i x (y % 4294967296) y 0 _ (fun nx' L' => nx' = .func (.func 107) #[.pointer (some ⟨p, 0, none⟩)] #[] ∧ L' = L) h rfl ((tk_head_ok n s hh t i x 0 _ a y _ _ h hk ha' hy rfl hz rfl (by omega)).mono fun e w' k => ⟨k.1, _, _, ⟨rfl, rfl⟩, k.2⟩)).mono fun e w' k => ⟨k.1, ?_⟩
      obtain ⟨nx', L', ⟨rfl, rfl⟩, k2⟩ := k.2
      exact k2
  | second =>
    have hn0 := hsec rfl
    unfold TM.nx at hn0
    dsimp only at hn0
    obtain ⟨j, hj⟩ := Int.eq_ofNat_of_zero_le hn0
    by_cases c : ws.length ≤ j
    · have c' : (ws.length : Int) ≤ atI n s hh 0 (2 * (i - 1)) := by omega
      have e : TM.step ⟨n, s, hh, t, a, i, x, false, .second, 0⟩ ws = ⟨5, ⟨n, s, hh, t, a, i, x, false, .second, 5⟩, ws, []⟩ := by simp [TM.step, TM.second, TM.nx, c']
      rw [e]
      refine (tk_step_second n s hh t a i x i x 5 _ (fun nx' L' => nx' = .func (.func 107) #[.pointer (some ⟨p, 0, none⟩)] #[] ∧ L' = L) h rfl ((tk_second_out n s hh t a i x 0 _ _ h hk i0 i1 rfl c').mono fun e w' k => ⟨k.1, _, _, ⟨rfl, rfl⟩, k.2⟩)).mono fun e w' k => ⟨k.1, ?_⟩
      obtain ⟨nx', L', ⟨rfl, rfl⟩, k2⟩ := k.2
      show St w0 (memA q ws (ns ++ []) :: _) w'
      rw [List.append_nil]
      exact k2
    · have c' : ¬ (ws.length : Int) ≤ (j : Int) := by omega
      obtain ⟨y, hy⟩ : ∃ y, rdW ws j = y := ⟨_, rfl⟩
      have e : TM.step ⟨n, s, hh, t, a, i, x, false, .second, 0⟩ ws = ⟨0, ⟨n, s, hh, t, a, i, x, false, .last y, 0⟩, ws, [ldN j y]⟩ := by simp [TM.step, TM.second, TM.nx, hj, c, hy]
      rw [e]
      refine (tk_step_second n s hh t a i x i x 0 _ (fun nx' L' => ∃ b1 b2, nx' = .func (.func 133) #[] #[.pointer (some ⟨b1, 0, none⟩), .pointer (some ⟨b2, 0, none⟩)] ∧ L' = bxTk b1 p :: bxW b2 y :: L) h rfl ((tk_second_ok n s hh t a i x 0 _ j y h hk i0 i1 hj (by omega) hy).mono fun e w' k => ⟨k.1, by obtain ⟨b1, b2, k2⟩ := k.2; exact ⟨_, _, ⟨b1, b2, rfl, rfl⟩, k2⟩⟩)).mono fun e w' k => ⟨k.1, ?_⟩
      obtain ⟨nx', L', ⟨b1, b2, rfl, rfl⟩, k2⟩ := k.2
      exact tlA_last k2
  | last z =>
    obtain ⟨⟨b1, b2⟩, h1⟩ := h.ex2
    have h2 := h1.untri
    have hp := hpl (by simp)
    have hz := hlst z rfl
    obtain ⟨a, rfl⟩ := Int.eq_ofNat_of_zero_le hp.1
    have ha : a < ws.length := by omega
    obtain ⟨y, hy⟩ : ∃ y, rdW ws a = y := ⟨_, rfl⟩
    by_cases c : y = x
    · subst c
      have e : TM.step ⟨n, s, hh, t, a, i, y, false, .last z, 0⟩ ws = ⟨1, ⟨n, s, hh, t, a, i, y, false, .last z, 1⟩, ws.set a (nextW y (z % 4294967296)), [swN a y (nextW y (z % 4294967296))]⟩ := by simp [TM.step, TM.last, TM.fst, hy]
      rw [e]
      refine (tk_step_last n s hh t a i y i y 1 _ (fun nx' L' => nx' = .func (.func 133) #[] #[.pointer (some ⟨b1, 0, none⟩), .pointer (some ⟨b2, 0, none⟩)] ∧ L' = bxTk b1 p :: bxW b2 z :: L) b1 b2 h2 rfl ((tk_last_hit n s hh t i y 0 _ a b1 b2 z _ _ h2 hk x0 x1 rfl rfl ha hy).mono fun e w' k => ⟨k.1, _, _, ⟨rfl, rfl⟩, k.2⟩)).mono fun e w' k => ⟨k.1, ?_⟩
      obtain ⟨nx', L', ⟨rfl, rfl⟩, k2⟩ := k.2
      exact tlA_last k2
    · have e : TM.step ⟨n, s, hh, t, a, i, x, false, .last z, 0⟩ ws = ⟨3, ⟨n, s, hh, t, a, i, x, false, .last z, 3⟩, ws, [noN a y]⟩ := by simp [TM.step, TM.last, TM.fst, hy, c]
      rw [e]
      refine (tk_step_last n s hh t a i x i x 3 _ (fun nx' L' => nx' = .func (.func 133) #[] #[.pointer (some ⟨b1, 0, none⟩), .pointer (some ⟨b2, 0, none⟩)] ∧ L' = bxTk b1 p :: bxW b2 z :: L) b1 b2 h2 rfl ((tk_last_lost n s hh t i x 0 _ a b1 b2 z _ _ h2 hk x0 x1 rfl rfl ha y hy (by simpa using c)).mono fun e w' k => ⟨k.1, _, _, ⟨rfl, rfl⟩, k.2⟩)).mono fun e w' k => ⟨k.1, ?_⟩
      obtain ⟨nx', L', ⟨rfl, rfl⟩, k2⟩ := k.2
      exact tlA_last k2
theorem give_step {w0 w : World} {q p : Nat} {ws : List Int} {ns : List Note} {L : List Asn} {S : TM} (hg : S.give = true) (h : St w0 (memA q ws ns :: tlA p S :: L) w) (hok : S.ok ws.length) (hk : ns.length ≤ 1000000000000) :
    Calls Tryz.prog 218 #[.pointer (some ⟨p, 0, none⟩), .pointer (some ⟨q, 0, none⟩)] w (TlPost w0 q p ns L (S.step ws)) := by
  refine gv_wrap p q _ _ _ w ?_
  by_cases hst : S.st ≠ 0
  · obtain ⟨nx, X, h1, h2⟩ := tlA_open h
    have e : S.step ws = ⟨S.st, S, ws, []⟩ := by simp [TM.step, hst]
    rw [e]
    rw [if_pos hg] at h1 h2
    refine (gv_step_over S.n S.s S.h S.t S.at_ S.i S.w S.st nx _ h1 hst rfl).mono fun e w' k => ⟨k.1, ?_⟩
    show St w0 (memA q ws (ns ++ []) :: tlA p S :: L) w'
    rw [List.append_nil]
    exact h2 _ _ _ k.2
  obtain ⟨i0, i1, x0, x1, hpl, hsec, hlst⟩ := hok
  obtain ⟨n, s, hh, t, a, i, x, give, ph, st⟩ := S
  dsimp only at hg hst i0 i1 x0 x1 hpl hsec hlst
  obtain rfl : st = 0 := by simpa using hst
  subst hg
  clear hst
  cases ph with
  | first =>
    by_cases hv : atI n s hh 0 (2 * (i - 1)) < 0
    · have e : TM.step ⟨n, s, hh, t, a, i, x, true, .first, 0⟩ ws = ⟨5, ⟨n, s, hh, t, a, i, x, true, .first, 5⟩, ws, []⟩ := by simp [TM.step, TM.head, TM.nx, hv]
      rw [e]
      refine (gv_step_head n s hh t a i x i x 5 _ (fun nx' L' => nx' = .func (.func 159) #[.pointer (some ⟨p, 0, none⟩)] #[] ∧ L' = L) h rfl ((gv_head_bad n s hh t a i x 0 _ _ h i0 i1 rfl hv).mono fun e w' k => ⟨k.1, _, _, ⟨rfl, rfl⟩, k.2⟩)).mono fun e w' k => ⟨k.1, ?_⟩
      obtain ⟨nx', L', ⟨rfl, rfl⟩, k2⟩ := k.2
      show St w0 (memA q ws (ns ++ []) :: _) w'
      rw [List.append_nil]
      exact k2
    by_cases ha : a < 0 ∨ (ws.length : Int) ≤ a
    · have e : TM.step ⟨n, s, hh, t, a, i, x, true, .first, 0⟩ ws = ⟨5, ⟨n, s, hh, t, a, i, x, true, .first, 5⟩, ws, []⟩ := by simp [TM.step, TM.head, TM.nx, hv, ha]
      rw [e]
      refine (gv_step_head n s hh t a i x i x 5 _ (fun nx' L' => nx' = .func (.func 159) #[.pointer (some ⟨p, 0, none⟩)] #[] ∧ L' = L) h rfl ((gv_head_out n s hh t a i x 0 _ _ h i0 i1 rfl (by omega) ha).mono fun e w' k => ⟨k.1, _, _, ⟨rfl, rfl⟩, k.2⟩)).mono fun e w' k => ⟨k.1, ?_⟩
      obtain ⟨nx', L', ⟨rfl, rfl⟩, k2⟩ := k.2
      show St w0 (memA q ws (ns ++ []) :: _) w'
      rw [List.append_nil]
      exact k2
    obtain ⟨a, rfl⟩ := Int.eq_ofNat_of_zero_le (show 0 ≤ a by omega)
    have ha' : a < ws.length := by omega
    obtain ⟨y, hy⟩ : ∃ y, rdW ws a = y := ⟨_, rfl⟩
    have e : TM.step ⟨n, s, hh, t, a, i, x, true, .first, 0⟩ ws = ⟨0, ⟨n, s, hh, t, a, i, y, true, .second, 0⟩, ws, [ldN a y]⟩ := by simp [TM.step, TM.head, TM.nx, hv, ha, ha', hy]
    rw [e]
    refine (gv_step_head n s hh t a i x i y 0 _ (fun nx' L' => nx' = .func (.func 176) #[.pointer (some ⟨p, 0, none⟩)] #[] ∧ L' = L) h rfl ((gv_head_ok n s hh t i x 0 _ a y _ h i0 i1 hk rfl (by omega) ha' hy).mono fun e w' k => ⟨k.1, _, _, ⟨rfl, rfl⟩, k.2⟩)).mono fun e w' k => ⟨k.1, ?_⟩
    obtain ⟨nx', L', ⟨rfl, rfl⟩, k2⟩ := k.2
    exact k2
  | second =>
    have hn0 := hsec rfl
    unfold TM.nx at hn0
    dsimp only at hn0
    obtain ⟨j, hj⟩ := Int.eq_ofNat_of_zero_le hn0
    by_cases c : ws.length ≤ j
    · have c' : (ws.length : Int) ≤ atI n s hh 0 (2 * (i - 1)) := by omega
      have e : TM.step ⟨n, s, hh, t, a, i, x, true, .second, 0⟩ ws = ⟨5, ⟨n, s, hh, t, a, i, x, true, .second, 5⟩, ws, []⟩ := by simp [TM.step, TM.second, TM.nx, c']
      rw [e]
      refine (gv_step_second n s hh t a i x i x 5 _ (fun nx' L' => nx' = .func (.func 176) #[.pointer (some ⟨p, 0, none⟩)] #[] ∧ L' = L) h rfl ((gv_second_out n s hh t a i x 0 _ _ _ h hk i0 i1 rfl rfl c').mono fun e w' k => ⟨k.1, _, _, ⟨rfl, rfl⟩, k.2⟩)).mono fun e w' k => ⟨k.1, ?_⟩
      obtain ⟨nx', L', ⟨rfl, rfl⟩, k2⟩ := k.2
      show St w0 (memA q ws (ns ++ []) :: _) w'
      rw [List.append_nil]
      exact k2
    · obtain ⟨y, hy⟩ : ∃ y, rdW ws j = y := ⟨_, rfl⟩
      have e : TM.step ⟨n, s, hh, t, a, i, x, true, .second, 0⟩ ws = ⟨0, ⟨n, s, hh, t, a, i, x, true, .last 0, 0⟩, ws.set j (x % 4294967296), [stN j y (x % 4294967296)]⟩ := by simp [TM.step, TM.second, TM.nx, hj, c, hy]
      rw [e]
      refine (gv_step_second n s hh t a i x i x 0 _ (fun nx' L' => ∃ b1, nx' = .func (.func 180) #[] #[.pointer (some ⟨b1, 0, none⟩)] ∧ L' = bxGv b1 p :: L) h rfl ((gv_second_ok n s hh t a i x 0 _ j _ y h hk i0 i1 rfl hj (by omega) hy).mono fun e w' k => ⟨k.1, by obtain ⟨b1, k2⟩ := k.2; exact ⟨_, _, ⟨b1, rfl, rfl⟩, k2⟩⟩)).mono fun e w' k => ⟨k.1, ?_⟩
      obtain ⟨nx', L', ⟨b1, rfl, rfl⟩, k2⟩ := k.2
      exact glA_last k2
  | last z =>
    obtain ⟨b1, h1⟩ := h.ex2
    have h2 := h1.untwo
    have hp := hpl (by simp)
    obtain ⟨a, rfl⟩ := Int.eq_ofNat_of_zero_le hp.1
    have ha : a < ws.length := by omega
    obtain ⟨y, hy⟩ : ∃ y, rdW ws a = y := ⟨_, rfl⟩
    by_cases c : y = x
    · subst c
      have e : TM.step ⟨n, s, hh, t, a, i, y, true, .last z, 0⟩ ws = ⟨1, ⟨n, s, hh, t, a, i, y, true, .last z, 1⟩, ws.set a (nextW y i), [swN a y (nextW y i)]⟩ := by simp [TM.step, TM.last, TM.fst, hy]
      rw [e]
      refine (gv_step_last n s hh t a i y i y 1 _ (fun nx' L' => nx' = .func (.func 180) #[] #[.pointer (some ⟨b1, 0, none⟩)] ∧ L' = bxGv b1 p :: L) b1 h2 rfl ((gv_last_hit n s hh t i y 0 _ a b1 _ h2 hk x0 x1 i0 i1 rfl ha hy).mono fun e w' k => ⟨k.1, _, _, ⟨rfl, rfl⟩, k.2⟩)).mono fun e w' k => ⟨k.1, ?_⟩
      obtain ⟨nx', L', ⟨rfl, rfl⟩, k2⟩ := k.2
      exact glA_last k2
    · have e : TM.step ⟨n, s, hh, t, a, i, x, true, .last z, 0⟩ ws = ⟨3, ⟨n, s, hh, t, a, i, x, true, .last z, 3⟩, ws, [noN a y]⟩ := by simp [TM.step, TM.last, TM.fst, hy, c]
      rw [e]
      refine (gv_step_last n s hh t a i x i x 3 _ (fun nx' L' => nx' = .func (.func 180) #[] #[.pointer (some ⟨b1, 0, none⟩)] ∧ L' = bxGv b1 p :: L) b1 h2 rfl ((gv_last_lost n s hh t i x 0 _ a b1 _ h2 hk x0 x1 i0 i1 rfl ha y hy (by simpa using c)).mono fun e w' k => ⟨k.1, _, _, ⟨rfl, rfl⟩, k.2⟩)).mono fun e w' k => ⟨k.1, ?_⟩
      obtain ⟨nx', L', ⟨rfl, rfl⟩, k2⟩ := k.2
      exact glA_last k2
/-- Machines that are made. -/
def newTk (n s h t a : Int) : TM := ⟨n, s, h, t, a, 0, 0, false, .first, 0⟩
def newGv (n s h t a i : Int) : TM := ⟨n, s, h, t, a, i, 0, true, .first, 0⟩
theorem newTk_ok (n s h t a : Int) (N : Nat) : (newTk n s h t a).ok N := ⟨Int.le_refl _, by show (0 : Int) < _; decide, Int.le_refl _, by show (0 : Int) < _; decide, fun c => absurd rfl c, fun c => (by cases c), fun x c => (by cases c)⟩
theorem newGv_ok (n s h t a : Int) {i : Int} (i0 : 0 ≤ i) (i1 : i < 4294967296) (N : Nat) : (newGv n s h t a i).ok N := ⟨i0, i1, Int.le_refl _, by show (0 : Int) < _; decide, fun c => absurd rfl c, fun c => (by cases c), fun x c => (by cases c)⟩
theorem take_new {w0 w : World} {L : List Asn} (n s h t a : Int) (hS : St w0 L w) :
    Calls Tryz.prog 57 #[.agg #[.int .i64 n, .int .i64 s, .int .i64 h, .int .u32 t], .int .i64 a] w fun e w' => ∃ p, e = .returned (.pointer (some ⟨p, 0, none⟩)) ∧ St w0 (tlA p (newTk n s h t a) :: L) w' := tk_make n s h t a hS
theorem give_new {w0 w : World} {L : List Asn} (n s h t a i : Int) (hS : St w0 L w) :
    Calls Tryz.prog 141 #[.agg #[.int .i64 n, .int .i64 s, .int .i64 h, .int .u32 t], .int .i64 a, .int .u32 i] w fun e w' => ∃ p, e = .returned (.pointer (some ⟨p, 0, none⟩)) ∧ St w0 (tlA p (newGv n s h t a i) :: L) w' := gv_make n s h t a i hS
/-- A step whose outcome is known. -/
theorem tk_out {w0 w : World} {q p : Nat} {ws ws' : List Int} {ns ns' nt : List Note} {L : List Asn} {S S' : TM} {r z : Int} (he : S.step ws = ⟨r, S', ws', nt⟩) (hn : ns ++ nt = ns') (hz : S'.told r = z) (hg : S.give = false) (h : St w0 (memA q ws ns :: tlA p S :: L) w) (hok : S.ok ws.length) (hk : ns.length ≤ 1000000000000) :
    Calls Tryz.prog 215 #[.pointer (some ⟨p, 0, none⟩), .pointer (some ⟨q, 0, none⟩)] w fun e w' => e = .returned (.tuple #[.int .i64 r, .int .u32 z]) ∧ St w0 (memA q ws' ns' :: tlA p S' :: L) w' := by
  have := take_step hg h hok hk
  rw [he] at this
  subst hn hz
  exact this
theorem gv_out {w0 w : World} {q p : Nat} {ws ws' : List Int} {ns ns' nt : List Note} {L : List Asn} {S S' : TM} {r z : Int} (he : S.step ws = ⟨r, S', ws', nt⟩) (hn : ns ++ nt = ns') (hz : S'.told r = z) (hg : S.give = true) (h : St w0 (memA q ws ns :: tlA p S :: L) w) (hok : S.ok ws.length) (hk : ns.length ≤ 1000000000000) :
    Calls Tryz.prog 218 #[.pointer (some ⟨p, 0, none⟩), .pointer (some ⟨q, 0, none⟩)] w fun e w' => e = .returned (.tuple #[.int .i64 r, .int .u32 z]) ∧ St w0 (memA q ws' ns' :: tlA p S' :: L) w' := by
  have := give_step hg h hok hk
  rw [he] at this
  subst hn hz
  exact this
end Go.Proofs.YtgfeagggkplegaaGreat
