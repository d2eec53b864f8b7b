/-
  Both memories and both visits, side by side; the same words.
-/
import Derived.Test.YtpkchlmoohmfeaaRVD
import Derived.Test.YtpkchlmoohmfeaaJobs
import Derived.Test.YtpkchlmoohmfeaaLaw10
namespace Go.Proofs.Ytpkchlmoohmfeaa
open Go.RowKit
set_option linter.unusedVariables false
set_option linter.unusedSimpArgs false

set_option maxHeartbeats 4000000 in
theorem same10 (A B : Option Addr) (n c d : Nat) (ws : List Int) (w : World) (hA : RdU w A ws) (hB : RdU w B ws) (hn : ws.length = n) (hl : n ≤ 1024) :
    Calls Try.prog 25 #[.slice A n c, .slice B n d] w fun e w' => e = .returned (.bool true) ∧ Below w.heap.size w w' := by
  have HA := Lib.hid hA
  have HB := Lib.hid hB
  clear hA hB
  go_enter Try.func25, Try.ntmps25
  go_wp2
  go_loopg [5] 1025 (fun kq y w' => ∃ i : Nat, y = .int .i64 i ∧ i ≤ n ∧ i + kq = 1025 ∧ Below w.heap.size w w')
  case atStart => exact ⟨0, rfl, by omega, by omega, bl_refl w⟩
  case round =>
    obtain ⟨i, rfl, hi, hkq, hS⟩ := hrel
    have HS := Lib.hid hS
    cases gk with
    | zero => omega
    | succ kk =>
      by_cases c4 : i < n
      · have c4b : decide ((i : Int) < n) = true := decide_eq_true (by omega)
        have r0 : (0 : Int) ≤ (i : Int) := by omega
        have r1 : (i : Int) < (n : Int) := by omega
        obtain ⟨ad, rfl, hc⟩ := HA.out.cellA (show i < ws.length by omega)
        obtain ⟨bd, rfl, hd⟩ := HB.out.cellA (show i < ws.length by omega)
        have f1 := (hS.cell (World.block_lt_of_cell? _ _ hc)).trans hc
        have f2 := (hS.cell (World.block_lt_of_cell? _ _ hd)).trans hd
        clear hS hc hd
        go_wp2
        go_quiet (fail)
        go_wp2
        go_roundg kk
        case measure => omega
        case rel => exact ⟨i + 1, rfl, by omega, by omega, bl_drewN HS.out _⟩
      · have c4b : decide ((i : Int) < n) = false := decide_eq_false (by omega)
        clear hS
        go_wp2
        go_ret
        exact ⟨rfl, HS.out⟩
/-- Two and two: each side of a pair apart. -/
theorem St.duo {w0 w : World} {a b c d : Asn} {R : List Asn} (h : St w0 (starA [a, b] :: starA [c, d] :: R) w) : St w0 (a :: c :: b :: d :: R) w := by
  have h1 : St w0 ([a, b] ++ starA [c, d] :: R) w := h.unstar
  have h2 : St w0 (starA [c, d] :: a :: b :: R) w := h1.perm (((List.Perm.swap (starA [c, d]) b R).cons a).trans (List.Perm.swap (starA [c, d]) a (b :: R)))
  have h3 : St w0 ([c, d] ++ a :: b :: R) w := h2.unstar
  exact h3.perm (by
    show List.Perm (c :: d :: a :: b :: R) (a :: c :: b :: d :: R)
    exact (((List.Perm.swap a d (b :: R)).cons c).trans (List.Perm.swap a c (d :: b :: R))).trans (((List.Perm.swap b d R).cons c).cons a))
theorem St.unduo {w0 w : World} {a b c d : Asn} {R : List Asn} (h : St w0 (a :: c :: b :: d :: R) w) : St w0 (starA [a, b] :: starA [c, d] :: R) w := by
  have h1 : St w0 ([c, d] ++ a :: b :: R) w := h.perm (by
    show List.Perm (a :: c :: b :: d :: R) (c :: d :: a :: b :: R)
    exact ((((List.Perm.swap a d (b :: R)).cons c).trans (List.Perm.swap a c (d :: b :: R))).trans (((List.Perm.swap b d R).cons c).cons a)).symm)
  have h2 : St w0 (starA [c, d] :: a :: b :: R) w := h1.star
  have h3 : St w0 ([a, b] ++ starA [c, d] :: R) w := h2.perm (((List.Perm.swap (starA [c, d]) b R).cons a).trans (List.Perm.swap (starA [c, d]) a (b :: R))).symm
  exact h3.star
theorem St.turn4 {w0 w : World} {a c b d : Asn} {R : List Asn} (h : St w0 (a :: c :: b :: d :: R) w) : St w0 (b :: d :: a :: c :: R) w := h.perm (by
  exact ((((List.Perm.swap b c (d :: R)).cons a).trans (List.Perm.swap b a (c :: d :: R))).trans ((((List.Perm.swap d c R).cons a).trans (List.Perm.swap d a (c :: R))).cons b)))
/-- A store, wherever it goes: what it tells, and leaves. -/
def stE (ws : List Int) (k : Nat) : Int := if k < ws.length then 0 else 2
def stWs (ws : List Int) (k : Nat) (v : Int) : List Int := if k < ws.length then ws.set k v else ws
def stNs (ws : List Int) (k : Nat) (v : Int) : List Note := if k < ws.length then [⟨115, k, rdW ws k, v, true⟩] else []
theorem stWs_len (ws : List Int) (k : Nat) (v : Int) : (stWs ws k v).length = ws.length := by unfold stWs; split <;> simp
theorem stNs_len (ws : List Int) (k : Nat) (v : Int) : (stNs ws k v).length ≤ 1 := by unfold stNs; split <;> simp
theorem store_any {w0 w : World} {q : Nat} {ws : List Int} {ns : List Note} {l : List Asn} (h : St w0 (memA q ws ns :: l) w) (k : Nat) (v x : Int) (hk : ns.length ≤ 1000000000000) (v0 : 0 ≤ v) (v1 : v < 18446744073709551616) (hx : stE ws k = x) :
    Calls Try.prog 21 #[.pointer (some ⟨q, 0, none⟩), .int .i64 k, .int .u64 v] w fun e w' => e = .returned (.int .i64 x) ∧ St w0 (memA q (stWs ws k v) (ns ++ stNs ws k v) :: l) w' := by
  subst hx
  unfold stE stWs stNs
  by_cases c : k < ws.length
  · simp only [c, if_true]
    exact store_st h k _ v rfl c hk v0 v1
  · simp only [c, if_false, List.append_nil]
    exact store_no h k v (.inr (by omega))
theorem rstore_any {w0 w : World} {q : Nat} {ws : List Int} {ns : List Note} {l : List Asn} (h : St w0 (refA q ws ns :: l) w) (k : Nat) (v x : Int) (hk : ns.length ≤ 1000000000000) (v0 : 0 ≤ v) (v1 : v < 18446744073709551616) (hx : stE ws k = x) :
    Calls Try.prog 22 #[.pointer (some ⟨q, 0, none⟩), .int .i64 k, .int .u64 v] w fun e w' => e = .returned (.int .i64 x) ∧ St w0 (refA q (stWs ws k v) (ns ++ stNs ws k v) :: l) w' := by
  subst hx
  unfold stE stWs stNs
  by_cases c : k < ws.length
  · simp only [c, if_true]
    exact rstore_st h k _ v rfl c hk v0 v1
  · simp only [c, if_false, List.append_nil]
    exact rstore_no h k v (.inr (by omega))
/-- A visit of each kind: the program's at p, the document's at x.1; x.2.1: looks it may have had. -/
def vpA (p : Nat) (x : Nat × Nat × VM) : Asn := starA [visA p x.2.2, rvA x.1 x.2.1 x.2.2]
theorem vpA_more {w0 w : World} {m : Asn} {l : List Asn} {p b n n' : Nat} {S : VM} (h : St w0 (m :: rvA b n S :: l) w) (hn : n ≤ n') : St w0 (m :: rvA b n' S :: l) w := by
  obtain ⟨pl, lk, fd, ⟨f1, f2, f3, f4⟩, h1⟩ := rvA_open h
  exact rvA_close ⟨f1, f2, by omega, f4⟩ h1
end Go.Proofs.Ytpkchlmoohmfeaa
