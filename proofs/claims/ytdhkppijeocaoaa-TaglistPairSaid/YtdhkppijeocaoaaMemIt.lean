/-
  The methods of a memory, with the word that is there as a letter.
-/
import Derived.Test.YtdhkppijeocaoaaMemNew
import Derived.Test.YtdhkppijeocaoaaPackMore
namespace Go.Proofs.Ytdhkppijeocaoaa
open Go.RowKit
set_option linter.unusedVariables false
set_option linter.unusedSimpArgs false


theorem swap_hit (own : Nat → Nat) (t p : Nat) (ws : List Int) (ns : List Note) (i : Nat) (x v : Int) (w : World) (h : IsMem own t w p ws ns) (hx : rdW ws i = x) (hi : i < ws.length) (hk : ns.length ≤ 1000000000000) (v0 : 0 ≤ v) (v1 : v < 18446744073709551616) :
    Calls Try.prog 61 #[.pointer (some ⟨p, 0, none⟩), .int .i64 i, .int .u64 x, .int .u64 v] w fun e w' => e = .returned (.tuple #[.bool true, .int .i64 0]) ∧ MemPost own t w p (ws.set i v) (ns ++ [⟨99, i, x, v, true⟩]) w' := by
  subst hx
  exact swap_in own t p ws ns i v w h hi hk v0 v1
theorem swap_lost (own : Nat → Nat) (t p : Nat) (ws : List Int) (ns : List Note) (i : Nat) (x old v : Int) (w : World) (h : IsMem own t w p ws ns) (hx : rdW ws i = x) (hi : i < ws.length) (hk : ns.length ≤ 1000000000000) (hne : (x == old) = false) :
    Calls Try.prog 61 #[.pointer (some ⟨p, 0, none⟩), .int .i64 i, .int .u64 old, .int .u64 v] w fun e w' => e = .returned (.tuple #[.bool false, .int .i64 0]) ∧ MemPost own t w p ws (ns ++ [⟨99, i, x, x, false⟩]) w' := by
  subst hx
  exact swap_miss own t p ws ns i old v w h hi hk hne
theorem load_it (own : Nat → Nat) (t p : Nat) (ws : List Int) (ns : List Note) (i : Nat) (x : Int) (w : World) (h : IsMem own t w p ws ns) (hx : rdW ws i = x) (hi : i < ws.length) (hk : ns.length ≤ 1000000000000) :
    Calls Try.prog 50 #[.pointer (some ⟨p, 0, none⟩), .int .i64 i] w fun e w' => e = .returned (.tuple #[.int .u64 x, .int .i64 0]) ∧ MemPost own t w p ws (ns ++ [⟨108, i, x, x, true⟩]) w' := by
  subst hx
  exact load_in own t p ws ns i w h hi hk
theorem rdW_set (ws : List Int) (i : Nat) (v : Int) (h : i < ws.length) : rdW (ws.set i v) i = v := by simp [rdW, h]
theorem sto_it (own : Nat → Nat) (t p : Nat) (ws : List Int) (ns : List Note) (i : Nat) (x v : Int) (w : World) (h : IsMem own t w p ws ns) (hx : rdW ws i = x) (hi : i < ws.length) (hk : ns.length ≤ 1000000000000) (v0 : 0 ≤ v) (v1 : v < 18446744073709551616) :
    Calls Try.prog 59 #[.pointer (some ⟨p, 0, none⟩), .int .i64 i, .int .u64 v] w fun e w' => e = .returned (.int .i64 0) ∧ MemPost own t w p (ws.set i v) (ns ++ [⟨115, i, x, v, true⟩]) w' := by
  subst hx
  exact store_in own t p ws ns i v w h hi hk v0 v1
end Go.Proofs.Ytdhkppijeocaoaa
