/-
  Names of the notes that an access leaves.
-/
import Derived.Test.YtgfeagggkplegaaGreatRow2
namespace Go.Proofs.YtgfeagggkplegaaGreat
def ldN (a : Nat) (y : Int) : Note := ⟨108, a, y, y, true⟩
def stN (a : Nat) (y v : Int) : Note := ⟨115, a, y, v, true⟩
def swN (a : Nat) (y v : Int) : Note := ⟨99, a, y, v, true⟩
def noN (a : Nat) (y : Int) : Note := ⟨99, a, y, y, false⟩
end Go.Proofs.YtgfeagggkplegaaGreat
