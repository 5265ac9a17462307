/-
  Chapter 41: the walk of StoreLimits. The memory is that of the given program; no conditions.
-/
import Derived.Test.YtabnlnhnefjebaaLw2k0
import Derived.Test.YtabnlnhnefjebaaLw2k1
import Derived.Test.YtabnlnhnefjebaaLw2k2
import Derived.Test.YtabnlnhnefjebaaLw2k3
import Derived.Test.YtabnlnhnefjebaaLw2k4
import Derived.Test.YtabnlnhnefjebaaOpen
namespace Go.Proofs.Ytabnlnhnefjebaa
open Go.RowKit
theorem storeLimits_walk (size spare : Int) (w : World) (hs : InR size) (hp : InR spare) : Calls Try.prog 4 #[.int .i64 size, .int .i64 spare] w (RetB true w) := by
  rcases (show size % 5 = 0 ∨ size % 5 = 1 ∨ size % 5 = 2 ∨ size % 5 = 3 ∨ size % 5 = 4 by omega) with h | h | h | h | h
  · exact storeLimits_0 size spare w hs.1 hs.2 hp.1 hp.2 h
  · exact storeLimits_1 size spare w hs.1 hs.2 hp.1 hp.2 h
  · exact storeLimits_2 size spare w hs.1 hs.2 hp.1 hp.2 h
  · exact storeLimits_3 size spare w hs.1 hs.2 hp.1 hp.2 h
  · exact storeLimits_4 size spare w hs.1 hs.2 hp.1 hp.2 h
end Go.Proofs.Ytabnlnhnefjebaa
