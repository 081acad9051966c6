/- The reference's reader of a header: all -/
import Derived.Test.YtcimcldmkaggnaaHdrRefNxW
import Derived.Test.YtcimcldmkaggnaaHdrRefNaW
import Derived.Test.YtcimcldmkaggnaaHdrRefNbW
import Derived.Test.YtcimcldmkaggnaaHdrRefNcW
namespace Go.Proofs.Ytcimcldmkaggnaa
set_option linter.unusedVariables false
set_option linter.unusedSimpArgs false
open Go.RowKit
open Hd

theorem refNext (A : Option Addr) (n c : Nat) (x : UInt8) (t : List UInt8) (w : World) (B : Nat) (hR : Rd w B A n (x :: t)) (hB : B ≤ w.heap.size) (hc : n ≤ c) (hn : n ≤ 1000000000) :
    Calls Try.prog 49 #[.slice A n c] w (NextEnds (next (x :: t)) B c w) := by
  by_cases h1 : 192 ≤ x.toNat
  · exact refNextA A n c x t w B hR hB hc hn h1
  · by_cases h2 : x.toNat / 16 = 5
    · exact refNextB A n c x t w B hR hB hc hn h1 h2
    · exact refNextC A n c x t w B hR hB hc hn h1 h2
end Go.Proofs.Ytcimcldmkaggnaa
