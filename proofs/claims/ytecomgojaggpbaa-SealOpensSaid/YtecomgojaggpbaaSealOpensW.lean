/- The walk of the law SealOpens. -/
import Derived.Test.YtecomgojaggpbaaSealHead
import Derived.Test.YtecomgojaggpbaaArgs
namespace Go.Proofs.Ytecomgojaggpbaa
set_option linter.unusedVariables false
open Go.RowKit
open Crc Pn

set_option maxRecDepth 100000 in
set_option maxHeartbeats 1600000 in
theorem walk_SealOpens (A : Option Addr) (n c : Nat) (xs : List UInt8) (nx : Int) (w : World) (hs : SliceIn w A n c xs) (wx : (Lit.int .u64 nx).wf = true) :
    Calls Try.prog 10 #[.slice A n c, .int .u64 nx] w fun e w' => e = .returned (.bool true) ∧ Below w.heap.size w w' := by
  obtain ⟨hx, hx'⟩ := bounds_u64 wx
  obtain ⟨hr, hc, hm, hnone⟩ := hs
  clear wx
  have hnm : n ≤ 9223372036854775807 := by unfold maxLen at hm; omega
  by_cases c1 : 2000 < n
  · clear hr
    go_enter Try.func10, Try.ntmps10
    go_wp2_with (go_at_call 23; refine (awake06_any _).mono ?_; rintro e w1 ⟨rfl, hb1⟩)
    go_ret
    exact ⟨rfl, hb1⟩
  have HR := Lib.hid hr; clear hr
  have HN := Lib.hid hnone; clear hnone
  go_enter Try.func10, Try.ntmps10
  go_wp2_with fail
  refine (awake06_any _).mono ?_
  rintro e w1 ⟨rfl, hb1⟩
  have HR1 := Lib.hid (HR.out.after hb1)
  have HB1 := Lib.hid hb1; clear hb1
  go_wp2_with fail
  refine (open_any nx A n c xs w1 hx hx' HR1.out (by omega) hc hm HN.out).mono ?_
  rintro e w2 h2
  rcases hp : openOf xs nx with _ | ⟨m, ys⟩
  · obtain ⟨hb2, rfl⟩ := h2.none_ hp
    have HR2 := Lib.hid (HR1.out.after hb2)
    have HB2 := Lib.hid (below_then HB1.out hb2)
    have HP := Lib.hid hp
    clear hb2 h2 hp
    go_wp2_with fail
    refine (refOpen_any nx A n c xs w2 hx hx' HR2.out (by omega) hc hm HN.out).mono ?_
    rintro e w3 h3
    obtain ⟨hb3, rfl⟩ := h3.none_ HP.out
    have HB3 := Lib.hid (below_then HB2.out hb3)
    have k1 := Rd.convert (P := Try.prog) (w := w3) (B := w3.heap.size) (A := none) Rd.none_ 0 33 5 9 Try.underlying33 Try.underlying5 Try.underlying9
    clear hb3 h3
    go_wp2_with fail
    go_ret
    exact ⟨rfl, HB3.out⟩
  · obtain ⟨hb2, A2, c2, rfl, ho2⟩ := h2.some_ hp
    have HR2 := Lib.hid (HR1.out.after hb2)
    have HB2 := Lib.hid (below_then HB1.out hb2)
    have HY2 := Lib.hid (Rd.of_own ho2 rfl)
    have HP := Lib.hid hp
    clear hb2 h2 hp ho2
    go_wp2_with fail
    refine (refOpen_any nx A n c xs w2 hx hx' HR2.out (by omega) hc hm HN.out).mono ?_
    rintro e w3 h3
    obtain ⟨hb3, A3, c3, rfl, ho3⟩ := h3.some_ HP.out
    have HB3 := Lib.hid (below_then HB2.out hb3)
    have k1 := (HY2.out.after hb3).convert (P := Try.prog) c2 33 5 9 Try.underlying33 Try.underlying5 Try.underlying9
    have k2 := (Rd.of_own ho3 rfl).convert (P := Try.prog) c3 33 5 9 Try.underlying33 Try.underlying5 Try.underlying9
    clear hb3 h3 ho3
    go_wp2_with fail
    go_ret
    exact ⟨rfl, HB3.out⟩
end Go.Proofs.Ytecomgojaggpbaa
