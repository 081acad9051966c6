/- The walk of the law SealSizes. -/
import Derived.Test.YtecomgojaggpbaaSealHead
import Derived.Test.YtecomgojaggpbaaSealPlain
import Derived.Test.YtecomgojaggpbaaArgs
namespace Go.Proofs.Ytecomgojaggpbaa
set_option linter.unusedVariables false
open Go.RowKit
open Crc Pn

set_option maxRecDepth 100000 in
set_option maxHeartbeats 3200000 in
theorem walk_SealSizes (A : Option Addr) (n c : Nat) (xs : List UInt8) (nx f g : Int) (w : World) (hs : SliceIn w A n c xs) (wx : (Lit.int .u32 nx).wf = true) (wf : (Lit.int .u32 f).wf = true) (wg : (Lit.int .u32 g).wf = true) :
    Calls Try.prog 15 #[.slice A n c, .int .u32 nx, .int .u32 f, .int .u32 g] w fun e w' => e = .returned (.bool true) ∧ Below w.heap.size w w' := by
  obtain ⟨hx, hx'⟩ := bounds_u32 wx
  obtain ⟨hf, hf'⟩ := bounds_u32 wf
  obtain ⟨hg, hg'⟩ := bounds_u32 wg
  obtain ⟨hr, hc, hm, hnone⟩ := hs
  clear wx wf wg hnone
  have hnm : n ≤ 9223372036854775807 := by unfold maxLen at hm; omega
  by_cases c1 : 1000 < n
  · clear hr
    go_enter Try.func15, Try.ntmps15
    go_wp2_with (go_at_call 23; refine (awake06_any _).mono ?_; rintro e w1 ⟨rfl, hb1⟩)
    go_ret
    exact ⟨rfl, hb1⟩
  by_cases c2 : n = 0
  · subst c2
    clear hr
    go_enter Try.func15, Try.ntmps15
    go_wp2_with (go_at_call 23; refine (awake06_any _).mono ?_; rintro e w1 ⟨rfl, hb1⟩)
    go_ret
    exact ⟨rfl, hb1⟩
  have c2' : ((n : Int) == 0) = false := by simp; omega
  have hxl := hr.1
  obtain ⟨ys, hy⟩ := pack_is (a := nx + f) (nx := nx) (xs := xs) (by omega) (by omega) (by omega)
  obtain ⟨zs, hz⟩ := pack_is (a := nx + f + g) (nx := nx) (xs := xs) (by omega) (by omega) (by omega)
  have ly := pack_length (by omega) hy
  have lz := pack_length (by omega) hz
  have hsz := sizes_plain nx f g hf hg
  have hb := szOf_bd (nx + f) nx
  obtain ⟨k1, hk1⟩ : ∃ k : Nat, ys.length = k := ⟨_, rfl⟩
  obtain ⟨k2, hk2⟩ : ∃ k : Nat, zs.length = k := ⟨_, rfl⟩
  rw [hk1] at ly
  rw [hk2] at lz
  have b1 : n + 6 ≤ k1 := by omega
  have b2 : k1 ≤ k2 := by omega
  have b3 : k2 ≤ n + 9 := by omega
  have HR := Lib.hid hr; have HY := Lib.hid hy; have HZ := Lib.hid hz; have HK1 := Lib.hid hk1; have HK2 := Lib.hid hk2
  clear hr hy hz hk1 hk2 ly lz hsz hb hxl
  go_enter Try.func15, Try.ntmps15
  go_wp2_with fail
  refine (awake06_any _).mono ?_
  rintro e w1 ⟨rfl, hb1⟩
  have HR1 := Lib.hid (HR.out.after hb1)
  have HB1 := Lib.hid hb1; clear hb1
  go_wp2_with fail
  refine (pack_any (nx + f) nx A n c xs w1 (by omega) (by omega) hx (by omega) HR1.out (by omega) hc hm).mono ?_
  rintro e w2 h2
  obtain ⟨hb2, A2, c2'', rfl, ho2⟩ := h2.some_ HY.out
  have HR2 := Lib.hid (HR1.out.after hb2)
  have HB2 := Lib.hid (below_then HB1.out hb2)
  rw [HK1.out]
  clear hb2 h2 ho2
  go_wp2_with fail
  refine (pack_any (nx + f + g) nx A n c xs w2 (by omega) (by omega) hx (by omega) HR2.out (by omega) hc hm).mono ?_
  rintro e w3 h3
  obtain ⟨hb3, A3, c3, rfl, ho3⟩ := h3.some_ HZ.out
  have HB3 := Lib.hid (below_then HB2.out hb3)
  rw [HK2.out]
  clear hb3 h3 ho3
  go_wp2_with fail
  go_ret
  exact ⟨ret_bool (decide_eq_true (by omega)), HB3.out⟩
end Go.Proofs.Ytecomgojaggpbaa
