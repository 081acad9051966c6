/- The walk of the law SealBack. -/
import Derived.Test.YtecomgojaggpbaaSealHead
import Derived.Test.YtecomgojaggpbaaSealPlain
import Derived.Test.YtecomgojaggpbaaArgs
namespace Go.Proofs.Ytecomgojaggpbaa
set_option linter.unusedVariables false
open Go.RowKit
open Crc Pn

set_option maxRecDepth 100000 in
set_option maxHeartbeats 3200000 in
theorem walk_SealBack (a f g : Int) (A : Option Addr) (n c : Nat) (xs : List UInt8) (w : World) (wa : (Lit.int .u64 a).wf = true) (wf : (Lit.int .u32 f).wf = true) (wg : (Lit.int .u32 g).wf = true) (hs : SliceIn w A n c xs) :
    Calls Try.prog 11 #[.int .u64 a, .int .u32 f, .int .u32 g, .slice A n c] w fun e w' => e = .returned (.bool true) ∧ Below w.heap.size w w' := by
  obtain ⟨ha, ha'⟩ := bounds_u64 wa
  obtain ⟨hf, hf'⟩ := bounds_u32 wf
  obtain ⟨hg, hg'⟩ := bounds_u32 wg
  obtain ⟨hr, hc, hm, hnone⟩ := hs
  clear wa wf wg hnone
  have hnm : n ≤ 9223372036854775807 := by unfold maxLen at hm; omega
  by_cases c0 : 2000 < n
  · clear hr
    go_enter Try.func11, Try.ntmps11
    go_wp2_with (go_at_call 23; refine (awake06_any _).mono ?_; rintro e w1 ⟨rfl, hb1⟩)
    go_ret
    exact ⟨rfl, hb1⟩
  by_cases c1 : 4611686018427387903 < a
  · clear hr
    go_enter Try.func11, Try.ntmps11
    go_wp2_with (go_at_call 23; refine (awake06_any _).mono ?_; rintro e w1 ⟨rfl, hb1⟩)
    go_ret
    exact ⟨rfl, hb1⟩
  by_cases c2 : 2147483648 < f
  · clear hr
    go_enter Try.func11, Try.ntmps11
    go_wp2_with (go_at_call 23; refine (awake06_any _).mono ?_; rintro e w1 ⟨rfl, hb1⟩)
    go_ret
    exact ⟨rfl, hb1⟩
  by_cases c3 : a < f
  · clear hr
    go_enter Try.func11, Try.ntmps11
    go_wp2_with (go_at_call 23; refine (awake06_any _).mono ?_; rintro e w1 ⟨rfl, hb1⟩)
    go_ret
    exact ⟨rfl, hb1⟩
  by_cases c4 : f < g
  · clear hr
    go_enter Try.func11, Try.ntmps11
    go_wp2_with (go_at_call 23; refine (awake06_any _).mono ?_; rintro e w1 ⟨rfl, hb1⟩)
    go_ret
    exact ⟨rfl, hb1⟩
  have HR := Lib.hid hr
  have hxl := hr.1
  clear hr
  have hpn := pack_none (a := a) (nx := a - f) (xs := xs) (by omega)
  have HPN := Lib.hid hpn; clear hpn
  have HSZ := Lib.hid (fun w => size_any a (a - f) ha ha' (by omega) (by omega) w)
  have hsb := szOf_bd a (a - f)
  have HOP := Lib.hid (fun ys => open_pack (a := a) (f := f) (n := g) (xs := xs) (ys := ys) ha (by omega) hf (by omega) (by omega) hg (by omega))
  have HLN := Lib.hid (fun ys => pack_length (a := a) (nx := a - f) (xs := xs) (ys := ys) ha)
  generalize szOf a (a - f) = s at *
  rcases hp : pack a (a - f) xs with _ | ys
  · have HP := Lib.hid hp
    have hlen := HPN.out hp
    rw [hxl] at hlen
    clear hp HPN HOP HLN hxl
    rcases hlen with h0 | h0
    · subst h0
      go_enter Try.func11, Try.ntmps11
      go_wp2_with fail
      refine (awake06_any _).mono ?_
      rintro e w1 ⟨rfl, hb1⟩
      have HR1 := Lib.hid (HR.out.after hb1)
      have HB1 := Lib.hid hb1; clear hb1
      go_wp2_with fail
      refine (pack_any a (a - f) A 0 c xs w1 ha ha' (by omega) (by omega) HR1.out (by omega) hc hm).mono ?_
      rintro e w2 h2
      obtain ⟨hb2, rfl⟩ := h2.none_ HP.out
      have HB2 := Lib.hid (below_then HB1.out hb2)
      clear hb2 h2
      go_wp2_with fail
      go_ret
      exact ⟨rfl, HB2.out⟩
    · have hn0 : ((n : Int) == 0) = false := by simp; omega
      go_enter Try.func11, Try.ntmps11
      go_wp2_with fail
      refine (awake06_any _).mono ?_
      rintro e w1 ⟨rfl, hb1⟩
      have HR1 := Lib.hid (HR.out.after hb1)
      have HB1 := Lib.hid hb1; clear hb1
      go_wp2_with fail
      refine (pack_any a (a - f) A n c xs w1 ha ha' (by omega) (by omega) HR1.out (by omega) hc hm).mono ?_
      rintro e w2 h2
      obtain ⟨hb2, rfl⟩ := h2.none_ HP.out
      have HB2 := Lib.hid (below_then HB1.out hb2)
      clear hb2 h2
      go_wp2_with fail
      go_ret
      exact ⟨ret_bool (decide_eq_true (by omega)), HB2.out⟩
  · have HP := Lib.hid hp
    obtain ⟨ho1, ho2⟩ := HOP.out ys hp
    have hlen := HLN.out ys hp
    rw [hxl] at hlen
    obtain ⟨k, hk⟩ : ∃ k : Nat, ys.length = k := ⟨_, rfl⟩
    rw [hk] at hlen
    have hle : ((k : Int) == (n : Int) + 5 + s) = true := by simp; exact hlen
    have hkb : k ≤ 140737488355000 := by omega
    have HO1 := Lib.hid ho1; have HO2 := Lib.hid ho2; have HK := Lib.hid hk
    clear hp HPN HOP HLN hlen ho1 ho2 hk
    go_enter Try.func11, Try.ntmps11
    go_wp2_with fail
    refine (awake06_any _).mono ?_
    rintro e w1 ⟨rfl, hb1⟩
    have HR1 := Lib.hid (HR.out.after hb1)
    have HB1 := Lib.hid hb1; clear hb1
    go_wp2_with fail
    refine (pack_any a (a - f) A n c xs w1 ha ha' (by omega) (by omega) HR1.out (by omega) hc hm).mono ?_
    rintro e w2 h2
    obtain ⟨hb2, A2, c2', rfl, hw2⟩ := h2.some_ HP.out
    rw [HK.out] at hw2 ⊢
    have HR2 := Lib.hid (HR1.out.after hb2)
    have HB2 := Lib.hid (below_then HB1.out hb2)
    have HY2 := Lib.hid (Rd.of_own hw2 rfl)
    obtain ⟨hc1, hc2⟩ := own_caps hw2
    have hnone := own_none hw2
    have HN := Lib.hid hnone
    clear hb2 h2 hw2 hnone
    go_wp2_with fail
    refine (open_any (a - f + g) A2 k c2' ys w2 (by omega) (by omega) HY2.out hkb hc1 hc2 HN.out).mono ?_
    rintro e w3 h3
    obtain ⟨hb3, A3, c3', rfl, hw3⟩ := h3.some_ HO1.out
    rw [hxl] at hw3
    have HR3 := Lib.hid (HR2.out.after hb3)
    have HB3 := Lib.hid (below_then HB2.out hb3)
    have HY3 := Lib.hid (HY2.out.after hb3)
    have HX3 := Lib.hid (Rd.of_own hw3 rfl)
    clear hb3 h3 hw3
    go_wp2_with fail
    refine (open_any (a + 1) A2 k c2' ys w3 (by omega) (by omega) HY3.out hkb hc1 hc2 HN.out).mono ?_
    rintro e w4 h4
    obtain ⟨hb4, A4, c4', rfl, hw4⟩ := h4.some_ HO2.out
    have k1 := (HR3.out.after hb4).convert (P := Try.prog) c 33 5 9 Try.underlying33 Try.underlying5 Try.underlying9
    have k2 := (HX3.out.after hb4).convert (P := Try.prog) c3' 33 5 9 Try.underlying33 Try.underlying5 Try.underlying9
    have HB4 := Lib.hid (below_then HB3.out hb4)
    clear hb4 h4 hw4
    go_wp2_with fail
    refine (HSZ.out _).mono ?_
    rintro e w5 ⟨rfl, hb5⟩
    have HB5 := Lib.hid (below_then HB4.out hb5)
    clear hb5 k1 k2
    go_wp2_with fail
    go_ret
    exact ⟨rfl, HB5.out⟩
end Go.Proofs.Ytecomgojaggpbaa
