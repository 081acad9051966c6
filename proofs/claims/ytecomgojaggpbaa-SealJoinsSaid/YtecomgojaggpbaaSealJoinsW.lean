/- The walk of the law SealJoins. -/
import Derived.Test.YtecomgojaggpbaaSealHead
import Derived.Test.YtecomgojaggpbaaArgs
namespace Go.Proofs.Ytecomgojaggpbaa
set_option linter.unusedVariables false
open Go.RowKit
open Crc Pn

set_option maxRecDepth 100000 in
set_option maxHeartbeats 3200000 in
theorem walk_SealJoins (A : Option Addr) (n c : Nat) (xs : List UInt8) (B : Option Addr) (m d : Nat) (ys : List UInt8) (C : Option Addr) (l f : Nat) (zs : List UInt8) (w : World) (hs1 : SliceIn w A n c xs) (hs2 : SliceIn w B m d ys) (hs3 : SliceIn w C l f zs) :
    Calls Try.prog 14 #[.slice A n c, .slice B m d, .slice C l f] w fun e w' => e = .returned (.bool true) ∧ Below w.heap.size w w' := by
  obtain ⟨hr1, hc1, hm1, hn1⟩ := hs1
  obtain ⟨hr2, hc2, hm2, hn2⟩ := hs2
  obtain ⟨hr3, hc3, hm3, hn3⟩ := hs3
  have k1 : n ≤ 9223372036854775807 := by unfold maxLen at hm1; omega
  have k2 : m ≤ 9223372036854775807 := by unfold maxLen at hm2; omega
  have k3 : l ≤ 9223372036854775807 := by unfold maxLen at hm3; omega
  clear hn1 hn2 hn3
  by_cases c1 : 2000 < n
  · clear hr1 hr2 hr3
    go_enter Try.func14, Try.ntmps14
    go_wp2_with (go_at_call 23; refine (awake06_any _).mono ?_; rintro e w1 ⟨rfl, hb1⟩)
    go_ret
    exact ⟨rfl, hb1⟩
  by_cases c2 : 2000 < m
  · clear hr1 hr2 hr3
    go_enter Try.func14, Try.ntmps14
    go_wp2_with (go_at_call 23; refine (awake06_any _).mono ?_; rintro e w1 ⟨rfl, hb1⟩)
    go_ret
    exact ⟨rfl, hb1⟩
  by_cases c3 : 2000 < l
  · clear hr1 hr2 hr3
    go_enter Try.func14, Try.ntmps14
    go_wp2_with (go_at_call 23; refine (awake06_any _).mono ?_; rintro e w1 ⟨rfl, hb1⟩)
    go_ret
    exact ⟨rfl, hb1⟩
  have HX := Lib.hid hr1; have HY := Lib.hid hr2; have HZ := Lib.hid hr3
  clear hr1 hr2 hr3
  obtain ⟨i0, hi0, hz0, hz1, hz2⟩ := info_parts info5
  go_enter Try.func14, Try.ntmps14
  go_wp2_with fail
  refine (awake06_any _).mono ?_
  rintro e w1 ⟨rfl, hb1⟩
  have HX1 := Lib.hid (HX.out.after hb1); have HY1 := Lib.hid (HY.out.after hb1); have HZ1 := Lib.hid (HZ.out.after hb1)
  have HB1 := Lib.hid hb1; clear hb1 HX HY HZ
  go_wp2_with (at_builtin; refine wpList_append_any _ rfl (.tmp 25) (.tmp 26) 33 rfl w1.heap.size 5 i0 (.int .u8 0) Try.underlying33 hi0 hz0 hz1 hz2 rfl (.slice (some ⟨w1.heap.size, 0, none⟩) 0 0) 0 [] rfl ?p1 w1.heap.size A n c xs rfl ?p2 ?p3 ?p4 ?_)
  case p1 => exact World.ownsRow_lit w1 #[] 0 (Nat.le_refl _) (by unfold maxLen; omega) rfl
  case p2 => exact HX1.out.alloc (Nat.le_refl _) _
  case p3 => omega
  case p4 => simp
  intro Ap cp wp hop hgp hap
  have hbp : Below w1.heap.size w1 wp := ((Below.refl _ w1).alloc (Nat.le_refl _) _).grown hgp (by simp) (fun k hk => by have h1 : w1.heap.size = k := Option.some.inj hk; omega)
  have HOp := Lib.hid hop; have HBp := Lib.hid hbp; clear hop hgp hap hbp
  go_wp2_with (at_builtin; refine wpList_append_any _ rfl (.tmp 27) (.tmp 28) 33 rfl w1.heap.size 5 i0 (.int .u8 0) Try.underlying33 hi0 hz0 hz1 hz2 rfl (.slice Ap n cp) n xs rfl ?p5 w1.heap.size C l f zs rfl ?p6 ?p7 ?p8 ?_)
  case p5 => simpa using HOp.out
  case p6 => exact HZ1.out.below HBp.out
  case p7 => omega
  case p8 => exact HBp.out.size
  intro Ap' cp' wp' hop' hgp' hap'
  have hbp' : Below w1.heap.size w1 wp' := HBp.out.grown hgp' HBp.out.size (fun k hk => ((by simpa using HOp.out : wp.ownsRow w1.heap.size 5 1 (.slice Ap n cp) n (bs xs)).lt k hk).1)
  have HOp' := Lib.hid hop'; have HBp' := Lib.hid hbp'; clear hop' hgp' hap' hbp'
  go_wp2_with fail
  refine (sum_any Ap' (n + l) cp' (xs ++ zs) wp' (Rd.of_own HOp'.out rfl) (by omega)).mono ?_
  rintro e w2 ⟨rfl, hb2⟩
  have hb12 : Below w1.heap.size w1 w2 := HBp'.out.trans (hb2.mono HBp'.out.size)
  have HX2 := Lib.hid (HX1.out.after hb12); have HY2 := Lib.hid (HY1.out.after hb12); have HZ2 := Lib.hid (HZ1.out.after hb12)
  have HB2 := Lib.hid (below_then HB1.out hb12)
  clear hb2 hb12 HX1 HY1 HZ1 HOp HBp HOp' HBp'
  go_wp2_with (at_builtin; refine wpList_append_any _ rfl (.tmp 31) (.tmp 32) 33 rfl w2.heap.size 5 i0 (.int .u8 0) Try.underlying33 hi0 hz0 hz1 hz2 rfl (.slice (some ⟨w2.heap.size, 0, none⟩) 0 0) 0 [] rfl ?q1 w2.heap.size B m d ys rfl ?q2 ?q3 ?q4 ?_)
  case q1 => exact World.ownsRow_lit w2 #[] 0 (Nat.le_refl _) (by unfold maxLen; omega) rfl
  case q2 => exact HY2.out.alloc (Nat.le_refl _) _
  case q3 => omega
  case q4 => simp
  intro Aq cq wq hoq hgq haq
  have hbq : Below w2.heap.size w2 wq := ((Below.refl _ w2).alloc (Nat.le_refl _) _).grown hgq (by simp) (fun k hk => by have h1 : w2.heap.size = k := Option.some.inj hk; omega)
  have HOq := Lib.hid hoq; have HBq := Lib.hid hbq; clear hoq hgq haq hbq
  go_wp2_with (at_builtin; refine wpList_append_any _ rfl (.tmp 33) (.tmp 34) 33 rfl w2.heap.size 5 i0 (.int .u8 0) Try.underlying33 hi0 hz0 hz1 hz2 rfl (.slice Aq m cq) m ys rfl ?q5 w2.heap.size C l f zs rfl ?q6 ?q7 ?q8 ?_)
  case q5 => simpa using HOq.out
  case q6 => exact HZ2.out.below HBq.out
  case q7 => omega
  case q8 => exact HBq.out.size
  intro Aq' cq' wq' hoq' hgq' haq'
  have hbq' : Below w2.heap.size w2 wq' := HBq.out.grown hgq' HBq.out.size (fun k hk => ((by simpa using HOq.out : wq.ownsRow w2.heap.size 5 1 (.slice Aq m cq) m (bs ys)).lt k hk).1)
  have HOq' := Lib.hid hoq'; have HBq' := Lib.hid hbq'; clear hoq' hgq' haq' hbq'
  go_wp2_with fail
  refine (sum_any Aq' (m + l) cq' (ys ++ zs) wq' (Rd.of_own HOq'.out rfl) (by omega)).mono ?_
  rintro e w3 ⟨rfl, hb3⟩
  have hb23 : Below w2.heap.size w2 w3 := HBq'.out.trans (hb3.mono HBq'.out.size)
  have HX3 := Lib.hid (HX2.out.after hb23); have HY3 := Lib.hid (HY2.out.after hb23)
  have HB3 := Lib.hid (below_then HB2.out hb23)
  clear hb3 hb23 HX2 HY2 HZ2 HOq HBq HOq' HBq'
  have hj := sum_join xs ys zs
  have S1 := Lib.hid (fun w => sum_any A n c xs w)
  have S2 := Lib.hid (fun w => sum_any B m d ys w)
  generalize sum (xs ++ zs) = t1 at *
  generalize sum (ys ++ zs) = t2 at *
  generalize sum xs = s1 at *
  generalize sum ys = s2 at *
  by_cases hq : s1 = s2
  · have hq2 := hj.2 hq
    clear hj
    subst hq hq2
    go_wp2_with fail
    refine (S1.out _ HX3.out (by omega)).mono ?_
    rintro e w4 ⟨rfl, hb4⟩
    have HY4 := Lib.hid (HY3.out.after hb4)
    have HB4 := Lib.hid (below_then HB3.out hb4)
    clear hb4
    go_wp2_with fail
    refine (S2.out _ HY4.out (by omega)).mono ?_
    rintro e w5 ⟨rfl, hb5⟩
    have HB5 := Lib.hid (below_then HB4.out hb5)
    clear hb5
    go_wp2_with fail
    go_ret
    exact ⟨rfl, HB5.out⟩
  · have hq2 : ¬ t1 = t2 := fun h => hq (hj.1 h)
    have e1 : ((s1 : Int) == (s2 : Int)) = false := by simp; omega
    have e2 : ((t1 : Int) == (t2 : Int)) = false := by simp; omega
    clear hj
    go_wp2_with fail
    refine (S1.out _ HX3.out (by omega)).mono ?_
    rintro e w4 ⟨rfl, hb4⟩
    have HY4 := Lib.hid (HY3.out.after hb4)
    have HB4 := Lib.hid (below_then HB3.out hb4)
    clear hb4
    go_wp2_with fail
    refine (S2.out _ HY4.out (by omega)).mono ?_
    rintro e w5 ⟨rfl, hb5⟩
    have HB5 := Lib.hid (below_then HB4.out hb5)
    clear hb5
    go_wp2_with fail
    go_ret
    exact ⟨rfl, HB5.out⟩
end Go.Proofs.Ytecomgojaggpbaa
