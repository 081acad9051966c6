/- The walk of the law VarintBack. -/
import Derived.Test.YtcimcldmkaggnaaVarLaws
namespace Go.Proofs.Ytcimcldmkaggnaa
set_option linter.unusedVariables false
open Go.RowKit
open Va

theorem got_put (v : Int) (h0 : 0 ≤ v) (h1 : v < 4611686018427387904) (more : List UInt8) :
    getV (putL v ++ more) = v ∧ getN (putL v ++ more) = ((size v.toNat : Nat) : Int) ∧ getE (putL v ++ more) = 0 ∧ (putL v).length = size v.toNat := by
  have e1 : putL v = put v.toNat := if_pos h1
  have hg := get_put v.toNat (by omega) more
  rw [e1, put_length v.toNat (by omega)]
  unfold getV getN getE
  rw [hg]
  exact ⟨by show ((v.toNat : Nat) : Int) = v; omega, rfl, rfl, rfl⟩

set_option maxRecDepth 100000 in
set_option maxHeartbeats 1600000 in
theorem walk_VarintBack (v : Int) (A : Option Addr) (n c : Nat) (xs : List UInt8) (w : World) (wv : (Lit.int .u64 v).wf = true) (hs : SliceIn w A n c xs) :
    Calls Try.prog 6 #[.int .u64 v, .slice A n c] w fun e w' => e = .returned (.bool true) ∧ Below w.heap.size w w' := by
  obtain ⟨hv0, hv⟩ := bounds_u64 wv
  obtain ⟨hr, hc, hm, hnone⟩ := hs
  clear wv
  have hnm : n ≤ 9223372036854775807 := by unfold maxLen at hm; omega
  have HR := Lib.hid hr; clear hr hnone
  have HC := Lib.hid (And.intro hc hm); clear hc hm
  by_cases c1 : 2000 < n
  · clear hv0 hv
    go_enter Try.func6, Try.ntmps6
    go_wp2_with fail
    refine (awake03_any _).mono ?_
    rintro e w1 ⟨rfl, hb1⟩
    go_wp2_with fail
    go_ret
    exact ⟨rfl, hb1⟩
  have S1 := Lib.hid (fun w => size_any v hv0 hv w)
  have S3 := Lib.hid (fun w => put_any v hv0 hv w)
  have hl := putL_small v
  by_cases c2 : v < 4611686018427387904
  · obtain ⟨g1, g2, g3, g4⟩ := got_put v hv0 c2 xs
    have hE : putE v = 0 := if_pos c2
    have c3 : ¬ (4611686018427387903 < v) := by omega
    clear c2
    obtain ⟨ys, hys⟩ : ∃ ys, putL v = ys := ⟨_, rfl⟩
    rw [hys] at g1 g2 g3 g4 hl
    obtain ⟨k, hk⟩ : ∃ k, ys.length = k := ⟨_, rfl⟩
    rw [← g4, hk] at g2
    rw [← g4, hk] at S1
    rw [hk] at hl
    have G1 := Lib.hid g1; have G2 := Lib.hid g2; have G3 := Lib.hid g3; have HE := Lib.hid hE; have HY := Lib.hid hys; have HK := Lib.hid hk
    clear g1 g2 g3 g4 hE hys hk hv0 hv
    obtain ⟨i0, hi0, hz0, hz1, hz2⟩ := info_parts info5
    go_enter Try.func6, Try.ntmps6
    go_wp2_with fail
    refine (awake03_any _).mono ?_
    rintro e w1 ⟨rfl, hb1⟩
    have HR1 := Lib.hid (HR.out.after hb1); have HB1 := Lib.hid hb1; clear hb1
    go_wp2_with fail
    refine (S3.out _).mono ?_
    rintro e w2 h2
    obtain ⟨hb2, A2, c2, rfl, hr2, -, -, -⟩ := h2.form
    rw [HY.out, HK.out] at hr2
    have HY2 := Lib.hid hr2; have HR2 := Lib.hid (HR1.out.after hb2); have HB2 := Lib.hid (below_then HB1.out hb2); clear hb2 hr2 h2
    rw [HE.out, HY.out, HK.out]
    go_wp2_with (at_builtin; refine wpList_append_any _ rfl (.tmp 34) (.tmp 35) 24 rfl w2.heap.size 5 i0 (.int .u8 0) Try.underlying24 hi0 hz0 hz1 hz2 rfl (.slice (some ⟨w2.heap.size, 0, none⟩) 0 0) 0 [] rfl ?p1 w2.heap.size A2 k c2 ys rfl ?p2 ?p3 ?p4 ?_)
    case p1 => exact World.ownsRow_lit w2 #[] 0 (Nat.le_refl _) (by unfold maxLen; omega) rfl
    case p2 => exact HY2.out.alloc (Nat.le_refl _) _
    case p3 => omega
    case p4 => simp
    intro Ap cp wp hop hgp hap
    have hbp : Below w2.heap.size w2 wp := ((Below.refl _ w2).alloc (Nat.le_refl _) _).grown hgp (by simp) (fun k hk => by have h1 : w2.heap.size = k := Option.some.inj hk; omega)
    have HOp := Lib.hid hop; have HBp := Lib.hid hbp; clear hop hgp hap hbp
    go_wp2_with (at_builtin; refine wpList_append_any _ rfl (.tmp 36) (.tmp 37) 24 rfl w2.heap.size 5 i0 (.int .u8 0) Try.underlying24 hi0 hz0 hz1 hz2 rfl (.slice Ap k cp) k ys rfl ?p5 w2.heap.size A n c xs rfl ?p6 ?p7 ?p8 ?_)
    case p5 => simpa using HOp.out
    case p6 => exact HR2.out.below HBp.out
    case p7 => omega
    case p8 => exact HBp.out.size
    intro Aq cq wq hoq hgq haq
    have hbq : Below w2.heap.size w2 wq := HBp.out.grown hgq HBp.out.size (fun j hj => ((by simpa using HOp.out : wp.ownsRow w2.heap.size 5 1 (.slice Ap k cp) k (bs ys)).lt j hj).1)
    have HOq := Lib.hid hoq; have HBq := Lib.hid (below_then HB2.out hbq); clear hoq hgq haq hbq
    go_wp2_with fail
    refine (get_any Aq (k + n) cq (ys ++ xs) wq (Rd.of_own HOq.out rfl) (own_caps HOq.out).1 (own_caps HOq.out).2).mono ?_
    rintro e w3 ⟨h3, rfl⟩
    obtain rfl := h3.form
    clear h3
    rw [G1.out, G2.out, G3.out]
    go_wp2_with fail
    refine (S1.out _).mono ?_
    rintro e w4 ⟨rfl, hb4⟩
    have HB4 := Lib.hid (below_then HBq.out hb4); clear hb4
    go_wp2_with fail
    go_ret
    exact ⟨rfl, HB4.out⟩
  · have hE : putE v = 31 := if_neg c2
    have hL : putL v = [] := if_neg c2
    have c3 : 4611686018427387903 < v := by omega
    have HE := Lib.hid hE; have HL := Lib.hid hL
    clear c2 hE hL hl
    go_enter Try.func6, Try.ntmps6
    go_wp2_with fail
    refine (awake03_any _).mono ?_
    rintro e w1 ⟨rfl, hb1⟩
    have HB1 := Lib.hid hb1; clear hb1
    go_wp2_with fail
    refine (S3.out _).mono ?_
    rintro e w2 h2
    obtain ⟨hb2, A2, c2, rfl, -, -, -, -⟩ := h2.form
    have HB2 := Lib.hid (below_then HB1.out hb2); clear hb2 h2
    rw [HE.out, HL.out]
    go_wp2_with fail
    go_ret
    exact ⟨rfl, HB2.out⟩
end Go.Proofs.Ytcimcldmkaggnaa
