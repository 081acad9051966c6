/- The walk of the law SealTurns. -/
import Derived.Test.YtecomgojaggpbaaSealHead
import Derived.Test.YtecomgojaggpbaaSealPlain
import Derived.Test.YtecomgojaggpbaaArgs
namespace Go.Proofs.Ytecomgojaggpbaa
set_option linter.unusedVariables false
open Go.RowKit
open Crc Pn

theorem byte_of {b : Int} (h : (Lit.int .u8 b).wf = true) : ∃ y : UInt8, b = (y.toNat : Int) := by
  obtain ⟨h0, h1⟩ := bounds_u8 h
  exact ⟨UInt8.ofNat b.toNat, by rw [UInt8.toNat_ofNat']; omega⟩
theorem xor_byte (x y : UInt8) : bits .xor .u8 (x.toNat : Int) (y.toNat : Int) = ((x ^^^ y).toNat : Int) := by
  rw [u8_xor_nat _ _ x.toNat_lt y.toNat_lt, UInt8.toNat_xor]
theorem xor_ne (x y : UInt8) (h : y ≠ 0) : x ^^^ y ≠ x := by
  intro e
  apply h
  have := congrArg (x ^^^ ·) e
  simpa [← UInt8.xor_assoc] using this
theorem own_addr {w : World} {B n c : Nat} {A : Option Addr} {xs : List Value} (h : w.ownsRow B 5 1 (.slice A n c) n xs) (hn : 0 < n) : ∃ g, A = some ⟨g, 0, none⟩ := by
  obtain ⟨g, cap, hv, _⟩ := h.form hn
  injection hv with hv
  exact ⟨g, hv⟩

set_option maxRecDepth 100000 in
set_option maxHeartbeats 6400000 in
theorem walk_SealTurns (a nx : Int) (A : Option Addr) (n c : Nat) (xs : List UInt8) (p b : Int) (w : World) (wa : (Lit.int .u64 a).wf = true) (wx : (Lit.int .u64 nx).wf = true) (hs : SliceIn w A n c xs) (wp : (Lit.int .i64 p).wf = true) (wb : (Lit.int .u8 b).wf = true) :
    Calls Try.prog 12 #[.int .u64 a, .int .u64 nx, .slice A n c, .int .i64 p, .int .u8 b] w fun e w' => e = .returned (.bool true) ∧ Below w.heap.size w w' := by
  obtain ⟨ha, ha'⟩ := bounds_u64 wa
  obtain ⟨hx, hx'⟩ := bounds_u64 wx
  obtain ⟨hp0, hp1⟩ := bounds_i64 wp
  obtain ⟨y, rfl⟩ := byte_of wb
  obtain ⟨hr, hc, hm, hnone⟩ := hs
  clear wa wx wp wb hnone
  have hnm : n ≤ 9223372036854775807 := by unfold maxLen at hm; omega
  by_cases c0 : 2000 < n
  · clear hr
    go_enter Try.func12, Try.ntmps12
    go_wp2_with (go_at_call 23; refine (awake06_any _).mono ?_; rintro e w1 ⟨rfl, hb1⟩)
    go_ret
    exact ⟨rfl, hb1⟩
  have HR := Lib.hid hr
  clear hr
  rcases hpk : pack a nx xs with _ | ys
  · have HP := Lib.hid hpk; clear hpk
    go_enter Try.func12, Try.ntmps12
    go_wp2_with fail
    refine (awake06_any _).mono ?_
    rintro e w1 ⟨rfl, hb1⟩
    have HR1 := Lib.hid (HR.out.after hb1)
    have HB1 := Lib.hid hb1; clear hb1
    go_wp2_with fail
    refine (pack_any a nx A n c xs w1 ha ha' hx hx' HR1.out (by omega) hc hm).mono ?_
    rintro e w2 h2
    obtain ⟨hb2, rfl⟩ := h2.none_ HP.out
    have HB2 := Lib.hid (below_then HB1.out hb2)
    clear hb2 h2
    go_wp2_with fail
    go_ret
    exact ⟨rfl, HB2.out⟩
  obtain ⟨_, s, q, _, _, hs1, hs4, _, hl1, hl2, hys⟩ := pack_some ha hpk
  obtain ⟨k, hk⟩ : ∃ k : Nat, ys.length = k := ⟨_, rfl⟩
  have hk' : k = xs.length + 5 + s := by rw [← hk, hys, sealed_length, List.length_append, hd_length]; omega
  have hkpos : 0 < k := by omega
  have hkb : k ≤ 1200 := by omega
  have hk0 : ((k : Int) == 0) = false := by simp; omega
  obtain ⟨m, hom⟩ := open_pack_any (nx := nx) ha hpk
  have hturn : ∀ (i : Nat) (v : UInt8) (hi : i < ys.length), v ≠ ys[i]'hi → openOf (ys.set i v) nx = none := by
    subst hys
    exact fun i v hi hv => open_turned _ i v nx hi hv
  obtain ⟨P, hP, hPp⟩ : ∃ P : Int, 0 ≤ P ∧ (p < 0 ∧ P = -(p + 1) ∨ 0 ≤ p ∧ P = p) := by
    by_cases h : p < 0
    · exact ⟨-(p + 1), by omega, .inl ⟨h, rfl⟩⟩
    · exact ⟨p, by omega, .inr ⟨by omega, rfl⟩⟩
  obtain ⟨i, hi⟩ : ∃ i : Nat, P % (k : Int) = (i : Int) := ⟨_, (Int.toNat_of_nonneg (Int.emod_nonneg _ (by omega))).symm⟩
  have hik : i < k := by have := Int.emod_lt_of_pos P (b := (k : Int)) (by omega); omega
  have hil : i < ys.length := by omega
  have HP := Lib.hid hpk; have HK := Lib.hid hk; have HT := Lib.hid hturn; have HM := Lib.hid hom
  clear hpk hk hturn hom hys hk' hl1 hl2 hs1 hs4
  obtain ⟨i0, hi0, hz0, hz1, hz2⟩ := info_parts info5
  have hxb := xor_byte (ys[i]'hil) y
  rcases hPp with ⟨hneg, rfl⟩ | ⟨hpos, rfl⟩
  · have hi' : -((p + 1).tmod (k : Int)) = (i : Int) := by
      rw [← hi, ← Int.neg_tmod, Int.tmod_eq_emod_of_nonneg (by omega)]
    clear hi
    go_enter Try.func12, Try.ntmps12
    go_wp2_with fail
    refine (awake06_any _).mono ?_
    rintro e w1 ⟨rfl, hb1⟩
    have HR1 := Lib.hid (HR.out.after hb1)
    have HB1 := Lib.hid hb1; clear hb1
    go_wp2_with fail
    refine (pack_any a nx A n c xs w1 ha ha' hx hx' HR1.out (by omega) hc hm).mono ?_
    rintro e w2 h2
    obtain ⟨hb2, A2, c2', rfl, hw2⟩ := h2.some_ HP.out
    rw [HK.out] at hw2 ⊢
    have HB2 := Lib.hid (below_then HB1.out hb2)
    have HY2 := Lib.hid (Rd.of_own hw2 rfl)
    clear hb2 h2 hw2
    go_wp2_with (at_builtin; refine wpList_append_any _ rfl (.tmp 51) (.tmp 52) 33 rfl w2.heap.size 5 i0 (.int .u8 0) Try.underlying33 hi0 hz0 hz1 hz2 rfl (.slice (some ⟨w2.heap.size, 0, none⟩) 0 0) 0 [] rfl ?u1 w2.heap.size A2 k c2' ys rfl ?u2 ?u3 ?u4 ?_)
    case u1 => exact World.ownsRow_lit w2 #[] 0 (Nat.le_refl _) (by unfold maxLen; omega) rfl
    case u2 => exact HY2.out.alloc (Nat.le_refl _) _
    case u3 => omega
    case u4 => simp
    intro A3 c3' w3 ho3 hg3 ha3
    have hb3 : Below w2.heap.size w2 w3 := ((Below.refl _ w2).alloc (Nat.le_refl _) _).grown hg3 (by simp) (fun k hk => by have h1 : w2.heap.size = k := Option.some.inj hk; omega)
    have HB3 := Lib.hid (below_then HB2.out hb3)
    have HB23 := Lib.hid hb3
    have ho3' : w3.ownsRow w2.heap.size 5 1 (.slice A3 k c3') k (bs ys) := by simpa using ho3
    clear hg3 ha3 hb3 ho3
    obtain ⟨g, rfl⟩ := own_addr ho3' hkpos
    have hcell := ho3'.cellAt i (by omega)
    rw [bs_get ys i hil] at hcell
    have hfz := ho3'.frozenAt i
    have hgb : w2.heap.size ≤ g := (ho3'.lt g rfl).1
    obtain ⟨hc1, hc2⟩ := own_caps ho3'
    have hst : ∀ v : UInt8, (w3.setCell ⟨g, i, none⟩ (.int .u8 (v.toNat : Int))).ownsRow w2.heap.size 5 1 (.slice (some ⟨g, 0, none⟩) k c3') k (bs (ys.set i v)) := fun v => by
      have h := ho3'.stored i (.int .u8 (v.toNat : Int))
      have e : bs (ys.set i v) = (bs ys).set i (.int .u8 (v.toNat : Int)) := by simp [bs, List.map_set]
      rw [e]
      exact h.1
    have HST := Lib.hid (hst (ys[i]'hil ^^^ y))
    clear hst ho3'
    go_wp2_with fail
    have hw4 : Below w.heap.size w (w3.setCell ⟨g, i, none⟩ (.int .u8 ((ys[i]'hil ^^^ y).toNat : Int))) := HB3.out.setCell (by have := HB2.out.size; exact Nat.le_trans this hgb) _
    have HW4 := Lib.hid hw4; clear hw4
    refine (open_any nx (some ⟨g, 0, none⟩) k c3' (ys.set i (ys[i]'hil ^^^ y)) _ hx hx' (Rd.of_own HST.out rfl) (by omega) hc1 hc2 (fun h => by cases h)).mono ?_
    rintro e w5 h5
    by_cases hy : y = 0
    · subst hy
      have hx0 : ys.set i (ys[i]'hil ^^^ 0) = ys := by simp
      rw [hx0] at h5
      obtain ⟨hb5, A5, c5', rfl, hw5⟩ := h5.some_ HM.out
      have HB5 := Lib.hid (below_then HW4.out hb5)
      clear h5 hb5 hw5 hxb hcell hx0
      go_wp2_with fail
      go_ret
      exact ⟨rfl, HB5.out⟩
    · obtain ⟨hb5, rfl⟩ := h5.none_ (HT.out i _ hil (xor_ne _ _ hy))
      have HB5 := Lib.hid (below_then HW4.out hb5)
      have hyt : ¬ y.toNat = 0 := fun h => hy (UInt8.toNat_inj.1 h)
      have hy0 : ((y.toNat : Int) == 0) = false := by simp; omega
      clear h5 hb5 hxb hcell
      go_wp2_with fail
      go_ret
      exact ⟨rfl, HB5.out⟩
  · skip
    go_enter Try.func12, Try.ntmps12
    go_wp2_with fail
    refine (awake06_any _).mono ?_
    rintro e w1 ⟨rfl, hb1⟩
    have HR1 := Lib.hid (HR.out.after hb1)
    have HB1 := Lib.hid hb1; clear hb1
    go_wp2_with fail
    refine (pack_any a nx A n c xs w1 ha ha' hx hx' HR1.out (by omega) hc hm).mono ?_
    rintro e w2 h2
    obtain ⟨hb2, A2, c2', rfl, hw2⟩ := h2.some_ HP.out
    rw [HK.out] at hw2 ⊢
    have HB2 := Lib.hid (below_then HB1.out hb2)
    have HY2 := Lib.hid (Rd.of_own hw2 rfl)
    clear hb2 h2 hw2
    go_wp2_with (at_builtin; refine wpList_append_any _ rfl (.tmp 51) (.tmp 52) 33 rfl w2.heap.size 5 i0 (.int .u8 0) Try.underlying33 hi0 hz0 hz1 hz2 rfl (.slice (some ⟨w2.heap.size, 0, none⟩) 0 0) 0 [] rfl ?v1 w2.heap.size A2 k c2' ys rfl ?v2 ?v3 ?v4 ?_)
    case v1 => exact World.ownsRow_lit w2 #[] 0 (Nat.le_refl _) (by unfold maxLen; omega) rfl
    case v2 => exact HY2.out.alloc (Nat.le_refl _) _
    case v3 => omega
    case v4 => simp
    intro A3 c3' w3 ho3 hg3 ha3
    have hb3 : Below w2.heap.size w2 w3 := ((Below.refl _ w2).alloc (Nat.le_refl _) _).grown hg3 (by simp) (fun k hk => by have h1 : w2.heap.size = k := Option.some.inj hk; omega)
    have HB3 := Lib.hid (below_then HB2.out hb3)
    have HB23 := Lib.hid hb3
    have ho3' : w3.ownsRow w2.heap.size 5 1 (.slice A3 k c3') k (bs ys) := by simpa using ho3
    clear hg3 ha3 hb3 ho3
    obtain ⟨g, rfl⟩ := own_addr ho3' hkpos
    have hcell := ho3'.cellAt i (by omega)
    rw [bs_get ys i hil] at hcell
    have hfz := ho3'.frozenAt i
    have hgb : w2.heap.size ≤ g := (ho3'.lt g rfl).1
    obtain ⟨hc1, hc2⟩ := own_caps ho3'
    have hst : ∀ v : UInt8, (w3.setCell ⟨g, i, none⟩ (.int .u8 (v.toNat : Int))).ownsRow w2.heap.size 5 1 (.slice (some ⟨g, 0, none⟩) k c3') k (bs (ys.set i v)) := fun v => by
      have h := ho3'.stored i (.int .u8 (v.toNat : Int))
      have e : bs (ys.set i v) = (bs ys).set i (.int .u8 (v.toNat : Int)) := by simp [bs, List.map_set]
      rw [e]
      exact h.1
    have HST := Lib.hid (hst (ys[i]'hil ^^^ y))
    clear hst ho3'
    go_wp2_with fail
    have hw4 : Below w.heap.size w (w3.setCell ⟨g, i, none⟩ (.int .u8 ((ys[i]'hil ^^^ y).toNat : Int))) := HB3.out.setCell (by have := HB2.out.size; exact Nat.le_trans this hgb) _
    have HW4 := Lib.hid hw4; clear hw4
    refine (open_any nx (some ⟨g, 0, none⟩) k c3' (ys.set i (ys[i]'hil ^^^ y)) _ hx hx' (Rd.of_own HST.out rfl) (by omega) hc1 hc2 (fun h => by cases h)).mono ?_
    rintro e w5 h5
    by_cases hy : y = 0
    · subst hy
      have hx0 : ys.set i (ys[i]'hil ^^^ 0) = ys := by simp
      rw [hx0] at h5
      obtain ⟨hb5, A5, c5', rfl, hw5⟩ := h5.some_ HM.out
      have HB5 := Lib.hid (below_then HW4.out hb5)
      clear h5 hb5 hw5 hxb hcell hx0
      go_wp2_with fail
      go_ret
      exact ⟨rfl, HB5.out⟩
    · obtain ⟨hb5, rfl⟩ := h5.none_ (HT.out i _ hil (xor_ne _ _ hy))
      have HB5 := Lib.hid (below_then HW4.out hb5)
      have hyt : ¬ y.toNat = 0 := fun h => hy (UInt8.toNat_inj.1 h)
      have hy0 : ((y.toNat : Int) == 0) = false := by simp; omega
      clear h5 hb5 hxb hcell
      go_wp2_with fail
      go_ret
      exact ⟨rfl, HB5.out⟩
end Go.Proofs.Ytecomgojaggpbaa
