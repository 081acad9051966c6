/- HeadersCodes, walked. -/
import Derived.Test.YtcimcldmkaggnaaHdrRefDecW
import Derived.Test.YtcimcldmkaggnaaHdrRefEncW
import Derived.Test.YtcimcldmkaggnaaHeadersBackW
namespace Go.Proofs.Ytcimcldmkaggnaa
set_option linter.unusedVariables false
set_option linter.unusedSimpArgs false
open Go.RowKit
open Hd

theorem Hds.rd {w : World} {A : Option Addr} {n c : Nat} {hs : List H} (h : Hds w (.slice A n c) hs) : HRd w w.heap.size A n hs := by
  obtain ⟨A1, c1, hv, hr, h1, _⟩ := h
  injection hv with q1 q2 q3
  subst q1 q2
  exact hr
/-- what Encode answers: bytes and code -/
def encX (hs : List H) : List UInt8 := if good hs = true then enc hs else []
def EncU (hs : List H) (w : World) (e : Ending) (w' : World) : Prop := ∃ A1 c1, e = .returned (.tuple #[.slice A1 (encX hs).length c1, .int .i64 (checkV hs)]) ∧ Byt w' (.slice A1 (encX hs).length c1) (encX hs) ∧ Below w.heap.size w w'
theorem encU_good {hs : List H} {w w' : World} {e : Ending} (hg : good hs = true) (h : ∃ A1 c1, e = .returned (.tuple #[.slice A1 (enc hs).length c1, .int .i64 0]) ∧ Byt w' (.slice A1 (enc hs).length c1) (enc hs) ∧ Below w.heap.size w w') : EncU hs w e w' := by
  unfold EncU encX
  rw [if_pos hg, checkV_good, if_pos hg]
  exact h
theorem encU_bad {hs : List H} {w w' : World} {e : Ending} (hg : good hs = false) (h : e = .returned (.tuple #[.slice none 0 0, .int .i64 200]) ∧ Below w.heap.size w w') : EncU hs w e w' := by
  unfold EncU encX
  rw [hg, checkV_good, hg]
  exact ⟨none, 0, h.1, byt_nil _, h.2⟩
theorem enc_uni (A : Option Addr) (n c : Nat) (hs : List H) (w : World) (hR : HRd w w.heap.size A n hs) (hn : n ≤ 9223372036854775807) : Calls Try.prog 19 #[.slice A n c] w (EncU hs w) := by
  cases hg : good hs with
  | true => exact (encode_good A n c hs w hR hn hg).mono fun e w' h => encU_good hg h
  | false => exact (encode_bad A n c hs w hR hn hg).mono fun e w' h => encU_bad hg h
theorem refEnc_uni (A : Option Addr) (n c : Nat) (hs : List H) (w : World) (hR : HRd w w.heap.size A n hs) (hn : n ≤ 9223372036854775807) : Calls Try.prog 30 #[.slice A n c] w (EncU hs w) := by
  cases hg : good hs with
  | true => exact (refEncode_good A n c hs w hR hn hg).mono fun e w' h => encU_good hg h
  | false => exact (refEncode_bad A n c hs w hR hn hg).mono fun e w' h => encU_bad hg h
/-- what Decode answers: headers and code -/
def decX (xs : List UInt8) : List H := match dec xs with | some hs => hs | none => []
def decE (xs : List UInt8) : Int := match dec xs with | some _ => 0 | none => 200
def DecU (xs : List UInt8) (w : World) (e : Ending) (w' : World) : Prop := ∃ A1 c1, e = .returned (.tuple #[.slice A1 (decX xs).length c1, .int .i64 (decE xs)]) ∧ Hds w' (.slice A1 (decX xs).length c1) (decX xs) ∧ (decX xs).length ≤ maxLen ∧ Below w.heap.size w w'
theorem decU_of {xs : List UInt8} {w w' : World} {e : Ending} (h : DecEnds xs w e w') : DecU xs w e w' := by
  obtain ⟨hb, h⟩ := h
  unfold DecU decX decE
  cases hd : dec xs with
  | none =>
    rw [hd] at h
    exact ⟨none, 0, h, hds_nil _, Nat.zero_le _, hb⟩
  | some hs =>
    rw [hd] at h
    obtain ⟨v, rfl, hh⟩ := h
    obtain ⟨A1, c1, rfl, hr, h1, h2⟩ := hh
    exact ⟨A1, c1, rfl, ⟨A1, c1, rfl, hr, h1, h2⟩, Nat.le_trans h1 h2, hb⟩
set_option maxRecDepth 100000 in
set_option maxHeartbeats 1600000 in
theorem walk_HeadersCodes (A : Option Addr) (n c : Nat) (hs : List H) (B : Option Addr) (m d : Nat) (body : List UInt8) (w : World) (hh : HdrsIn w A n c hs) (hb : SliceIn w B m d body) :
    Calls Try.prog 12 #[.slice A n c, .slice B m d] w fun e w' => e = .returned (.bool true) ∧ Below w.heap.size w w' := by
  obtain ⟨hr, hnc, hcm, -⟩ := hh
  obtain ⟨hrb, hmd, hdm, -⟩ := hb
  have hn63 : n ≤ 9223372036854775807 := by unfold maxLen at hcm; omega
  clear hnc hcm
  have HR := Lib.hid hr; have HY := Lib.hid hrb; clear hr hrb
  have HMD := Lib.hid hmd; have HDM := Lib.hid hdm; clear hmd hdm
  cases hfew : fewV hs with
  | false =>
    have HFW := Lib.hid hfew; clear hfew
    go_enter Try.func12, Try.ntmps12
    go_wp2_with fail
    refine (awake20_any w).mono ?_
    rintro e w1 ⟨rfl, hb1⟩
    have HR1 := Lib.hid (HR.out.after hb1); have HB1 := Lib.hid hb1; clear hb1
    go_wp2_with fail
    refine (few_any A n c hs w1 HR1.out hn63).mono ?_
    rintro e w2 ⟨rfl, rfl⟩
    rw [HFW.out]
    go_wp2_with fail
    go_ret
    exact ⟨rfl, HB1.out⟩
  | true =>
    have HFW := Lib.hid hfew; clear hfew
    by_cases hm3 : m ≤ 3000
    · have hg3 : ((3000 : Int) < (m : Int)) = False := eq_false (by omega)
      go_enter Try.func12, Try.ntmps12
      go_wp2_with fail
      refine (awake20_any w).mono ?_
      rintro e w1 ⟨rfl, hb1⟩
      have HR1 := Lib.hid (HR.out.after hb1); have HY1 := Lib.hid (HY.out.after hb1); have HB1 := Lib.hid hb1; clear hb1 HR HY
      go_wp2_with fail
      refine (few_any A n c hs w1 HR1.out hn63).mono ?_
      rintro e w2 ⟨rfl, rfl⟩
      rw [HFW.out]
      go_wp2_with fail
      refine (enc_uni A n c hs w1 HR1.out hn63).mono ?_
      rintro e w2 ⟨A2, c2, rfl, hy2, hb2⟩
      have HR2 := Lib.hid (HR1.out.after hb2); have HY2 := Lib.hid (HY1.out.after hb2); have HB2 := Lib.hid (below_then HB1.out hb2); have HE2 := Lib.hid hy2; clear hb2 hy2 HR1 HY1 HB1
      go_wp2_with fail
      refine (refEnc_uni A n c hs w2 HR2.out hn63).mono ?_
      rintro e w3 ⟨A3, c3, rfl, hy3, hb3⟩
      have HR3 := Lib.hid (HR2.out.after hb3); have HY3 := Lib.hid (HY2.out.after hb3); have HB3 := Lib.hid (below_then HB2.out hb3); have HE3 := Lib.hid (HE2.out.after hb3); have HF3 := Lib.hid hy3; clear hb3 hy3 HR2 HY2 HB2 HE2
      go_wp2_with fail
      refine ((decode_any B m d body w3 HY3.out HMD.out HDM.out (by omega)).mono fun e w' h => decU_of h).mono ?_
      rintro e w4 ⟨A4, c4, rfl, hh4, hx4, hb4⟩
      have HR4 := Lib.hid (HR3.out.after hb4); have HY4 := Lib.hid (HY3.out.after hb4); have HB4 := Lib.hid (below_then HB3.out hb4); have HE4 := Lib.hid (HE3.out.after hb4); have HF4 := Lib.hid (HF3.out.after hb4); have HG4 := Lib.hid hh4; have HX4 := Lib.hid hx4; clear hb4 hh4 hx4 HR3 HY3 HB3 HE3 HF3
      go_wp2_with fail
      refine ((refDecode B m d body w4 HY4.out HMD.out HDM.out (by omega)).mono fun e w' h => decU_of h).mono ?_
      rintro e w5 ⟨A5, c5, rfl, hh5, hx5, hb5⟩
      have HR5 := Lib.hid (HR4.out.after hb5); have HB5 := Lib.hid (below_then HB4.out hb5); have HE5 := Lib.hid (HE4.out.after hb5); have HF5 := Lib.hid (HF4.out.after hb5); have HG5 := Lib.hid (HG4.out.after hb5); have HH5 := Lib.hid hh5; clear hb5 hh5 hx5 HR4 HY4 HB4 HE4 HF4 HG4
      go_wp2_with fail
      refine (same_any A4 (decX body).length c4 (decX body) A5 (decX body).length c5 (decX body) w5 HG5.out.rd HH5.out.rd (by have := HX4.out; unfold maxLen at this; omega) (by have := HX4.out; unfold maxLen at this; omega)).mono ?_
      rintro e w6 ⟨rfl, hb6⟩
      rw [decide_eq_true (rfl : decX body = decX body)]
      have HR6 := Lib.hid (HR5.out.after hb6); have HB6 := Lib.hid (below_then HB5.out hb6)
      have v1 := (HE5.out.after hb6).convert
      have v2 := (HF5.out.after hb6).convert
      clear hb6 HR5 HB5 HE5 HF5 HG5 HH5
      generalize decE body = de at *
      generalize sl (encX hs) = S at *
      generalize (encX hs).length = en at *
      go_wp2_with fail
      refine (check_any A n c hs w6 HR6.out hn63).mono ?_
      rintro e w7 ⟨rfl, hb7⟩
      have HR7 := Lib.hid (HR6.out.after hb7); have HB7 := Lib.hid (below_then HB6.out hb7); clear hb7 HR6 HB6
      go_wp2_with fail
      refine (refCheck_any A n c hs w7 HR7.out hn63).mono ?_
      rintro e w8 ⟨rfl, rfl⟩
      go_wp2_with fail
      go_ret
      exact ⟨rfl, HB7.out⟩
    · have hg3 : ((3000 : Int) < (m : Int)) := by omega
      go_enter Try.func12, Try.ntmps12
      go_wp2_with fail
      refine (awake20_any w).mono ?_
      rintro e w1 ⟨rfl, hb1⟩
      have HR1 := Lib.hid (HR.out.after hb1); have HB1 := Lib.hid hb1; clear hb1
      go_wp2_with fail
      refine (few_any A n c hs w1 HR1.out hn63).mono ?_
      rintro e w2 ⟨rfl, rfl⟩
      rw [HFW.out]
      go_wp2_with fail
      go_ret
      exact ⟨rfl, HB1.out⟩
end Go.Proofs.Ytcimcldmkaggnaa
