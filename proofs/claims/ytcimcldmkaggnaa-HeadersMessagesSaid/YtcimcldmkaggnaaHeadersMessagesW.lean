/- HeadersMessages, walked. -/
import Derived.Test.YtcimcldmkaggnaaHdrRefParseW
namespace Go.Proofs.Ytcimcldmkaggnaa
set_option linter.unusedVariables false
set_option linter.unusedSimpArgs false
open Go.RowKit
open Hd

def ParseU (xs : List UInt8) (w : World) (e : Ending) (w' : World) : Prop := ∃ A1 c1 A2 c2, e = .returned (.tuple #[.slice A1 (parse xs).1.length c1, .slice A2 (parse xs).2.1.length c2, .int .i64 (parse xs).2.2]) ∧ Hds w' (.slice A1 (parse xs).1.length c1) (parse xs).1 ∧ (parse xs).1.length ≤ maxLen ∧ Byt w' (.slice A2 (parse xs).2.1.length c2) (parse xs).2.1 ∧ Below w.heap.size w w'
theorem parseU_of {xs : List UInt8} {w w' : World} {e : Ending} (h : ParseEnds xs w e w') : ParseU xs w e w' := by
  obtain ⟨hb, v, u, rfl, hv, hu⟩ := h
  have hv' := hv; have hu' := hu
  obtain ⟨A1, c1, rfl, -, h1, h2⟩ := hv'
  obtain ⟨A2, c2, rfl, -⟩ := hu'
  exact ⟨A1, c1, A2, c2, rfl, hv, Nat.le_trans h1 h2, hu, hb⟩
set_option maxRecDepth 100000 in
set_option maxHeartbeats 1600000 in
theorem walk_HeadersMessages (A : Option Addr) (n c : Nat) (hs : List H) (B : Option Addr) (m d : Nat) (body : List UInt8) (C : Option Addr) (p f : Nat) (xs : List UInt8) (w : World) (hh : HdrsIn w A n c hs) (hb : SliceIn w B m d body) (hx : SliceIn w C p f xs) :
    Calls Try.prog 15 #[.slice A n c, .slice B m d, .slice C p f] w fun e w' => e = .returned (.bool true) ∧ Below w.heap.size w w' := by
  obtain ⟨hr, hnc, hcm, -⟩ := hh
  obtain ⟨hrb, hmd, hdm, -⟩ := hb
  obtain ⟨hrx, hpf, hfm, -⟩ := hx
  have hn63 : n ≤ 9223372036854775807 := by unfold maxLen at hcm; omega
  clear hnc hcm
  have HL := Lib.hid hrb.1
  have HR := Lib.hid hr; have HY := Lib.hid hrb; have HX := Lib.hid hrx; clear hr hrb hrx
  have HMD := Lib.hid hmd; have HDM := Lib.hid hdm; have HPF := Lib.hid hpf; have HFM := Lib.hid hfm; clear hmd hdm hpf hfm
  cases hfew : fewV hs with
  | false =>
    have HFW := Lib.hid hfew; clear hfew
    go_enter Try.func15, Try.ntmps15
    go_wp2_with fail
    refine (awake20_any w).mono ?_
    rintro e w1 ⟨rfl, hb1⟩
    have HR1 := Lib.hid (HR.out.after hb1); have HB1 := Lib.hid hb1; clear hb1
    go_wp2_with fail
    refine (few_any A n c hs w1 HR1.out hn63).mono ?_
    rintro e w2 ⟨rfl, rfl⟩
    rw [HFW.out]
    go_wp2_with fail
    go_ret
    exact ⟨rfl, HB1.out⟩
  | true =>
    have HFW := Lib.hid hfew; clear hfew
    by_cases hm3 : m ≤ 3000
    · have hg3 : ((3000 : Int) < (m : Int)) = False := eq_false (by omega)
      by_cases hp3 : p ≤ 3000
      · have hg4 : ((3000 : Int) < (p : Int)) = False := eq_false (by omega)
        have HM3 := Lib.hid hm3; have HP3 := Lib.hid hp3; clear hm3 hp3
        go_enter Try.func15, Try.ntmps15
        go_wp2_with fail
        refine (awake20_any w).mono ?_
        rintro e w1 ⟨rfl, hb1⟩
        have HR1 := Lib.hid (HR.out.after hb1); have HY1 := Lib.hid (HY.out.after hb1); have HX1 := Lib.hid (HX.out.after hb1); have HB1 := Lib.hid hb1; clear hb1 HR HY HX
        go_wp2_with fail
        refine (few_any A n c hs w1 HR1.out hn63).mono ?_
        rintro e w2 ⟨rfl, rfl⟩
        rw [HFW.out]
        go_wp2_with fail
        refine (msg_uni A n c hs B m d body w1 HR1.out hn63 ⟨B, d, by rw [HL.out], by rw [HL.out]; exact HY1.out, by rw [HL.out]; exact HMD.out, HDM.out⟩ HL.out HM3.out).mono ?_
        rintro e w2 ⟨A2, c2, rfl, hy2, hb2⟩
        have HR2 := Lib.hid (HR1.out.after hb2); have HY2 := Lib.hid (HY1.out.after hb2); have HX2 := Lib.hid (HX1.out.after hb2); have HB2 := Lib.hid (below_then HB1.out hb2); have HE2 := Lib.hid hy2; clear hb2 hy2 HR1 HY1 HB1 HX1
        go_wp2_with fail
        refine (refMsg_uni A n c hs B m d body w2 HR2.out hn63 HY2.out HM3.out).mono ?_
        rintro e w3 ⟨A3, c3, rfl, hy3, hb3⟩
        have HX3 := Lib.hid (HX2.out.after hb3); have HB3 := Lib.hid (below_then HB2.out hb3); have HE3 := Lib.hid (HE2.out.after hb3); have HF3 := Lib.hid hy3; clear hb3 hy3 HR2 HY2 HB2 HE2 HX2
        go_wp2_with fail
        refine ((parse_any C p f xs w3 HX3.out HPF.out HFM.out (by have := HP3.out; omega)).mono fun e w' h => parseU_of h).mono ?_
        rintro e w4 ⟨A4, c4, B4, d4, rfl, hh4, hx4, hz4, hb4⟩
        have HX4 := Lib.hid (HX3.out.after hb4); have HB4 := Lib.hid (below_then HB3.out hb4); have HE4 := Lib.hid (HE3.out.after hb4); have HF4 := Lib.hid (HF3.out.after hb4); have HG4 := Lib.hid hh4; have HI4 := Lib.hid hz4; have HN4 := Lib.hid hx4; clear hb4 hh4 hx4 hz4 HX3 HB3 HE3 HF3
        go_wp2_with fail
        refine ((refParse C p f xs w4 HX4.out HPF.out HFM.out (by have := HP3.out; omega)).mono fun e w' h => parseU_of h).mono ?_
        rintro e w5 ⟨A5, c5, B5, d5, rfl, hh5, hx5, hz5, hb5⟩
        have HB5 := Lib.hid (below_then HB4.out hb5); have HE5 := Lib.hid (HE4.out.after hb5); have HF5 := Lib.hid (HF4.out.after hb5); have HG5 := Lib.hid (HG4.out.after hb5); have HI5 := Lib.hid (HI4.out.after hb5); have HH5 := Lib.hid hh5; have HJ5 := Lib.hid hz5; clear hb5 hh5 hx5 hz5 HX4 HB4 HE4 HF4 HG4 HI4
        go_wp2_with fail
        refine (same_any A4 (parse xs).1.length c4 (parse xs).1 A5 (parse xs).1.length c5 (parse xs).1 w5 HG5.out.rd HH5.out.rd (by have := HN4.out; unfold maxLen at this; omega) (by have := HN4.out; unfold maxLen at this; omega)).mono ?_
        rintro e w6 ⟨rfl, hb6⟩
        rw [decide_eq_true (rfl : (parse xs).1 = (parse xs).1)]
        have HB6 := Lib.hid (below_then HB5.out hb6)
        have v1 := (HE5.out.after hb6).convert
        have v2 := (HF5.out.after hb6).convert
        have v3 := (HI5.out.after hb6).convert
        have v4 := (HJ5.out.after hb6).convert
        clear hb6 HB5 HE5 HF5 HG5 HH5 HI5 HJ5 HN4
        generalize (parse xs).2.2 = de at *
        generalize sl (msgX hs body) = S at *
        generalize (msgX hs body).length = en at *
        generalize sl (parse xs).2.1 = S2 at *
        generalize (parse xs).2.1.length = en2 at *
        generalize (parse xs).1.length = en3 at *
        go_wp2_with fail
        go_ret
        exact ⟨rfl, HB6.out⟩
      · have hg4 : ((3000 : Int) < (p : Int)) := by omega
        go_enter Try.func15, Try.ntmps15
        go_wp2_with fail
        refine (awake20_any w).mono ?_
        rintro e w1 ⟨rfl, hb1⟩
        have HR1 := Lib.hid (HR.out.after hb1); have HB1 := Lib.hid hb1; clear hb1
        go_wp2_with fail
        refine (few_any A n c hs w1 HR1.out hn63).mono ?_
        rintro e w2 ⟨rfl, rfl⟩
        rw [HFW.out]
        go_wp2_with fail
        go_ret
        exact ⟨rfl, HB1.out⟩
    · have hg3 : ((3000 : Int) < (m : Int)) := by omega
      go_enter Try.func15, Try.ntmps15
      go_wp2_with fail
      refine (awake20_any w).mono ?_
      rintro e w1 ⟨rfl, hb1⟩
      have HR1 := Lib.hid (HR.out.after hb1); have HB1 := Lib.hid hb1; clear hb1
      go_wp2_with fail
      refine (few_any A n c hs w1 HR1.out hn63).mono ?_
      rintro e w2 ⟨rfl, rfl⟩
      rw [HFW.out]
      go_wp2_with fail
      go_ret
      exact ⟨rfl, HB1.out⟩
end Go.Proofs.Ytcimcldmkaggnaa
