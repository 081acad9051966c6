/- The reference's framing and Message, walked. -/
import Derived.Test.YtcimcldmkaggnaaHeadersCodesW
namespace Go.Proofs.Ytcimcldmkaggnaa
set_option linter.unusedVariables false
set_option linter.unusedSimpArgs false
open Go.RowKit
open Hd Va

set_option maxRecDepth 100000 in
set_option maxHeartbeats 1600000 in
theorem refFrame (k : Nat) (A : Option Addr) (n c : Nat) (xs : List UInt8) (w : World) (hk : k < 4611686018427387904) (hR : Rd w w.heap.size A n xs) (hn : n ≤ 1000000) :
    Calls Try.prog 50 #[.int .u64 (k : Nat), .slice A n c] w (NumEnds (frm k xs) w) := by
  obtain ⟨i0, hi0, hz0, hz1, hz2⟩ := info_parts info5
  have S1 := Lib.hid (fun w => refPut_any (k : Int) (by omega) (by omega) w)
  have S2 := Lib.hid (fun w => refPut_any (n : Int) (by omega) (by omega) w)
  have HP1 := Lib.hid (putL_nat k hk)
  have HP2 := Lib.hid (putL_nat n (by omega))
  have HL1 := Lib.hid (put_len k hk)
  have HL2 := Lib.hid (put_len n (by omega))
  have HL := Lib.hid hR.1
  have HF := Lib.hid (show frm k xs = put k ++ put n ++ xs by unfold frm; rw [hR.1])
  have HR := Lib.hid hR
  clear hk hR
  go_enter Try.func50, Try.ntmps50
  go_wp2_with fail
  refine (S1.out _).mono ?_
  rintro e w1 h1
  obtain ⟨hb1, A1, c1, rfl, -, -, -, ho1⟩ := h1.form
  rw [HP1.out] at ho1 ⊢
  have HO1 := Lib.hid ho1; have HB1 := Lib.hid hb1; clear ho1 hb1 h1
  go_wp2_with fail
  refine (S2.out _).mono ?_
  rintro e w2 h2
  obtain ⟨hb2, A2, c2, rfl, hr2, -, -, -⟩ := h2.form
  rw [HP2.out] at hr2 ⊢
  have HR2 := Lib.hid hr2; have HB2 := Lib.hid (below_then HB1.out hb2); have HO2 := Lib.hid (own_below HO1.out hb2); clear hr2 hb2 h2
  go_wp2_with (at_builtin; refine wpList_append_any _ rfl (.tmp 21) (.tmp 22) 24 rfl w.heap.size 5 i0 (.int .u8 0) Try.underlying24 hi0 hz0 hz1 hz2 rfl (.slice A1 (put k).length c1) (put k).length (put k) rfl ?q1 w2.heap.size A2 (put n).length c2 (put n) rfl ?q2 ?q3 ?q4 ?_)
  case q1 => exact HO2.out
  case q2 => exact HR2.out
  case q3 => have := HL1.out; have := HL2.out; omega
  case q4 => exact HB2.out.size
  intro A5 c5 w5 hown5 hg5 hat5
  have hb5 : Below w.heap.size w w5 := HB2.out.grown hg5 HB2.out.size (fun j hj => (HO2.out.lt j hj).1)
  have HO5 := Lib.hid hown5; have HB5 := Lib.hid hb5; have HR5 := Lib.hid (HR.out.below hb5); clear hown5 hg5 hat5 hb5
  go_wp2_with (at_builtin; refine wpList_append_any _ rfl (.tmp 23) (.tmp 24) 24 rfl w.heap.size 5 i0 (.int .u8 0) Try.underlying24 hi0 hz0 hz1 hz2 rfl (.slice A5 ((put k).length + (put n).length) c5) ((put k).length + (put n).length) (put k ++ put n) rfl ?p1 w.heap.size A n c xs rfl ?p2 ?p3 ?p4 ?_)
  case p1 => exact HO5.out
  case p2 => exact HR5.out
  case p3 => have := HL1.out; have := HL2.out; omega
  case p4 => exact HB5.out.size
  intro A6 c6 w6 hown6 hg6 hat6
  have hb6 : Below w.heap.size w w6 := HB5.out.grown hg6 HB5.out.size (fun j hj => (HO5.out.lt j hj).1)
  have HO6 := Lib.hid hown6; have HB6 := Lib.hid hb6; clear hown6 hg6 hat6 hb6
  go_wp2_with fail
  go_ret
  have hl : (frm k xs).length = (put k).length + (put n).length + n := by rw [HF.out, List.length_append, List.length_append, HL.out]
  refine ⟨HB6.out, A6, c6, by rw [hl]; rfl, ?_⟩
  rw [hl, HF.out, List.append_assoc]
  exact HO6.out
/-- what Message answers: bytes and code -/
def msgX (hs : List H) (body : List UInt8) : List UInt8 := if good hs = true then msg hs body else []
def MsgU (hs : List H) (body : List UInt8) (w : World) (e : Ending) (w' : World) : Prop := ∃ A1 c1, e = .returned (.tuple #[.slice A1 (msgX hs body).length c1, .int .i64 (checkV hs)]) ∧ Byt w' (.slice A1 (msgX hs body).length c1) (msgX hs body) ∧ Below w.heap.size w w'
theorem msgU_good {hs : List H} {body : List UInt8} {w w' : World} {e : Ending} (hg : good hs = true) (h : ∃ A1 c1, e = .returned (.tuple #[.slice A1 (msg hs body).length c1, .int .i64 0]) ∧ Byt w' (.slice A1 (msg hs body).length c1) (msg hs body) ∧ Below w.heap.size w w') : MsgU hs body w e w' := by
  unfold MsgU msgX
  rw [if_pos hg, checkV_good, if_pos hg]
  exact h
theorem msgU_bad {hs : List H} {body : List UInt8} {w w' : World} {e : Ending} (hg : good hs = false) (h : e = .returned (.tuple #[.slice none 0 0, .int .i64 200]) ∧ Below w.heap.size w w') : MsgU hs body w e w' := by
  unfold MsgU msgX
  rw [hg, checkV_good, hg]
  exact ⟨none, 0, h.1, byt_nil _, h.2⟩
theorem msg_uni (A : Option Addr) (n c : Nat) (hs : List H) (B : Option Addr) (m d : Nat) (body : List UInt8) (w : World) (hR : HRd w w.heap.size A n hs) (hn : n ≤ 9223372036854775807) (hY : Byt w (.slice B m d) body) (hl : body.length = m) (hm : m ≤ 3000) : Calls Try.prog 20 #[.slice A n c, .slice B m d] w (MsgU hs body w) := by
  cases hg : good hs with
  | true => exact (message_good A n c hs B m d body w hR hn hY hl hm hg).mono fun e w' ⟨A1, c1, h1, _, h3, h4⟩ => msgU_good hg ⟨A1, c1, h1, h3, h4⟩
  | false => exact (message_bad A n c hs B m d body w hR hn hY hl hm hg).mono fun e w' h => msgU_bad hg h
set_option maxRecDepth 100000 in
set_option maxHeartbeats 1600000 in
theorem refMsg_uni (A : Option Addr) (n c : Nat) (hs : List H) (B : Option Addr) (m d : Nat) (body : List UInt8) (w : World) (hR : HRd w w.heap.size A n hs) (hn : n ≤ 9223372036854775807) (hY : Rd w w.heap.size B m body) (hm : m ≤ 3000) : Calls Try.prog 35 #[.slice A n c, .slice B m d] w (MsgU hs body w) := by
  obtain ⟨i0, hi0, hz0, hz1, hz2⟩ := info_parts info5
  have HY := Lib.hid hY; have HL := Lib.hid hY.1
  clear hY
  cases hg : good hs with
  | false =>
    have HE := Lib.hid (refEncode_bad A n c hs w hR hn hg)
    have HG := Lib.hid hg; clear hg hR
    go_enter Try.func35, Try.ntmps35
    go_wp2_with fail
    refine HE.out.mono ?_
    rintro e w1 ⟨rfl, hb1⟩
    go_wp2_with fail
    go_ret2
    exact msgU_bad HG.out ⟨rfl, hb1⟩
  | true =>
    have HEL := Lib.hid (enc_length hs hg)
    have HE := Lib.hid (refEncode_good A n c hs w hR hn hg)
    have HG := Lib.hid hg; clear hg hR
    go_enter Try.func35, Try.ntmps35
    go_wp2_with fail
    refine HE.out.mono ?_
    rintro e w1 ⟨A1, c1, rfl, hy1, hb1⟩
    have HY1 := Lib.hid hy1.rd; have HB1 := Lib.hid hb1; clear hy1 hb1
    have HEL2 := Lib.hid (show 2 ≤ (enc hs).length ∧ (enc hs).length ≤ 12122 from HEL.out)
    have hm1 : ((65536 : Int) < (m : Int)) = False := eq_false (by omega)
    by_cases h0 : m = 0
    · subst h0
      obtain rfl : body = [] := List.eq_nil_of_length_eq_zero HL.out
      have HM := Lib.hid (show msg hs [] = frm 1 (enc hs) by unfold msg; simp)
      go_wp2_with fail
      refine (refFrame 1 A1 _ c1 (enc hs) w1 (by omega) HY1.out (by have := HEL2.out; omega)).mono ?_
      rintro e w2 ⟨hb2, A2, c2, rfl, ho2⟩
      have HO2 := Lib.hid ho2; have HB2 := Lib.hid hb2; clear ho2 hb2
      go_wp2_with fail
      go_ret2
      refine msgU_good HG.out ⟨A2, c2, by rw [HM.out]; rfl, ?_, below_then HB1.out HB2.out⟩
      rw [HM.out]; exact Byt.of_own HO2.out
    · have hm0 : (0 : Int) < (m : Int) := by omega
      have hbn : body ≠ [] := by intro e; subst e; have := HL.out; simp at this; omega
      have HM := Lib.hid (show msg hs body = frm 1 (enc hs) ++ frm 0 body by unfold msg; rw [if_neg hbn])
      have HF1 := Lib.hid (show (frm 1 (enc hs)).length ≤ 20000 by
        have h1 := put_len 1 (by omega); have h2 := put_len (enc hs).length (by have := HEL2.out; omega); have := HEL2.out
        unfold frm; rw [List.length_append, List.length_append]; omega)
      have HF0 := Lib.hid (show (frm 0 body).length ≤ 20000 by
        have h1 := put_len 0 (by omega); have h2 := put_len body.length (by have := HL.out; omega); have := HL.out
        unfold frm; rw [List.length_append, List.length_append]; omega)
      clear hbn
      go_wp2_with fail
      refine (refFrame 1 A1 _ c1 (enc hs) w1 (by omega) HY1.out (by have := HEL2.out; omega)).mono ?_
      rintro e w2 ⟨hb2, A2, c2, rfl, ho2⟩
      have HO2 := Lib.hid ho2; have HB2 := Lib.hid (below_then HB1.out hb2); have HY2 := Lib.hid ((HY.out.after HB1.out).after hb2); clear ho2 hb2
      go_wp2_with fail
      refine (refFrame 0 B m d body w2 (by omega) HY2.out (by omega)).mono ?_
      rintro e w3 ⟨hb3, A3, c3, rfl, ho3⟩
      have HO3 := Lib.hid (Rd.of_own ho3 rfl); have HB3 := Lib.hid (below_then HB2.out hb3); have HQ3 := Lib.hid (own_base (own_below HO2.out hb3) HB1.out.size); clear ho3 hb3
      go_wp2_with (at_builtin; refine wpList_append_any _ rfl (.tmp 25) (.tmp 27) 24 rfl w.heap.size 5 i0 (.int .u8 0) Try.underlying24 hi0 hz0 hz1 hz2 rfl (.slice A2 (frm 1 (enc hs)).length c2) (frm 1 (enc hs)).length (frm 1 (enc hs)) rfl ?q1 w3.heap.size A3 (frm 0 body).length c3 (frm 0 body) rfl ?q2 ?q3 ?q4 ?_)
      case q1 => exact HQ3.out
      case q2 => exact HO3.out
      case q3 => have := HF1.out; have := HF0.out; omega
      case q4 => exact HB3.out.size
      intro A5 c5 w5 hown5 hg5 hat5
      have hb5 : Below w.heap.size w w5 := HB3.out.grown hg5 HB3.out.size (fun j hj => (HQ3.out.lt j hj).1)
      have HO5 := Lib.hid hown5; have HB5 := Lib.hid hb5; clear hown5 hg5 hat5 hb5
      go_wp2_with fail
      go_ret2
      have hl : (msg hs body).length = (frm 1 (enc hs)).length + (frm 0 body).length := by rw [HM.out, List.length_append]
      refine msgU_good HG.out ⟨A5, c5, by rw [hl]; rfl, ?_, HB5.out⟩
      have ho := HO5.out
      rw [← hl, ← HM.out] at ho
      exact Byt.of_own ho
end Go.Proofs.Ytcimcldmkaggnaa
