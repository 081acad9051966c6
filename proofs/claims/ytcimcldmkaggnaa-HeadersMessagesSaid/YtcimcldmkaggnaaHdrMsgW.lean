/- The program's frames and messages, walked. -/
import Derived.Test.YtcimcldmkaggnaaHdrEncW
import Derived.Test.YtcimcldmkaggnaaVarLaws
namespace Go.Proofs.Ytcimcldmkaggnaa
set_option linter.unusedVariables false
set_option linter.unusedSimpArgs false
open Go.RowKit
open Hd Va

theorem putL_nat (k : Nat) (h : k < 4611686018427387904) : putL (k : Int) = put k := by
  unfold putL
  rw [if_pos (by omega)]; rfl
theorem put_len (k : Nat) (h : k < 4611686018427387904) : (put k).length ≤ 8 := by
  have := putL_small (k : Int)
  rw [putL_nat k h] at this
  exact this
/-- laid bytes -/
def LaidEnds (xs : List UInt8) (w : World) (e : Ending) (w' : World) : Prop := ∃ v, e = .returned v ∧ Lib.FreshBytes w.heap.size w' v xs ∧ Byt w' v xs ∧ Below w.heap.size w w'
theorem fresh_base {B B' : Nat} {w : World} {v : Value} {xs : List UInt8} (h : Lib.FreshBytes B w v xs) (hb : B' ≤ B) : Lib.FreshBytes B' w v xs := by
  obtain ⟨g, cap, zs, h1, h2, h3⟩ := h
  exact ⟨g, cap, zs, h1, by omega, h3⟩
set_option maxRecDepth 100000 in
set_option maxHeartbeats 800000 in
theorem framed_any (k : Nat) (A : Option Addr) (n c : Nat) (xs : List UInt8) (w : World) (hk : k < 4611686018427387904) (hy : Byt w (.slice A n c) xs) (hn : n ≤ 1000000) (hl : xs.length = n) :
    Calls Try.prog 40 #[.int .u64 (k : Nat), .slice A n c] w (LaidEnds (frm k xs) w) := by
  have S1 := Lib.hid (fun w => put_any (k : Int) (by omega) (by omega) w)
  have S2 := Lib.hid (fun w => put_any (n : Int) (by omega) (by omega) w)
  have HP1 := Lib.hid (putL_nat k hk)
  have HP2 := Lib.hid (putL_nat n (by omega))
  have HL1 := Lib.hid (put_len k hk)
  have HL2 := Lib.hid (put_len n (by omega))
  have HY := Lib.hid hy
  have HF := Lib.hid (show frm k xs = put k ++ (put n ++ xs) by unfold frm; rw [hl, List.append_assoc])
  have HL := Lib.hid hl
  clear hk hy hl
  go_enter Try.func40, Try.ntmps40
  go_wp2_with fail
  refine (S1.out _).mono ?_
  rintro e w1 h1
  obtain ⟨hb1, A1, c1, rfl, hr1, hc1, hm1, -⟩ := h1.form
  have hy1 : Byt w1 (.slice A1 (putL (k : Int)).length c1) (putL (k : Int)) := ⟨A1, c1, rfl, hr1, hc1, hm1⟩
  rw [HP1.out] at hy1 ⊢
  have HY1 := Lib.hid hy1; have HB1 := Lib.hid hb1; clear hy1 hb1 hr1 hc1 hm1 h1
  go_wp2_with fail
  refine (S2.out _).mono ?_
  rintro e w2 h2
  obtain ⟨hb2, A2, c2, rfl, hr2, hc2, hm2, -⟩ := h2.form
  have hy2 : Byt w2 (.slice A2 (putL (n : Int)).length c2) (putL (n : Int)) := ⟨A2, c2, rfl, hr2, hc2, hm2⟩
  rw [HP2.out] at hy2 ⊢
  have HY2 := Lib.hid hy2; have HB2 := Lib.hid hb2; clear hy2 hb2 hr2 hc2 hm2 h2
  go_wp2_with fail
  refine (laid_three w2 _ _ _ (put k) (put n) xs (HY1.out.after HB2.out) HY2.out ((HY.out.after HB1.out).after HB2.out) (by have := HL1.out; have := HL2.out; have := HL.out; omega)).mono ?_
  rintro e w3 ⟨v, rfl, hf, hy, hb⟩
  have HF3 := Lib.hid hf; have HY3 := Lib.hid hy; have HB3 := Lib.hid hb; clear hf hy hb
  go_wp2_with fail
  go_ret
  rw [HF.out]
  exact ⟨v, rfl, fresh_base HF3.out (by have := HB1.out.size; have := HB2.out.size; omega), HY3.out, below_then (below_then HB1.out HB2.out) HB3.out⟩
theorem encode_good (A : Option Addr) (n c : Nat) (hs : List H) (w : World) (hR : HRd w w.heap.size A n hs) (hn : n ≤ 9223372036854775807) (hg : good hs = true) :
    Calls Try.prog 19 #[.slice A n c] w fun e w' => ∃ A1 c1, e = .returned (.tuple #[.slice A1 (enc hs).length c1, .int .i64 0]) ∧ Byt w' (.slice A1 (enc hs).length c1) (enc hs) ∧ Below w.heap.size w w' := by
  refine (encode_any A n c hs w hR hn).mono ?_
  rintro e w1 ⟨hb1, ⟨_, v1, rfl, hy1⟩ | ⟨h1, _⟩⟩
  · have hy2 := hy1
    obtain ⟨A1, c1, rfl, -⟩ := hy2
    exact ⟨A1, c1, rfl, hy1, hb1⟩
  · rw [hg] at h1; cases h1
theorem encode_bad (A : Option Addr) (n c : Nat) (hs : List H) (w : World) (hR : HRd w w.heap.size A n hs) (hn : n ≤ 9223372036854775807) (hg : good hs = false) :
    Calls Try.prog 19 #[.slice A n c] w fun e w' => e = .returned (.tuple #[.slice none 0 0, .int .i64 200]) ∧ Below w.heap.size w w' := by
  refine (encode_any A n c hs w hR hn).mono ?_
  rintro e w1 ⟨hb1, ⟨h1, _⟩ | ⟨_, rfl⟩⟩
  · rw [hg] at h1; cases h1
  · exact ⟨rfl, hb1⟩
def MsgEnds (hs : List H) (body : List UInt8) (w : World) (e : Ending) (w' : World) : Prop :=
  Below w.heap.size w w' ∧ ((good hs = true ∧ ∃ v, e = .returned (.tuple #[v, .int .i64 0]) ∧ Lib.FreshBytes w.heap.size w' v (msg hs body) ∧ Byt w' v (msg hs body)) ∨ (good hs = false ∧ e = .returned (.tuple #[.slice none 0 0, .int .i64 200])))
set_option maxRecDepth 100000 in
set_option maxHeartbeats 800000 in
theorem message_any (A : Option Addr) (n c : Nat) (hs : List H) (B : Option Addr) (m d : Nat) (body : List UInt8) (w : World) (hR : HRd w w.heap.size A n hs) (hn : n ≤ 9223372036854775807) (hY : Byt w (.slice B m d) body) (hl : body.length = m) (hm : m ≤ 3000) :
    Calls Try.prog 20 #[.slice A n c, .slice B m d] w (MsgEnds hs body w) := by
  have HY := Lib.hid hY; have HL := Lib.hid hl
  clear hY hl
  cases hg : good hs with
  | false =>
    have HE := Lib.hid (encode_bad A n c hs w hR hn hg)
    have HG := Lib.hid hg; clear hg hR
    go_enter Try.func20, Try.ntmps20
    go_wp2_with fail
    refine HE.out.mono ?_
    rintro e w1 ⟨rfl, hb1⟩
    go_wp2_with fail
    go_ret2
    exact ⟨hb1, .inr ⟨HG.out, rfl⟩⟩
  | true =>
    have HEL := Lib.hid (enc_length hs hg)
    have HE := Lib.hid (encode_good A n c hs w hR hn hg)
    have HG := Lib.hid hg; clear hg hR
    go_enter Try.func20, Try.ntmps20
    go_wp2_with fail
    refine HE.out.mono ?_
    rintro e w1 ⟨A1, c1, rfl, hy1, hb1⟩
    have HY1 := Lib.hid hy1; have HB1 := Lib.hid hb1; clear hy1 hb1
    obtain ⟨k, hk⟩ : ∃ k, (enc hs).length = k := ⟨_, rfl⟩
    have HK := Lib.hid hk
    have HEL2 := Lib.hid (show 2 ≤ k ∧ k ≤ 12122 by rw [← hk]; exact HEL.out)
    rw [hk] at HY1 ⊢
    clear hk
    by_cases h0 : m = 0
    · subst h0
      obtain rfl : body = [] := List.eq_nil_of_length_eq_zero HL.out
      have HM := Lib.hid (show msg hs [] = frm 1 (enc hs) by unfold msg; simp)
      go_wp2_with fail
      refine (framed_any 1 A1 k c1 (enc hs) w1 (by omega) HY1.out (by have := HEL2.out; omega) HK.out).mono ?_
      rintro e w2 ⟨v2, rfl, hf2, hy2, hb2⟩
      have HF2 := Lib.hid hf2; have HY2 := Lib.hid hy2; have HB2 := Lib.hid hb2; clear hf2 hy2 hb2
      go_wp2_with fail
      go_ret2
      refine ⟨below_then HB1.out HB2.out, .inl ⟨HG.out, v2, rfl, ?_, ?_⟩⟩
      · rw [HM.out]; exact fresh_base HF2.out HB1.out.size
      · rw [HM.out]; exact HY2.out
    · have hm0 : ((m : Int) == 0) = false := beq_eq_false_iff_ne.2 (by omega)
      have hm1 : ((65536 : Int) < (m : Int)) = False := eq_false (by omega)
      have hbn : body ≠ [] := by intro e; subst e; have := HL.out; simp at this; omega
      have HM := Lib.hid (show msg hs body = frm 1 (enc hs) ++ frm 0 body by unfold msg; rw [if_neg hbn])
      have HFL := Lib.hid (show (frm 1 (enc hs)).length + (frm 0 body).length ≤ 100000 by
        have h1 := put_len 1 (by omega); have h2 := put_len 0 (by omega); have h3 := put_len (enc hs).length (by have := HK.out; have := HEL2.out; omega); have h4 := put_len body.length (by have := HL.out; omega)
        have := HK.out; have := HEL2.out; have := HL.out
        unfold frm; simp only [List.length_append]; omega)
      clear hbn h0
      go_wp2_with fail
      refine (framed_any 1 A1 k c1 (enc hs) w1 (by omega) HY1.out (by have := HEL2.out; omega) HK.out).mono ?_
      rintro e w2 ⟨v2, rfl, -, hy2, hb2⟩
      have hy2' := hy2
      obtain ⟨A2, c2, rfl, -⟩ := hy2'
      have HY2 := Lib.hid hy2; have HB2 := Lib.hid hb2; clear hy2 hb2
      go_wp2_with fail
      refine (framed_any 0 B m d body w2 (by omega) ((HY.out.after HB1.out).after HB2.out) (by omega) HL.out).mono ?_
      rintro e w3 ⟨v3, rfl, -, hy3, hb3⟩
      have hy3' := hy3
      obtain ⟨A3, c3, rfl, -⟩ := hy3'
      have HY3 := Lib.hid hy3; have HB3 := Lib.hid hb3; clear hy3 hb3
      go_wp2_with fail
      refine (laid_two w3 _ _ (frm 1 (enc hs)) (frm 0 body) (HY2.out.after HB3.out) HY3.out (by have := HFL.out; omega)).mono ?_
      rintro e w4 ⟨v4, rfl, hf4, hy4, hb4⟩
      have HF4 := Lib.hid hf4; have HY4 := Lib.hid hy4; have HB4 := Lib.hid hb4; clear hf4 hy4 hb4
      go_wp2_with fail
      go_ret2
      refine ⟨below_then (below_then (below_then HB1.out HB2.out) HB3.out) HB4.out, .inl ⟨HG.out, v4, rfl, ?_, ?_⟩⟩
      · rw [HM.out]; exact fresh_base HF4.out (by have := HB1.out.size; have := HB2.out.size; have := HB3.out.size; omega)
      · rw [HM.out]; exact HY4.out
end Go.Proofs.Ytcimcldmkaggnaa
