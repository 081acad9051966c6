/- The reference's number and text, walked at each width. -/
import Derived.Test.YtcimcldmkaggnaaHdrNumW
import Derived.Lib.AppendStr
namespace Go.Proofs.Ytcimcldmkaggnaa
set_option linter.unusedVariables false
set_option linter.unusedSimpArgs false
open Go.RowKit
open Hd

theorem strCells_bs (s : ByteArray) : Lib.strCells s = bs (bl s) := by
  unfold Lib.strCells bs bl
  rfl

set_option maxRecDepth 100000 in
set_option maxHeartbeats 1600000 in
theorem refNumber_3 (v : Nat) (w : World) (hv : v ≤ 140737488355328) :
    Calls Try.prog 57 #[.int .u8 32, .int .i64 3, .int .i64 (v : Nat)] w (NumEnds (num 32 3 v) w) := by
  obtain ⟨i0, hi0, hz0, hz1, hz2⟩ := info_parts info5
  by_cases hs : v < 7
  · have hn : num 32 3 v = [UInt8.ofNat (32 + v)] := if_pos hs
    have HN := Lib.hid hn; clear hn
    have g : ((v : Int) < 7) := by omega
    go_enter Try.func57, Try.ntmps57
    go_wp2_with fail
    go_ret
    refine ⟨(Below.refl _ w).alloc (Nat.le_refl _) _, some ⟨w.heap.size, 0, none⟩, 1, by rw [HN.out]; rfl, ?_⟩
    rw [HN.out]
    exact lit1_own w _ _ (by rw [UInt8.toNat_ofNat']; omega)
  · have hn : num 32 3 v = UInt8.ofNat (32 + 7) :: digits (v - 7) := if_neg hs
    have HN := Lib.hid hn; clear hn
    have g : ((v : Int) < 7) = False := eq_false (by omega)
    go_enter Try.func57, Try.ntmps57
    go_wp2_with fail
    go_loopw [2, 8] (fun u x wr => ∃ (r q : Nat) (A' : Option Addr) (c' : Nat) (xs : List UInt8), u = .int .i64 (r : Nat) ∧ r ≤ 140737488355328 ∧ x = .slice A' q c' ∧ q + (digits r).length ≤ 100 ∧ num 32 3 v = xs ++ digits r ∧ xs.length = q ∧ wr.ownsRow w.heap.size 5 1 (.slice A' q c') q (bs xs) ∧ Below w.heap.size w wr) (fun u _ _ => (intOf u).toNat)
    case atStart =>
      have hd := digits_le 6 (v - 7) (by omega)
      exact ⟨v - 7, 1, _, 1, [UInt8.ofNat (32 + 7)], by congr 1; omega, by omega, rfl, by omega, HN.out, rfl, lit1_own w _ _ (by decide +kernel), (Below.refl _ w).alloc (Nat.le_refl _) _⟩
    case round =>
      obtain ⟨r, q, A', c', xs, rfl, hr, rfl, hq, hx, hxl, ho, hb⟩ := hrel
      have HX := Lib.hid hx; have HL := Lib.hid hxl; have HO := Lib.hid ho; have HB := Lib.hid hb; clear hx hxl ho hb
      by_cases h128 : 128 ≤ r
      · have g1 : (128 : Int) ≤ (r : Nat) := by omega
        obtain ⟨b0, hb0⟩ : ∃ b0, UInt8.ofNat (r % 128 + 128) = b0 := ⟨_, rfl⟩
        have H0 := Lib.hid hb0; clear hb0
        go_wp2_with (at_builtin; refine wpList_append_any _ rfl (.tmp 31) (.tmp 36) 24 rfl w.heap.size 5 i0 (.int .u8 0) Try.underlying24 hi0 hz0 hz1 hz2 rfl (.slice A' q c') q xs rfl ?q1 (wr.heap.size + 1) (some ⟨wr.heap.size, 0, none⟩) 1 1 [b0] rfl ?q2 ?q3 ?q4 ?_)
        case q1 => exact HO.out.alloc _
        case q2 => exact Rd.new wr 5 _ _ _ (by show [Value.int .u8 _] = [Value.int .u8 _]; congr 2; rw [← H0.out, UInt8.toNat_ofNat']; omega) rfl
        case q3 => omega
        case q4 => have := HB.out.size; simp; omega
        intro A2 c2 w2 hown2 hg2 hat2
        have hb2 : Below w.heap.size w w2 := (HB.out.alloc HB.out.size _).grown hg2 (by have := HB.out.size; simp; omega) (fun k hk => (HO.out.lt k hk).1)
        have HB2 := Lib.hid hb2; have HO2 := Lib.hid hown2; clear hb2 hat2 hg2 hown2
        go_wp2_with fail
        go_roundw
        case rel =>
          have hd := digits_snoc r h128
          rw [H0.out] at hd
          have hdl := digits_length (r / 128)
          exact ⟨r / 128, q + 1, A2, c2, xs ++ [b0], by go_num, by omega, rfl, by rw [hd, List.length_cons] at hq; omega, by rw [HX.out, hd]; simp, by rw [List.length_append, HL.out]; rfl, HO2.out, HB2.out⟩
        case measure => simp [intOf]; omega
      · have g1 : ((128 : Int) ≤ (r : Nat)) = False := eq_false (by omega)
        go_wp2_with (at_builtin; refine wpList_append_any _ rfl (.tmp 40) (.tmp 43) 24 rfl w.heap.size 5 i0 (.int .u8 0) Try.underlying24 hi0 hz0 hz1 hz2 rfl (.slice A' q c') q xs rfl ?q1 (wr.heap.size + 1) (some ⟨wr.heap.size, 0, none⟩) 1 1 [UInt8.ofNat r] rfl ?q2 ?q3 ?q4 ?_)
        case q1 => exact HO.out.alloc _
        case q2 => exact Rd.new wr 5 _ _ _ (by show [Value.int .u8 _] = [Value.int .u8 _]; congr 2; rw [UInt8.toNat_ofNat']; omega) rfl
        case q3 => omega
        case q4 => have := HB.out.size; simp; omega
        intro A2 c2 w2 hown2 hg2 hat2
        have hb2 : Below w.heap.size w w2 := (HB.out.alloc HB.out.size _).grown hg2 (by have := HB.out.size; simp; omega) (fun k hk => (HO.out.lt k hk).1)
        have HB2 := Lib.hid hb2; have HO2 := Lib.hid hown2; clear hb2 hat2 hg2 hown2
        go_wp2_with fail
        go_ret
        have hn : num 32 3 v = xs ++ [UInt8.ofNat r] := by rw [HX.out, digits_last r (by omega)]
        have hl2 : (num 32 3 v).length = q + 1 := by rw [hn, List.length_append, HL.out]; rfl
        exact ⟨HB2.out, A2, c2, by rw [hl2]; rfl, by rw [hl2, hn]; exact HO2.out⟩

set_option maxRecDepth 100000 in
set_option maxHeartbeats 1600000 in
theorem refNumber_4 (v : Nat) (w : World) (hv : v ≤ 140737488355328) :
    Calls Try.prog 57 #[.int .u8 80, .int .i64 4, .int .i64 (v : Nat)] w (NumEnds (num 80 4 v) w) := by
  obtain ⟨i0, hi0, hz0, hz1, hz2⟩ := info_parts info5
  by_cases hs : v < 15
  · have hn : num 80 4 v = [UInt8.ofNat (80 + v)] := if_pos hs
    have HN := Lib.hid hn; clear hn
    have g : ((v : Int) < 15) := by omega
    go_enter Try.func57, Try.ntmps57
    go_wp2_with fail
    go_ret
    refine ⟨(Below.refl _ w).alloc (Nat.le_refl _) _, some ⟨w.heap.size, 0, none⟩, 1, by rw [HN.out]; rfl, ?_⟩
    rw [HN.out]
    exact lit1_own w _ _ (by rw [UInt8.toNat_ofNat']; omega)
  · have hn : num 80 4 v = UInt8.ofNat (80 + 15) :: digits (v - 15) := if_neg hs
    have HN := Lib.hid hn; clear hn
    have g : ((v : Int) < 15) = False := eq_false (by omega)
    go_enter Try.func57, Try.ntmps57
    go_wp2_with fail
    go_loopw [2, 8] (fun u x wr => ∃ (r q : Nat) (A' : Option Addr) (c' : Nat) (xs : List UInt8), u = .int .i64 (r : Nat) ∧ r ≤ 140737488355328 ∧ x = .slice A' q c' ∧ q + (digits r).length ≤ 100 ∧ num 80 4 v = xs ++ digits r ∧ xs.length = q ∧ wr.ownsRow w.heap.size 5 1 (.slice A' q c') q (bs xs) ∧ Below w.heap.size w wr) (fun u _ _ => (intOf u).toNat)
    case atStart =>
      have hd := digits_le 6 (v - 15) (by omega)
      exact ⟨v - 15, 1, _, 1, [UInt8.ofNat (80 + 15)], by congr 1; omega, by omega, rfl, by omega, HN.out, rfl, lit1_own w _ _ (by decide +kernel), (Below.refl _ w).alloc (Nat.le_refl _) _⟩
    case round =>
      obtain ⟨r, q, A', c', xs, rfl, hr, rfl, hq, hx, hxl, ho, hb⟩ := hrel
      have HX := Lib.hid hx; have HL := Lib.hid hxl; have HO := Lib.hid ho; have HB := Lib.hid hb; clear hx hxl ho hb
      by_cases h128 : 128 ≤ r
      · have g1 : (128 : Int) ≤ (r : Nat) := by omega
        obtain ⟨b0, hb0⟩ : ∃ b0, UInt8.ofNat (r % 128 + 128) = b0 := ⟨_, rfl⟩
        have H0 := Lib.hid hb0; clear hb0
        go_wp2_with (at_builtin; refine wpList_append_any _ rfl (.tmp 31) (.tmp 36) 24 rfl w.heap.size 5 i0 (.int .u8 0) Try.underlying24 hi0 hz0 hz1 hz2 rfl (.slice A' q c') q xs rfl ?q1 (wr.heap.size + 1) (some ⟨wr.heap.size, 0, none⟩) 1 1 [b0] rfl ?q2 ?q3 ?q4 ?_)
        case q1 => exact HO.out.alloc _
        case q2 => exact Rd.new wr 5 _ _ _ (by show [Value.int .u8 _] = [Value.int .u8 _]; congr 2; rw [← H0.out, UInt8.toNat_ofNat']; omega) rfl
        case q3 => omega
        case q4 => have := HB.out.size; simp; omega
        intro A2 c2 w2 hown2 hg2 hat2
        have hb2 : Below w.heap.size w w2 := (HB.out.alloc HB.out.size _).grown hg2 (by have := HB.out.size; simp; omega) (fun k hk => (HO.out.lt k hk).1)
        have HB2 := Lib.hid hb2; have HO2 := Lib.hid hown2; clear hb2 hat2 hg2 hown2
        go_wp2_with fail
        go_roundw
        case rel =>
          have hd := digits_snoc r h128
          rw [H0.out] at hd
          have hdl := digits_length (r / 128)
          exact ⟨r / 128, q + 1, A2, c2, xs ++ [b0], by go_num, by omega, rfl, by rw [hd, List.length_cons] at hq; omega, by rw [HX.out, hd]; simp, by rw [List.length_append, HL.out]; rfl, HO2.out, HB2.out⟩
        case measure => simp [intOf]; omega
      · have g1 : ((128 : Int) ≤ (r : Nat)) = False := eq_false (by omega)
        go_wp2_with (at_builtin; refine wpList_append_any _ rfl (.tmp 40) (.tmp 43) 24 rfl w.heap.size 5 i0 (.int .u8 0) Try.underlying24 hi0 hz0 hz1 hz2 rfl (.slice A' q c') q xs rfl ?q1 (wr.heap.size + 1) (some ⟨wr.heap.size, 0, none⟩) 1 1 [UInt8.ofNat r] rfl ?q2 ?q3 ?q4 ?_)
        case q1 => exact HO.out.alloc _
        case q2 => exact Rd.new wr 5 _ _ _ (by show [Value.int .u8 _] = [Value.int .u8 _]; congr 2; rw [UInt8.toNat_ofNat']; omega) rfl
        case q3 => omega
        case q4 => have := HB.out.size; simp; omega
        intro A2 c2 w2 hown2 hg2 hat2
        have hb2 : Below w.heap.size w w2 := (HB.out.alloc HB.out.size _).grown hg2 (by have := HB.out.size; simp; omega) (fun k hk => (HO.out.lt k hk).1)
        have HB2 := Lib.hid hb2; have HO2 := Lib.hid hown2; clear hb2 hat2 hg2 hown2
        go_wp2_with fail
        go_ret
        have hn : num 80 4 v = xs ++ [UInt8.ofNat r] := by rw [HX.out, digits_last r (by omega)]
        have hl2 : (num 80 4 v).length = q + 1 := by rw [hn, List.length_append, HL.out]; rfl
        exact ⟨HB2.out, A2, c2, by rw [hl2]; rfl, by rw [hl2, hn]; exact HO2.out⟩

set_option maxRecDepth 100000 in
set_option maxHeartbeats 1600000 in
theorem refNumber_6 (v : Nat) (w : World) (hv : v ≤ 140737488355328) :
    Calls Try.prog 57 #[.int .u8 192, .int .i64 6, .int .i64 (v : Nat)] w (NumEnds (num 192 6 v) w) := by
  obtain ⟨i0, hi0, hz0, hz1, hz2⟩ := info_parts info5
  by_cases hs : v < 63
  · have hn : num 192 6 v = [UInt8.ofNat (192 + v)] := if_pos hs
    have HN := Lib.hid hn; clear hn
    have g : ((v : Int) < 63) := by omega
    go_enter Try.func57, Try.ntmps57
    go_wp2_with fail
    go_ret
    refine ⟨(Below.refl _ w).alloc (Nat.le_refl _) _, some ⟨w.heap.size, 0, none⟩, 1, by rw [HN.out]; rfl, ?_⟩
    rw [HN.out]
    exact lit1_own w _ _ (by rw [UInt8.toNat_ofNat']; omega)
  · have hn : num 192 6 v = UInt8.ofNat (192 + 63) :: digits (v - 63) := if_neg hs
    have HN := Lib.hid hn; clear hn
    have g : ((v : Int) < 63) = False := eq_false (by omega)
    go_enter Try.func57, Try.ntmps57
    go_wp2_with fail
    go_loopw [2, 8] (fun u x wr => ∃ (r q : Nat) (A' : Option Addr) (c' : Nat) (xs : List UInt8), u = .int .i64 (r : Nat) ∧ r ≤ 140737488355328 ∧ x = .slice A' q c' ∧ q + (digits r).length ≤ 100 ∧ num 192 6 v = xs ++ digits r ∧ xs.length = q ∧ wr.ownsRow w.heap.size 5 1 (.slice A' q c') q (bs xs) ∧ Below w.heap.size w wr) (fun u _ _ => (intOf u).toNat)
    case atStart =>
      have hd := digits_le 6 (v - 63) (by omega)
      exact ⟨v - 63, 1, _, 1, [UInt8.ofNat (192 + 63)], by congr 1; omega, by omega, rfl, by omega, HN.out, rfl, lit1_own w _ _ (by decide +kernel), (Below.refl _ w).alloc (Nat.le_refl _) _⟩
    case round =>
      obtain ⟨r, q, A', c', xs, rfl, hr, rfl, hq, hx, hxl, ho, hb⟩ := hrel
      have HX := Lib.hid hx; have HL := Lib.hid hxl; have HO := Lib.hid ho; have HB := Lib.hid hb; clear hx hxl ho hb
      by_cases h128 : 128 ≤ r
      · have g1 : (128 : Int) ≤ (r : Nat) := by omega
        obtain ⟨b0, hb0⟩ : ∃ b0, UInt8.ofNat (r % 128 + 128) = b0 := ⟨_, rfl⟩
        have H0 := Lib.hid hb0; clear hb0
        go_wp2_with (at_builtin; refine wpList_append_any _ rfl (.tmp 31) (.tmp 36) 24 rfl w.heap.size 5 i0 (.int .u8 0) Try.underlying24 hi0 hz0 hz1 hz2 rfl (.slice A' q c') q xs rfl ?q1 (wr.heap.size + 1) (some ⟨wr.heap.size, 0, none⟩) 1 1 [b0] rfl ?q2 ?q3 ?q4 ?_)
        case q1 => exact HO.out.alloc _
        case q2 => exact Rd.new wr 5 _ _ _ (by show [Value.int .u8 _] = [Value.int .u8 _]; congr 2; rw [← H0.out, UInt8.toNat_ofNat']; omega) rfl
        case q3 => omega
        case q4 => have := HB.out.size; simp; omega
        intro A2 c2 w2 hown2 hg2 hat2
        have hb2 : Below w.heap.size w w2 := (HB.out.alloc HB.out.size _).grown hg2 (by have := HB.out.size; simp; omega) (fun k hk => (HO.out.lt k hk).1)
        have HB2 := Lib.hid hb2; have HO2 := Lib.hid hown2; clear hb2 hat2 hg2 hown2
        go_wp2_with fail
        go_roundw
        case rel =>
          have hd := digits_snoc r h128
          rw [H0.out] at hd
          have hdl := digits_length (r / 128)
          exact ⟨r / 128, q + 1, A2, c2, xs ++ [b0], by go_num, by omega, rfl, by rw [hd, List.length_cons] at hq; omega, by rw [HX.out, hd]; simp, by rw [List.length_append, HL.out]; rfl, HO2.out, HB2.out⟩
        case measure => simp [intOf]; omega
      · have g1 : ((128 : Int) ≤ (r : Nat)) = False := eq_false (by omega)
        go_wp2_with (at_builtin; refine wpList_append_any _ rfl (.tmp 40) (.tmp 43) 24 rfl w.heap.size 5 i0 (.int .u8 0) Try.underlying24 hi0 hz0 hz1 hz2 rfl (.slice A' q c') q xs rfl ?q1 (wr.heap.size + 1) (some ⟨wr.heap.size, 0, none⟩) 1 1 [UInt8.ofNat r] rfl ?q2 ?q3 ?q4 ?_)
        case q1 => exact HO.out.alloc _
        case q2 => exact Rd.new wr 5 _ _ _ (by show [Value.int .u8 _] = [Value.int .u8 _]; congr 2; rw [UInt8.toNat_ofNat']; omega) rfl
        case q3 => omega
        case q4 => have := HB.out.size; simp; omega
        intro A2 c2 w2 hown2 hg2 hat2
        have hb2 : Below w.heap.size w w2 := (HB.out.alloc HB.out.size _).grown hg2 (by have := HB.out.size; simp; omega) (fun k hk => (HO.out.lt k hk).1)
        have HB2 := Lib.hid hb2; have HO2 := Lib.hid hown2; clear hb2 hat2 hg2 hown2
        go_wp2_with fail
        go_ret
        have hn : num 192 6 v = xs ++ [UInt8.ofNat r] := by rw [HX.out, digits_last r (by omega)]
        have hl2 : (num 192 6 v).length = q + 1 := by rw [hn, List.length_append, HL.out]; rfl
        exact ⟨HB2.out, A2, c2, by rw [hl2]; rfl, by rw [hl2, hn]; exact HO2.out⟩

set_option maxRecDepth 100000 in
set_option maxHeartbeats 1600000 in
theorem refNumber_7 (v : Nat) (w : World) (hv : v ≤ 140737488355328) :
    Calls Try.prog 57 #[.int .u8 0, .int .i64 7, .int .i64 (v : Nat)] w (NumEnds (num 0 7 v) w) := by
  obtain ⟨i0, hi0, hz0, hz1, hz2⟩ := info_parts info5
  by_cases hs : v < 127
  · have hn : num 0 7 v = [UInt8.ofNat (0 + v)] := if_pos hs
    have HN := Lib.hid hn; clear hn
    have g : ((v : Int) < 127) := by omega
    go_enter Try.func57, Try.ntmps57
    go_wp2_with fail
    go_ret
    refine ⟨(Below.refl _ w).alloc (Nat.le_refl _) _, some ⟨w.heap.size, 0, none⟩, 1, by rw [HN.out]; rfl, ?_⟩
    rw [HN.out]
    exact lit1_own w _ _ (by rw [UInt8.toNat_ofNat']; omega)
  · have hn : num 0 7 v = UInt8.ofNat (0 + 127) :: digits (v - 127) := if_neg hs
    have HN := Lib.hid hn; clear hn
    have g : ((v : Int) < 127) = False := eq_false (by omega)
    go_enter Try.func57, Try.ntmps57
    go_wp2_with fail
    go_loopw [2, 8] (fun u x wr => ∃ (r q : Nat) (A' : Option Addr) (c' : Nat) (xs : List UInt8), u = .int .i64 (r : Nat) ∧ r ≤ 140737488355328 ∧ x = .slice A' q c' ∧ q + (digits r).length ≤ 100 ∧ num 0 7 v = xs ++ digits r ∧ xs.length = q ∧ wr.ownsRow w.heap.size 5 1 (.slice A' q c') q (bs xs) ∧ Below w.heap.size w wr) (fun u _ _ => (intOf u).toNat)
    case atStart =>
      have hd := digits_le 6 (v - 127) (by omega)
      exact ⟨v - 127, 1, _, 1, [UInt8.ofNat (0 + 127)], by congr 1; omega, by omega, rfl, by omega, HN.out, rfl, lit1_own w _ _ (by decide +kernel), (Below.refl _ w).alloc (Nat.le_refl _) _⟩
    case round =>
      obtain ⟨r, q, A', c', xs, rfl, hr, rfl, hq, hx, hxl, ho, hb⟩ := hrel
      have HX := Lib.hid hx; have HL := Lib.hid hxl; have HO := Lib.hid ho; have HB := Lib.hid hb; clear hx hxl ho hb
      by_cases h128 : 128 ≤ r
      · have g1 : (128 : Int) ≤ (r : Nat) := by omega
        obtain ⟨b0, hb0⟩ : ∃ b0, UInt8.ofNat (r % 128 + 128) = b0 := ⟨_, rfl⟩
        have H0 := Lib.hid hb0; clear hb0
        go_wp2_with (at_builtin; refine wpList_append_any _ rfl (.tmp 31) (.tmp 36) 24 rfl w.heap.size 5 i0 (.int .u8 0) Try.underlying24 hi0 hz0 hz1 hz2 rfl (.slice A' q c') q xs rfl ?q1 (wr.heap.size + 1) (some ⟨wr.heap.size, 0, none⟩) 1 1 [b0] rfl ?q2 ?q3 ?q4 ?_)
        case q1 => exact HO.out.alloc _
        case q2 => exact Rd.new wr 5 _ _ _ (by show [Value.int .u8 _] = [Value.int .u8 _]; congr 2; rw [← H0.out, UInt8.toNat_ofNat']; omega) rfl
        case q3 => omega
        case q4 => have := HB.out.size; simp; omega
        intro A2 c2 w2 hown2 hg2 hat2
        have hb2 : Below w.heap.size w w2 := (HB.out.alloc HB.out.size _).grown hg2 (by have := HB.out.size; simp; omega) (fun k hk => (HO.out.lt k hk).1)
        have HB2 := Lib.hid hb2; have HO2 := Lib.hid hown2; clear hb2 hat2 hg2 hown2
        go_wp2_with fail
        go_roundw
        case rel =>
          have hd := digits_snoc r h128
          rw [H0.out] at hd
          have hdl := digits_length (r / 128)
          exact ⟨r / 128, q + 1, A2, c2, xs ++ [b0], by go_num, by omega, rfl, by rw [hd, List.length_cons] at hq; omega, by rw [HX.out, hd]; simp, by rw [List.length_append, HL.out]; rfl, HO2.out, HB2.out⟩
        case measure => simp [intOf]; omega
      · have g1 : ((128 : Int) ≤ (r : Nat)) = False := eq_false (by omega)
        go_wp2_with (at_builtin; refine wpList_append_any _ rfl (.tmp 40) (.tmp 43) 24 rfl w.heap.size 5 i0 (.int .u8 0) Try.underlying24 hi0 hz0 hz1 hz2 rfl (.slice A' q c') q xs rfl ?q1 (wr.heap.size + 1) (some ⟨wr.heap.size, 0, none⟩) 1 1 [UInt8.ofNat r] rfl ?q2 ?q3 ?q4 ?_)
        case q1 => exact HO.out.alloc _
        case q2 => exact Rd.new wr 5 _ _ _ (by show [Value.int .u8 _] = [Value.int .u8 _]; congr 2; rw [UInt8.toNat_ofNat']; omega) rfl
        case q3 => omega
        case q4 => have := HB.out.size; simp; omega
        intro A2 c2 w2 hown2 hg2 hat2
        have hb2 : Below w.heap.size w w2 := (HB.out.alloc HB.out.size _).grown hg2 (by have := HB.out.size; simp; omega) (fun k hk => (HO.out.lt k hk).1)
        have HB2 := Lib.hid hb2; have HO2 := Lib.hid hown2; clear hb2 hat2 hg2 hown2
        go_wp2_with fail
        go_ret
        have hn : num 0 7 v = xs ++ [UInt8.ofNat r] := by rw [HX.out, digits_last r (by omega)]
        have hl2 : (num 0 7 v).length = q + 1 := by rw [hn, List.length_append, HL.out]; rfl
        exact ⟨HB2.out, A2, c2, by rw [hl2]; rfl, by rw [hl2, hn]; exact HO2.out⟩

set_option maxRecDepth 100000 in
set_option maxHeartbeats 800000 in
theorem refText_3 (s : ByteArray) (w : World) (hs : s.size ≤ 300) :
    Calls Try.prog 58 #[.int .u8 32, .int .i64 3, .string s] w (NumEnds (text 32 3 (bl s)) w) := by
  obtain ⟨i0, hi0, hz0, hz1, hz2⟩ := info_parts info5
  have HN := Lib.hid (fun w => refNumber_3 s.size w (by omega))
  have HL := Lib.hid (num_length 32 3 s.size (by omega)).2
  have HT := Lib.hid (show text 32 3 (bl s) = num 32 3 s.size ++ bl s by unfold text; rw [bl_length])
  go_enter Try.func58, Try.ntmps58
  go_wp2_with fail
  refine (HN.out w).mono ?_
  rintro e w1 ⟨hb1, A1, c1, rfl, ho1⟩
  have HB1 := Lib.hid hb1; have HO1 := Lib.hid ho1; clear hb1 ho1
  go_wp2_with (at_builtin; refine Lib.wpList_append_own_string w1 rfl (.tmp 11) (.tmp 12) 24 9 rfl w.heap.size 5 i0 Try.underlying24 Try.underlying9 hi0 hz0 hz1 hz2 (.slice A1 (num 32 3 s.size).length c1) (num 32 3 s.size).length (bs (num 32 3 s.size)) rfl ?q1 s rfl ?q2 ?q3 ?q4 ?_)
  case q1 => exact HO1.out
  case q2 => have := HL.out; unfold maxLen; omega
  case q3 => have := HL.out; omega
  case q4 => exact HB1.out.size
  intro v2 w2 hown2 hg2 _
  have hb2 : Below w.heap.size w w2 := HB1.out.grown hg2 HB1.out.size (fun k hk => (HO1.out.lt k hk).1)
  obtain ⟨A2, c2, rfl, -⟩ := own_form hown2
  have HO2 := Lib.hid hown2; have HB2 := Lib.hid hb2; clear hown2 hg2 hb2
  go_wp2_with fail
  go_ret
  have hl : (text 32 3 (bl s)).length = (num 32 3 s.size).length + s.size := by rw [HT.out, List.length_append, bl_length]
  refine ⟨HB2.out, A2, c2, by rw [hl]; rfl, ?_⟩
  rw [hl, HT.out, bs_append, ← strCells_bs]
  exact HO2.out

set_option maxRecDepth 100000 in
set_option maxHeartbeats 800000 in
theorem refText_7 (s : ByteArray) (w : World) (hs : s.size ≤ 300) :
    Calls Try.prog 58 #[.int .u8 0, .int .i64 7, .string s] w (NumEnds (text 0 7 (bl s)) w) := by
  obtain ⟨i0, hi0, hz0, hz1, hz2⟩ := info_parts info5
  have HN := Lib.hid (fun w => refNumber_7 s.size w (by omega))
  have HL := Lib.hid (num_length 0 7 s.size (by omega)).2
  have HT := Lib.hid (show text 0 7 (bl s) = num 0 7 s.size ++ bl s by unfold text; rw [bl_length])
  go_enter Try.func58, Try.ntmps58
  go_wp2_with fail
  refine (HN.out w).mono ?_
  rintro e w1 ⟨hb1, A1, c1, rfl, ho1⟩
  have HB1 := Lib.hid hb1; have HO1 := Lib.hid ho1; clear hb1 ho1
  go_wp2_with (at_builtin; refine Lib.wpList_append_own_string w1 rfl (.tmp 11) (.tmp 12) 24 9 rfl w.heap.size 5 i0 Try.underlying24 Try.underlying9 hi0 hz0 hz1 hz2 (.slice A1 (num 0 7 s.size).length c1) (num 0 7 s.size).length (bs (num 0 7 s.size)) rfl ?q1 s rfl ?q2 ?q3 ?q4 ?_)
  case q1 => exact HO1.out
  case q2 => have := HL.out; unfold maxLen; omega
  case q3 => have := HL.out; omega
  case q4 => exact HB1.out.size
  intro v2 w2 hown2 hg2 _
  have hb2 : Below w.heap.size w w2 := HB1.out.grown hg2 HB1.out.size (fun k hk => (HO1.out.lt k hk).1)
  obtain ⟨A2, c2, rfl, -⟩ := own_form hown2
  have HO2 := Lib.hid hown2; have HB2 := Lib.hid hb2; clear hown2 hg2 hb2
  go_wp2_with fail
  go_ret
  have hl : (text 0 7 (bl s)).length = (num 0 7 s.size).length + s.size := by rw [HT.out, List.length_append, bl_length]
  refine ⟨HB2.out, A2, c2, by rw [hl]; rfl, ?_⟩
  rw [hl, HT.out, bs_append, ← strCells_bs]
  exact HO2.out
end Go.Proofs.Ytcimcldmkaggnaa
