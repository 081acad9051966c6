/- The program's number, walked at each width. -/
import Derived.Test.YtcimcldmkaggnaaKit
import Derived.Test.YtcimcldmkaggnaaHdrPlain
import Derived.Outline
import Derived.Laws.BitsLemmas
namespace Go.Proofs.Ytcimcldmkaggnaa
set_option linter.unusedVariables false
set_option linter.unusedSimpArgs false
open Go.RowKit
open Hd

def NumEnds (xs : List UInt8) (w : World) (e : Ending) (w' : World) : Prop :=
  Below w.heap.size w w' ∧ ∃ A c, e = .returned (.slice A xs.length c) ∧ w'.ownsRow w.heap.size 5 1 (.slice A xs.length c) xs.length (bs xs)
theorem digits_le : ∀ (j r : Nat), r < 128 ^ (j + 1) → (digits r).length ≤ j + 1 := by
  intro j
  induction j with
  | zero => intro r h; rw [digits_last r (by omega)]; exact Nat.le_refl _
  | succ j ih =>
    intro r h
    by_cases hr : r < 128
    · rw [digits_last r hr]; simp only [List.length_cons, List.length_nil]; omega
    · rw [digits_snoc r (by omega), List.length_cons]
      have := ih (r / 128) (by rw [Nat.pow_succ] at h; omega)
      omega
theorem lit1_own (w : World) (z : Int) (b : UInt8) (h : z = (b.toNat : Int)) : (w.alloc (.cells #[.int .u8 z] 5)).ownsRow w.heap.size 5 1 (.slice (some ⟨w.heap.size, 0, none⟩) 1 1) 1 (bs [b]) := by
  subst h
  exact World.ownsRow_lit w #[.int .u8 (b.toNat : Int)] 1 (Nat.le_refl _) (by unfold maxLen; omega) rfl
theorem or_low (k l v : Nat) (hl : l % 2 ^ k = 0) (hb : l < 256) (hv : v < 2 ^ k) (hk : 2 ^ k ≤ 256) : bits .or .u8 (l : Int) (v : Int) = ((l + v : Nat) : Int) := by
  rw [bits_join .u8 8 (by decide) wraps_u8 k (l : Int) (v : Int) (by omega) (by exact_mod_cast hl) (by omega) (by omega) (by exact_mod_cast hv) (by omega)]
  omega
theorem or_top_fin : ∀ x : Fin 256, bits .or .u8 (x.val : Int) 128 = ((x.val % 128 + 128 : Nat) : Int) := by decide +kernel
theorem or_top (r : Nat) : bits .or .u8 ((r : Int) % 256) 128 = ((r % 128 + 128 : Nat) : Int) := by
  have h := or_top_fin ⟨r % 256, Nat.mod_lt _ (by omega)⟩
  simp only at h
  rw [show ((r : Int) % 256) = ((r % 256 : Nat) : Int) by omega, h]
  omega

set_option maxRecDepth 100000 in
set_option maxHeartbeats 1600000 in
theorem number_3 (v : Nat) (w : World) (hv : v ≤ 140737488355328) :
    Calls Try.prog 39 #[.int .u8 32, .int .i64 3, .int .i64 (v : Nat)] w (NumEnds (num 32 3 v) w) := by
  obtain ⟨i0, hi0, hz0, hz1, hz2⟩ := info_parts info5
  by_cases hs : v < 7
  · have hn : num 32 3 v = [UInt8.ofNat (32 + v)] := if_pos hs
    have HN := Lib.hid hn; clear hn
    have g : ((v : Int) < 7) := by omega
    go_enter Try.func39, Try.ntmps39
    go_wp2_with fail
    go_ret
    refine ⟨(Below.refl _ w).alloc (Nat.le_refl _) _, some ⟨w.heap.size, 0, none⟩, 1, by rw [HN.out]; rfl, ?_⟩
    rw [HN.out]
    exact lit1_own w _ _ ((or_low 3 32 v (by decide) (by decide) (by omega) (by decide)).trans (by rw [UInt8.toNat_ofNat']; omega))
  · have hn : num 32 3 v = UInt8.ofNat (32 + 7) :: digits (v - 7) := if_neg hs
    have HN := Lib.hid hn; clear hn
    have g : ((v : Int) < 7) = False := eq_false (by omega)
    go_enter Try.func39, Try.ntmps39
    go_wp2_with fail
    go_loopw [2, 8] (fun u x wr => ∃ (r q : Nat) (A' : Option Addr) (c' : Nat) (xs : List UInt8), u = .int .i64 (r : Nat) ∧ r ≤ 140737488355328 ∧ x = .slice A' q c' ∧ q + (digits r).length ≤ 100 ∧ num 32 3 v = xs ++ digits r ∧ xs.length = q ∧ wr.ownsRow w.heap.size 5 1 (.slice A' q c') q (bs xs) ∧ Below w.heap.size w wr) (fun u _ _ => (intOf u).toNat)
    case atStart =>
      have hd := digits_le 6 (v - 7) (by omega)
      exact ⟨v - 7, 1, _, 1, [UInt8.ofNat (32 + 7)], by congr 1; omega, by omega, rfl, by omega, HN.out, rfl, lit1_own w _ _ (by decide +kernel), (Below.refl _ w).alloc (Nat.le_refl _) _⟩
    case round =>
      obtain ⟨r, q, A', c', xs, rfl, hr, rfl, hq, hx, hxl, ho, hb⟩ := hrel
      have HX := Lib.hid hx; have HL := Lib.hid hxl; have HO := Lib.hid ho; have HB := Lib.hid hb; clear hx hxl ho hb
      by_cases h128 : 128 ≤ r
      · have g1 : (128 : Int) ≤ (r : Nat) := by omega
        obtain ⟨b0, hb0⟩ : ∃ b0, UInt8.ofNat (r % 128 + 128) = b0 := ⟨_, rfl⟩
        have H0 := Lib.hid hb0; clear hb0
        go_wp2_with (at_builtin; refine wpList_append_any _ rfl (.tmp 32) (.tmp 36) 24 rfl w.heap.size 5 i0 (.int .u8 0) Try.underlying24 hi0 hz0 hz1 hz2 rfl (.slice A' q c') q xs rfl ?q1 (wr.heap.size + 1) (some ⟨wr.heap.size, 0, none⟩) 1 1 [b0] rfl ?q2 ?q3 ?q4 ?_)
        case q1 => exact HO.out.alloc _
        case q2 => exact Rd.new wr 5 _ _ _ (by show [Value.int .u8 _] = [Value.int .u8 _]; congr 2; rw [← H0.out, UInt8.toNat_ofNat']; first | (rw [or_top]; omega) | omega) rfl
        case q3 => omega
        case q4 => have := HB.out.size; simp; omega
        intro A2 c2 w2 hown2 hg2 hat2
        have hb2 : Below w.heap.size w w2 := (HB.out.alloc HB.out.size _).grown hg2 (by have := HB.out.size; simp; omega) (fun k hk => (HO.out.lt k hk).1)
        have HB2 := Lib.hid hb2; have HO2 := Lib.hid hown2; clear hb2 hat2 hg2 hown2
        go_wp2_with fail
        go_roundw
        case rel =>
          have hd := digits_snoc r h128
          rw [H0.out] at hd
          have hdl := digits_length (r / 128)
          exact ⟨r / 128, q + 1, A2, c2, xs ++ [b0], by go_num, by omega, rfl, by rw [hd, List.length_cons] at hq; omega, by rw [HX.out, hd]; simp, by rw [List.length_append, HL.out]; rfl, HO2.out, HB2.out⟩
        case measure => simp [intOf]; omega
      · have g1 : ((128 : Int) ≤ (r : Nat)) = False := eq_false (by omega)
        go_wp2_with (at_builtin; refine wpList_append_any _ rfl (.tmp 38) (.tmp 41) 24 rfl w.heap.size 5 i0 (.int .u8 0) Try.underlying24 hi0 hz0 hz1 hz2 rfl (.slice A' q c') q xs rfl ?q1 (wr.heap.size + 1) (some ⟨wr.heap.size, 0, none⟩) 1 1 [UInt8.ofNat r] rfl ?q2 ?q3 ?q4 ?_)
        case q1 => exact HO.out.alloc _
        case q2 => exact Rd.new wr 5 _ _ _ (by show [Value.int .u8 _] = [Value.int .u8 _]; congr 2; rw [UInt8.toNat_ofNat']; omega) rfl
        case q3 => omega
        case q4 => have := HB.out.size; simp; omega
        intro A2 c2 w2 hown2 hg2 hat2
        have hb2 : Below w.heap.size w w2 := (HB.out.alloc HB.out.size _).grown hg2 (by have := HB.out.size; simp; omega) (fun k hk => (HO.out.lt k hk).1)
        have HB2 := Lib.hid hb2; have HO2 := Lib.hid hown2; clear hb2 hat2 hg2 hown2
        go_wp2_with fail
        go_ret
        have hn : num 32 3 v = xs ++ [UInt8.ofNat r] := by rw [HX.out, digits_last r (by omega)]
        have hl2 : (num 32 3 v).length = q + 1 := by rw [hn, List.length_append, HL.out]; rfl
        exact ⟨HB2.out, A2, c2, by rw [hl2]; rfl, by rw [hl2, hn]; exact HO2.out⟩

set_option maxRecDepth 100000 in
set_option maxHeartbeats 1600000 in
theorem number_4 (v : Nat) (w : World) (hv : v ≤ 140737488355328) :
    Calls Try.prog 39 #[.int .u8 80, .int .i64 4, .int .i64 (v : Nat)] w (NumEnds (num 80 4 v) w) := by
  obtain ⟨i0, hi0, hz0, hz1, hz2⟩ := info_parts info5
  by_cases hs : v < 15
  · have hn : num 80 4 v = [UInt8.ofNat (80 + v)] := if_pos hs
    have HN := Lib.hid hn; clear hn
    have g : ((v : Int) < 15) := by omega
    go_enter Try.func39, Try.ntmps39
    go_wp2_with fail
    go_ret
    refine ⟨(Below.refl _ w).alloc (Nat.le_refl _) _, some ⟨w.heap.size, 0, none⟩, 1, by rw [HN.out]; rfl, ?_⟩
    rw [HN.out]
    exact lit1_own w _ _ ((or_low 4 80 v (by decide) (by decide) (by omega) (by decide)).trans (by rw [UInt8.toNat_ofNat']; omega))
  · have hn : num 80 4 v = UInt8.ofNat (80 + 15) :: digits (v - 15) := if_neg hs
    have HN := Lib.hid hn; clear hn
    have g : ((v : Int) < 15) = False := eq_false (by omega)
    go_enter Try.func39, Try.ntmps39
    go_wp2_with fail
    go_loopw [2, 8] (fun u x wr => ∃ (r q : Nat) (A' : Option Addr) (c' : Nat) (xs : List UInt8), u = .int .i64 (r : Nat) ∧ r ≤ 140737488355328 ∧ x = .slice A' q c' ∧ q + (digits r).length ≤ 100 ∧ num 80 4 v = xs ++ digits r ∧ xs.length = q ∧ wr.ownsRow w.heap.size 5 1 (.slice A' q c') q (bs xs) ∧ Below w.heap.size w wr) (fun u _ _ => (intOf u).toNat)
    case atStart =>
      have hd := digits_le 6 (v - 15) (by omega)
      exact ⟨v - 15, 1, _, 1, [UInt8.ofNat (80 + 15)], by congr 1; omega, by omega, rfl, by omega, HN.out, rfl, lit1_own w _ _ (by decide +kernel), (Below.refl _ w).alloc (Nat.le_refl _) _⟩
    case round =>
      obtain ⟨r, q, A', c', xs, rfl, hr, rfl, hq, hx, hxl, ho, hb⟩ := hrel
      have HX := Lib.hid hx; have HL := Lib.hid hxl; have HO := Lib.hid ho; have HB := Lib.hid hb; clear hx hxl ho hb
      by_cases h128 : 128 ≤ r
      · have g1 : (128 : Int) ≤ (r : Nat) := by omega
        obtain ⟨b0, hb0⟩ : ∃ b0, UInt8.ofNat (r % 128 + 128) = b0 := ⟨_, rfl⟩
        have H0 := Lib.hid hb0; clear hb0
        go_wp2_with (at_builtin; refine wpList_append_any _ rfl (.tmp 32) (.tmp 36) 24 rfl w.heap.size 5 i0 (.int .u8 0) Try.underlying24 hi0 hz0 hz1 hz2 rfl (.slice A' q c') q xs rfl ?q1 (wr.heap.size + 1) (some ⟨wr.heap.size, 0, none⟩) 1 1 [b0] rfl ?q2 ?q3 ?q4 ?_)
        case q1 => exact HO.out.alloc _
        case q2 => exact Rd.new wr 5 _ _ _ (by show [Value.int .u8 _] = [Value.int .u8 _]; congr 2; rw [← H0.out, UInt8.toNat_ofNat']; first | (rw [or_top]; omega) | omega) rfl
        case q3 => omega
        case q4 => have := HB.out.size; simp; omega
        intro A2 c2 w2 hown2 hg2 hat2
        have hb2 : Below w.heap.size w w2 := (HB.out.alloc HB.out.size _).grown hg2 (by have := HB.out.size; simp; omega) (fun k hk => (HO.out.lt k hk).1)
        have HB2 := Lib.hid hb2; have HO2 := Lib.hid hown2; clear hb2 hat2 hg2 hown2
        go_wp2_with fail
        go_roundw
        case rel =>
          have hd := digits_snoc r h128
          rw [H0.out] at hd
          have hdl := digits_length (r / 128)
          exact ⟨r / 128, q + 1, A2, c2, xs ++ [b0], by go_num, by omega, rfl, by rw [hd, List.length_cons] at hq; omega, by rw [HX.out, hd]; simp, by rw [List.length_append, HL.out]; rfl, HO2.out, HB2.out⟩
        case measure => simp [intOf]; omega
      · have g1 : ((128 : Int) ≤ (r : Nat)) = False := eq_false (by omega)
        go_wp2_with (at_builtin; refine wpList_append_any _ rfl (.tmp 38) (.tmp 41) 24 rfl w.heap.size 5 i0 (.int .u8 0) Try.underlying24 hi0 hz0 hz1 hz2 rfl (.slice A' q c') q xs rfl ?q1 (wr.heap.size + 1) (some ⟨wr.heap.size, 0, none⟩) 1 1 [UInt8.ofNat r] rfl ?q2 ?q3 ?q4 ?_)
        case q1 => exact HO.out.alloc _
        case q2 => exact Rd.new wr 5 _ _ _ (by show [Value.int .u8 _] = [Value.int .u8 _]; congr 2; rw [UInt8.toNat_ofNat']; omega) rfl
        case q3 => omega
        case q4 => have := HB.out.size; simp; omega
        intro A2 c2 w2 hown2 hg2 hat2
        have hb2 : Below w.heap.size w w2 := (HB.out.alloc HB.out.size _).grown hg2 (by have := HB.out.size; simp; omega) (fun k hk => (HO.out.lt k hk).1)
        have HB2 := Lib.hid hb2; have HO2 := Lib.hid hown2; clear hb2 hat2 hg2 hown2
        go_wp2_with fail
        go_ret
        have hn : num 80 4 v = xs ++ [UInt8.ofNat r] := by rw [HX.out, digits_last r (by omega)]
        have hl2 : (num 80 4 v).length = q + 1 := by rw [hn, List.length_append, HL.out]; rfl
        exact ⟨HB2.out, A2, c2, by rw [hl2]; rfl, by rw [hl2, hn]; exact HO2.out⟩

set_option maxRecDepth 100000 in
set_option maxHeartbeats 1600000 in
theorem number_6 (v : Nat) (w : World) (hv : v ≤ 140737488355328) :
    Calls Try.prog 39 #[.int .u8 192, .int .i64 6, .int .i64 (v : Nat)] w (NumEnds (num 192 6 v) w) := by
  obtain ⟨i0, hi0, hz0, hz1, hz2⟩ := info_parts info5
  by_cases hs : v < 63
  · have hn : num 192 6 v = [UInt8.ofNat (192 + v)] := if_pos hs
    have HN := Lib.hid hn; clear hn
    have g : ((v : Int) < 63) := by omega
    go_enter Try.func39, Try.ntmps39
    go_wp2_with fail
    go_ret
    refine ⟨(Below.refl _ w).alloc (Nat.le_refl _) _, some ⟨w.heap.size, 0, none⟩, 1, by rw [HN.out]; rfl, ?_⟩
    rw [HN.out]
    exact lit1_own w _ _ ((or_low 6 192 v (by decide) (by decide) (by omega) (by decide)).trans (by rw [UInt8.toNat_ofNat']; omega))
  · have hn : num 192 6 v = UInt8.ofNat (192 + 63) :: digits (v - 63) := if_neg hs
    have HN := Lib.hid hn; clear hn
    have g : ((v : Int) < 63) = False := eq_false (by omega)
    go_enter Try.func39, Try.ntmps39
    go_wp2_with fail
    go_loopw [2, 8] (fun u x wr => ∃ (r q : Nat) (A' : Option Addr) (c' : Nat) (xs : List UInt8), u = .int .i64 (r : Nat) ∧ r ≤ 140737488355328 ∧ x = .slice A' q c' ∧ q + (digits r).length ≤ 100 ∧ num 192 6 v = xs ++ digits r ∧ xs.length = q ∧ wr.ownsRow w.heap.size 5 1 (.slice A' q c') q (bs xs) ∧ Below w.heap.size w wr) (fun u _ _ => (intOf u).toNat)
    case atStart =>
      have hd := digits_le 6 (v - 63) (by omega)
      exact ⟨v - 63, 1, _, 1, [UInt8.ofNat (192 + 63)], by congr 1; omega, by omega, rfl, by omega, HN.out, rfl, lit1_own w _ _ (by decide +kernel), (Below.refl _ w).alloc (Nat.le_refl _) _⟩
    case round =>
      obtain ⟨r, q, A', c', xs, rfl, hr, rfl, hq, hx, hxl, ho, hb⟩ := hrel
      have HX := Lib.hid hx; have HL := Lib.hid hxl; have HO := Lib.hid ho; have HB := Lib.hid hb; clear hx hxl ho hb
      by_cases h128 : 128 ≤ r
      · have g1 : (128 : Int) ≤ (r : Nat) := by omega
        obtain ⟨b0, hb0⟩ : ∃ b0, UInt8.ofNat (r % 128 + 128) = b0 := ⟨_, rfl⟩
        have H0 := Lib.hid hb0; clear hb0
        go_wp2_with (at_builtin; refine wpList_append_any _ rfl (.tmp 32) (.tmp 36) 24 rfl w.heap.size 5 i0 (.int .u8 0) Try.underlying24 hi0 hz0 hz1 hz2 rfl (.slice A' q c') q xs rfl ?q1 (wr.heap.size + 1) (some ⟨wr.heap.size, 0, none⟩) 1 1 [b0] rfl ?q2 ?q3 ?q4 ?_)
        case q1 => exact HO.out.alloc _
        case q2 => exact Rd.new wr 5 _ _ _ (by show [Value.int .u8 _] = [Value.int .u8 _]; congr 2; rw [← H0.out, UInt8.toNat_ofNat']; first | (rw [or_top]; omega) | omega) rfl
        case q3 => omega
        case q4 => have := HB.out.size; simp; omega
        intro A2 c2 w2 hown2 hg2 hat2
        have hb2 : Below w.heap.size w w2 := (HB.out.alloc HB.out.size _).grown hg2 (by have := HB.out.size; simp; omega) (fun k hk => (HO.out.lt k hk).1)
        have HB2 := Lib.hid hb2; have HO2 := Lib.hid hown2; clear hb2 hat2 hg2 hown2
        go_wp2_with fail
        go_roundw
        case rel =>
          have hd := digits_snoc r h128
          rw [H0.out] at hd
          have hdl := digits_length (r / 128)
          exact ⟨r / 128, q + 1, A2, c2, xs ++ [b0], by go_num, by omega, rfl, by rw [hd, List.length_cons] at hq; omega, by rw [HX.out, hd]; simp, by rw [List.length_append, HL.out]; rfl, HO2.out, HB2.out⟩
        case measure => simp [intOf]; omega
      · have g1 : ((128 : Int) ≤ (r : Nat)) = False := eq_false (by omega)
        go_wp2_with (at_builtin; refine wpList_append_any _ rfl (.tmp 38) (.tmp 41) 24 rfl w.heap.size 5 i0 (.int .u8 0) Try.underlying24 hi0 hz0 hz1 hz2 rfl (.slice A' q c') q xs rfl ?q1 (wr.heap.size + 1) (some ⟨wr.heap.size, 0, none⟩) 1 1 [UInt8.ofNat r] rfl ?q2 ?q3 ?q4 ?_)
        case q1 => exact HO.out.alloc _
        case q2 => exact Rd.new wr 5 _ _ _ (by show [Value.int .u8 _] = [Value.int .u8 _]; congr 2; rw [UInt8.toNat_ofNat']; omega) rfl
        case q3 => omega
        case q4 => have := HB.out.size; simp; omega
        intro A2 c2 w2 hown2 hg2 hat2
        have hb2 : Below w.heap.size w w2 := (HB.out.alloc HB.out.size _).grown hg2 (by have := HB.out.size; simp; omega) (fun k hk => (HO.out.lt k hk).1)
        have HB2 := Lib.hid hb2; have HO2 := Lib.hid hown2; clear hb2 hat2 hg2 hown2
        go_wp2_with fail
        go_ret
        have hn : num 192 6 v = xs ++ [UInt8.ofNat r] := by rw [HX.out, digits_last r (by omega)]
        have hl2 : (num 192 6 v).length = q + 1 := by rw [hn, List.length_append, HL.out]; rfl
        exact ⟨HB2.out, A2, c2, by rw [hl2]; rfl, by rw [hl2, hn]; exact HO2.out⟩

set_option maxRecDepth 100000 in
set_option maxHeartbeats 1600000 in
theorem number_7 (v : Nat) (w : World) (hv : v ≤ 140737488355328) :
    Calls Try.prog 39 #[.int .u8 0, .int .i64 7, .int .i64 (v : Nat)] w (NumEnds (num 0 7 v) w) := by
  obtain ⟨i0, hi0, hz0, hz1, hz2⟩ := info_parts info5
  by_cases hs : v < 127
  · have hn : num 0 7 v = [UInt8.ofNat (0 + v)] := if_pos hs
    have HN := Lib.hid hn; clear hn
    have g : ((v : Int) < 127) := by omega
    go_enter Try.func39, Try.ntmps39
    go_wp2_with fail
    go_ret
    refine ⟨(Below.refl _ w).alloc (Nat.le_refl _) _, some ⟨w.heap.size, 0, none⟩, 1, by rw [HN.out]; rfl, ?_⟩
    rw [HN.out]
    exact lit1_own w _ _ ((or_low 7 0 v (by decide) (by decide) (by omega) (by decide)).trans (by rw [UInt8.toNat_ofNat']; omega))
  · have hn : num 0 7 v = UInt8.ofNat (0 + 127) :: digits (v - 127) := if_neg hs
    have HN := Lib.hid hn; clear hn
    have g : ((v : Int) < 127) = False := eq_false (by omega)
    go_enter Try.func39, Try.ntmps39
    go_wp2_with fail
    go_loopw [2, 8] (fun u x wr => ∃ (r q : Nat) (A' : Option Addr) (c' : Nat) (xs : List UInt8), u = .int .i64 (r : Nat) ∧ r ≤ 140737488355328 ∧ x = .slice A' q c' ∧ q + (digits r).length ≤ 100 ∧ num 0 7 v = xs ++ digits r ∧ xs.length = q ∧ wr.ownsRow w.heap.size 5 1 (.slice A' q c') q (bs xs) ∧ Below w.heap.size w wr) (fun u _ _ => (intOf u).toNat)
    case atStart =>
      have hd := digits_le 6 (v - 127) (by omega)
      exact ⟨v - 127, 1, _, 1, [UInt8.ofNat (0 + 127)], by congr 1; omega, by omega, rfl, by omega, HN.out, rfl, lit1_own w _ _ (by decide +kernel), (Below.refl _ w).alloc (Nat.le_refl _) _⟩
    case round =>
      obtain ⟨r, q, A', c', xs, rfl, hr, rfl, hq, hx, hxl, ho, hb⟩ := hrel
      have HX := Lib.hid hx; have HL := Lib.hid hxl; have HO := Lib.hid ho; have HB := Lib.hid hb; clear hx hxl ho hb
      by_cases h128 : 128 ≤ r
      · have g1 : (128 : Int) ≤ (r : Nat) := by omega
        obtain ⟨b0, hb0⟩ : ∃ b0, UInt8.ofNat (r % 128 + 128) = b0 := ⟨_, rfl⟩
        have H0 := Lib.hid hb0; clear hb0
        go_wp2_with (at_builtin; refine wpList_append_any _ rfl (.tmp 32) (.tmp 36) 24 rfl w.heap.size 5 i0 (.int .u8 0) Try.underlying24 hi0 hz0 hz1 hz2 rfl (.slice A' q c') q xs rfl ?q1 (wr.heap.size + 1) (some ⟨wr.heap.size, 0, none⟩) 1 1 [b0] rfl ?q2 ?q3 ?q4 ?_)
        case q1 => exact HO.out.alloc _
        case q2 => exact Rd.new wr 5 _ _ _ (by show [Value.int .u8 _] = [Value.int .u8 _]; congr 2; rw [← H0.out, UInt8.toNat_ofNat']; first | (rw [or_top]; omega) | omega) rfl
        case q3 => omega
        case q4 => have := HB.out.size; simp; omega
        intro A2 c2 w2 hown2 hg2 hat2
        have hb2 : Below w.heap.size w w2 := (HB.out.alloc HB.out.size _).grown hg2 (by have := HB.out.size; simp; omega) (fun k hk => (HO.out.lt k hk).1)
        have HB2 := Lib.hid hb2; have HO2 := Lib.hid hown2; clear hb2 hat2 hg2 hown2
        go_wp2_with fail
        go_roundw
        case rel =>
          have hd := digits_snoc r h128
          rw [H0.out] at hd
          have hdl := digits_length (r / 128)
          exact ⟨r / 128, q + 1, A2, c2, xs ++ [b0], by go_num, by omega, rfl, by rw [hd, List.length_cons] at hq; omega, by rw [HX.out, hd]; simp, by rw [List.length_append, HL.out]; rfl, HO2.out, HB2.out⟩
        case measure => simp [intOf]; omega
      · have g1 : ((128 : Int) ≤ (r : Nat)) = False := eq_false (by omega)
        go_wp2_with (at_builtin; refine wpList_append_any _ rfl (.tmp 38) (.tmp 41) 24 rfl w.heap.size 5 i0 (.int .u8 0) Try.underlying24 hi0 hz0 hz1 hz2 rfl (.slice A' q c') q xs rfl ?q1 (wr.heap.size + 1) (some ⟨wr.heap.size, 0, none⟩) 1 1 [UInt8.ofNat r] rfl ?q2 ?q3 ?q4 ?_)
        case q1 => exact HO.out.alloc _
        case q2 => exact Rd.new wr 5 _ _ _ (by show [Value.int .u8 _] = [Value.int .u8 _]; congr 2; rw [UInt8.toNat_ofNat']; omega) rfl
        case q3 => omega
        case q4 => have := HB.out.size; simp; omega
        intro A2 c2 w2 hown2 hg2 hat2
        have hb2 : Below w.heap.size w w2 := (HB.out.alloc HB.out.size _).grown hg2 (by have := HB.out.size; simp; omega) (fun k hk => (HO.out.lt k hk).1)
        have HB2 := Lib.hid hb2; have HO2 := Lib.hid hown2; clear hb2 hat2 hg2 hown2
        go_wp2_with fail
        go_ret
        have hn : num 0 7 v = xs ++ [UInt8.ofNat r] := by rw [HX.out, digits_last r (by omega)]
        have hl2 : (num 0 7 v).length = q + 1 := by rw [hn, List.length_append, HL.out]; rfl
        exact ⟨HB2.out, A2, c2, by rw [hl2]; rfl, by rw [hl2, hn]; exact HO2.out⟩
end Go.Proofs.Ytcimcldmkaggnaa
