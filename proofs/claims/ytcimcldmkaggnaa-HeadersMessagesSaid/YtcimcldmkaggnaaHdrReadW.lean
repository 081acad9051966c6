/- The program's reader of headers: numbers and texts. -/
import Derived.Test.YtcimcldmkaggnaaHdrSrcW
import Derived.Laws.BitsLemmas
namespace Go.Proofs.Ytcimcldmkaggnaa
set_option linter.unusedVariables false
set_option linter.unusedSimpArgs false
open Go.RowKit
open Hd

def cnt1 (n : Nat) : List UInt8 → Option (Nat × List UInt8)
  | [] => none
  | z :: r => if z.toNat < 128 then some (n + z.toNat * 128, r) else none
def cnt0 (n : Nat) : List UInt8 → Option (Nat × List UInt8)
  | [] => none
  | y :: r => if y.toNat < 128 then some (n + y.toNat, r) else cnt1 (n + y.toNat % 128) r
theorem count_cons (k : Nat) (x : UInt8) (r : List UInt8) : count k (x :: r) = if x.toNat % 2 ^ k < 2 ^ k - 1 then some (x.toNat % 2 ^ k, r) else cnt0 (2 ^ k - 1) r := by
  unfold count
  by_cases h : x.toNat % 2 ^ k < 2 ^ k - 1
  · simp only [if_pos h]
  · simp only [if_neg h]
    cases r with
    | nil => rfl
    | cons y r' =>
      unfold cnt0
      by_cases h2 : y.toNat < 128
      · simp only [if_pos h2]
      · simp only [if_neg h2]
        cases r' <;> rfl
def cntR : Nat → Nat → List UInt8 → Option (Nat × List UInt8)
  | 0, n, r => cnt0 n r
  | 1, n, r => cnt1 n r
  | _, _, _ => none
theorem take_one (x : UInt8) (r : List UInt8) (g : Nat) (w : World) (hs : Src w g (x :: r)) :
    Calls Try.prog 45 #[.pointer (some ⟨g, 0, none⟩), .int .i64 1] w fun e w' => ∃ b o, e = .returned (.slice (some ⟨b, o, none⟩) 1 1) ∧ w'.cell? ⟨b, o, none⟩ = some (.int .u8 (x.toNat : Int)) ∧ Src w' g r ∧ Past g w w' := by
  refine (take_any (x :: r) 1 g w hs (by omega)).mono ?_
  rintro e w1 (⟨h1, ⟨A, rfl, hr⟩, hs1, hp⟩ | ⟨h1, _⟩)
  · obtain ⟨b, o, rfl, _, hc⟩ := hr.2 (by omega)
    exact ⟨b, o, rfl, hc 0 (by simp), hs1, hp⟩
  · simp at h1
theorem take_none (k g : Nat) (xs : List UInt8) (w : World) (hs : Src w g xs) (hk : xs.length < k) (hk2 : k ≤ 9223372036854775807) :
    Calls Try.prog 45 #[.pointer (some ⟨g, 0, none⟩), .int .i64 (k : Nat)] w fun e w' => e = .panicked chain ∧ w = w' := by
  refine (take_any xs k g w hs hk2).mono ?_
  rintro e w1 (⟨h1, _⟩ | ⟨_, h1, h2⟩)
  · omega
  · exact ⟨h1, h2⟩
theorem take_ok (k g : Nat) (xs : List UInt8) (w : World) (hs : Src w g xs) (hk : k ≤ xs.length) (hk2 : k ≤ 9223372036854775807) :
    Calls Try.prog 45 #[.pointer (some ⟨g, 0, none⟩), .int .i64 (k : Nat)] w fun e w' => ∃ A, e = .returned (.slice A k k) ∧ Rd w' g A k (xs.take k) ∧ Src w' g (xs.drop k) ∧ Past g w w' := by
  refine (take_any xs k g w hs hk2).mono ?_
  rintro e w1 (⟨h1, ⟨A, rfl, hr⟩, hs1, hp⟩ | ⟨h1, _⟩)
  · exact ⟨A, rfl, hr, hs1, hp⟩
  · omega
/-- a number read, or none -/
def CountEnds (o : Option (Nat × List UInt8)) (g : Nat) (w : World) (e : Ending) (w' : World) : Prop :=
  Past g w w' ∧ match o with
    | some (n, r) => e = .returned (.int .i64 (n : Nat)) ∧ Src w' g r
    | none => e = .panicked chain
theorem mask_i64 (k : Nat) (x : UInt8) (hk : k ≤ 8) : bits .and .i64 (x.toNat : Int) (2 ^ k - 1) = ((x.toNat % 2 ^ k : Nat) : Int) := by
  have hx := x.toNat_lt
  rw [bits_mask .i64 8 (by decide) (fun n h0 h1 => IntWalk.i64_in n (by omega)) k hk (x.toNat : Int) (by omega) (by omega)]
  push_cast
  rfl
theorem mask_u8 (x : UInt8) : bits .and .u8 (x.toNat : Int) 127 = ((x.toNat % 128 : Nat) : Int) := by
  have hx := x.toNat_lt
  have h := bits_mask .u8 8 (by decide) wraps_u8 7 (by decide) (x.toNat : Int) (by omega) (by omega)
  rw [show ((2 : Int) ^ 7 - 1) = 127 from rfl] at h
  rw [h]; omega

set_option maxRecDepth 100000 in
set_option maxHeartbeats 1600000 in
theorem srcNumber_3 (xs : List UInt8) (g : Nat) (w : World) (hs : Src w g xs) :
    Calls Try.prog 53 #[.pointer (some ⟨g, 0, none⟩), .int .i64 3] w (CountEnds (count 3 xs) g w) := by
  have HS := Lib.hid hs; clear hs
  cases xs with
  | nil =>
    go_enter Try.func53, Try.ntmps53
    go_wp2_with (go_at_call 45; refine (take_none 1 g [] w HS.out (by decide) (by omega)).mono ?_; rintro e w1 ⟨rfl, rfl⟩)
    exact ⟨rfl, Past.refl _ _, rfl⟩
  | cons x r =>
    have HC := Lib.hid (count_cons 3 x r)
    have hm := mask_i64 3 x (by decide)
    have hxl : x.toNat < 256 := x.toNat_lt
    rw [show ((2 : Int) ^ 3 - 1) = 7 from rfl] at hm
    by_cases hx : x.toNat % 8 < 7
    · have hc : count 3 (x :: r) = some (x.toNat % 8, r) := HC.out.trans (if_pos hx)
      have HC2 := Lib.hid hc; clear hc HC
      have hg : ((x.toNat % 8 : Nat) : Int) < 7 := by omega
      generalize x.toNat % 8 = v at *
      go_enter Try.func53, Try.ntmps53
      go_wp2_with (go_at_call 45; refine (take_one x r g w HS.out).mono ?_; rintro e w1 ⟨b, o, rfl, hb, hs1, hp1⟩; have HS1 := Lib.hid hs1; have HP1 := Lib.hid hp1; clear hs1 hp1)
      go_ret
      refine ⟨HP1.out, ?_⟩
      rw [HC2.out]
      exact ⟨rfl, HS1.out⟩
    · have hc : count 3 (x :: r) = cnt0 7 r := HC.out.trans (if_neg hx)
      have HC2 := Lib.hid hc; clear hc HC
      have hxm : x.toNat % 8 = 7 := by have := Nat.mod_lt x.toNat (show 0 < 8 by decide); omega
      rw [show (2 : Nat) ^ 3 = 8 from rfl, hxm] at hm
      rw [show ((7 : Nat) : Int) = 7 from rfl] at hm
      clear hx hxm
      go_enter Try.func53, Try.ntmps53
      go_wp2_with (go_at_call 45; refine (take_one x r g w HS.out).mono ?_; rintro e w1 ⟨b, o, rfl, hb, hs1, hp1⟩; have HS1 := Lib.hid hs1; have HP1 := Lib.hid hp1; clear hs1 hp1)
      go_loopw [6, 7] (fun s6 s7 wr => ∃ (j n : Nat) (rest : List UInt8), j ≤ 2 ∧ s7 = .int .i64 ((7 * j : Nat) : Int) ∧ s6 = .int .i64 (n : Nat) ∧ n ≤ 20000 * (j + 1) ∧ Src wr g rest ∧ Past g w wr ∧ count 3 (x :: r) = cntR j n rest) (fun _ s7 _ => 14 - (intOf s7).toNat)
      case atStart => exact ⟨0, 7, r, by omega, rfl, rfl, by omega, HS1.out, HP1.out, HC2.out⟩
      case round =>
        obtain ⟨j, n, rest, hj, rfl, rfl, hn, hsr, hpr, hcr⟩ := hrel
        have HSR := Lib.hid hsr; have HPR := Lib.hid hpr; have HCR := Lib.hid hcr
        clear hsr hpr hcr hm HS HC2 HS1 HP1
        obtain rfl | rfl | rfl : j = 0 ∨ j = 1 ∨ j = 2 := by omega
        · cases rest with
          | nil =>
            go_wp2_with (go_at_call 45; refine (take_none 1 g [] _ HSR.out (by decide) (by omega)).mono ?_; rintro e w1 ⟨rfl, rfl⟩)
            exact ⟨rfl, HPR.out, by rw [HCR.out]; rfl⟩
          | cons y r2 =>
            have hmk := mask_u8 y
            have hyl : y.toNat < 256 := y.toNat_lt
            by_cases hy : y.toNat < 128
            · have hmod : y.toNat % 128 = y.toNat := Nat.mod_eq_of_lt hy
              rw [hmod] at hmk
              have hg : ((y.toNat : Nat) : Int) < 128 := by omega
              clear hmod
              go_wp2_with (go_at_call 45; refine (take_one y r2 g _ HSR.out).mono ?_; rintro e w1 ⟨b, o, rfl, hb, hs1, hp1⟩; have HS1 := Lib.hid hs1; have HP1 := Lib.hid hp1; clear hs1 hp1)
              go_ret
              refine ⟨HPR.out.trans HP1.out, ?_⟩
              rw [HCR.out, show cntR 0 n (y :: r2) = some (n + y.toNat, r2) from if_pos hy]
              exact ⟨by apply ret_int; omega, HS1.out⟩
            · have hg : (((y.toNat : Nat) : Int) < 128) = False := eq_false (by omega)
              have hml := Nat.mod_lt y.toNat (show 0 < 128 by omega)
              have HE := Lib.hid (show cntR 0 n (y :: r2) = cnt1 (n + y.toNat % 128) r2 from if_neg hy)
              generalize y.toNat % 128 = y7 at *
              go_wp2_with (go_at_call 45; refine (take_one y r2 g _ HSR.out).mono ?_; rintro e w1 ⟨b, o, rfl, hb, hs1, hp1⟩; have HS1 := Lib.hid hs1; have HP1 := Lib.hid hp1; clear hs1 hp1)
              go_roundw
              case rel => exact ⟨1, n + y7, r2, by omega, by go_num, by go_num, by omega, HS1.out, HPR.out.trans HP1.out, HCR.out.trans HE.out⟩
              case measure => simp [intOf]
        · cases rest with
          | nil =>
            go_wp2_with (go_at_call 45; refine (take_none 1 g [] _ HSR.out (by decide) (by omega)).mono ?_; rintro e w1 ⟨rfl, rfl⟩)
            exact ⟨rfl, HPR.out, by rw [HCR.out]; rfl⟩
          | cons y r2 =>
            have hmk := mask_u8 y
            have hyl : y.toNat < 256 := y.toNat_lt
            by_cases hy : y.toNat < 128
            · have hmod : y.toNat % 128 = y.toNat := Nat.mod_eq_of_lt hy
              rw [hmod] at hmk
              have hg : ((y.toNat : Nat) : Int) < 128 := by omega
              clear hmod
              go_wp2_with (go_at_call 45; refine (take_one y r2 g _ HSR.out).mono ?_; rintro e w1 ⟨b, o, rfl, hb, hs1, hp1⟩; have HS1 := Lib.hid hs1; have HP1 := Lib.hid hp1; clear hs1 hp1)
              go_ret
              refine ⟨HPR.out.trans HP1.out, ?_⟩
              rw [HCR.out, show cntR 1 n (y :: r2) = some (n + y.toNat * 128, r2) from if_pos hy]
              exact ⟨by apply ret_int; omega, HS1.out⟩
            · have hg : (((y.toNat : Nat) : Int) < 128) = False := eq_false (by omega)
              have hml := Nat.mod_lt y.toNat (show 0 < 128 by omega)
              have HE := Lib.hid (show cntR 1 n (y :: r2) = none from if_neg hy)
              generalize y.toNat % 128 = y7 at *
              go_wp2_with (go_at_call 45; refine (take_one y r2 g _ HSR.out).mono ?_; rintro e w1 ⟨b, o, rfl, hb, hs1, hp1⟩; have HS1 := Lib.hid hs1; have HP1 := Lib.hid hp1; clear hs1 hp1)
              go_roundw
              case rel => exact ⟨2, n + y7 * 128, r2, by omega, by go_num, by go_num, by omega, HS1.out, HPR.out.trans HP1.out, HCR.out.trans HE.out⟩
              case measure => simp [intOf]
        · go_wp2_with (go_at_call 43; refine (needs_no _).mono ?_; rintro e w1 ⟨rfl, rfl⟩)
          exact ⟨rfl, HPR.out, by rw [HCR.out]; rfl⟩

set_option maxRecDepth 100000 in
set_option maxHeartbeats 1600000 in
theorem srcNumber_4 (xs : List UInt8) (g : Nat) (w : World) (hs : Src w g xs) :
    Calls Try.prog 53 #[.pointer (some ⟨g, 0, none⟩), .int .i64 4] w (CountEnds (count 4 xs) g w) := by
  have HS := Lib.hid hs; clear hs
  cases xs with
  | nil =>
    go_enter Try.func53, Try.ntmps53
    go_wp2_with (go_at_call 45; refine (take_none 1 g [] w HS.out (by decide) (by omega)).mono ?_; rintro e w1 ⟨rfl, rfl⟩)
    exact ⟨rfl, Past.refl _ _, rfl⟩
  | cons x r =>
    have HC := Lib.hid (count_cons 4 x r)
    have hm := mask_i64 4 x (by decide)
    have hxl : x.toNat < 256 := x.toNat_lt
    rw [show ((2 : Int) ^ 4 - 1) = 15 from rfl] at hm
    by_cases hx : x.toNat % 16 < 15
    · have hc : count 4 (x :: r) = some (x.toNat % 16, r) := HC.out.trans (if_pos hx)
      have HC2 := Lib.hid hc; clear hc HC
      have hg : ((x.toNat % 16 : Nat) : Int) < 15 := by omega
      generalize x.toNat % 16 = v at *
      go_enter Try.func53, Try.ntmps53
      go_wp2_with (go_at_call 45; refine (take_one x r g w HS.out).mono ?_; rintro e w1 ⟨b, o, rfl, hb, hs1, hp1⟩; have HS1 := Lib.hid hs1; have HP1 := Lib.hid hp1; clear hs1 hp1)
      go_ret
      refine ⟨HP1.out, ?_⟩
      rw [HC2.out]
      exact ⟨rfl, HS1.out⟩
    · have hc : count 4 (x :: r) = cnt0 15 r := HC.out.trans (if_neg hx)
      have HC2 := Lib.hid hc; clear hc HC
      have hxm : x.toNat % 16 = 15 := by have := Nat.mod_lt x.toNat (show 0 < 16 by decide); omega
      rw [show (2 : Nat) ^ 4 = 16 from rfl, hxm] at hm
      rw [show ((15 : Nat) : Int) = 15 from rfl] at hm
      clear hx hxm
      go_enter Try.func53, Try.ntmps53
      go_wp2_with (go_at_call 45; refine (take_one x r g w HS.out).mono ?_; rintro e w1 ⟨b, o, rfl, hb, hs1, hp1⟩; have HS1 := Lib.hid hs1; have HP1 := Lib.hid hp1; clear hs1 hp1)
      go_loopw [6, 7] (fun s6 s7 wr => ∃ (j n : Nat) (rest : List UInt8), j ≤ 2 ∧ s7 = .int .i64 ((7 * j : Nat) : Int) ∧ s6 = .int .i64 (n : Nat) ∧ n ≤ 20000 * (j + 1) ∧ Src wr g rest ∧ Past g w wr ∧ count 4 (x :: r) = cntR j n rest) (fun _ s7 _ => 14 - (intOf s7).toNat)
      case atStart => exact ⟨0, 15, r, by omega, rfl, rfl, by omega, HS1.out, HP1.out, HC2.out⟩
      case round =>
        obtain ⟨j, n, rest, hj, rfl, rfl, hn, hsr, hpr, hcr⟩ := hrel
        have HSR := Lib.hid hsr; have HPR := Lib.hid hpr; have HCR := Lib.hid hcr
        clear hsr hpr hcr hm HS HC2 HS1 HP1
        obtain rfl | rfl | rfl : j = 0 ∨ j = 1 ∨ j = 2 := by omega
        · cases rest with
          | nil =>
            go_wp2_with (go_at_call 45; refine (take_none 1 g [] _ HSR.out (by decide) (by omega)).mono ?_; rintro e w1 ⟨rfl, rfl⟩)
            exact ⟨rfl, HPR.out, by rw [HCR.out]; rfl⟩
          | cons y r2 =>
            have hmk := mask_u8 y
            have hyl : y.toNat < 256 := y.toNat_lt
            by_cases hy : y.toNat < 128
            · have hmod : y.toNat % 128 = y.toNat := Nat.mod_eq_of_lt hy
              rw [hmod] at hmk
              have hg : ((y.toNat : Nat) : Int) < 128 := by omega
              clear hmod
              go_wp2_with (go_at_call 45; refine (take_one y r2 g _ HSR.out).mono ?_; rintro e w1 ⟨b, o, rfl, hb, hs1, hp1⟩; have HS1 := Lib.hid hs1; have HP1 := Lib.hid hp1; clear hs1 hp1)
              go_ret
              refine ⟨HPR.out.trans HP1.out, ?_⟩
              rw [HCR.out, show cntR 0 n (y :: r2) = some (n + y.toNat, r2) from if_pos hy]
              exact ⟨by apply ret_int; omega, HS1.out⟩
            · have hg : (((y.toNat : Nat) : Int) < 128) = False := eq_false (by omega)
              have hml := Nat.mod_lt y.toNat (show 0 < 128 by omega)
              have HE := Lib.hid (show cntR 0 n (y :: r2) = cnt1 (n + y.toNat % 128) r2 from if_neg hy)
              generalize y.toNat % 128 = y7 at *
              go_wp2_with (go_at_call 45; refine (take_one y r2 g _ HSR.out).mono ?_; rintro e w1 ⟨b, o, rfl, hb, hs1, hp1⟩; have HS1 := Lib.hid hs1; have HP1 := Lib.hid hp1; clear hs1 hp1)
              go_roundw
              case rel => exact ⟨1, n + y7, r2, by omega, by go_num, by go_num, by omega, HS1.out, HPR.out.trans HP1.out, HCR.out.trans HE.out⟩
              case measure => simp [intOf]
        · cases rest with
          | nil =>
            go_wp2_with (go_at_call 45; refine (take_none 1 g [] _ HSR.out (by decide) (by omega)).mono ?_; rintro e w1 ⟨rfl, rfl⟩)
            exact ⟨rfl, HPR.out, by rw [HCR.out]; rfl⟩
          | cons y r2 =>
            have hmk := mask_u8 y
            have hyl : y.toNat < 256 := y.toNat_lt
            by_cases hy : y.toNat < 128
            · have hmod : y.toNat % 128 = y.toNat := Nat.mod_eq_of_lt hy
              rw [hmod] at hmk
              have hg : ((y.toNat : Nat) : Int) < 128 := by omega
              clear hmod
              go_wp2_with (go_at_call 45; refine (take_one y r2 g _ HSR.out).mono ?_; rintro e w1 ⟨b, o, rfl, hb, hs1, hp1⟩; have HS1 := Lib.hid hs1; have HP1 := Lib.hid hp1; clear hs1 hp1)
              go_ret
              refine ⟨HPR.out.trans HP1.out, ?_⟩
              rw [HCR.out, show cntR 1 n (y :: r2) = some (n + y.toNat * 128, r2) from if_pos hy]
              exact ⟨by apply ret_int; omega, HS1.out⟩
            · have hg : (((y.toNat : Nat) : Int) < 128) = False := eq_false (by omega)
              have hml := Nat.mod_lt y.toNat (show 0 < 128 by omega)
              have HE := Lib.hid (show cntR 1 n (y :: r2) = none from if_neg hy)
              generalize y.toNat % 128 = y7 at *
              go_wp2_with (go_at_call 45; refine (take_one y r2 g _ HSR.out).mono ?_; rintro e w1 ⟨b, o, rfl, hb, hs1, hp1⟩; have HS1 := Lib.hid hs1; have HP1 := Lib.hid hp1; clear hs1 hp1)
              go_roundw
              case rel => exact ⟨2, n + y7 * 128, r2, by omega, by go_num, by go_num, by omega, HS1.out, HPR.out.trans HP1.out, HCR.out.trans HE.out⟩
              case measure => simp [intOf]
        · go_wp2_with (go_at_call 43; refine (needs_no _).mono ?_; rintro e w1 ⟨rfl, rfl⟩)
          exact ⟨rfl, HPR.out, by rw [HCR.out]; rfl⟩

set_option maxRecDepth 100000 in
set_option maxHeartbeats 1600000 in
theorem srcNumber_6 (xs : List UInt8) (g : Nat) (w : World) (hs : Src w g xs) :
    Calls Try.prog 53 #[.pointer (some ⟨g, 0, none⟩), .int .i64 6] w (CountEnds (count 6 xs) g w) := by
  have HS := Lib.hid hs; clear hs
  cases xs with
  | nil =>
    go_enter Try.func53, Try.ntmps53
    go_wp2_with (go_at_call 45; refine (take_none 1 g [] w HS.out (by decide) (by omega)).mono ?_; rintro e w1 ⟨rfl, rfl⟩)
    exact ⟨rfl, Past.refl _ _, rfl⟩
  | cons x r =>
    have HC := Lib.hid (count_cons 6 x r)
    have hm := mask_i64 6 x (by decide)
    have hxl : x.toNat < 256 := x.toNat_lt
    rw [show ((2 : Int) ^ 6 - 1) = 63 from rfl] at hm
    by_cases hx : x.toNat % 64 < 63
    · have hc : count 6 (x :: r) = some (x.toNat % 64, r) := HC.out.trans (if_pos hx)
      have HC2 := Lib.hid hc; clear hc HC
      have hg : ((x.toNat % 64 : Nat) : Int) < 63 := by omega
      generalize x.toNat % 64 = v at *
      go_enter Try.func53, Try.ntmps53
      go_wp2_with (go_at_call 45; refine (take_one x r g w HS.out).mono ?_; rintro e w1 ⟨b, o, rfl, hb, hs1, hp1⟩; have HS1 := Lib.hid hs1; have HP1 := Lib.hid hp1; clear hs1 hp1)
      go_ret
      refine ⟨HP1.out, ?_⟩
      rw [HC2.out]
      exact ⟨rfl, HS1.out⟩
    · have hc : count 6 (x :: r) = cnt0 63 r := HC.out.trans (if_neg hx)
      have HC2 := Lib.hid hc; clear hc HC
      have hxm : x.toNat % 64 = 63 := by have := Nat.mod_lt x.toNat (show 0 < 64 by decide); omega
      rw [show (2 : Nat) ^ 6 = 64 from rfl, hxm] at hm
      rw [show ((63 : Nat) : Int) = 63 from rfl] at hm
      clear hx hxm
      go_enter Try.func53, Try.ntmps53
      go_wp2_with (go_at_call 45; refine (take_one x r g w HS.out).mono ?_; rintro e w1 ⟨b, o, rfl, hb, hs1, hp1⟩; have HS1 := Lib.hid hs1; have HP1 := Lib.hid hp1; clear hs1 hp1)
      go_loopw [6, 7] (fun s6 s7 wr => ∃ (j n : Nat) (rest : List UInt8), j ≤ 2 ∧ s7 = .int .i64 ((7 * j : Nat) : Int) ∧ s6 = .int .i64 (n : Nat) ∧ n ≤ 20000 * (j + 1) ∧ Src wr g rest ∧ Past g w wr ∧ count 6 (x :: r) = cntR j n rest) (fun _ s7 _ => 14 - (intOf s7).toNat)
      case atStart => exact ⟨0, 63, r, by omega, rfl, rfl, by omega, HS1.out, HP1.out, HC2.out⟩
      case round =>
        obtain ⟨j, n, rest, hj, rfl, rfl, hn, hsr, hpr, hcr⟩ := hrel
        have HSR := Lib.hid hsr; have HPR := Lib.hid hpr; have HCR := Lib.hid hcr
        clear hsr hpr hcr hm HS HC2 HS1 HP1
        obtain rfl | rfl | rfl : j = 0 ∨ j = 1 ∨ j = 2 := by omega
        · cases rest with
          | nil =>
            go_wp2_with (go_at_call 45; refine (take_none 1 g [] _ HSR.out (by decide) (by omega)).mono ?_; rintro e w1 ⟨rfl, rfl⟩)
            exact ⟨rfl, HPR.out, by rw [HCR.out]; rfl⟩
          | cons y r2 =>
            have hmk := mask_u8 y
            have hyl : y.toNat < 256 := y.toNat_lt
            by_cases hy : y.toNat < 128
            · have hmod : y.toNat % 128 = y.toNat := Nat.mod_eq_of_lt hy
              rw [hmod] at hmk
              have hg : ((y.toNat : Nat) : Int) < 128 := by omega
              clear hmod
              go_wp2_with (go_at_call 45; refine (take_one y r2 g _ HSR.out).mono ?_; rintro e w1 ⟨b, o, rfl, hb, hs1, hp1⟩; have HS1 := Lib.hid hs1; have HP1 := Lib.hid hp1; clear hs1 hp1)
              go_ret
              refine ⟨HPR.out.trans HP1.out, ?_⟩
              rw [HCR.out, show cntR 0 n (y :: r2) = some (n + y.toNat, r2) from if_pos hy]
              exact ⟨by apply ret_int; omega, HS1.out⟩
            · have hg : (((y.toNat : Nat) : Int) < 128) = False := eq_false (by omega)
              have hml := Nat.mod_lt y.toNat (show 0 < 128 by omega)
              have HE := Lib.hid (show cntR 0 n (y :: r2) = cnt1 (n + y.toNat % 128) r2 from if_neg hy)
              generalize y.toNat % 128 = y7 at *
              go_wp2_with (go_at_call 45; refine (take_one y r2 g _ HSR.out).mono ?_; rintro e w1 ⟨b, o, rfl, hb, hs1, hp1⟩; have HS1 := Lib.hid hs1; have HP1 := Lib.hid hp1; clear hs1 hp1)
              go_roundw
              case rel => exact ⟨1, n + y7, r2, by omega, by go_num, by go_num, by omega, HS1.out, HPR.out.trans HP1.out, HCR.out.trans HE.out⟩
              case measure => simp [intOf]
        · cases rest with
          | nil =>
            go_wp2_with (go_at_call 45; refine (take_none 1 g [] _ HSR.out (by decide) (by omega)).mono ?_; rintro e w1 ⟨rfl, rfl⟩)
            exact ⟨rfl, HPR.out, by rw [HCR.out]; rfl⟩
          | cons y r2 =>
            have hmk := mask_u8 y
            have hyl : y.toNat < 256 := y.toNat_lt
            by_cases hy : y.toNat < 128
            · have hmod : y.toNat % 128 = y.toNat := Nat.mod_eq_of_lt hy
              rw [hmod] at hmk
              have hg : ((y.toNat : Nat) : Int) < 128 := by omega
              clear hmod
              go_wp2_with (go_at_call 45; refine (take_one y r2 g _ HSR.out).mono ?_; rintro e w1 ⟨b, o, rfl, hb, hs1, hp1⟩; have HS1 := Lib.hid hs1; have HP1 := Lib.hid hp1; clear hs1 hp1)
              go_ret
              refine ⟨HPR.out.trans HP1.out, ?_⟩
              rw [HCR.out, show cntR 1 n (y :: r2) = some (n + y.toNat * 128, r2) from if_pos hy]
              exact ⟨by apply ret_int; omega, HS1.out⟩
            · have hg : (((y.toNat : Nat) : Int) < 128) = False := eq_false (by omega)
              have hml := Nat.mod_lt y.toNat (show 0 < 128 by omega)
              have HE := Lib.hid (show cntR 1 n (y :: r2) = none from if_neg hy)
              generalize y.toNat % 128 = y7 at *
              go_wp2_with (go_at_call 45; refine (take_one y r2 g _ HSR.out).mono ?_; rintro e w1 ⟨b, o, rfl, hb, hs1, hp1⟩; have HS1 := Lib.hid hs1; have HP1 := Lib.hid hp1; clear hs1 hp1)
              go_roundw
              case rel => exact ⟨2, n + y7 * 128, r2, by omega, by go_num, by go_num, by omega, HS1.out, HPR.out.trans HP1.out, HCR.out.trans HE.out⟩
              case measure => simp [intOf]
        · go_wp2_with (go_at_call 43; refine (needs_no _).mono ?_; rintro e w1 ⟨rfl, rfl⟩)
          exact ⟨rfl, HPR.out, by rw [HCR.out]; rfl⟩

set_option maxRecDepth 100000 in
set_option maxHeartbeats 1600000 in
theorem srcNumber_7 (xs : List UInt8) (g : Nat) (w : World) (hs : Src w g xs) :
    Calls Try.prog 53 #[.pointer (some ⟨g, 0, none⟩), .int .i64 7] w (CountEnds (count 7 xs) g w) := by
  have HS := Lib.hid hs; clear hs
  cases xs with
  | nil =>
    go_enter Try.func53, Try.ntmps53
    go_wp2_with (go_at_call 45; refine (take_none 1 g [] w HS.out (by decide) (by omega)).mono ?_; rintro e w1 ⟨rfl, rfl⟩)
    exact ⟨rfl, Past.refl _ _, rfl⟩
  | cons x r =>
    have HC := Lib.hid (count_cons 7 x r)
    have hm := mask_i64 7 x (by decide)
    have hxl : x.toNat < 256 := x.toNat_lt
    rw [show ((2 : Int) ^ 7 - 1) = 127 from rfl] at hm
    by_cases hx : x.toNat % 128 < 127
    · have hc : count 7 (x :: r) = some (x.toNat % 128, r) := HC.out.trans (if_pos hx)
      have HC2 := Lib.hid hc; clear hc HC
      have hg : ((x.toNat % 128 : Nat) : Int) < 127 := by omega
      generalize x.toNat % 128 = v at *
      go_enter Try.func53, Try.ntmps53
      go_wp2_with (go_at_call 45; refine (take_one x r g w HS.out).mono ?_; rintro e w1 ⟨b, o, rfl, hb, hs1, hp1⟩; have HS1 := Lib.hid hs1; have HP1 := Lib.hid hp1; clear hs1 hp1)
      go_ret
      refine ⟨HP1.out, ?_⟩
      rw [HC2.out]
      exact ⟨rfl, HS1.out⟩
    · have hc : count 7 (x :: r) = cnt0 127 r := HC.out.trans (if_neg hx)
      have HC2 := Lib.hid hc; clear hc HC
      have hxm : x.toNat % 128 = 127 := by have := Nat.mod_lt x.toNat (show 0 < 128 by decide); omega
      rw [show (2 : Nat) ^ 7 = 128 from rfl, hxm] at hm
      rw [show ((127 : Nat) : Int) = 127 from rfl] at hm
      clear hx hxm
      go_enter Try.func53, Try.ntmps53
      go_wp2_with (go_at_call 45; refine (take_one x r g w HS.out).mono ?_; rintro e w1 ⟨b, o, rfl, hb, hs1, hp1⟩; have HS1 := Lib.hid hs1; have HP1 := Lib.hid hp1; clear hs1 hp1)
      go_loopw [6, 7] (fun s6 s7 wr => ∃ (j n : Nat) (rest : List UInt8), j ≤ 2 ∧ s7 = .int .i64 ((7 * j : Nat) : Int) ∧ s6 = .int .i64 (n : Nat) ∧ n ≤ 20000 * (j + 1) ∧ Src wr g rest ∧ Past g w wr ∧ count 7 (x :: r) = cntR j n rest) (fun _ s7 _ => 14 - (intOf s7).toNat)
      case atStart => exact ⟨0, 127, r, by omega, rfl, rfl, by omega, HS1.out, HP1.out, HC2.out⟩
      case round =>
        obtain ⟨j, n, rest, hj, rfl, rfl, hn, hsr, hpr, hcr⟩ := hrel
        have HSR := Lib.hid hsr; have HPR := Lib.hid hpr; have HCR := Lib.hid hcr
        clear hsr hpr hcr hm HS HC2 HS1 HP1
        obtain rfl | rfl | rfl : j = 0 ∨ j = 1 ∨ j = 2 := by omega
        · cases rest with
          | nil =>
            go_wp2_with (go_at_call 45; refine (take_none 1 g [] _ HSR.out (by decide) (by omega)).mono ?_; rintro e w1 ⟨rfl, rfl⟩)
            exact ⟨rfl, HPR.out, by rw [HCR.out]; rfl⟩
          | cons y r2 =>
            have hmk := mask_u8 y
            have hyl : y.toNat < 256 := y.toNat_lt
            by_cases hy : y.toNat < 128
            · have hmod : y.toNat % 128 = y.toNat := Nat.mod_eq_of_lt hy
              rw [hmod] at hmk
              have hg : ((y.toNat : Nat) : Int) < 128 := by omega
              clear hmod
              go_wp2_with (go_at_call 45; refine (take_one y r2 g _ HSR.out).mono ?_; rintro e w1 ⟨b, o, rfl, hb, hs1, hp1⟩; have HS1 := Lib.hid hs1; have HP1 := Lib.hid hp1; clear hs1 hp1)
              go_ret
              refine ⟨HPR.out.trans HP1.out, ?_⟩
              rw [HCR.out, show cntR 0 n (y :: r2) = some (n + y.toNat, r2) from if_pos hy]
              exact ⟨by apply ret_int; omega, HS1.out⟩
            · have hg : (((y.toNat : Nat) : Int) < 128) = False := eq_false (by omega)
              have hml := Nat.mod_lt y.toNat (show 0 < 128 by omega)
              have HE := Lib.hid (show cntR 0 n (y :: r2) = cnt1 (n + y.toNat % 128) r2 from if_neg hy)
              generalize y.toNat % 128 = y7 at *
              go_wp2_with (go_at_call 45; refine (take_one y r2 g _ HSR.out).mono ?_; rintro e w1 ⟨b, o, rfl, hb, hs1, hp1⟩; have HS1 := Lib.hid hs1; have HP1 := Lib.hid hp1; clear hs1 hp1)
              go_roundw
              case rel => exact ⟨1, n + y7, r2, by omega, by go_num, by go_num, by omega, HS1.out, HPR.out.trans HP1.out, HCR.out.trans HE.out⟩
              case measure => simp [intOf]
        · cases rest with
          | nil =>
            go_wp2_with (go_at_call 45; refine (take_none 1 g [] _ HSR.out (by decide) (by omega)).mono ?_; rintro e w1 ⟨rfl, rfl⟩)
            exact ⟨rfl, HPR.out, by rw [HCR.out]; rfl⟩
          | cons y r2 =>
            have hmk := mask_u8 y
            have hyl : y.toNat < 256 := y.toNat_lt
            by_cases hy : y.toNat < 128
            · have hmod : y.toNat % 128 = y.toNat := Nat.mod_eq_of_lt hy
              rw [hmod] at hmk
              have hg : ((y.toNat : Nat) : Int) < 128 := by omega
              clear hmod
              go_wp2_with (go_at_call 45; refine (take_one y r2 g _ HSR.out).mono ?_; rintro e w1 ⟨b, o, rfl, hb, hs1, hp1⟩; have HS1 := Lib.hid hs1; have HP1 := Lib.hid hp1; clear hs1 hp1)
              go_ret
              refine ⟨HPR.out.trans HP1.out, ?_⟩
              rw [HCR.out, show cntR 1 n (y :: r2) = some (n + y.toNat * 128, r2) from if_pos hy]
              exact ⟨by apply ret_int; omega, HS1.out⟩
            · have hg : (((y.toNat : Nat) : Int) < 128) = False := eq_false (by omega)
              have hml := Nat.mod_lt y.toNat (show 0 < 128 by omega)
              have HE := Lib.hid (show cntR 1 n (y :: r2) = none from if_neg hy)
              generalize y.toNat % 128 = y7 at *
              go_wp2_with (go_at_call 45; refine (take_one y r2 g _ HSR.out).mono ?_; rintro e w1 ⟨b, o, rfl, hb, hs1, hp1⟩; have HS1 := Lib.hid hs1; have HP1 := Lib.hid hp1; clear hs1 hp1)
              go_roundw
              case rel => exact ⟨2, n + y7 * 128, r2, by omega, by go_num, by go_num, by omega, HS1.out, HPR.out.trans HP1.out, HCR.out.trans HE.out⟩
              case measure => simp [intOf]
        · go_wp2_with (go_at_call 43; refine (needs_no _).mono ?_; rintro e w1 ⟨rfl, rfl⟩)
          exact ⟨rfl, HPR.out, by rw [HCR.out]; rfl⟩

/-- a text read, or none -/
def TextEnds (o : Option (List UInt8 × List UInt8)) (g : Nat) (w : World) (e : Ending) (w' : World) : Prop :=
  Past g w w' ∧ match o with
    | some (s, r) => e = .returned (.string (sl s)) ∧ Src w' g r
    | none => e = .panicked chain
theorem taken_eq (k : Nat) (b : List UInt8) : taken k b = match count k b with | none => none | some (n, r) => if n ≤ r.length then some (r.take n, r.drop n) else none := rfl
theorem count_le {k n : Nat} {b r : List UInt8} (h : count k b = some (n, r)) : n ≤ 2 ^ k + 100000 := by
  have hp := pow_two_pos k
  unfold count at h
  split at h
  · cases h
  · rename_i x t
    have hx := Nat.mod_lt x.toNat hp
    split at h
    · injection h with h; injection h with h1 h2; omega
    · split at h
      · cases h
      · rename_i y t2
        have hy := y.toNat_lt
        split at h
        · injection h with h; injection h with h1 h2; omega
        · split at h
          · cases h
          · rename_i z t3
            have hz := z.toNat_lt
            split at h
            · injection h with h; injection h with h1 h2; omega
            · cases h

set_option maxRecDepth 100000 in
set_option maxHeartbeats 800000 in
theorem srcText_3 (xs : List UInt8) (g : Nat) (w : World) (hs : Src w g xs) (hl : xs.length ≤ 1000000000) :
    Calls Try.prog 54 #[.pointer (some ⟨g, 0, none⟩), .int .i64 3] w (TextEnds (taken 3 xs) g w) := by
  have HN := Lib.hid (srcNumber_3 xs g w hs); clear hs
  have HT := Lib.hid (taken_eq 3 xs)
  cases hc : count 3 xs with
  | none =>
    have HC := Lib.hid hc; clear hc
    go_enter Try.func54, Try.ntmps54
    go_wp2_with (go_at_call 53; refine HN.out.mono ?_; rintro e w1 ⟨hp1, he⟩; rw [HC.out] at he; subst he)
    exact ⟨rfl, hp1, by rw [HT.out, HC.out]⟩
  | some p =>
    obtain ⟨n, r⟩ := p
    have hcl := count_le hc
    have HC := Lib.hid hc; clear hc
    by_cases hn : n ≤ r.length
    · go_enter Try.func54, Try.ntmps54
      go_wp2_with (first
        | (go_at_call 53; refine HN.out.mono ?_; rintro e w1 ⟨hp1, he⟩; rw [HC.out] at he; obtain ⟨rfl, hs1⟩ := he; have HP1 := Lib.hid hp1; have HS1 := Lib.hid hs1; clear hp1 hs1)
        | (go_at_call 45; refine (take_ok n g r w1 HS1.out hn (by omega)).mono ?_; rintro e w2 ⟨A, rfl, hr, hs2, hp2⟩; have hcv := hr.convert (P := Try.prog) n 24 5 9 Try.underlying24 Try.underlying5 Try.underlying9; have HS2 := Lib.hid hs2; have HP2 := Lib.hid hp2; clear hr hs2 hp2))
      go_ret
      refine ⟨HP1.out.trans HP2.out, ?_⟩
      rw [HT.out, HC.out]
      simp only [if_pos hn]
      exact ⟨rfl, HS2.out⟩
    · go_enter Try.func54, Try.ntmps54
      go_wp2_with (first
        | (go_at_call 53; refine HN.out.mono ?_; rintro e w1 ⟨hp1, he⟩; rw [HC.out] at he; obtain ⟨rfl, hs1⟩ := he; have HP1 := Lib.hid hp1; have HS1 := Lib.hid hs1; clear hp1 hs1)
        | (go_at_call 45; refine (take_none n g r w1 HS1.out (by omega) (by omega)).mono ?_; rintro e w2 ⟨rfl, rfl⟩))
      refine ⟨rfl, HP1.out, ?_⟩
      rw [HT.out, HC.out]
      simp only [if_neg hn]

set_option maxRecDepth 100000 in
set_option maxHeartbeats 800000 in
theorem srcText_7 (xs : List UInt8) (g : Nat) (w : World) (hs : Src w g xs) (hl : xs.length ≤ 1000000000) :
    Calls Try.prog 54 #[.pointer (some ⟨g, 0, none⟩), .int .i64 7] w (TextEnds (taken 7 xs) g w) := by
  have HN := Lib.hid (srcNumber_7 xs g w hs); clear hs
  have HT := Lib.hid (taken_eq 7 xs)
  cases hc : count 7 xs with
  | none =>
    have HC := Lib.hid hc; clear hc
    go_enter Try.func54, Try.ntmps54
    go_wp2_with (go_at_call 53; refine HN.out.mono ?_; rintro e w1 ⟨hp1, he⟩; rw [HC.out] at he; subst he)
    exact ⟨rfl, hp1, by rw [HT.out, HC.out]⟩
  | some p =>
    obtain ⟨n, r⟩ := p
    have hcl := count_le hc
    have HC := Lib.hid hc; clear hc
    by_cases hn : n ≤ r.length
    · go_enter Try.func54, Try.ntmps54
      go_wp2_with (first
        | (go_at_call 53; refine HN.out.mono ?_; rintro e w1 ⟨hp1, he⟩; rw [HC.out] at he; obtain ⟨rfl, hs1⟩ := he; have HP1 := Lib.hid hp1; have HS1 := Lib.hid hs1; clear hp1 hs1)
        | (go_at_call 45; refine (take_ok n g r w1 HS1.out hn (by omega)).mono ?_; rintro e w2 ⟨A, rfl, hr, hs2, hp2⟩; have hcv := hr.convert (P := Try.prog) n 24 5 9 Try.underlying24 Try.underlying5 Try.underlying9; have HS2 := Lib.hid hs2; have HP2 := Lib.hid hp2; clear hr hs2 hp2))
      go_ret
      refine ⟨HP1.out.trans HP2.out, ?_⟩
      rw [HT.out, HC.out]
      simp only [if_pos hn]
      exact ⟨rfl, HS2.out⟩
    · go_enter Try.func54, Try.ntmps54
      go_wp2_with (first
        | (go_at_call 53; refine HN.out.mono ?_; rintro e w1 ⟨hp1, he⟩; rw [HC.out] at he; obtain ⟨rfl, hs1⟩ := he; have HP1 := Lib.hid hp1; have HS1 := Lib.hid hs1; clear hp1 hs1)
        | (go_at_call 45; refine (take_none n g r w1 HS1.out (by omega) (by omega)).mono ?_; rintro e w2 ⟨rfl, rfl⟩))
      refine ⟨rfl, HP1.out, ?_⟩
      rw [HT.out, HC.out]
      simp only [if_neg hn]
end Go.Proofs.Ytcimcldmkaggnaa
