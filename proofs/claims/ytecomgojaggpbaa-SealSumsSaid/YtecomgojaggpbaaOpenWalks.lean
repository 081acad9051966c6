/- The walk of seal.Open. -/
import Derived.Test.YtecomgojaggpbaaPackWalks
import Derived.Deep.RegionWith
namespace Go.Proofs.Ytecomgojaggpbaa
set_option linter.unusedVariables false
open Go.RowKit
open Crc Pn

theorem Rd.mid {w : World} {B b o n i m : Nat} {xs : List UInt8} (h : Rd w B (some ⟨b, o, none⟩) n xs) (hi : i ≤ m) (hm : m ≤ n) : Rd w B (some ⟨b, o + i, none⟩) (m - i) ((xs.take m).drop i) := by
  have hl := h.1
  refine ⟨by rw [List.length_drop, List.length_take]; omega, fun hn => ?_⟩
  obtain ⟨b', o', e, hb, hc⟩ := h.2 (by omega)
  injection e with e
  injection e with e1 e2
  subst e1 e2
  refine ⟨b, o + i, rfl, hb, fun j hj => ?_⟩
  rw [List.length_drop, List.length_take] at hj
  have := hc (i + j) (by omega)
  rw [Nat.add_assoc, this]
  simp
theorem run_mid (w : World) (b o n c : Nat) (l h : Int) (i m : Nat) (hl : l = i) (hh : h = m) (him : i ≤ m) (hmc : m ≤ c) (hic : i < c) :
    (Instr.slice 33 (.slice (some ⟨b, o, none⟩) n c) (some (.int .i64 l)) (some (.int .i64 h)) none).run Try.prog w = .ok (.slice (some ⟨b, o + i, none⟩) (m - i) (c - i)) w := by
  subst hl hh
  rw [run_slice_lh (P := Try.prog) (w := w) 33 _ _ _ (by kernel_rfl) .i64 .i64 _ _ (by omega) (by omega) (by omega)]
  rw [show ((sizeOf (Try.prog.elem 33)).run Try.prog w) = .ok 1 w from by kernel_rfl]
  simp only [Result.andThen, sliced, Int.toNat_natCast]
  rw [if_neg (by omega)]
  simp only [Option.map_some, Addr.add]
  split
  · rename_i h0; simp at h0; subst h0; rfl
  · simp
def partOf (l : List UInt8) : Nat := l.foldl (fun v b => v * 256 + b.toNat) 0
theorem partOf_snoc (l : List UInt8) (b : UInt8) : partOf (l ++ [b]) = partOf l * 256 + b.toNat := by unfold partOf; rw [List.foldl_append]; rfl
theorem partOf_go (l : List UInt8) : ∀ v : Nat, l.foldl (fun v b => v * 256 + b.toNat) v < (v + 1) * 256 ^ l.length := by
  induction l with
  | nil => intro v; simp
  | cons b l ih =>
    intro v
    have h := ih (v * 256 + b.toNat)
    have hb := b.toNat_lt
    rw [List.foldl_cons, List.length_cons, Nat.pow_succ, Nat.mul_comm (256 ^ l.length) 256, ← Nat.mul_assoc]
    exact Nat.lt_of_lt_of_le h (Nat.mul_le_mul_right _ (by omega))
theorem partOf_lt (l : List UInt8) : partOf l < 256 ^ l.length := by
  have := partOf_go l 0
  simpa [partOf] using this
theorem partOf_lt4 (l : List UInt8) (h : l.length ≤ 4) : partOf l < 4294967296 := by
  have := partOf_lt l
  exact Nat.lt_of_lt_of_le this (Nat.pow_le_pow_right (n := 256) (by omega) h)
theorem partOf_lt3 (l : List UInt8) (h : l.length ≤ 3) : partOf l < 16777216 := by
  have := partOf_lt l
  exact Nat.lt_of_lt_of_le this (Nat.pow_le_pow_right (n := 256) (by omega) h)
def openOf (xs : List UInt8) (nx : Int) : Option (Int × List UInt8) :=
  if xs.length < 7 ∨ 1200 < xs.length ∨ (xs.getD 0 0).toNat < 64 ∨ 67 < (xs.getD 0 0).toNat then none
  else if xs.length - 4 < (xs.getD 0 0).toNat - 63 + 2 ∨ sealed (xs.take (xs.length - 4)) ≠ xs then none
  else some (wholeOf (partOf ((xs.drop 1).take ((xs.getD 0 0).toNat - 63))) (((xs.getD 0 0).toNat - 63 : Nat) : Int) (lim nx), (xs.take (xs.length - 4)).drop (1 + ((xs.getD 0 0).toNat - 63)))
def OpenEnds (xs : List UInt8) (nx : Int) (w : World) (e : Ending) (w' : World) : Prop :=
  Below w.heap.size w w' ∧ ((openOf xs nx = none ∧ e = .returned (.tuple #[.int .u64 0, .slice none 0 0, .int .i64 60])) ∨
    ∃ m ys A c, openOf xs nx = some (m, ys) ∧ e = .returned (.tuple #[.int .u64 m, .slice A ys.length c, .int .i64 0]) ∧ w'.ownsRow w.heap.size 5 1 (.slice A ys.length c) ys.length (bs ys))

set_option maxRecDepth 100000 in
set_option maxHeartbeats 3200000 in
theorem open_any (nx : Int) (A : Option Addr) (n c : Nat) (xs : List UInt8) (w : World) (hx : 0 ≤ nx) (hx' : nx ≤ 18446744073709551615)
    (hr : Rd w w.heap.size A n xs) (hn : n ≤ 140737488355000) (hc : n ≤ c) (hc' : c ≤ maxLen) (hA : A = none → c = 0) :
    Calls Try.prog 28 #[.slice A n c, .int .u64 nx] w (OpenEnds xs nx w) := by
  have HR := Lib.hid hr; clear hr
  have hcm : c ≤ 9223372036854775807 := by unfold maxLen at hc'; omega
  have hxl := HR.out.1
  by_cases c1 : n < 7
  · have hp : openOf xs nx = none := by unfold openOf; rw [if_pos (.inl (by omega))]
    have HP := Lib.hid hp; clear hp hxl
    go_enter Try.func28, Try.ntmps28
    go_wp2_with fail
    go_ret3
    exact ⟨Below.refl _ _, .inl ⟨HP.out, rfl⟩⟩
  by_cases c2 : 1200 < n
  · have hp : openOf xs nx = none := by unfold openOf; rw [if_pos (.inr (.inl (by omega)))]
    have HP := Lib.hid hp; clear hp hxl
    go_enter Try.func28, Try.ntmps28
    go_wp2_with fail
    go_ret3
    exact ⟨Below.refl _ _, .inl ⟨HP.out, rfl⟩⟩
  obtain ⟨b, o, rfl, hbl, hcell⟩ := HR.out.at_ (by omega)
  have hc0 := hcell 0 (by omega)
  rw [Nat.add_zero] at hc0
  have HCE := Lib.hid hcell; clear hcell
  have hg0 : xs.getD 0 0 = xs[0]'(by omega) := by rw [List.getD_eq_getElem?_getD, List.getElem?_eq_getElem (by omega)]; rfl
  obtain ⟨x, hx0⟩ : ∃ x, (xs.getD 0 0).toNat = x := ⟨_, rfl⟩
  rw [← hg0, hx0] at hc0
  have hn0 : (0 : Int) < (n : Int) := by omega
  by_cases c3 : x < 64
  · have hp : openOf xs nx = none := by unfold openOf; rw [if_pos (.inr (.inr (.inl (by omega))))]
    have HP := Lib.hid hp; clear hp hxl hg0 hx0
    go_enter Try.func28, Try.ntmps28
    go_wp2_with fail
    go_ret3
    exact ⟨Below.refl _ _, .inl ⟨HP.out, rfl⟩⟩
  by_cases c4 : 67 < x
  · have hp : openOf xs nx = none := by unfold openOf; rw [if_pos (.inr (.inr (.inr (by omega))))]
    have HP := Lib.hid hp; clear hp hxl hg0 hx0
    go_enter Try.func28, Try.ntmps28
    go_wp2_with fail
    go_ret3
    exact ⟨Below.refl _ _, .inl ⟨HP.out, rfl⟩⟩
  obtain ⟨s, rfl⟩ : ∃ s, x = 63 + s := ⟨x - 63, by omega⟩
  by_cases c5 : n - 4 < s + 2
  · have hp : openOf xs nx = none := by
      unfold openOf; rw [if_neg (by omega), if_pos (.inl (by omega))]
    have HP := Lib.hid hp; clear hp hxl hg0 hx0
    go_enter Try.func28, Try.ntmps28
    go_wp2_with fail
    go_ret3
    exact ⟨Below.refl _ _, .inl ⟨HP.out, rfl⟩⟩
  have hop : openOf xs nx = if sealed (xs.take (n - 4)) ≠ xs then none else some (wholeOf (partOf ((xs.drop 1).take s)) (s : Int) (lim nx), (xs.take (n - 4)).drop (1 + s)) := by
    unfold openOf
    rw [if_neg (by omega), hx0, hxl, show 63 + s - 63 = s from by omega]
    by_cases h : sealed (xs.take (n - 4)) ≠ xs
    · rw [if_pos (.inr h), if_pos h]
    · rw [if_neg (by intro h2; rcases h2 with h2 | h2; omega; exact h h2), if_neg h]
  have HOP := Lib.hid hop; clear hop hg0 hx0 hxl
  have e63 : (63 : Int) + (s : Int) - 63 = (s : Int) := by omega
  have e64 : 1 + s - 1 = s := by omega
  go_enter Try.func28, Try.ntmps28
  go_wp2_with fail
  refine (summed_any (some ⟨b, o, none⟩) (n - 4) c (xs.take (n - 4)) w (HR.out.head_ (by omega)) (by omega) (by omega) hc' (fun h => by cases h)).mono ?_
  rintro e w1 ⟨A1, c1', rfl, hown1, hb1⟩
  have HO1 := Lib.hid hown1; have HB1 := Lib.hid hb1; clear hown1 hb1
  go_wp2_with fail
  refine (equal_any A1 (some ⟨b, o, none⟩) (n - 4 + 4) c1' n c (sealed (xs.take (n - 4))) xs w1 w1.heap.size w.heap.size (Rd.of_own HO1.out rfl) (HR.out.below HB1.out)).mono ?_
  rintro e w2 ⟨rfl, rfl⟩
  by_cases c6 : sealed (xs.take (n - 4)) = xs
  · rw [decide_eq_true c6]
    have hp : openOf xs nx = some (wholeOf (partOf ((xs.drop 1).take s)) (s : Int) (lim nx), (xs.take (n - 4)).drop (1 + s)) := by
      rw [HOP.out, if_neg (fun h => h c6)]
    have HP := Lib.hid hp; clear hp c6 HOP HO1
    go_wp2_with fail
    go_loop [9, 58] (fun v i => ∃ k : Nat, k ≤ s ∧ i = .int .i64 k ∧ v = .int .u64 (partOf ((xs.drop 1).take k) : Nat)) (fun _ i => s - (intOf i).toNat)
    case atStart => exact ⟨0, by omega, rfl, rfl⟩
    case round =>
      obtain ⟨k, hk, rfl, rfl⟩ := hrel
      by_cases hks : k < s
      · have hl : 1 + k < xs.length := by have := HR.out.1; omega
        have hck := HCE.out (1 + k) hl
        rw [← HB1.out.cell (p := ⟨b, o + (1 + k), none⟩) hbl, ← Nat.add_assoc] at hck
        have hnext : partOf ((xs.drop 1).take (k + 1)) = partOf ((xs.drop 1).take k) * 256 + (xs[1 + k]'hl).toNat := by
          rw [List.take_succ_eq_append_getElem (by rw [List.length_drop]; omega), partOf_snoc]
          simp [Nat.add_comm]
        have hpl := partOf_lt3 ((xs.drop 1).take k) (by rw [List.length_take]; omega)
        have hxl := (xs[1 + k]'hl).toNat_lt
        have hor := bits_join .u64 64 (by decide) wraps_u64 8 ((partOf ((xs.drop 1).take k) : Int) * 256) ((xs[1 + k]'hl).toNat : Int) (by omega) (by omega) (by omega) (by omega) (by omega) (by omega)
        have HN := Lib.hid hnext; clear hnext
        generalize partOf ((xs.drop 1).take k) = v at *
        generalize (xs[1 + k]'hl).toNat = y at *
        go_wp2_with fail
        go_round
        case rel => exact ⟨k + 1, by omega, by go_num, by rw [HN.out]; go_num⟩
        case measure => simp [intOf]; omega
      · obtain rfl : k = s := by omega
        have hvl := partOf_lt4 ((xs.drop 1).take k) (by rw [List.length_take]; omega)
        have HRT := Lib.hid (((HR.out.below HB1.out).mid (i := 1 + k) (m := n - 4) (by omega) (by omega)).more HB1.out.size)
        generalize partOf ((xs.drop 1).take k) = v at *
        generalize hys : (xs.take (n - 4)).drop (1 + k) = ys at *
        clear hys
        have HW := Lib.hid (fun w2 => whole_any v k nx (by omega) (by omega) (by omega) (by omega) hx hx' w2)
        go_wp2_with fail
        have hsl := fun w2 => run_mid w2 b o n c (1 + (k : Int)) ((n : Int) - 4) (1 + k) (n - 4) (by omega) (by omega) (by omega) (by omega) (by omega)
        have hwr : IntKind.i64.wrap (1 + (k : Int)) = 1 + (k : Int) := IntWalk.i64_in _ (by omega)
        go_region_with (first | (go_at_call 21; refine (HW.out _).mono ?_; rintro e w2 ⟨rfl, rfl⟩) | (go_at_call 37; refine (clone_any (some ⟨b, o + (1 + k), none⟩) (n - 4 - (1 + k)) _ ys _ (by exact HRT.out) (by omega)).mono ?_; rintro e w3 ⟨A3, c3, rfl, hown3, hb3⟩; have HO3 := Lib.hid hown3; have HB3 := Lib.hid hb3; clear hown3 hb3))
        clear hsl hwr
        go_wp2_with fail
        go_ret3
        have hl : ys.length = n - 4 - (1 + k) := HRT.out.1
        refine ⟨(HB1.out.drew).trans (HB3.out.mono (by have := HB1.out.size; simpa using this)), .inr ⟨_, ys, A3, c3, HP.out, by rw [hl]; rfl, ?_⟩⟩
        rw [hl]
        exact own_base HO3.out (by have := HB1.out.size; simpa using this)
  · rw [decide_eq_false c6]
    have hp : openOf xs nx = none := by rw [HOP.out, if_pos c6]
    have HP := Lib.hid hp; clear hp c6 HOP HO1
    go_wp2_with fail
    go_ret3
    exact ⟨HB1.out, .inl ⟨HP.out, rfl⟩⟩
end Go.Proofs.Ytecomgojaggpbaa
