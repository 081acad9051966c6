/- The walks of package varint and of its reference. -/
import Derived.Test.YtcimcldmkaggnaaKit
import Derived.Test.YtcimcldmkaggnaaVarPlain
import Derived.Laws.BitsLemmas
import Derived.Lib.EndianBits
namespace Go.Proofs.Ytcimcldmkaggnaa
set_option linter.unusedVariables false
open Go.RowKit
open Va

theorem arr0 (w : World) : (Instr.index 72 (.agg #[.int .u64 64, .int .u64 16384, .int .u64 1073741824, .int .u64 4611686018427387904]) (.int .i64 0)).run Try.prog w = .ok (.int .u64 64) w := by kernel_rfl
theorem arr1 (w : World) : (Instr.index 72 (.agg #[.int .u64 64, .int .u64 16384, .int .u64 1073741824, .int .u64 4611686018427387904]) (.int .i64 1)).run Try.prog w = .ok (.int .u64 16384) w := by kernel_rfl
theorem arr2 (w : World) : (Instr.index 72 (.agg #[.int .u64 64, .int .u64 16384, .int .u64 1073741824, .int .u64 4611686018427387904]) (.int .i64 2)).run Try.prog w = .ok (.int .u64 1073741824) w := by kernel_rfl
theorem arr3 (w : World) : (Instr.index 72 (.agg #[.int .u64 64, .int .u64 16384, .int .u64 1073741824, .int .u64 4611686018427387904]) (.int .i64 3)).run Try.prog w = .ok (.int .u64 4611686018427387904) w := by kernel_rfl
theorem size_at (v : Int) (h0 : 0 ≤ v) : (v < 64 ∧ size v.toNat = 1) ∨ (64 ≤ v ∧ v < 16384 ∧ size v.toNat = 2) ∨ (16384 ≤ v ∧ v < 1073741824 ∧ size v.toNat = 4) ∨ (1073741824 ≤ v ∧ v < 4611686018427387904 ∧ size v.toNat = 8) ∨ (4611686018427387904 ≤ v ∧ size v.toNat = 0) := by
  unfold size
  repeat' split
  all_goals omega

set_option maxRecDepth 100000 in
set_option maxHeartbeats 1600000 in
theorem size_any (v : Int) (hv0 : 0 ≤ v) (hv : v ≤ 18446744073709551615) (w : World) :
    Calls Try.prog 28 #[.int .u64 v] w fun e w' => e = .returned (.int .i64 (size v.toNat : Nat)) ∧ Below w.heap.size w w' := by
  have i0 := arr0
  have i1 := arr1
  have i2 := arr2
  have i3 := arr3
  have bel : ∀ o, Below w.heap.size w (w.alloc o) := fun o => (Below.refl _ w).alloc (Nat.le_refl _) o
  have BEL := Lib.hid bel; clear bel
  rcases size_at v hv0 with ⟨c0, hs⟩ | ⟨c0, c1, hs⟩ | ⟨c0, c1, hs⟩ | ⟨c0, c1, hs⟩ | ⟨c0, hs⟩
  · have H := Lib.hid hs; clear hs
    have g0 : v < 64 := by omega
    clear c0
    go_enter Try.func28, Try.ntmps28
    go_wp2
    refine wp_loop_rounds 5 ?_
    rw [rounds_succ]
    go_wp2
    go_ret
    rw [H.out]
    exact ⟨rfl, BEL.out _⟩
  · have H := Lib.hid hs; clear hs
    have g0 : ¬ (v < 64) := by omega
    have g1 : v < 16384 := by omega
    clear c0 c1
    go_enter Try.func28, Try.ntmps28
    go_wp2
    refine wp_loop_rounds 5 ?_
    rw [rounds_succ]
    go_wp2
    rw [rounds_succ]
    go_wp2
    go_ret
    rw [H.out]
    exact ⟨rfl, BEL.out _⟩
  · have H := Lib.hid hs; clear hs
    have g0 : ¬ (v < 64) := by omega
    have g1 : ¬ (v < 16384) := by omega
    have g2 : v < 1073741824 := by omega
    clear c0 c1
    go_enter Try.func28, Try.ntmps28
    go_wp2
    refine wp_loop_rounds 5 ?_
    rw [rounds_succ]
    go_wp2
    rw [rounds_succ]
    go_wp2
    rw [rounds_succ]
    go_wp2
    go_ret
    rw [H.out]
    exact ⟨rfl, BEL.out _⟩
  · have H := Lib.hid hs; clear hs
    have g0 : ¬ (v < 64) := by omega
    have g1 : ¬ (v < 16384) := by omega
    have g2 : ¬ (v < 1073741824) := by omega
    have g3 : v < 4611686018427387904 := by omega
    clear c0 c1
    go_enter Try.func28, Try.ntmps28
    go_wp2
    refine wp_loop_rounds 5 ?_
    rw [rounds_succ]
    go_wp2
    rw [rounds_succ]
    go_wp2
    rw [rounds_succ]
    go_wp2
    rw [rounds_succ]
    go_wp2
    go_ret
    rw [H.out]
    exact ⟨rfl, BEL.out _⟩
  · have H := Lib.hid hs; clear hs
    have g0 : ¬ (v < 64) := by omega
    have g1 : ¬ (v < 16384) := by omega
    have g2 : ¬ (v < 1073741824) := by omega
    have g3 : ¬ (v < 4611686018427387904) := by omega
    clear c0
    go_enter Try.func28, Try.ntmps28
    go_wp2
    refine wp_loop_rounds 5 ?_
    rw [rounds_succ]
    go_wp2
    rw [rounds_succ]
    go_wp2
    rw [rounds_succ]
    go_wp2
    rw [rounds_succ]
    go_wp2
    rw [rounds_succ]
    go_wp2
    go_ret
    rw [H.out]
    exact ⟨rfl, BEL.out _⟩
set_option maxHeartbeats 1600000 in
theorem refSize_any (v : Int) (hv0 : 0 ≤ v) (hv : v ≤ 18446744073709551615) (w : World) :
    Calls Try.prog 29 #[.int .u64 v] w fun e w' => e = .returned (.int .i64 (size v.toNat : Nat)) ∧ w = w' := by
  rcases size_at v hv0 with ⟨c0, hs⟩ | ⟨c0, c1, hs⟩ | ⟨c0, c1, hs⟩ | ⟨c0, c1, hs⟩ | ⟨c0, hs⟩
  all_goals
    have H := Lib.hid hs; clear hs
    go_enter Try.func29, Try.ntmps29
    go_wp2
    go_ret
    rw [H.out]
    exact ⟨rfl, rfl⟩

def PutEnds (v : Int) (w : World) (e : Ending) (w' : World) : Prop :=
  Below w.heap.size w w' ∧ ((4611686018427387904 ≤ v ∧ e = .returned (.tuple #[.slice none 0 0, .int .i64 31])) ∨
    (v < 4611686018427387904 ∧ ∃ A c, e = .returned (.tuple #[.slice A (put v.toNat).length c, .int .i64 0]) ∧ w'.ownsRow w.heap.size 5 1 (.slice A (put v.toNat).length c) (put v.toNat).length (bs (put v.toNat))))
theorem lit_own (w0 w1 : World) (hb : Below w0.heap.size w0 w1) (cs : Array Value) (xs : List UInt8) (n : Nat) (hn : n = xs.length) (hm : n ≤ 1000) (h : cs.toList = bs xs) :
    (w1.alloc (.cells cs 5)).ownsRow w0.heap.size 5 1 (.slice (some ⟨w1.heap.size, 0, none⟩) n n) n (bs xs) := by
  have hc : cs.size = n * 1 := by
    have := congrArg List.length h
    rw [bs_length] at this
    simpa [hn] using this
  have := World.ownsRow_lit (base := w0.heap.size) (e := 5) (size := 1) w1 cs n hb.size (by unfold maxLen; omega) hc
  rwa [h] at this

set_option maxRecDepth 100000 in
set_option maxHeartbeats 6400000 in
theorem put_any (v : Int) (hv0 : 0 ≤ v) (hv : v ≤ 18446744073709551615) (w : World) : Calls Try.prog 24 #[.int .u64 v] w (PutEnds v w) := by
  have hsz := fun w => size_any v hv0 hv w
  rcases size_at v hv0 with ⟨c0, hs⟩ | ⟨c0, c1, hs⟩ | ⟨c0, c1, hs⟩ | ⟨c0, c1, hs⟩ | ⟨c0, hs⟩
  · rw [hs] at hsz
    have HS := Lib.hid hsz; clear hsz hs
    have hput : put v.toNat = [UInt8.ofNat v.toNat] := by unfold put; rw [if_pos (by omega)]
    have HP := Lib.hid hput; clear hput
    have hmk : ∀ w : World, (Instr.makeSlice 24 (.int .i64 1) (.int .i64 1)).run Try.prog w = .ok (.slice (some ⟨w.heap.size, 0, none⟩) 1 1) (w.alloc (.cells #[.int .u8 0] 5)) := fun _ => by kernel_rfl
    go_enter Try.func24, Try.ntmps24
    go_wp2_with fail
    refine (HS.out _).mono ?_
    rintro e w1 ⟨rfl, hb1⟩
    have HB1 := Lib.hid hb1; clear hb1
    go_wp2_with fail
    refine wp_loop_rounds 2 ?_
    rw [rounds_succ]
    go_wp2_with fail
    rw [rounds_succ]
    go_wp2_with fail
    refine wp_loop_rounds 1 ?_
    rw [rounds_succ]
    go_wp2_with fail
    go_ret2
    have hl : (put v.toNat).length = 1 := by rw [HP.out]; rfl
    refine ⟨HB1.out.alloc HB1.out.size _, .inr ⟨by omega, _, 1, by rw [hl]; rfl, ?_⟩⟩
    rw [hl]
    refine lit_own w w1 HB1.out _ (put v.toNat) 1 hl.symm (by omega) ?_
    rw [HP.out]
    obtain ⟨n, rfl⟩ := Int.eq_ofNat_of_zero_le hv0
    simp only [Int.toNat_natCast]
    first | (simp [bs]; done) | (simp [bs]; omega)
  · rw [hs] at hsz
    have HS := Lib.hid hsz; clear hsz hs
    have hput : put v.toNat = [UInt8.ofNat (64 + v.toNat / 256), bt v.toNat 0] := by unfold put; rw [if_neg (by omega), if_pos (by omega)]; rfl
    have HP := Lib.hid hput; clear hput
    have hmk : ∀ w : World, (Instr.makeSlice 24 (.int .i64 2) (.int .i64 2)).run Try.prog w = .ok (.slice (some ⟨w.heap.size, 0, none⟩) 2 2) (w.alloc (.cells #[.int .u8 0, .int .u8 0] 5)) := fun _ => by kernel_rfl
    go_enter Try.func24, Try.ntmps24
    go_wp2_with fail
    refine (HS.out _).mono ?_
    rintro e w1 ⟨rfl, hb1⟩
    have HB1 := Lib.hid hb1; clear hb1
    go_wp2_with fail
    refine wp_loop_rounds 3 ?_
    rw [rounds_succ]
    go_wp2_with fail
    rw [rounds_succ]
    go_wp2_with fail
    rw [rounds_succ]
    go_wp2_with fail
    refine wp_loop_rounds 2 ?_
    rw [rounds_succ]
    go_wp2_with fail
    rw [rounds_succ]
    go_wp2_with fail
    go_ret2
    have hl : (put v.toNat).length = 2 := by rw [HP.out]; rfl
    refine ⟨HB1.out.alloc HB1.out.size _, .inr ⟨by omega, _, 2, by rw [hl]; rfl, ?_⟩⟩
    rw [hl]
    refine lit_own w w1 HB1.out _ (put v.toNat) 2 hl.symm (by omega) ?_
    rw [HP.out]
    obtain ⟨n, rfl⟩ := Int.eq_ofNat_of_zero_le hv0
    simp only [Int.toNat_natCast]
    first | (simp [bs, bt]; done) | (simp [bs, bt]; omega)
  · rw [hs] at hsz
    have HS := Lib.hid hsz; clear hsz hs
    have hput : put v.toNat = [UInt8.ofNat (128 + v.toNat / 16777216), bt v.toNat 2, bt v.toNat 1, bt v.toNat 0] := by unfold put; rw [if_neg (by omega), if_neg (by omega), if_pos (by omega)]; rfl
    have HP := Lib.hid hput; clear hput
    have hmk : ∀ w : World, (Instr.makeSlice 24 (.int .i64 4) (.int .i64 4)).run Try.prog w = .ok (.slice (some ⟨w.heap.size, 0, none⟩) 4 4) (w.alloc (.cells #[.int .u8 0, .int .u8 0, .int .u8 0, .int .u8 0] 5)) := fun _ => by kernel_rfl
    go_enter Try.func24, Try.ntmps24
    go_wp2_with fail
    refine (HS.out _).mono ?_
    rintro e w1 ⟨rfl, hb1⟩
    have HB1 := Lib.hid hb1; clear hb1
    go_wp2_with fail
    refine wp_loop_rounds 5 ?_
    rw [rounds_succ]
    go_wp2_with fail
    rw [rounds_succ]
    go_wp2_with fail
    rw [rounds_succ]
    go_wp2_with fail
    rw [rounds_succ]
    go_wp2_with fail
    rw [rounds_succ]
    go_wp2_with fail
    refine wp_loop_rounds 3 ?_
    rw [rounds_succ]
    go_wp2_with fail
    rw [rounds_succ]
    go_wp2_with fail
    rw [rounds_succ]
    go_wp2_with fail
    go_ret2
    have hl : (put v.toNat).length = 4 := by rw [HP.out]; rfl
    refine ⟨HB1.out.alloc HB1.out.size _, .inr ⟨by omega, _, 4, by rw [hl]; rfl, ?_⟩⟩
    rw [hl]
    refine lit_own w w1 HB1.out _ (put v.toNat) 4 hl.symm (by omega) ?_
    rw [HP.out]
    obtain ⟨n, rfl⟩ := Int.eq_ofNat_of_zero_le hv0
    simp only [Int.toNat_natCast]
    first | (simp [bs, bt]; done) | (simp [bs, bt]; omega)
  · rw [hs] at hsz
    have HS := Lib.hid hsz; clear hsz hs
    have hput : put v.toNat = [UInt8.ofNat (192 + v.toNat / 72057594037927936), bt v.toNat 6, bt v.toNat 5, bt v.toNat 4, bt v.toNat 3, bt v.toNat 2, bt v.toNat 1, bt v.toNat 0] := by unfold put; rw [if_neg (by omega), if_neg (by omega), if_neg (by omega)]; rfl
    have HP := Lib.hid hput; clear hput
    have hmk : ∀ w : World, (Instr.makeSlice 24 (.int .i64 8) (.int .i64 8)).run Try.prog w = .ok (.slice (some ⟨w.heap.size, 0, none⟩) 8 8) (w.alloc (.cells #[.int .u8 0, .int .u8 0, .int .u8 0, .int .u8 0, .int .u8 0, .int .u8 0, .int .u8 0, .int .u8 0] 5)) := fun _ => by kernel_rfl
    go_enter Try.func24, Try.ntmps24
    go_wp2_with fail
    refine (HS.out _).mono ?_
    rintro e w1 ⟨rfl, hb1⟩
    have HB1 := Lib.hid hb1; clear hb1
    go_wp2_with fail
    refine wp_loop_rounds 9 ?_
    rw [rounds_succ]
    go_wp2_with fail
    rw [rounds_succ]
    go_wp2_with fail
    rw [rounds_succ]
    go_wp2_with fail
    rw [rounds_succ]
    go_wp2_with fail
    rw [rounds_succ]
    go_wp2_with fail
    rw [rounds_succ]
    go_wp2_with fail
    rw [rounds_succ]
    go_wp2_with fail
    rw [rounds_succ]
    go_wp2_with fail
    rw [rounds_succ]
    go_wp2_with fail
    refine wp_loop_rounds 4 ?_
    rw [rounds_succ]
    go_wp2_with fail
    rw [rounds_succ]
    go_wp2_with fail
    rw [rounds_succ]
    go_wp2_with fail
    rw [rounds_succ]
    go_wp2_with fail
    go_ret2
    have hl : (put v.toNat).length = 8 := by rw [HP.out]; rfl
    refine ⟨HB1.out.alloc HB1.out.size _, .inr ⟨by omega, _, 8, by rw [hl]; rfl, ?_⟩⟩
    rw [hl]
    refine lit_own w w1 HB1.out _ (put v.toNat) 8 hl.symm (by omega) ?_
    rw [HP.out]
    obtain ⟨n, rfl⟩ := Int.eq_ofNat_of_zero_le hv0
    simp only [Int.toNat_natCast]
    first | (simp [bs, bt]; done) | (simp [bs, bt]; omega)
  · rw [hs] at hsz
    have HS := Lib.hid hsz; clear hsz hs
    go_enter Try.func24, Try.ntmps24
    go_wp2_with fail
    refine (HS.out _).mono ?_
    rintro e w1 ⟨rfl, hb1⟩
    have HB1 := Lib.hid hb1; clear hb1
    go_wp2_with fail
    go_ret2
    exact ⟨HB1.out, .inl ⟨c0, rfl⟩⟩
end Go.Proofs.Ytcimcldmkaggnaa
