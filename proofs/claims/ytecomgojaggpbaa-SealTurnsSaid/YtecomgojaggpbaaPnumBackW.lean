/- The walk of the law PnumBack. -/
import Derived.Test.YtecomgojaggpbaaPnLaws
namespace Go.Proofs.Ytecomgojaggpbaa
set_option linter.unusedVariables false
open Go.RowKit
open Pn

theorem szOf_bd (a b : Int) : 1 ≤ szOf a b ∧ szOf a b ≤ 4 := by unfold szOf; split; omega; split; omega; split; omega; split <;> omega

theorem back_plain (a f n : Int) (ha : 0 ≤ a) (ham : a ≤ 4611686018427387903) (hf : 0 ≤ f) (hf2 : f ≤ 2147483648) (hfa : f ≤ a) (hn : 0 ≤ n) (hnf : n ≤ f) :
    wholeOf (cutOf a (szOf a (a - f))) (szOf a (a - f)) (lim (a - f + n)) = a := by
  have h := szOf_spec a (a - f) (by omega) (by omega)
  have hb := win_bd (szOf a (a - f))
  have hl : lim (a - f + n) = a - f + n := by unfold lim most; split <;> omega
  rw [hl]
  refine whole_back _ _ _ (by omega) (by unfold most; omega) ha (by unfold most; omega) ?_ (by omega)
  split at h <;> omega

theorem back_plain1 (a f : Int) (ha : 0 ≤ a) (ham : a ≤ 4611686018427387903) (hf : 0 ≤ f) (hf2 : f ≤ 2147483648) (hfa : f ≤ a) :
    wholeOf (cutOf a (szOf a (a - f))) (szOf a (a - f)) (lim (a + 1)) = a := by
  have hb := win_bd (szOf a (a - f))
  have hl : 0 ≤ lim (a + 1) ∧ lim (a + 1) ≤ most ∧ a ≤ lim (a + 1) ∧ lim (a + 1) ≤ a + 1 := by unfold lim most; split <;> omega
  exact whole_back _ _ _ hl.1 hl.2.1 ha (by unfold most; omega) (by omega) (by omega)

set_option maxRecDepth 100000 in
set_option maxHeartbeats 1600000 in
theorem walk_PnumBack (a f n : Int) (w : World) (wa : (Lit.int .u64 a).wf = true) (wf : (Lit.int .u32 f).wf = true) (wn : (Lit.int .u32 n).wf = true) :
    Calls Try.prog 4 #[.int .u64 a, .int .u32 f, .int .u32 n] w fun e w' => e = .returned (.bool true) ∧ Below w.heap.size w w' := by
  obtain ⟨ha, ha'⟩ := bounds_u64 wa
  obtain ⟨hf, hf'⟩ := bounds_u32 wf
  obtain ⟨hn, hn'⟩ := bounds_u32 wn
  clear wa wf wn
  by_cases c1 : 4611686018427387903 < a
  · go_enter Try.func4, Try.ntmps4
    go_wp2_with (go_at_call 16; refine (awake04_any _).mono ?_; rintro e w1 ⟨rfl, hw1⟩)
    go_ret
    exact ⟨rfl, hw1⟩
  by_cases c2 : 2147483648 < f
  · go_enter Try.func4, Try.ntmps4
    go_wp2_with (go_at_call 16; refine (awake04_any _).mono ?_; rintro e w1 ⟨rfl, hw1⟩)
    go_ret
    exact ⟨rfl, hw1⟩
  by_cases c3 : a < f
  · go_enter Try.func4, Try.ntmps4
    go_wp2_with (go_at_call 16; refine (awake04_any _).mono ?_; rintro e w1 ⟨rfl, hw1⟩)
    go_ret
    exact ⟨rfl, hw1⟩
  by_cases c4 : f < n
  · go_enter Try.func4, Try.ntmps4
    go_wp2_with (go_at_call 16; refine (awake04_any _).mono ?_; rintro e w1 ⟨rfl, hw1⟩)
    go_ret
    exact ⟨rfl, hw1⟩
  have hs := szOf_bd a (a - f)
  have hc : 0 ≤ cutOf a (szOf a (a - f)) ∧ cutOf a (szOf a (a - f)) ≤ 18446744073709551615 := by
    unfold cutOf
    rcases win_cases (szOf a (a - f)) with ⟨_, h⟩ | ⟨_, h⟩ | ⟨_, h⟩ | ⟨_, _, _, h⟩ <;> rw [h] <;> omega
  have s1 := fun w => size_any a (a - f) ha ha' (by omega) (by omega) w
  have s2 := fun w => cut_any a (szOf a (a - f)) ha ha' (by omega) (by omega) w
  have s3 := fun w => whole_any (cutOf a (szOf a (a - f))) (szOf a (a - f)) (a - f) hc.1 hc.2 (by omega) (by omega) (by omega) (by omega) w
  have s4 := fun w => whole_any (cutOf a (szOf a (a - f))) (szOf a (a - f)) (a - f + n) hc.1 hc.2 (by omega) (by omega) (by omega) (by omega) w
  have s5 := fun w => whole_any (cutOf a (szOf a (a - f))) (szOf a (a - f)) (a + 1) hc.1 hc.2 (by omega) (by omega) (by omega) (by omega) w
  have e3 := back_plain a f 0 ha (by omega) hf (by omega) (by omega) (by omega) (by omega)
  rw [Int.add_zero] at e3
  rw [e3] at s3
  rw [back_plain a f n ha (by omega) hf (by omega) (by omega) (by omega) (by omega)] at s4
  rw [back_plain1 a f ha (by omega) hf (by omega) (by omega)] at s5
  clear e3 hc
  generalize szOf a (a - f) = s at *
  generalize cutOf a s = c at *
  have S1 := Lib.hid s1; have S2 := Lib.hid s2; have S3 := Lib.hid s3; have S4 := Lib.hid s4; have S5 := Lib.hid s5
  clear s1 s2 s3 s4 s5
  go_enter Try.func4, Try.ntmps4
  go_wp2_with fail
  refine (awake04_any _).mono ?_
  rintro e w1 ⟨rfl, hw1⟩
  go_wp2_with fail
  refine (S1.out _).mono ?_
  rintro e w2 ⟨rfl, hw2⟩
  go_wp2_with fail
  refine (S2.out _).mono ?_
  rintro e w3 ⟨rfl, rfl⟩
  go_wp2_with fail
  refine (S3.out _).mono ?_
  rintro e w4 ⟨rfl, rfl⟩
  go_wp2_with fail
  refine (S4.out _).mono ?_
  rintro e w5 ⟨rfl, rfl⟩
  go_wp2_with fail
  refine (S5.out _).mono ?_
  rintro e w6 ⟨rfl, rfl⟩
  go_wp2_with fail
  go_ret
  exact ⟨rfl, below_then hw1 hw2⟩
end Go.Proofs.Ytecomgojaggpbaa
