/- The walk of the law PnumNext. -/
import Derived.Test.YtecomgojaggpbaaPnLaws
namespace Go.Proofs.Ytecomgojaggpbaa
set_option linter.unusedVariables false
open Go.RowKit
open Pn

theorem next_plain (a s : Int) (ha : 0 ≤ a) (ham : a ≤ 4611686018427387903) : wholeOf (cutOf a s) s (lim a) = a := by
  have hb := win_bd s
  have hl : lim a = a := by unfold lim most; split <;> omega
  rw [hl]
  exact whole_back _ _ _ ha (by unfold most; omega) ha (by unfold most; omega) (by omega) (by omega)
theorem cut_lt (a s : Int) (ha : 0 ≤ a) : 0 ≤ cutOf a s ∧ cutOf a s < win s := by
  unfold cutOf
  rcases win_cases s with ⟨_, h⟩ | ⟨_, h⟩ | ⟨_, h⟩ | ⟨_, _, _, h⟩ <;> rw [h] <;> omega

set_option maxRecDepth 100000 in
set_option maxHeartbeats 1600000 in
theorem walk_PnumNext (a s : Int) (w : World) (wa : (Lit.int .u64 a).wf = true) (ws : (Lit.int .i64 s).wf = true) :
    Calls Try.prog 7 #[.int .u64 a, .int .i64 s] w fun e w' => e = .returned (.bool true) ∧ Below w.heap.size w w' := by
  obtain ⟨ha, ha'⟩ := bounds_u64 wa
  obtain ⟨h0, h1⟩ := bounds_i64 ws
  clear wa ws
  by_cases c1 : 4611686018427387903 < a
  · go_enter Try.func7, Try.ntmps7
    go_wp2_with (go_at_call 16; refine (awake04_any _).mono ?_; rintro e w1 ⟨rfl, hw1⟩)
    go_ret
    exact ⟨rfl, hw1⟩
  have hc := cut_lt a s ha
  have hw := win_bd s
  have s2 := fun w => cut_any a s ha ha' h0 h1 w
  have s3 := fun w => whole_any (cutOf a s) s a hc.1 (by omega) h0 h1 ha ha' w
  have s4 := fun w => size_any a a ha ha' ha ha' w
  rw [next_plain a s ha (by omega)] at s3
  rw [show szOf a a = 1 from by unfold szOf; rw [if_neg (by omega), if_pos (by omega)]] at s4
  have hc1 : cutOf a s < 4294967296 := by omega
  have k1 : s = 1 → cutOf a s < 256 := fun e => by subst e; exact hc.2
  have k2 : s = 2 → cutOf a s < 65536 := fun e => by subst e; exact hc.2
  have k3 : s = 3 → cutOf a s < 16777216 := fun e => by subst e; exact hc.2
  have hc0 := hc.1
  clear hc hw
  generalize cutOf a s = c at *
  have S2 := Lib.hid s2; have S3 := Lib.hid s3; have S4 := Lib.hid s4
  clear s2 s3 s4
  by_cases d1 : s < 1
  · clear k1 k2 k3
    go_enter Try.func7, Try.ntmps7
    go_wp2_with fail
    refine (awake04_any _).mono ?_
    rintro e w1 ⟨rfl, hw1⟩
    go_wp2_with fail
    refine (S2.out _).mono ?_
    rintro e w3 ⟨rfl, rfl⟩
    go_wp2_with fail
    refine (S3.out _).mono ?_
    rintro e w4 ⟨rfl, rfl⟩
    go_wp2_with fail
    refine (S4.out _).mono ?_
    rintro e w5 ⟨rfl, hw2⟩
    go_wp2_with fail
    go_ret
    exact ⟨rfl, below_then hw1 hw2⟩
  by_cases d2 : 3 < s
  · clear k1 k2 k3
    go_enter Try.func7, Try.ntmps7
    go_wp2_with fail
    refine (awake04_any _).mono ?_
    rintro e w1 ⟨rfl, hw1⟩
    go_wp2_with fail
    refine (S2.out _).mono ?_
    rintro e w3 ⟨rfl, rfl⟩
    go_wp2_with fail
    refine (S3.out _).mono ?_
    rintro e w4 ⟨rfl, rfl⟩
    go_wp2_with fail
    refine (S4.out _).mono ?_
    rintro e w5 ⟨rfl, hw2⟩
    go_wp2_with fail
    go_ret
    exact ⟨rfl, below_then hw1 hw2⟩
  have h123 : s = 1 ∧ c < 256 ∨ s = 2 ∧ c < 65536 ∨ s = 3 ∧ c < 16777216 := by
    rcases (show s = 1 ∨ s = 2 ∨ s = 3 by omega) with e | e | e
    · exact .inl ⟨e, k1 e⟩
    · exact .inr (.inl ⟨e, k2 e⟩)
    · exact .inr (.inr ⟨e, k3 e⟩)
  clear k1 k2 k3
  rcases h123 with ⟨rfl, hlt⟩ | ⟨rfl, hlt⟩ | ⟨rfl, hlt⟩
  all_goals
    go_enter Try.func7, Try.ntmps7
    go_wp2_with fail
    refine (awake04_any _).mono ?_
    rintro e w1 ⟨rfl, hw1⟩
    go_wp2_with fail
    refine (S2.out _).mono ?_
    rintro e w3 ⟨rfl, rfl⟩
    go_wp2_with fail
    refine (S3.out _).mono ?_
    rintro e w4 ⟨rfl, rfl⟩
    go_wp2_with fail
    refine (S4.out _).mono ?_
    rintro e w5 ⟨rfl, hw2⟩
    go_wp2_with fail
    go_ret
    exact ⟨rfl, below_then hw1 hw2⟩
end Go.Proofs.Ytecomgojaggpbaa
