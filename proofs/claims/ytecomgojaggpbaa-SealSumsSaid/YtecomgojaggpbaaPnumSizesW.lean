/- The walk of the law PnumSizes. -/
import Derived.Test.YtecomgojaggpbaaPnLaws
namespace Go.Proofs.Ytecomgojaggpbaa
set_option linter.unusedVariables false
open Go.RowKit
open Pn

theorem sizes_plain (n f m : Int) (hf : 0 ≤ f) (hm : 0 ≤ m) : szOf (n + f) n ≤ szOf (n + f + m) n ∧ szOf (n + f + m) n ≤ 4 ∧
    (szOf (n + f) n = 1 ∧ f < 128 ∨ szOf (n + f) n = 2 ∧ 128 ≤ f ∧ f < 32768 ∨ szOf (n + f) n = 3 ∧ 32768 ≤ f ∧ f < 8388608 ∨ szOf (n + f) n = 4 ∧ 8388608 ≤ f) := by
  have e : ∀ d : Int, 0 ≤ d → szOf (n + d) n = 1 ∧ d < 128 ∨ szOf (n + d) n = 2 ∧ 128 ≤ d ∧ d < 32768 ∨ szOf (n + d) n = 3 ∧ 32768 ≤ d ∧ d < 8388608 ∨ szOf (n + d) n = 4 ∧ 8388608 ≤ d := by
    intro d hd
    unfold szOf
    rw [if_neg (by omega)]
    by_cases c1 : 2 * (n + d - n) < 256
    · rw [if_pos c1]; omega
    · rw [if_neg c1]
      by_cases c2 : 2 * (n + d - n) < 65536
      · rw [if_pos c2]; omega
      · rw [if_neg c2]
        by_cases c3 : 2 * (n + d - n) < 16777216
        · rw [if_pos c3]; omega
        · rw [if_neg c3]; omega
  have e1 := e f hf
  have e2 := e (f + m) (by omega)
  rw [show n + (f + m) = n + f + m from by omega] at e2
  omega

set_option maxRecDepth 100000 in
set_option maxHeartbeats 1600000 in
theorem walk_PnumSizes (n f m : Int) (w : World) (wn : (Lit.int .u32 n).wf = true) (wf : (Lit.int .u32 f).wf = true) (wm : (Lit.int .u32 m).wf = true) :
    Calls Try.prog 6 #[.int .u32 n, .int .u32 f, .int .u32 m] w fun e w' => e = .returned (.bool true) ∧ Below w.heap.size w w' := by
  obtain ⟨hn, hn'⟩ := bounds_u32 wn
  obtain ⟨hf, hf'⟩ := bounds_u32 wf
  obtain ⟨hm, hm'⟩ := bounds_u32 wm
  clear wn wf wm
  obtain ⟨ht, ht4, hs⟩ := sizes_plain n f m hf hm
  have s1 := fun w => size_any (n + f) n (by omega) (by omega) hn (by omega) w
  have s2 := fun w => size_any (n + f + m) n (by omega) (by omega) hn (by omega) w
  generalize szOf (n + f + m) n = t at *
  generalize szOf (n + f) n = s at *
  have S1 := Lib.hid s1; have S2 := Lib.hid s2
  clear s1 s2
  rcases hs with ⟨rfl, c1⟩ | ⟨rfl, c1, c2⟩ | ⟨rfl, c1, c2⟩ | ⟨rfl, c1⟩
  all_goals
    go_enter Try.func6, Try.ntmps6
    go_wp2_with fail
    refine (awake04_any _).mono ?_
    rintro e w1 ⟨rfl, hw1⟩
    go_wp2_with fail
    refine (S1.out _).mono ?_
    rintro e w2 ⟨rfl, hw2⟩
    go_wp2_with fail
    refine (S2.out _).mono ?_
    rintro e w3 ⟨rfl, hw3⟩
    go_wp2_with fail
    go_ret
    first | exact ⟨rfl, below_then (below_then hw1 hw2) hw3⟩ | exact ⟨ret_bool (decide_eq_true (by omega)), below_then (below_then hw1 hw2) hw3⟩
end Go.Proofs.Ytecomgojaggpbaa
