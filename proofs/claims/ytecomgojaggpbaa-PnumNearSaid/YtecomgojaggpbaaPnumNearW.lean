/- The walk of the law PnumNear. -/
import Derived.Test.YtecomgojaggpbaaPnLaws
import Derived.Outline
namespace Go.Proofs.Ytecomgojaggpbaa
set_option linter.unusedVariables false
open Go.RowKit
open Pn

theorem near_plain (p s nx : Int) (hp : 0 ≤ p) (hn : 0 ≤ nx) (hn' : nx ≤ 4611686018427387903) (n : Int) (hr : wholeOf p s (lim nx) = n) :
    0 ≤ n ∧ n ≤ 4611686022722355198 ∧ n % win s = p % win s ∧
    ((nx ≤ n ∧ n - nx ≤ win s / 2) ∨ (n < nx ∧ nx - n < win s / 2) ∨ (nx ≤ n ∧ win s / 2 < n - nx ∧ nx < win s) ∨ (nx ≤ n ∧ win s / 2 < n - nx ∧ win s ≤ nx ∧ 4611686018427387903 - 2 * win s < nx) ∨
      (n < nx ∧ win s / 2 ≤ nx - n ∧ nx < win s) ∨ (n < nx ∧ win s / 2 ≤ nx - n ∧ win s ≤ nx ∧ 4611686018427387903 - 2 * win s < nx)) := by
  have hl : lim nx = nx := by unfold lim most; split <;> omega
  rw [hl] at hr
  unfold wholeOf most at hr
  rcases win_cases s with ⟨_, h⟩ | ⟨_, h⟩ | ⟨_, h⟩ | ⟨_, _, _, h⟩ <;> rw [h] at hr ⊢
  all_goals
    split at hr
    · omega
    · split at hr <;> omega

theorem quiet_add_left {P : Program} {f : FuncId} {args : Array Value} {w : World} {a n : Nat} {v : Value}
    (h : Calls P f args (w.drewN (a + n)) fun e w' => e = .returned v ∧ w.drewN (a + n) = w') :
    Calls P f args (w.drewN (a + n)) fun e w'' => e = .returned v ∧ ∃ m, w'' = w.drewN (a + m) :=
  h.mono fun _ _ ⟨he, hm⟩ => ⟨he, n, hm.symm⟩

set_option maxRecDepth 100000 in
set_option maxHeartbeats 1600000 in
theorem near_core (p s nx n W x : Int) (w : World) (hp : 0 ≤ p) (hp' : p ≤ 18446744073709551615) (hs : 1 ≤ s ∧ s ≤ 4) (hn : 0 ≤ nx) (hn' : nx ≤ 4611686018427387903) (hm : 0 ≤ n) (hm' : n ≤ 4611686022722355198)
    (S3 : Hid (∀ w, Calls Try.prog 21 #[.int .u64 p, .int .i64 s, .int .u64 nx] w fun e w' => e = .returned (.int .u64 n) ∧ w = w'))
    (S4 : Hid (∀ w, Calls Try.prog 19 #[.int .u64 n, .int .i64 s] w fun e w' => e = .returned (.int .u64 x) ∧ w = w'))
    (hsW : s = 1 ∧ W = 256 ∨ s = 2 ∧ W = 65536 ∨ s = 3 ∧ W = 16777216 ∨ s = 4 ∧ W = 4294967296) (e1 : n % W = x) (e2 : p % W = x)
    (hr : (nx ≤ n ∧ n - nx ≤ W / 2) ∨ (n < nx ∧ nx - n < W / 2) ∨ (nx ≤ n ∧ W / 2 < n - nx ∧ nx < W) ∨ (nx ≤ n ∧ W / 2 < n - nx ∧ W ≤ nx ∧ 4611686018427387903 - 2 * W < nx) ∨
      (n < nx ∧ W / 2 ≤ nx - n ∧ nx < W) ∨ (n < nx ∧ W / 2 ≤ nx - n ∧ W ≤ nx ∧ 4611686018427387903 - 2 * W < nx)) :
    Calls Try.prog 5 #[.int .u64 p, .int .i64 s, .int .u64 nx] w fun e w' => e = .returned (.bool true) ∧ Below w.heap.size w w' := by
  have hA : n < nx → W / 2 < IntKind.u64.wrap (n - nx) := fun h => by rw [IntKind.wrap_u64]; omega
  have hB : nx ≤ n → W / 2 < n - nx → W / 2 ≤ IntKind.u64.wrap (nx - n) := fun h h2 => by rw [IntKind.wrap_u64]; omega
  rcases hr with ⟨c1, c2⟩ | ⟨c1, c2⟩ | ⟨c1, c2, c3⟩ | ⟨c1, c2, c3, c4⟩ | ⟨c1, c2, c3⟩ | ⟨c1, c2, c3, c4⟩
  all_goals
    first | have hz := hA c1 | have hz := hB c1 c2 | skip
    clear hA hB
    rcases hsW with ⟨rfl, rfl⟩ | ⟨rfl, rfl⟩ | ⟨rfl, rfl⟩ | ⟨rfl, rfl⟩
  all_goals
    try (have hd := decide_eq_true c3; have hd1 := decide_eq_true c4; simp only [Int.reduceMul, Int.reduceSub] at hd1)
    try (have hd := decide_eq_true c3)
    go_enter Try.func5, Try.ntmps5
    go_wp2_with fail
    refine (awake04_any _).mono ?_
    rintro e w1 ⟨rfl, hw1⟩
    go_wp2_with fail
    refine (S3.out _).mono ?_
    rintro e w2 ⟨rfl, rfl⟩
    go_wp2_with fail
    go_quiet (fail)
    go_wp2_with fail
    all_goals
      go_quiet ((go_at_call 19; first | exact quiet_add_left (S4.out _) | exact Calls.quiet_of_same ((S4.out _).mono fun _ _ h => ⟨h.1, h.2.symm⟩)))
      go_wp2_with fail
      go_ret
      first | exact ⟨rfl, below_drewN (below_drewN hw1 _) _⟩ | exact ⟨rfl, below_drewN hw1 _⟩

theorem walk_PnumNear (p s nx : Int) (w : World) (wp : (Lit.int .u64 p).wf = true) (ws : (Lit.int .i64 s).wf = true) (wx : (Lit.int .u64 nx).wf = true) :
    Calls Try.prog 5 #[.int .u64 p, .int .i64 s, .int .u64 nx] w fun e w' => e = .returned (.bool true) ∧ Below w.heap.size w w' := by
  obtain ⟨hp, hp'⟩ := bounds_u64 wp
  obtain ⟨h0, h1⟩ := bounds_i64 ws
  obtain ⟨hx, hx'⟩ := bounds_u64 wx
  clear wp ws wx
  by_cases c1 : s < 1
  · go_enter Try.func5, Try.ntmps5
    go_wp2_with (go_at_call 16; refine (awake04_any _).mono ?_; rintro e w1 ⟨rfl, hw1⟩)
    go_ret
    exact ⟨rfl, hw1⟩
  by_cases c2 : 4 < s
  · go_enter Try.func5, Try.ntmps5
    go_wp2_with (go_at_call 16; refine (awake04_any _).mono ?_; rintro e w1 ⟨rfl, hw1⟩)
    go_ret
    exact ⟨rfl, hw1⟩
  by_cases c3 : 4611686018427387903 < nx
  · go_enter Try.func5, Try.ntmps5
    go_wp2_with (go_at_call 16; refine (awake04_any _).mono ?_; rintro e w1 ⟨rfl, hw1⟩)
    go_ret
    exact ⟨rfl, hw1⟩
  obtain ⟨b1, b2, b3, b4⟩ := near_plain p s nx hp hx (by omega) _ rfl
  have hw : s = 1 ∧ win s = 256 ∨ s = 2 ∧ win s = 65536 ∨ s = 3 ∧ win s = 16777216 ∨ s = 4 ∧ win s = 4294967296 := by
    rcases win_cases s with ⟨_, h⟩ | ⟨_, h⟩ | ⟨_, h⟩ | ⟨_, _, _, h⟩ <;> omega
  exact near_core p s nx _ (win s) (p % win s) w hp hp' (by omega) hx (by omega) b1 b2 (fun w => whole_any p s nx hp hp' h0 h1 hx hx' w)
    (fun w => by have h := cut_any (wholeOf p s (lim nx)) s b1 (by omega) h0 h1 w; unfold cutOf at h; rwa [b3] at h) hw b3 rfl b4
end Go.Proofs.Ytecomgojaggpbaa
