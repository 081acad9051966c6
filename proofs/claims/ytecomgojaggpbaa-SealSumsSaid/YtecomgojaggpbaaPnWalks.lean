/- The walks of package pnum and of its reference. -/
import Derived.Test.YtecomgojaggpbaaChecked
import Derived.Test.YtecomgojaggpbaaPnPlain
import Derived.Test.YtecomgojaggpbaaPnBits
import Derived.WalkKit
import Derived.WalkLawsBesides
import Derived.WalkSpells
import Derived.BigQuiet
import Derived.Lib.QuietBelow
import Derived.Lib.Hide
namespace Go.Proofs.Ytecomgojaggpbaa
set_option linter.unusedVariables false
open Go.RowKit
open Pn

theorem below_drewN {B : Nat} {a w : World} (h : Below B a w) (n : Nat) : Below B a (w.drewN n) := ⟨h.os, h.tape, h.output, h.size, h.block⟩

theorem window_any (s : Int) (h0 : -9223372036854775808 ≤ s) (h1 : s ≤ 9223372036854775807) (w : World) :
    Calls Try.prog 31 #[.int .i64 s] w fun e w' => e = .returned (.int .u64 (win s)) ∧ w = w' := by
  have e : s < 1 ∨ 4 < s → win s = 4294967296 := fun h => by unfold win; rw [if_neg (by omega), if_neg (by omega), if_neg (by omega)]
  by_cases hl : s < 1
  · have H := Lib.hid (e (.inl hl)); clear e
    go_enter Try.func31, Try.ntmps31
    go_wp2
    go_ret
    rw [H.out]; exact ⟨rfl, rfl⟩
  · by_cases hg : 4 < s
    · have H := Lib.hid (e (.inr hg)); clear e
      go_enter Try.func31, Try.ntmps31
      go_wp2
      go_ret
      rw [H.out]; exact ⟨rfl, rfl⟩
    · clear e
      have h5 : s = 1 ∨ s = 2 ∨ s = 3 ∨ s = 4 := by omega
      rcases h5 with rfl | rfl | rfl | rfl
      all_goals
        go_enter Try.func31, Try.ntmps31
        go_wp2
        go_ret
        exact ⟨rfl, rfl⟩

theorem refWindow_any (s : Int) (h0 : -9223372036854775808 ≤ s) (h1 : s ≤ 9223372036854775807) (w : World) :
    Calls Try.prog 32 #[.int .i64 s] w fun e w' => e = .returned (.int .u64 (win s)) ∧ w = w' := by
  have e : s < 1 ∨ 4 < s → win s = 4294967296 := fun h => by unfold win; rw [if_neg (by omega), if_neg (by omega), if_neg (by omega)]
  by_cases hl : s < 1
  · have H := Lib.hid (e (.inl hl)); clear e
    go_enter Try.func32, Try.ntmps32
    go_wp2
    go_ret
    rw [H.out]; exact ⟨rfl, rfl⟩
  · by_cases hg : 4 < s
    · have H := Lib.hid (e (.inr hg)); clear e
      go_enter Try.func32, Try.ntmps32
      go_wp2
      go_ret
      rw [H.out]; exact ⟨rfl, rfl⟩
    · clear e
      have h5 : s = 1 ∨ s = 2 ∨ s = 3 ∨ s = 4 := by omega
      rcases h5 with rfl | rfl | rfl | rfl
      all_goals
        go_enter Try.func32, Try.ntmps32
        go_wp2
        go_ret
        exact ⟨rfl, rfl⟩

theorem win_bd (s : Int) : 256 ≤ win s ∧ win s ≤ 4294967296 := by
  rcases win_cases s with ⟨_, h⟩ | ⟨_, h⟩ | ⟨_, h⟩ | ⟨_, _, _, h⟩ <;> omega

theorem fits_any (s far : Int) (p : Addr) (h0 : -9223372036854775808 ≤ s) (h1 : s ≤ 9223372036854775807) (hf0 : 0 ≤ far) (hf1 : far < 2147483648) (w : World) (hc : w.cell? p = some (.int .u64 far)) :
    Calls Try.prog 30 #[.int .i64 s, .pointer (some p)] w fun e w' => e = .returned (.bool (decide (2 * far < win s))) ∧ ∃ n, w' = w.drewN n := by
  go_enter Try.func30, Try.ntmps30
  go_wp2_with fail
  go_quiet ((go_at_call 31; exact Calls.quiet_of_same ((window_any _ (by omega) (by omega) _).mono fun _ _ h => ⟨h.1, h.2.symm⟩)))
  go_wp2
  go_ret
  exact ⟨rfl, _, rfl⟩

set_option maxHeartbeats 1600000 in
theorem size_any (a b : Int) (ha : 0 ≤ a) (ha' : a ≤ 18446744073709551615) (hb : 0 ≤ b) (hb' : b ≤ 18446744073709551615) (w : World) :
    Calls Try.prog 17 #[.int .u64 a, .int .u64 b] w fun e w' => e = .returned (.int .i64 (szOf a b)) ∧ Below w.heap.size w w' := by
  have hmf : ∀ (fn : Fn) (first cap : Array Value) (w : World), (Instr.makeFunc fn first cap).run Try.prog w = .ok (.func fn first cap) w := fun _ _ _ _ => rfl
  by_cases h1 : a < b
  · have H := Lib.hid (show szOf a b = 4 by unfold szOf; rw [if_pos h1])
    go_enter Try.func17, Try.ntmps17
    go_wp2
    go_ret
    rw [H.out]; exact ⟨rfl, Below.refl _ _⟩
  · by_cases h2 : 2147483648 ≤ a - b
    · have H := Lib.hid (show szOf a b = 4 by unfold szOf; rw [if_neg h1, if_neg (by omega), if_neg (by omega), if_neg (by omega)])
      go_enter Try.func17, Try.ntmps17
      go_wp2
      go_ret
      rw [H.out]; exact ⟨rfl, Below.refl _ _⟩
    · have hfb : ∀ (s : Int) (bb : Bool) (w1 : World), -9223372036854775808 ≤ s → s ≤ 9223372036854775807 → w1.cell? ⟨w.heap.size, 0, none⟩ = some (.int .u64 (a - b)) → decide (2 * (a - b) < win s) = bb →
          Calls Try.prog 30 #[.int .i64 s, .pointer (some ⟨w.heap.size, 0, none⟩)] w1 fun e w' => e = .returned (.bool bb) ∧ ∃ n, w' = w1.drewN n :=
        fun s bb w1 h0 h1 hc hbb => by rw [← hbb]; exact fits_any s (a - b) _ h0 h1 (by omega) (by omega) w1 hc
      have HF := Lib.hid hfb; clear hfb
      have bel : ∀ n, Below w.heap.size w ((w.alloc (.cells #[.int .u64 (a - b)] 22)).drewN n) := fun n => below_drewN ((Below.refl _ _).alloc (Nat.le_refl _) _) n
      have HB := Lib.hid bel; clear bel
      by_cases c1 : 2 * (a - b) < 256
      · skip
        have H := Lib.hid (show szOf a b = 1 by unfold szOf; rw [if_neg h1, if_pos c1])
        have d1 := Lib.hid (show decide (2 * (a - b) < win 1) = true by simp [win]; omega)
        go_enter Try.func17, Try.ntmps17
        go_wp2
        refine wp_loop_rounds 4 ?_
        rw [rounds_succ]
        go_wp2_with fail
        refine (HF.out 1 true _ (by omega) (by omega) (by go_simp) d1.out).mono ?_
        rintro e w' ⟨rfl, n1, rfl⟩
        go_wp2
        go_ret
        rw [H.out]
        exact ⟨rfl, HB.out _⟩
      by_cases c2 : 2 * (a - b) < 65536
      · skip
        have H := Lib.hid (show szOf a b = 2 by unfold szOf; rw [if_neg h1, if_neg c1, if_pos c2])
        have d1 := Lib.hid (show decide (2 * (a - b) < win 1) = false by simp [win]; omega)
        have d2 := Lib.hid (show decide (2 * (a - b) < win 2) = true by simp [win]; omega)
        go_enter Try.func17, Try.ntmps17
        go_wp2
        refine wp_loop_rounds 4 ?_
        rw [rounds_succ]
        go_wp2_with fail
        refine (HF.out 1 false _ (by omega) (by omega) (by go_simp) d1.out).mono ?_
        rintro e w' ⟨rfl, n1, rfl⟩
        go_wp2
        rw [rounds_succ]
        go_wp2_with fail
        refine (HF.out 2 true _ (by omega) (by omega) (by go_simp) d2.out).mono ?_
        rintro e w' ⟨rfl, n2, rfl⟩
        go_wp2
        go_ret
        rw [H.out]
        exact ⟨rfl, HB.out _⟩
      by_cases c3 : 2 * (a - b) < 16777216
      · skip
        have H := Lib.hid (show szOf a b = 3 by unfold szOf; rw [if_neg h1, if_neg c1, if_neg c2, if_pos c3])
        have d1 := Lib.hid (show decide (2 * (a - b) < win 1) = false by simp [win]; omega)
        have d2 := Lib.hid (show decide (2 * (a - b) < win 2) = false by simp [win]; omega)
        have d3 := Lib.hid (show decide (2 * (a - b) < win 3) = true by simp [win]; omega)
        go_enter Try.func17, Try.ntmps17
        go_wp2
        refine wp_loop_rounds 4 ?_
        rw [rounds_succ]
        go_wp2_with fail
        refine (HF.out 1 false _ (by omega) (by omega) (by go_simp) d1.out).mono ?_
        rintro e w' ⟨rfl, n1, rfl⟩
        go_wp2
        rw [rounds_succ]
        go_wp2_with fail
        refine (HF.out 2 false _ (by omega) (by omega) (by go_simp) d2.out).mono ?_
        rintro e w' ⟨rfl, n2, rfl⟩
        go_wp2
        rw [rounds_succ]
        go_wp2_with fail
        refine (HF.out 3 true _ (by omega) (by omega) (by go_simp) d3.out).mono ?_
        rintro e w' ⟨rfl, n3, rfl⟩
        go_wp2
        go_ret
        rw [H.out]
        exact ⟨rfl, HB.out _⟩
      · skip
        have H := Lib.hid (show szOf a b = 4 by unfold szOf; rw [if_neg h1, if_neg c1, if_neg c2, if_neg c3])
        have d1 := Lib.hid (show decide (2 * (a - b) < win 1) = false by simp [win]; omega)
        have d2 := Lib.hid (show decide (2 * (a - b) < win 2) = false by simp [win]; omega)
        have d3 := Lib.hid (show decide (2 * (a - b) < win 3) = false by simp [win]; omega)
        go_enter Try.func17, Try.ntmps17
        go_wp2
        refine wp_loop_rounds 4 ?_
        rw [rounds_succ]
        go_wp2_with fail
        refine (HF.out 1 false _ (by omega) (by omega) (by go_simp) d1.out).mono ?_
        rintro e w' ⟨rfl, n1, rfl⟩
        go_wp2
        rw [rounds_succ]
        go_wp2_with fail
        refine (HF.out 2 false _ (by omega) (by omega) (by go_simp) d2.out).mono ?_
        rintro e w' ⟨rfl, n2, rfl⟩
        go_wp2
        rw [rounds_succ]
        go_wp2_with fail
        refine (HF.out 3 false _ (by omega) (by omega) (by go_simp) d3.out).mono ?_
        rintro e w' ⟨rfl, n3, rfl⟩
        go_wp2
        rw [rounds_succ]
        go_wp2
        go_ret
        rw [H.out]
        exact ⟨rfl, HB.out _⟩

theorem ret_int {k : IntKind} {a b : Int} (h : a = b) : Ending.returned (.int k a) = .returned (.int k b) := by rw [h]
theorem ret_bool {a b : Bool} (h : a = b) : Ending.returned (.bool a) = .returned (.bool b) := by rw [h]
theorem cut_any (a s : Int) (ha : 0 ≤ a) (ha' : a ≤ 18446744073709551615) (h0 : -9223372036854775808 ≤ s) (h1 : s ≤ 9223372036854775807) (w : World) :
    Calls Try.prog 19 #[.int .u64 a, .int .i64 s] w fun e w' => e = .returned (.int .u64 (cutOf a s)) ∧ w = w' := by
  have hb := win_bd s
  go_enter Try.func19, Try.ntmps19
  go_wp2_with fail
  refine (window_any _ (by omega) (by omega) _).mono ?_
  rintro e w' ⟨rfl, rfl⟩
  go_wp2
  go_ret
  exact ⟨ret_int (and_win a s ha ha'), rfl⟩
theorem refCut_any (a s : Int) (ha : 0 ≤ a) (ha' : a ≤ 18446744073709551615) (h0 : -9223372036854775808 ≤ s) (h1 : s ≤ 9223372036854775807) (w : World) :
    Calls Try.prog 20 #[.int .u64 a, .int .i64 s] w fun e w' => e = .returned (.int .u64 (cutOf a s)) ∧ w = w' := by
  have hb := win_bd s
  go_enter Try.func20, Try.ntmps20
  go_wp2_with fail
  refine (refWindow_any _ (by omega) (by omega) _).mono ?_
  rintro e w' ⟨rfl, rfl⟩
  have hz : (win s == 0) = false := by simp; omega
  go_wp2
  go_ret
  exact ⟨rfl, rfl⟩

theorem rest_bd (m p s : Int) (hm : 0 ≤ m) (hm' : m ≤ most) : 0 ≤ m - m % win s + p % win s ∧ m - m % win s + p % win s ≤ 4611686022722355198 ∧ 0 ≤ m % win s ∧ m % win s ≤ m ∧ 0 ≤ p % win s ∧ p % win s < win s := by
  unfold most at hm'
  rcases win_cases s with ⟨_, h⟩ | ⟨_, h⟩ | ⟨_, h⟩ | ⟨_, _, _, h⟩ <;> rw [h] <;> omega

set_option maxRecDepth 100000 in
set_option maxHeartbeats 1600000 in
theorem whole_core (p s nx m W n r q x : Int) (w : World)
    (hmin : (nx ≤ 4611686018427387903 ∧ m = nx) ∨ (4611686018427387903 < nx ∧ m = 4611686018427387903))
    (HW : Hid (∀ w, Calls Try.prog 31 #[.int .i64 s] w fun e w' => e = .returned (.int .u64 W) ∧ w = w'))
    (hW0 : 256 ≤ W) (hW1 : W ≤ 4294967296) (b0 : 0 ≤ m) (b1 : 0 ≤ n) (b2 : n ≤ 4611686022722355198)
    (e1 : bits .andNot .u64 m (W - 1) = q) (e2 : bits .and .u64 p (W - 1) = x) (e3 : bits .or .u64 q x = n)
    (hr : (n + W / 2 ≤ m ∧ n + W ≤ 4611686018427387903 ∧ r = n + W) ∨ (n + W / 2 ≤ m ∧ 4611686018427387903 < n + W ∧ n ≤ m + W / 2 ∧ r = n) ∨ (m < n + W / 2 ∧ m + W / 2 < n ∧ W ≤ n ∧ r = n - W) ∨ (m < n + W / 2 ∧ m + W / 2 < n ∧ n < W ∧ r = n) ∨ (m < n + W / 2 ∧ n ≤ m + W / 2 ∧ r = n)) :
    Calls Try.prog 21 #[.int .u64 p, .int .i64 s, .int .u64 nx] w fun e w' => e = .returned (.int .u64 r) ∧ w = w' := by
  rcases hmin with ⟨hm, rfl⟩ | ⟨hm, rfl⟩ <;> rcases hr with ⟨c1, c2, rfl⟩ | ⟨c1, c2, c3, rfl⟩ | ⟨c1, c2, c3, rfl⟩ | ⟨c1, c2, c3, rfl⟩ | ⟨c1, c2, rfl⟩
  all_goals
    go_enter Try.func21, Try.ntmps21
    go_wp2_with fail
    refine (HW.out _).mono ?_
    rintro e w' ⟨rfl, rfl⟩
    go_wp2
    all_goals (go_ret; exact ⟨rfl, rfl⟩)

theorem whole_tells (p s m W n : Int) (hW : win s = W) (hn : m - m % W + p % W = n) (hw : 256 ≤ W ∧ W ≤ 4294967296) (hm : m ≤ most) (r : Int) (hr : wholeOf p s m = r) :
    (n + W / 2 ≤ m ∧ n + W ≤ 4611686018427387903 ∧ r = n + W) ∨ (n + W / 2 ≤ m ∧ 4611686018427387903 < n + W ∧ n ≤ m + W / 2 ∧ r = n) ∨ (m < n + W / 2 ∧ m + W / 2 < n ∧ W ≤ n ∧ r = n - W) ∨ (m < n + W / 2 ∧ m + W / 2 < n ∧ n < W ∧ r = n) ∨ (m < n + W / 2 ∧ n ≤ m + W / 2 ∧ r = n) := by
  unfold wholeOf most at hr
  rw [hW, hn] at hr
  split at hr
  · omega
  · split at hr <;> omega

theorem whole_any (p s nx : Int) (hp : 0 ≤ p) (hp' : p ≤ 18446744073709551615) (h0 : -9223372036854775808 ≤ s) (h1 : s ≤ 9223372036854775807) (hn : 0 ≤ nx) (hn' : nx ≤ 18446744073709551615) (w : World) :
    Calls Try.prog 21 #[.int .u64 p, .int .i64 s, .int .u64 nx] w fun e w' => e = .returned (.int .u64 (wholeOf p s (lim nx))) ∧ w = w' := by
  have hm : 0 ≤ lim nx ∧ lim nx ≤ most := by unfold lim most; split <;> omega
  have hb := rest_bd (lim nx) p s hm.1 hm.2
  have hw := win_bd s
  refine whole_core p s nx (lim nx) (win s) (lim nx - lim nx % win s + p % win s) _ (lim nx - lim nx % win s) (p % win s) w ?_ (fun w => window_any s h0 h1 w) hw.1 hw.2 hm.1 hb.1 hb.2.1
    (andNot_win _ s hm.1 (by unfold most at hm; omega)) (and_win p s hp hp') (or_win _ p s hm.1 (by unfold most at hm; omega)) (whole_tells p s (lim nx) _ _ rfl rfl hw hm.2 _ rfl)
  unfold lim most; split <;> omega

set_option maxRecDepth 100000 in
set_option maxHeartbeats 1600000 in
theorem refWhole_core (p s nx m W n r q x : Int) (w : World) (hs : m - q + x = n)
    (hmin : (nx ≤ 4611686018427387903 ∧ m = nx) ∨ (4611686018427387903 < nx ∧ m = 4611686018427387903))
    (HW : Hid (∀ w, Calls Try.prog 32 #[.int .i64 s] w fun e w' => e = .returned (.int .u64 W) ∧ w = w'))
    (hW0 : 256 ≤ W) (hW1 : W ≤ 4294967296) (b0 : 0 ≤ m) (b1 : 0 ≤ n) (b2 : n ≤ 4611686022722355198) (bq : 0 ≤ q) (bq' : q ≤ m) (bx : 0 ≤ x) (bx' : x < W)
    (e1 : m % W = q) (e2 : p % W = x) (hz : (W == 0) = false) (hp : 0 ≤ p)
    (hr : (n + W / 2 ≤ m ∧ n + W ≤ 4611686018427387903 ∧ r = n + W) ∨ (n + W / 2 ≤ m ∧ 4611686018427387903 < n + W ∧ n ≤ m + W / 2 ∧ r = n) ∨ (m < n + W / 2 ∧ m + W / 2 < n ∧ W ≤ n ∧ r = n - W) ∨ (m < n + W / 2 ∧ m + W / 2 < n ∧ n < W ∧ r = n) ∨ (m < n + W / 2 ∧ n ≤ m + W / 2 ∧ r = n)) :
    Calls Try.prog 22 #[.int .u64 p, .int .i64 s, .int .u64 nx] w fun e w' => e = .returned (.int .u64 r) ∧ w = w' := by
  rcases hmin with ⟨hm, rfl⟩ | ⟨hm, rfl⟩ <;> rcases hr with ⟨c1, c2, rfl⟩ | ⟨c1, c2, c3, rfl⟩ | ⟨c1, c2, c3, rfl⟩ | ⟨c1, c2, c3, rfl⟩ | ⟨c1, c2, rfl⟩
  all_goals
    go_enter Try.func22, Try.ntmps22
    go_wp2_with fail
    refine (HW.out _).mono ?_
    rintro e w' ⟨rfl, rfl⟩
    go_wp2
    all_goals (go_ret; exact ⟨rfl, rfl⟩)

theorem refWhole_any (p s nx : Int) (hp : 0 ≤ p) (hp' : p ≤ 18446744073709551615) (h0 : -9223372036854775808 ≤ s) (h1 : s ≤ 9223372036854775807) (hn : 0 ≤ nx) (hn' : nx ≤ 18446744073709551615) (w : World) :
    Calls Try.prog 22 #[.int .u64 p, .int .i64 s, .int .u64 nx] w fun e w' => e = .returned (.int .u64 (wholeOf p s (lim nx))) ∧ w = w' := by
  have hm : 0 ≤ lim nx ∧ lim nx ≤ most := by unfold lim most; split <;> omega
  have hb := rest_bd (lim nx) p s hm.1 hm.2
  have hw := win_bd s
  refine refWhole_core p s nx (lim nx) (win s) (lim nx - lim nx % win s + p % win s) _ (lim nx % win s) (p % win s) w rfl ?_ (fun w => refWindow_any s h0 h1 w) hw.1 hw.2 hm.1 hb.1 hb.2.1 hb.2.2.1 hb.2.2.2.1 hb.2.2.2.2.1 hb.2.2.2.2.2
    rfl rfl (by simp; omega) hp (whole_tells p s (lim nx) _ _ rfl rfl hw hm.2 _ rfl)
  unfold lim most; split <;> omega
set_option maxHeartbeats 1600000 in
theorem refSize_any (a b : Int) (ha : 0 ≤ a) (ha' : a ≤ 18446744073709551615) (hb : 0 ≤ b) (hb' : b ≤ 18446744073709551615) (w : World) :
    Calls Try.prog 18 #[.int .u64 a, .int .u64 b] w fun e w' => e = .returned (.int .i64 (szOf a b)) ∧ w = w' := by
  by_cases h1 : a < b
  · have H := Lib.hid (show szOf a b = 4 by unfold szOf; rw [if_pos h1])
    go_enter Try.func18, Try.ntmps18
    go_wp2
    go_ret
    rw [H.out]; exact ⟨rfl, rfl⟩
  · by_cases h2 : 2147483648 ≤ a - b
    · have H := Lib.hid (show szOf a b = 4 by unfold szOf; rw [if_neg h1, if_neg (by omega), if_neg (by omega), if_neg (by omega)])
      go_enter Try.func18, Try.ntmps18
      go_wp2
      refine wp_loop_rounds 4 ?_
      rw [rounds_succ]
      go_wp2
      rw [rounds_succ]
      go_wp2
      rw [rounds_succ]
      go_wp2
      rw [rounds_succ]
      go_wp2
      go_ret
      rw [H.out]; exact ⟨rfl, rfl⟩
    · have hq : ∀ (s : Int) (v : Int), s = 1 ∧ v = 256 ∨ s = 2 ∧ v = 65536 ∨ s = 3 ∧ v = 16777216 → ∀ w1 : World,
          Calls Try.prog 32 #[.int .i64 s] w1 fun e w' => e = .returned (.int .u64 v) ∧ w1 = w' := fun s v hs w1 => by
        have : v = win s := by unfold win; rcases hs with ⟨rfl, rfl⟩ | ⟨rfl, rfl⟩ | ⟨rfl, rfl⟩ <;> rfl
        rw [this]; exact refWindow_any s (by omega) (by omega) w1
      have HF := Lib.hid hq; clear hq
      by_cases c1 : 2 * (a - b) < 256
      · have H := Lib.hid (show szOf a b = 1 by unfold szOf; rw [if_neg h1, if_pos c1])
        go_enter Try.func18, Try.ntmps18
        go_wp2
        refine wp_loop_rounds 4 ?_
        rw [rounds_succ]
        go_wp2_with fail
        refine (HF.out 1 256 (by omega) _).mono ?_
        rintro e w' ⟨rfl, rfl⟩
        go_wp2
        go_ret
        rw [H.out]; exact ⟨rfl, rfl⟩
      · by_cases c2 : 2 * (a - b) < 65536
        · have H := Lib.hid (show szOf a b = 2 by unfold szOf; rw [if_neg h1, if_neg c1, if_pos c2])
          go_enter Try.func18, Try.ntmps18
          go_wp2
          refine wp_loop_rounds 4 ?_
          rw [rounds_succ]
          go_wp2_with fail
          refine (HF.out 1 256 (by omega) _).mono ?_
          rintro e w' ⟨rfl, rfl⟩
          go_wp2
          rw [rounds_succ]
          go_wp2_with fail
          refine (HF.out 2 65536 (by omega) _).mono ?_
          rintro e w' ⟨rfl, rfl⟩
          go_wp2
          go_ret
          rw [H.out]; exact ⟨rfl, rfl⟩
        · by_cases c3 : 2 * (a - b) < 16777216
          · have H := Lib.hid (show szOf a b = 3 by unfold szOf; rw [if_neg h1, if_neg c1, if_neg c2, if_pos c3])
            go_enter Try.func18, Try.ntmps18
            go_wp2
            refine wp_loop_rounds 4 ?_
            rw [rounds_succ]
            go_wp2_with fail
            refine (HF.out 1 256 (by omega) _).mono ?_
            rintro e w' ⟨rfl, rfl⟩
            go_wp2
            rw [rounds_succ]
            go_wp2_with fail
            refine (HF.out 2 65536 (by omega) _).mono ?_
            rintro e w' ⟨rfl, rfl⟩
            go_wp2
            rw [rounds_succ]
            go_wp2_with fail
            refine (HF.out 3 16777216 (by omega) _).mono ?_
            rintro e w' ⟨rfl, rfl⟩
            go_wp2
            go_ret
            rw [H.out]; exact ⟨rfl, rfl⟩
          · have H := Lib.hid (show szOf a b = 4 by unfold szOf; rw [if_neg h1, if_neg c1, if_neg c2, if_neg c3])
            go_enter Try.func18, Try.ntmps18
            go_wp2
            refine wp_loop_rounds 4 ?_
            rw [rounds_succ]
            go_wp2_with fail
            refine (HF.out 1 256 (by omega) _).mono ?_
            rintro e w' ⟨rfl, rfl⟩
            go_wp2
            rw [rounds_succ]
            go_wp2_with fail
            refine (HF.out 2 65536 (by omega) _).mono ?_
            rintro e w' ⟨rfl, rfl⟩
            go_wp2
            rw [rounds_succ]
            go_wp2_with fail
            refine (HF.out 3 16777216 (by omega) _).mono ?_
            rintro e w' ⟨rfl, rfl⟩
            go_wp2
            rw [rounds_succ]
            go_wp2
            go_ret
            rw [H.out]; exact ⟨rfl, rfl⟩
end Go.Proofs.Ytecomgojaggpbaa
