/- The walks of the laws on packet numbers. -/
import Derived.Test.YtecomgojaggpbaaPnWalks
import Derived.OpenShut
namespace Go.Proofs.Ytecomgojaggpbaa
set_option linter.unusedVariables false
open Go.RowKit
open Pn

theorem below_then {w w1 w2 : World} (h : Below w.heap.size w w1) (k : Below w1.heap.size w1 w2) : Below w.heap.size w w2 := h.trans (k.mono h.size)

theorem awake04_any (w : World) : Calls Try.prog 16 #[] w fun e w' => e = .returned (.bool true) ∧ Below w.heap.size w w' := by
  have s1 : ∀ w, Calls Try.prog 17 #[.int .u64 11298, .int .u64 10000] w fun e w' => e = .returned (.int .i64 2) ∧ Below w.heap.size w w' := fun w => size_any _ _ (by omega) (by omega) (by omega) (by omega) w
  have s2 : ∀ w, Calls Try.prog 17 #[.int .u64 5, .int .u64 5] w fun e w' => e = .returned (.int .i64 1) ∧ Below w.heap.size w w' := fun w => size_any _ _ (by omega) (by omega) (by omega) (by omega) w
  have s3 : ∀ w, Calls Try.prog 19 #[.int .u64 11295746, .int .i64 2] w fun e w' => e = .returned (.int .u64 23554) ∧ w = w' := fun w => cut_any _ _ (by omega) (by omega) (by omega) (by omega) w
  have s4 : ∀ w, Calls Try.prog 21 #[.int .u64 39730, .int .i64 2, .int .u64 2821665003] w fun e w' => e = .returned (.int .u64 2821692210) ∧ w = w' := fun w => by
    have := whole_any 39730 2 2821665003 (by omega) (by omega) (by omega) (by omega) (by omega) (by omega) w
    rwa [show wholeOf 39730 2 (lim 2821665003) = 2821692210 from by decide +kernel] at this
  have S1 := Lib.hid s1; have S2 := Lib.hid s2; have S3 := Lib.hid s3; have S4 := Lib.hid s4
  clear s1 s2 s3 s4
  go_enter Try.func16, Try.ntmps16
  go_wp2_with fail
  refine (S1.out _).mono ?_
  rintro e w1 ⟨rfl, h1⟩
  go_wp2_with fail
  refine (S2.out _).mono ?_
  rintro e w2 ⟨rfl, h2⟩
  go_wp2_with fail
  refine (S3.out _).mono ?_
  rintro e w3 ⟨rfl, rfl⟩
  go_wp2_with fail
  refine (S4.out _).mono ?_
  rintro e w4 ⟨rfl, rfl⟩
  go_wp2_with fail
  go_ret
  exact ⟨rfl, below_then h1 h2⟩

theorem walk_PnumTells (a s b : Int) (w : World) (wa : (Lit.int .u64 a).wf = true) (ws : (Lit.int .i64 s).wf = true) (wb : (Lit.int .u64 b).wf = true) :
    Calls Try.prog 3 #[.int .u64 a, .int .i64 s, .int .u64 b] w fun e w' => e = .returned (.bool true) ∧ Below w.heap.size w w' := by
  obtain ⟨ha, ha'⟩ := bounds_u64 wa
  obtain ⟨h0, h1⟩ := bounds_i64 ws
  obtain ⟨hb, hb'⟩ := bounds_u64 wb
  clear wa ws wb
  go_enter Try.func3, Try.ntmps3
  go_wp2_with fail
  refine (awake04_any _).mono ?_
  rintro e w1 ⟨rfl, hw1⟩
  go_wp2_with fail
  refine (size_any _ _ ha ha' hb hb' _).mono ?_
  rintro e w2 ⟨rfl, hw2⟩
  go_wp2_with fail
  refine (refSize_any _ _ ha ha' hb hb' _).mono ?_
  rintro e w3 ⟨rfl, rfl⟩
  go_wp2_with fail
  refine (cut_any _ _ ha ha' (by omega) (by omega) _).mono ?_
  rintro e w4 ⟨rfl, rfl⟩
  go_wp2_with fail
  refine (refCut_any _ _ ha ha' (by omega) (by omega) _).mono ?_
  rintro e w5 ⟨rfl, rfl⟩
  go_wp2_with fail
  refine (whole_any _ _ _ ha ha' (by omega) (by omega) hb hb' _).mono ?_
  rintro e w6 ⟨rfl, rfl⟩
  go_wp2_with fail
  refine (refWhole_any _ _ _ ha ha' (by omega) (by omega) hb hb' _).mono ?_
  rintro e w7 ⟨rfl, rfl⟩
  go_wp2_with fail
  go_ret
  exact ⟨rfl, below_then hw1 hw2⟩
end Go.Proofs.Ytecomgojaggpbaa
