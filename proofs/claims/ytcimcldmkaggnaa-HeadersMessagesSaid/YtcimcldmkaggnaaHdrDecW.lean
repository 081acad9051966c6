/- The program's Decode: what it defers. -/
import Derived.Test.YtcimcldmkaggnaaHdrHeadW
import Derived.Test.YtcimcldmkaggnaaHdrCheckW
import Derived.Defers
import Derived.Recover
namespace Go.Proofs.Ytcimcldmkaggnaa
set_option linter.unusedVariables false
set_option linter.unusedSimpArgs false
open Go.RowKit
open Hd

theorem caught_nil (w : World) : Calls Try.prog 42 #[.nilIface] w fun e w' => e = .returned (.int .i64 0) ∧ w = w' := by
  go_enter Try.func42, Try.ntmps42
  go_wp2_with fail
  go_ret
  exact ⟨rfl, rfl⟩
theorem caught_some (w : World) : Calls Try.prog 42 #[.iface 26 (.int .i64 200)] w fun e w' => e = .returned (.int .i64 200) ∧ w = w' := by
  have hta : (Instr.typeAssert (.iface 26 (.int .i64 200)) 20 26 true).run Try.prog w = .ok (.tuple #[.int .i64 200, .bool true]) w := by kernel_rfl
  go_enter Try.func42, Try.ntmps42
  go_wp2_with fail
  go_ret
  exact ⟨rfl, rfl⟩
set_option maxHeartbeats 800000 in
theorem defer_panicking (pe pl : Nat) (x : Int) (v : Value) (u : TypeId) (pv : Value) (older : List PanicEntry) (w : World) (hc : w.cell? ⟨pe, 0, none⟩ = some (.int .i64 x)) (hz : w.frozen? ⟨pe, 0, none⟩ = false) (hl : w.cell? ⟨pl, 0, none⟩ = some v) (hlz : w.frozen? ⟨pl, 0, none⟩ = false) (hne : pe ≠ pl) :
    CallsD Try.prog 41 #[.pointer (some ⟨pe, 0, none⟩), .pointer (some ⟨pl, 0, none⟩)] (.panicking ({ v := .iface 26 (.int .i64 200), recovered := false } :: older)) w fun e u' w' =>
      e = .returned (.tuple #[]) ∧ u' = .panicking ({ v := .iface 26 (.int .i64 200), recovered := true } :: older) ∧ w' = (w.setCell ⟨pe, 0, none⟩ (.int .i64 200)).setCell ⟨pl, 0, none⟩ (.slice none 0 0) := by
  refine callsD_of_wpS Try.func41 rfl fun c₀ cs hu => ?_
  apply wpS_seq
  apply wpS_region
  simp [wpOpsS, go_sem, recoverD, hu, Try.ntmps41, Exit.thenS]
  refine (caught_some w).mono ?_
  rintro e w1 ⟨rfl, rfl⟩
  have hc2 := World.cell?_setCell_same w _ (.int .i64 200) hc
  have hl2 := (World.cell?_setCell_other w ⟨pe, 0, none⟩ ⟨pl, 0, none⟩ (.int .i64 200) (by simp [hne])).trans hl
  have hz2 : (w.setCell ⟨pe, 0, none⟩ (.int .i64 200)).frozen? ⟨pl, 0, none⟩ = false := by simpa using hlz
  simp [go_sem, hc, hz]
  apply wpS_seq
  apply wpS_region
  simp [wpOpsS, go_sem, recoverD, hu, hc2, Exit.thenS]
  refine wpS_cond (t := true) (by simp [Act.eval, Array.replicate]) ?_
  simp only [if_true]
  apply wpS_region
  simp [wpOpsS, go_sem, hl2, hz2, bodyPostS, results, Try.results41]
theorem defer_idle (pe pl : Nat) (x : Int) (w : World) (hc : w.cell? ⟨pe, 0, none⟩ = some (.int .i64 x)) (hz : w.frozen? ⟨pe, 0, none⟩ = false) :
    CallsD Try.prog 41 #[.pointer (some ⟨pe, 0, none⟩), .pointer (some ⟨pl, 0, none⟩)] .returning w fun e u' w' =>
      e = .returned (.tuple #[]) ∧ u' = .returning ∧ w' = w.setCell ⟨pe, 0, none⟩ (.int .i64 0) := by
  refine callsD_of_wpS Try.func41 rfl fun c₀ cs hu => ?_
  apply wpS_seq
  apply wpS_region
  simp [wpOpsS, go_sem, recoverD, hu, Try.ntmps41, Exit.thenS]
  refine (caught_nil w).mono ?_
  rintro e w1 ⟨rfl, rfl⟩
  have hc2 := World.cell?_setCell_same w _ (.int .i64 0) hc
  simp [go_sem, hc, hz]
  apply wpS_seq
  apply wpS_region
  simp [wpOpsS, go_sem, recoverD, hu, hc2, Exit.thenS]
  refine wpS_cond (t := false) (by simp [Act.eval, Array.replicate]) ?_
  simp only [Bool.false_eq_true, if_false]
  refine wpS_of_wp (wp_skip ?_)
  cases c₀
  simp_all [bodyPostS, results, Try.results41]
end Go.Proofs.Ytcimcldmkaggnaa
