/- The walk of the law VarintRises. -/
import Derived.Test.YtcimcldmkaggnaaVarLaws
import Derived.Test.YtcimcldmkaggnaaVarOrder
namespace Go.Proofs.Ytcimcldmkaggnaa
set_option linter.unusedVariables false
open Go.RowKit
open Va

theorem walk_rises_out (a b : Int) (w : World) (h : b < a ∨ (¬ (b < a) ∧ 4611686018427387903 < b)) :
    Calls Try.prog 9 #[.int .u64 a, .int .u64 b] w fun e w' => e = .returned (.bool true) ∧ Below w.heap.size w w' := by
  rcases h with h | ⟨h1, h2⟩
  all_goals
    go_enter Try.func9, Try.ntmps9
    go_wp2_with fail
    refine (awake03_any _).mono ?_
    rintro e w1 ⟨rfl, hb1⟩
    go_wp2_with fail
    go_ret
    exact ⟨rfl, hb1⟩

set_option maxRecDepth 100000 in
set_option maxHeartbeats 1600000 in
theorem walk_VarintRises (a b : Int) (w : World) (wa : (Lit.int .u64 a).wf = true) (wb : (Lit.int .u64 b).wf = true) :
    Calls Try.prog 9 #[.int .u64 a, .int .u64 b] w fun e w' => e = .returned (.bool true) ∧ Below w.heap.size w w' := by
  obtain ⟨ha, ha'⟩ := bounds_u64 wa
  obtain ⟨hb, hb'⟩ := bounds_u64 wb
  clear wa wb
  by_cases c1 : b < a
  · exact walk_rises_out a b w (.inl c1)
  by_cases c2 : 4611686018427387903 < b
  · exact walk_rises_out a b w (.inr ⟨c1, c2⟩)
  have e1 : putL a = put a.toNat := if_pos (by omega)
  have e2 : putL b = put b.toNat := if_pos (by omega)
  have z1 : putE a = 0 := if_pos (by omega)
  have z2 : putE b = 0 := if_pos (by omega)
  have hl := size_mono a.toNat b.toNat (by omega) (by omega)
  rw [← put_length a.toNat (by omega), ← put_length b.toNat (by omega), ← e1, ← e2] at hl
  have hs := put_less a.toNat b.toNat (by omega) (by omega)
  rw [← e1, ← e2, show decide (a.toNat < b.toNat) = decide (a < b) from by congr 1; exact propext (by omega)] at hs
  have S1 := Lib.hid (fun w => put_any a ha ha' w)
  have S2 := Lib.hid (fun w => put_any b hb hb' w)
  have Z1 := Lib.hid z1; have Z2 := Lib.hid z2
  clear e1 e2 z1 z2
  obtain ⟨xs, hxs⟩ : ∃ xs, putL a = xs := ⟨_, rfl⟩
  obtain ⟨ys, hys⟩ : ∃ ys, putL b = ys := ⟨_, rfl⟩
  rw [hxs, hys] at hl hs
  have X := Lib.hid hxs; have Y := Lib.hid hys
  have hl2 : ((xs.length : Nat) : Int) ≤ (ys.length : Nat) := by omega
  have HS := Lib.hid hs
  clear hxs hys hl hs ha ha' hb hb'
  go_enter Try.func9, Try.ntmps9
  go_wp2_with fail
  refine (awake03_any _).mono ?_
  rintro e w1 ⟨rfl, hb1⟩
  have HB1 := Lib.hid hb1; clear hb1
  go_wp2_with fail
  refine (S1.out _).mono ?_
  rintro e w2 h2
  obtain ⟨hb2, A2, d2, rfl, hr2, -, -, -⟩ := h2.form
  rw [X.out] at hr2 ⊢
  rw [Z1.out]
  have HP2 := Lib.hid hr2; have HB2 := Lib.hid (below_then HB1.out hb2); clear hb2 hr2 h2
  go_wp2_with fail
  refine (S2.out _).mono ?_
  rintro e w3 h3
  obtain ⟨hb3, A3, d3, rfl, hr3, -, -, -⟩ := h3.form
  rw [Y.out] at hr3 ⊢
  rw [Z2.out]
  have k1 := (HP2.out.after hb3).convert (P := Try.prog) d2 24 5 9 Try.underlying24 Try.underlying5 Try.underlying9
  have k2 := hr3.convert (P := Try.prog) d3 24 5 9 Try.underlying24 Try.underlying5 Try.underlying9
  have HB3 := Lib.hid (below_then HB2.out hb3); clear hb3 hr3 h3
  go_wp2_with fail
  go_ret
  refine ⟨?_, HB3.out⟩
  have hq : (Op.bytesLess xs ys == decide (a < b)) = true := by rw [HS.out]; simp
  exact ret_bool hq
end Go.Proofs.Ytcimcldmkaggnaa
