/- The reference's search in its table, walked. -/
import Derived.Test.YtcimcldmkaggnaaHdrEncW
import Derived.Test.YtcimcldmkaggnaaHdrTab34
import Derived.Deep.QuietTactic
import Derived.BigQuiet
namespace Go.Proofs.Ytcimcldmkaggnaa
set_option linter.unusedVariables false
set_option linter.unusedSimpArgs false
open Go.RowKit
open Hd

theorem idx_stay (p : H → Bool) (k : Nat) (hk : k ≤ 30) (h : 0 ≤ idx p k) : idx p 30 = idx p k := by
  rw [idx_all]
  unfold idx at h ⊢
  have e : tab = tab.take k ++ tab.drop k := (List.take_append_drop k tab).symm
  cases hf : (tab.take k).findIdx? p with
  | none => rw [hf] at h; simp at h
  | some j =>
    have : tab.findIdx? p = some j := by
      rw [e, List.findIdx?_append, hf]; rfl
    rw [this]
def pTest (h : H) (b : Bool) (x : H) : Bool := decide (x.1 = h.1) && (!b || decide (x.2 = h.2))
set_option maxRecDepth 100000 in
set_option maxHeartbeats 1600000 in
theorem found_any (h : H) (b : Bool) (w : World) :
    Calls Try.prog 56 #[.agg #[.string h.1, .string h.2], .bool b] w fun e w' => e = .returned (.int .i64 (idx (pTest h b) 30)) ∧ Below w.heap.size w w' := by
  go_enter Try.func56, Try.ntmps56
  go_wp2_with fail
  refine (table34_any _).mono ?_
  rintro e w2 ⟨rfl, rfl⟩
  have hT := fun i x hi => tabAt_new53 (w.alloc (.cells #[.string h.1, .string h.2] 53)) i x hi
  have hb2 : Below w.heap.size w ((w.alloc (.cells #[.string h.1, .string h.2] 53)).alloc (.cells tabV 53)) := ((Below.refl _ w).alloc (Nat.le_refl _) _).alloc (by simp) _
  have hd1 : ((w.alloc (.cells #[.string h.1, .string h.2] 53)).alloc (.cells tabV 53)).cell? ⟨w.heap.size, 0, none⟩ = some (.string h.1) := by go_simp
  have hd2 : ((w.alloc (.cells #[.string h.1, .string h.2] 53)).alloc (.cells tabV 53)).cell? ⟨w.heap.size, 1, none⟩ = some (.string h.2) := by go_simp
  have hsz : w.heap.size + 1 < ((w.alloc (.cells #[.string h.1, .string h.2] 53)).alloc (.cells tabV 53)).heap.size := by simp
  have hsw : (w.alloc (.cells #[.string h.1, .string h.2] 53)).heap.size = w.heap.size + 1 := by simp
  rw [hsw] at hT ⊢
  generalize ((w.alloc (.cells #[.string h.1, .string h.2] 53)).alloc (.cells tabV 53)) = W at *
  generalize hg : w.heap.size = g at *
  have HG := Lib.hid hg; have HT := Lib.hid hT; have HB2 := Lib.hid hb2; have HD1 := Lib.hid hd1; have HD2 := Lib.hid hd2
  clear hg hT hb2 hd1 hd2 hsw
  go_wp2_with fail
  go_loopw [6] (fun s6 wr => ∃ i : Nat, i ≤ 30 ∧ s6 = .int .i64 (i : Nat) ∧ idx (pTest h b) i < 0 ∧ Below W.heap.size W wr) (fun s6 _ => 30 - (intOf s6).toNat)
  case atStart => exact ⟨0, by omega, rfl, by rw [idx_zero]; omega, Below.refl _ _⟩
  case round =>
    obtain ⟨i, hi, rfl, hneg, hbr⟩ := hrel
    have hib := idx_bounds (pTest h b) i
    have HBR := Lib.hid hbr; clear hbr
    by_cases hi30 : i < 30
    · obtain ⟨x, hx⟩ : ∃ x, tab[i]? = some x := ⟨_, List.getElem?_eq_getElem (show i < tab.length by rw [tab_length]; exact hi30)⟩
      obtain ⟨c1, c2⟩ := HT.out i x hx
      have z1 := (HBR.out.cell (p := ⟨g + 1, i * 2, none⟩) hsz).trans c1
      have z2 := (HBR.out.cell (p := ⟨g + 1, i * 2 + 1, none⟩) hsz).trans c2
      have z3 := (HBR.out.cell (p := ⟨g, 0, none⟩) (by show g < _; omega)).trans HD1.out
      have z4 := (HBR.out.cell (p := ⟨g, 1, none⟩) (by show g < _; omega)).trans HD2.out
      have HS := Lib.hid (idx_succ (pTest h b) i x hx)
      have HNG := Lib.hid hneg
      have hi0 : (0 : Int) ≤ (i : Int) := by omega
      have hi31 : (i : Int) < 30 := by omega
      clear c1 c2 hx hneg
      by_cases hq1 : x.1 = h.1
      · have q1 : (x.1.toList == h.1.toList) = true := (eqStr x.1 h.1).trans (decide_eq_true hq1)
        cases b with
        | false =>
          have hp : pTest h false x = true := by unfold pTest; rw [decide_eq_true hq1]; rfl
          have HV := Lib.hid (show idx (pTest h false) 30 = (i : Int) by
            have hs := HS.out
            rw [if_pos ⟨HNG.out, hp⟩] at hs
            rw [idx_stay _ (i + 1) (by omega) (by omega), hs])
          clear hp hq1
          go_wp2_with fail
          go_quiet (fail)
          go_wp2_with fail
          go_ret
          rw [HV.out]
          exact ⟨rfl, by rw [HG.out]; exact below_drewN (HB2.out.trans (HBR.out.mono (by omega))) _⟩
        | true =>
          by_cases hq2 : x.2 = h.2
          · have q2 : (x.2.toList == h.2.toList) = true := (eqStr x.2 h.2).trans (decide_eq_true hq2)
            have hp : pTest h true x = true := by unfold pTest; rw [decide_eq_true hq1, decide_eq_true hq2]; rfl
            have HV := Lib.hid (show idx (pTest h true) 30 = (i : Int) by
              have hs := HS.out
              rw [if_pos ⟨HNG.out, hp⟩] at hs
              rw [idx_stay _ (i + 1) (by omega) (by omega), hs])
            clear hp hq1 hq2
            go_wp2_with fail
            go_quiet (fail)
            go_wp2_with fail
            go_ret
            rw [HV.out]
            exact ⟨rfl, by rw [HG.out]; exact below_drewN (HB2.out.trans (HBR.out.mono (by omega))) _⟩
          · have q2 : (x.2.toList == h.2.toList) = false := (eqStr x.2 h.2).trans (decide_eq_false hq2)
            have hp : pTest h true x = false := by unfold pTest; rw [decide_eq_true hq1, decide_eq_false hq2]; rfl
            have HN2 := Lib.hid (show idx (pTest h true) (i + 1) < 0 by
              rw [HS.out, if_neg (by rw [hp]; simp)]; exact HNG.out)
            clear hp hq1 hq2
            go_wp2_with fail
            go_quiet (fail)
            go_wp2_with fail
            go_roundw
            case rel => exact ⟨i + 1, by omega, by go_num, HN2.out, below_drewN HBR.out _⟩
            case measure => simp [intOf]; omega
      · have q1 : (x.1.toList == h.1.toList) = false := (eqStr x.1 h.1).trans (decide_eq_false hq1)
        have hp : pTest h b x = false := by unfold pTest; rw [decide_eq_false hq1]; rfl
        have HN2 := Lib.hid (show idx (pTest h b) (i + 1) < 0 by
          rw [HS.out, if_neg (by rw [hp]; simp)]; exact HNG.out)
        clear hp hq1
        go_wp2_with fail
        go_quiet (fail)
        go_wp2_with fail
        go_roundw
        case rel => exact ⟨i + 1, by omega, by go_num, HN2.out, below_drewN HBR.out _⟩
        case measure => simp [intOf]; omega
    · obtain rfl : i = 30 := by omega
      have HV := Lib.hid (show idx (pTest h b) 30 = -1 by omega)
      clear hneg hib
      go_wp2_with fail
      go_ret
      rw [HV.out]
      exact ⟨rfl, by rw [HG.out]; exact HB2.out.trans (HBR.out.mono (by omega))⟩
end Go.Proofs.Ytcimcldmkaggnaa
