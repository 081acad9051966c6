/- The walks of few and of both Checks. -/
import Derived.Test.YtcimcldmkaggnaaHdrMem
import Derived.Outline
namespace Go.Proofs.Ytcimcldmkaggnaa
set_option linter.unusedVariables false
set_option linter.unusedSimpArgs false
open Go.RowKit

def goodH (h : ByteArray × ByteArray) : Bool := decide (1 ≤ h.1.size ∧ h.1.size ≤ 60 ∧ h.2.size ≤ 200)
def checkV (hs : List (ByteArray × ByteArray)) : Int := if hs.length ≤ 20 ∧ hs.all goodH = true then 0 else 200
theorem all_take_succ (hs : List (ByteArray × ByteArray)) (f : ByteArray × ByteArray → Bool) (k : Nat) (h : k < hs.length) : (hs.take (k + 1)).all f = ((hs.take k).all f && f hs[k]) := by
  rw [List.take_succ_eq_append_getElem h, List.all_append]
  simp
theorem all_false (hs : List (ByteArray × ByteArray)) (f : ByteArray × ByteArray → Bool) (k : Nat) (h : k < hs.length) (hf : f hs[k] = false) : hs.all f = false := by
  rw [List.all_eq_false]
  exact ⟨hs[k], List.getElem_mem h, by rw [hf]; simp⟩

set_option maxRecDepth 100000 in
set_option maxHeartbeats 1600000 in
theorem refCheck_any (A : Option Addr) (n c : Nat) (hs : List (ByteArray × ByteArray)) (w : World) (hR : HRd w w.heap.size A n hs) (hn : n ≤ 9223372036854775807) :
    Calls Try.prog 33 #[.slice A n c] w fun e w' => e = .returned (.int .i64 (checkV hs)) ∧ w = w' := by
  have HR := Lib.hid hR; clear hR
  by_cases h20 : 20 < n
  · have hv : checkV hs = 200 := if_neg (by have := HR.out.1; omega)
    have HV := Lib.hid hv; clear hv
    go_enter Try.func33, Try.ntmps33
    go_wp2_with fail
    go_ret
    rw [HV.out]; exact ⟨rfl, rfl⟩
  · go_enter Try.func33, Try.ntmps33
    go_wp2_with fail
    go_loopw [3] (fun i wr => ∃ k : Nat, k ≤ n ∧ i = .int .i64 k ∧ (hs.take k).all goodH = true ∧ wr = w) (fun i _ => n - (intOf i).toNat)
    case atStart => exact ⟨0, by omega, rfl, rfl, rfl⟩
    case round =>
      obtain ⟨k, hk, rfl, hall, rfl⟩ := hrel
      have HA := Lib.hid hall; clear hall
      by_cases hkn : k < n
      · obtain ⟨b, o, rfl, hb, hcs⟩ := HR.out.2 (by omega)
        obtain ⟨hc1, hc2⟩ := hcs k (by have := HR.out.1; omega)
        generalize hx : hs[k]'(by have := HR.out.1; omega) = x at hc1 hc2
        have HX := Lib.hid hx
        clear hcs hx
        by_cases g : 1 ≤ x.1.size ∧ x.1.size ≤ 60 ∧ x.2.size ≤ 200
        · have g1 : ((x.1.size : Int) < 1) = False := eq_false (by omega)
          have g2 : ((60 : Int) < x.1.size) = False := eq_false (by omega)
          have g3 : ((200 : Int) < x.2.size) = False := eq_false (by omega)
          go_wp2_with fail
          go_roundw
          case rel =>
            refine ⟨k + 1, by omega, by go_num, ?_, trivial⟩
            rw [all_take_succ hs goodH k (by have := HR.out.1; omega), HA.out, HX.out, goodH, decide_eq_true g]; rfl
          case measure => simp [intOf]; omega
        · have hv : checkV hs = 200 := if_neg (by
            rw [all_false hs goodH k (by have := HR.out.1; omega) (by rw [HX.out, goodH, decide_eq_false g])]; simp)
          have HV := Lib.hid hv; clear hv
          go_wp2_with fail
          all_goals
            go_ret
            rw [HV.out]; exact ⟨rfl, rfl⟩
      · obtain rfl : k = n := by omega
        have hv : checkV hs = 0 := if_pos (by
          have h := HA.out
          rw [List.take_of_length_le (by have := HR.out.1; omega)] at h
          exact ⟨by have := HR.out.1; omega, h⟩)
        have HV := Lib.hid hv; clear hv
        go_wp2_with fail
        go_ret
        rw [HV.out]; exact ⟨rfl, rfl⟩

def fewH (h : ByteArray × ByteArray) : Bool := decide (h.1.size ≤ 300 ∧ h.2.size ≤ 300)
def fewV (hs : List (ByteArray × ByteArray)) : Bool := decide (hs.length ≤ 50 ∧ hs.all fewH = true)
set_option maxRecDepth 100000 in
set_option maxHeartbeats 1600000 in
theorem few_any (A : Option Addr) (n c : Nat) (hs : List (ByteArray × ByteArray)) (w : World) (hR : HRd w w.heap.size A n hs) (hn : n ≤ 9223372036854775807) :
    Calls Try.prog 18 #[.slice A n c] w fun e w' => e = .returned (.bool (fewV hs)) ∧ w = w' := by
  have HR := Lib.hid hR; clear hR
  by_cases h20 : 50 < n
  · have hv : fewV hs = false := decide_eq_false (by have := HR.out.1; omega)
    have HV := Lib.hid hv; clear hv
    go_enter Try.func18, Try.ntmps18
    go_wp2_with fail
    go_ret
    rw [HV.out]; exact ⟨rfl, rfl⟩
  · go_enter Try.func18, Try.ntmps18
    go_wp2_with fail
    go_loopw [3] (fun i wr => ∃ k : Nat, k ≤ n ∧ i = .int .i64 k ∧ (hs.take k).all fewH = true ∧ wr = w) (fun i _ => n - (intOf i).toNat)
    case atStart => exact ⟨0, by omega, rfl, rfl, rfl⟩
    case round =>
      obtain ⟨k, hk, rfl, hall, rfl⟩ := hrel
      have HA := Lib.hid hall; clear hall
      by_cases hkn : k < n
      · obtain ⟨b, o, rfl, hb, hcs⟩ := HR.out.2 (by omega)
        obtain ⟨hc1, hc2⟩ := hcs k (by have := HR.out.1; omega)
        generalize hx : hs[k]'(by have := HR.out.1; omega) = x at hc1 hc2
        have HX := Lib.hid hx
        clear hcs hx
        by_cases g : x.1.size ≤ 300 ∧ x.2.size ≤ 300
        · have g2 : ((300 : Int) < x.1.size) = False := eq_false (by omega)
          have g3 : ((300 : Int) < x.2.size) = False := eq_false (by omega)
          go_wp2_with fail
          go_roundw
          case rel =>
            refine ⟨k + 1, by omega, by go_num, ?_, trivial⟩
            rw [all_take_succ hs fewH k (by have := HR.out.1; omega), HA.out, HX.out, fewH, decide_eq_true g]; rfl
          case measure => simp [intOf]; omega
        · have hv : fewV hs = false := decide_eq_false (by
            rw [all_false hs fewH k (by have := HR.out.1; omega) (by rw [HX.out, fewH, decide_eq_false g])]; simp)
          have HV := Lib.hid hv; clear hv
          go_wp2_with fail
          all_goals
            go_ret
            rw [HV.out]; exact ⟨rfl, rfl⟩
      · obtain rfl : k = n := by omega
        have hv : fewV hs = true := decide_eq_true (by
          have h := HA.out
          rw [List.take_of_length_le (by have := HR.out.1; omega)] at h
          exact ⟨by have := HR.out.1; omega, h⟩)
        have HV := Lib.hid hv; clear hv
        go_wp2_with fail
        go_ret
        rw [HV.out]; exact ⟨rfl, rfl⟩
set_option maxRecDepth 100000 in
set_option maxHeartbeats 1600000 in
theorem check_any (A : Option Addr) (n c : Nat) (hs : List (ByteArray × ByteArray)) (w : World) (hR : HRd w w.heap.size A n hs) (hn : n ≤ 9223372036854775807) :
    Calls Try.prog 32 #[.slice A n c] w fun e w' => e = .returned (.int .i64 (checkV hs)) ∧ Below w.heap.size w w' := by
  have HR := Lib.hid hR; clear hR
  by_cases h20 : 20 < n
  · have hv : checkV hs = 200 := if_neg (by have := HR.out.1; omega)
    have HV := Lib.hid hv; clear hv
    go_enter Try.func32, Try.ntmps32
    go_wp2_with fail
    go_ret
    rw [HV.out]; exact ⟨rfl, Below.refl _ _⟩
  · go_enter Try.func32, Try.ntmps32
    go_wp2_with fail
    go_loopw [10] (fun i wr => ∃ k : Nat, k ≤ n ∧ i = .int .i64 k ∧ (hs.take k).all goodH = true ∧ Below w.heap.size w wr) (fun i _ => n - (intOf i).toNat)
    case atStart => exact ⟨0, by omega, rfl, rfl, Below.refl _ _⟩
    case round =>
      obtain ⟨k, hk, rfl, hall, hb⟩ := hrel
      have HA := Lib.hid hall; have HB := Lib.hid hb; clear hall hb
      by_cases hkn : k < n
      · obtain ⟨b, o, rfl, hbl, hcs⟩ := HR.out.2 (by omega)
        obtain ⟨hc1, hc2⟩ := hcs k (by have := HR.out.1; omega)
        rw [← HB.out.cell (p := ⟨b, o + k * 2, none⟩) hbl] at hc1
        rw [← HB.out.cell (p := ⟨b, o + k * 2 + 1, none⟩) hbl] at hc2
        generalize hx : hs[k]'(by have := HR.out.1; omega) = x at hc1 hc2
        have HX := Lib.hid hx
        clear hcs hx
        by_cases g : 1 ≤ x.1.size ∧ x.1.size ≤ 60 ∧ x.2.size ≤ 200
        · have g1 : ((x.1.size : Int) < 1) = False := eq_false (by omega)
          have g2 : ((60 : Int) < x.1.size) = False := eq_false (by omega)
          have g3 : ((200 : Int) < x.2.size) = False := eq_false (by omega)
          go_wp2_with fail
          go_roundw
          case rel =>
            refine ⟨k + 1, by omega, by go_num, ?_, HB.out.alloc HB.out.size _⟩
            rw [all_take_succ hs goodH k (by have := HR.out.1; omega), HA.out, HX.out, goodH, decide_eq_true g]; rfl
          case measure => simp [intOf]; omega
        · have hv : checkV hs = 200 := if_neg (by
            rw [all_false hs goodH k (by have := HR.out.1; omega) (by rw [HX.out, goodH, decide_eq_false g])]; simp)
          have HV := Lib.hid hv; clear hv
          go_wp2_with fail
          all_goals
            go_ret
            rw [HV.out]; exact ⟨rfl, HB.out.alloc HB.out.size _⟩
      · obtain rfl : k = n := by omega
        have hv : checkV hs = 0 := if_pos (by
          have h := HA.out
          rw [List.take_of_length_le (by have := HR.out.1; omega)] at h
          exact ⟨by have := HR.out.1; omega, h⟩)
        have HV := Lib.hid hv; clear hv
        go_wp2_with fail
        go_ret
        rw [HV.out]; exact ⟨rfl, HB.out⟩
end Go.Proofs.Ytcimcldmkaggnaa
