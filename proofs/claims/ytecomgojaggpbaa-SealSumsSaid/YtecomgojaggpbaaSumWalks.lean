/- The walks of the check sums: by halves of bytes, and bit by bit. -/
import Derived.Test.YtecomgojaggpbaaMem
import Derived.Test.YtecomgojaggpbaaCrc
import Derived.Test.YtecomgojaggpbaaPnWalks
import Derived.Test.YtecomgojaggpbaaChecked
import Derived.BigRegion
namespace Go.Proofs.Ytecomgojaggpbaa
set_option linter.unusedVariables false
open Go.RowKit
open Crc

theorem and_one (c : Nat) (h : c < 4294967296) : bits .and .u32 (c : Int) 1 = ((c % 2 : Nat) : Int) := by
  have e := u32_and_nat c 1 h (by omega)
  rw [show c &&& 1 = c % 2 from Nat.and_two_pow_sub_one_eq_mod c 1] at e
  simpa using e
theorem low_nibble (c x : Nat) (hx : x < 256) : bits .and .u8 (bits .xor .u8 (IntKind.u8.wrap (c : Int)) (x : Int)) 15 = (((c ^^^ x) % 16 : Nat) : Int) := by
  have e0 : IntKind.u8.wrap (c : Int) = ((c % 256 : Nat) : Int) := by simp [IntKind.wrap, IntKind.bits, IntKind.signed]
  have hl : c % 256 ^^^ x < 256 := Nat.xor_lt_two_pow (n := 8) (by omega) hx
  have e := u8_and_nat (c % 256 ^^^ x) 15 hl (by omega)
  rw [show (c % 256 ^^^ x) &&& 15 = (c % 256 ^^^ x) % 16 from Nat.and_two_pow_sub_one_eq_mod _ 4] at e
  rw [e0, u8_xor_nat _ _ (by omega) hx]
  rw [show ((15 : Int)) = ((15 : Nat) : Int) from rfl, e]
  congr 1
  have a1 := @Nat.xor_mod_two_pow (c % 256) x 4
  have a2 := @Nat.xor_mod_two_pow c x 4
  simp only [show (2 : Nat) ^ 4 = 16 from rfl] at a1 a2
  rw [a1, a2, show c % 256 % 16 = c % 16 from by omega]
theorem half_xor (c x : Nat) (hc : c < 4294967296) : bits .xor .u32 ((c : Int) / 16) ((bit4 ((c ^^^ x) % 16) : Nat) : Int) = ((half c x : Nat) : Int) := by
  have hb := bit4_lt ((c ^^^ x) % 16) (by omega)
  have e := u32_xor_nat (c / 16) _ (by omega) hb
  unfold half
  rw [← e]
  congr 1

set_option maxRecDepth 100000 in
set_option maxHeartbeats 1600000 in
theorem step_any (x c bw bt : Nat) (hx : x < 256) (hc : c < 4294967296) (w : World) (hne : bw ≠ bt)
    (hw : w.cell? ⟨bw, 0, none⟩ = some (.int .u32 (c : Int))) (hf : w.frozen? ⟨bw, 0, none⟩ = false)
    (ht : ∀ j, j < 16 → w.cell? ⟨bt, j, none⟩ = some (.int .u32 (bit4 j : Nat))) :
    Calls Try.prog 35 #[.int .u8 (x : Int), .pointer (some ⟨bw, 0, none⟩), .pointer (some ⟨bt, 0, none⟩)] w fun e w' =>
      e = .returned (.tuple #[]) ∧ w' = (w.setCell ⟨bw, 0, none⟩ (.int .u32 (half c x : Nat))).drew := by
  have hk : (c ^^^ x) % 16 < 16 := Nat.mod_lt _ (by omega)
  have htk := ht _ hk
  have e1 := low_nibble c x hx
  have e3 := half_xor c x hc
  generalize (c ^^^ x) % 16 = k at *
  clear ht
  generalize bit4 k = t at *
  generalize half c x = r at *
  have hk' : (k : Int) < 16 := by omega
  go_enter Try.func35, Try.ntmps35
  go_wp2
  go_region
  all_goals (go_end0; exact ⟨rfl, rfl⟩)

theorem new_free (w : World) (cs : Array Value) (t : TypeId) (j : Nat) : (w.alloc (.cells cs t)).frozen? ⟨w.heap.size, j, none⟩ = false := by
  unfold World.frozen?
  simp only [heap_alloc_new w]
  simp

/-- the table's block, its first k lines filled -/
def Tab (B k : Nat) (w wr : World) : Prop :=
  B = w.heap.size ∧ B < wr.heap.size ∧ Below B w wr ∧ (∀ j, j < 16 → ∃ u : Int, wr.cell? ⟨B, j, none⟩ = some (.int .u32 u)) ∧ (∀ j, j < k → wr.cell? ⟨B, j, none⟩ = some (.int .u32 (bit4 j : Nat))) ∧ ∀ j, wr.frozen? ⟨B, j, none⟩ = false

theorem Tab.start (w : World) (t : TypeId) (cs : Array Value) (hcs : cs = Array.replicate 16 (.int .u32 0)) : Tab w.heap.size 0 w (w.alloc (.cells cs t)) := by
  subst hcs
  refine ⟨rfl, by simp, (Below.refl _ _).alloc (Nat.le_refl _) _, fun j hj => ⟨0, ?_⟩, fun j hj => absurd hj (by omega), fun j => ?_⟩
  · rw [cell_of_row _ w.heap.size j _ t (0, 0) (heap_alloc_new w _)]
    simp [hj]
  · exact new_free w _ _ _

theorem Tab.step {B k : Nat} {w wr : World} (h : Tab B k w wr) (hk : k < 16) : Tab B (k + 1) w (wr.setCell ⟨B, k, none⟩ (.int .u32 (bit4 k : Nat))) := by
  obtain ⟨h1, h2, h3, h4, h5, h6⟩ := h
  obtain ⟨u, hu⟩ := h4 k hk
  have hs : ∀ j, (wr.setCell ⟨B, k, none⟩ (.int .u32 (bit4 k : Nat))).cell? ⟨B, j, none⟩ = if j = k then some (.int .u32 (bit4 k : Nat)) else wr.cell? ⟨B, j, none⟩ := by
    intro j
    by_cases e : j = k
    · subst e
      rw [if_pos rfl]
      exact World.cell?_setCell_same _ _ _ hu
    · rw [if_neg e]
      exact World.cell?_setCell_other _ _ _ _ (fun he => e (congrArg Addr.off he).symm)
  refine ⟨h1, by simpa [World.setCell] using h2, h3.setCell (Nat.le_refl _) _, fun j hj => ?_, fun j hj => ?_, fun j => ?_⟩
  · rw [hs]
    split
    · exact ⟨_, rfl⟩
    · exact h4 j hj
  · rw [hs]
    split
    · rename_i e; subst e; rfl
    · exact h5 j (by omega)
  · rw [← h6 j]; simp

/-- the state's cell and the whole table -/
def Acc (b1 b0 c : Nat) (w wr : World) : Prop :=
  w.heap.size ≤ b0 ∧ b1 ≠ b0 ∧ w.heap.size ≤ b1 ∧ Below w.heap.size w wr ∧ wr.cell? ⟨b1, 0, none⟩ = some (.int .u32 (c : Int)) ∧ wr.frozen? ⟨b1, 0, none⟩ = false ∧ ∀ j, j < 16 → wr.cell? ⟨b0, j, none⟩ = some (.int .u32 (bit4 j : Nat))

theorem Acc.start {w wr : World} (h : Tab w.heap.size 16 w wr) (t : TypeId) : Acc wr.heap.size w.heap.size 4294967295 w (wr.alloc (.cells #[.int .u32 4294967295] t)) := by
  obtain ⟨h1, h2, h3, h4, h5, h6⟩ := h
  refine ⟨Nat.le_refl _, by omega, by omega, h3.alloc (by omega) _, ?_, ?_, fun j hj => ?_⟩
  · rw [cell_of_row _ wr.heap.size 0 _ t (0, 0) (heap_alloc_new wr _)]; rfl
  · exact new_free wr _ _ _
  · rw [World.cell?_alloc_lt _ _ _ (by exact h2)]
    exact h5 j hj

theorem step_acc (x c b1 b0 : Nat) (hx : x < 256) (hc : c < 4294967296) (w wr : World) (h : Acc b1 b0 c w wr) :
    Calls Try.prog 35 #[.int .u8 (x : Int), .pointer (some ⟨b1, 0, none⟩), .pointer (some ⟨b0, 0, none⟩)] wr fun e w' =>
      e = .returned (.tuple #[]) ∧ Acc b1 b0 (half c x) w w' := by
  obtain ⟨h1, h2, h3, h4, h5, h6, h7⟩ := h
  refine (step_any x c b1 b0 hx hc wr h2 h5 h6 h7).mono ?_
  rintro e w' ⟨rfl, rfl⟩
  refine ⟨rfl, h1, h2, h3, (h4.setCell h3 _).drew, ?_, ?_, fun j hj => ?_⟩
  · exact World.cell?_setCell_same _ _ _ h5
  · rw [← h6]; simp
  · rw [← h7 j hj]
    exact World.cell?_setCell_other _ _ _ _ (fun he => h2 (congrArg Addr.block he))

theorem not_run (c : Nat) (h : c < 4294967296) : bits .xor .u32 IntKind.u32.max (c : Int) = ((4294967295 ^^^ c : Nat) : Int) :=
  u32_xor_nat 4294967295 c (by omega) h

def bitN : Nat → Nat → Nat
  | 0, c => c
  | j + 1, c => bit (bitN j c)
theorem bitN_lt (j c : Nat) (h : c < 4294967296) : bitN j c < 4294967296 := by
  induction j with
  | zero => exact h
  | succ j ih => exact bit_lt _ ih
theorem bit_xor_law (c : Nat) (hc : c < 4294967296) : (c % 2 = 0 ∧ bits .xor .u32 ((c : Int) / 2) 0 = ((bit c : Nat) : Int)) ∨ (c % 2 = 1 ∧ bits .xor .u32 ((c : Int) / 2) 2197175160 = ((bit c : Nat) : Int)) := by
  rcases Nat.mod_two_eq_zero_or_one c with h | h
  · refine .inl ⟨h, ?_⟩
    have e := u32_xor_nat (c / 2) 0 (by omega) (by omega)
    unfold bit
    rw [if_neg (by omega)]
    simpa using e
  · refine .inr ⟨h, ?_⟩
    have e := u32_xor_nat (c / 2) 2197175160 (by omega) (by omega)
    unfold bit poly
    rw [if_pos h]
    simpa using e

set_option maxRecDepth 100000 in
set_option maxHeartbeats 1600000 in
theorem sum_any (A : Option Addr) (n c : Nat) (xs : List UInt8) (w : World) (hr : Rd w w.heap.size A n xs) (hn : n ≤ 140737488355328) :
    Calls Try.prog 26 #[.slice A n c] w fun e w' => e = .returned (.int .u32 (sum xs : Nat)) ∧ Below w.heap.size w w' := by
  have hmf : ∀ (fn : Fn) (first cap : Array Value) (w : World), (Instr.makeFunc fn first cap).run Try.prog w = .ok (.func fn first cap) w := fun _ _ _ _ => rfl
  have HR := Lib.hid hr; clear hr
  go_enter Try.func26, Try.ntmps26
  go_wp2
  go_loopw [10] (fun i wr => ∃ k : Nat, k ≤ 16 ∧ i = .int .i64 k ∧ Tab w.heap.size k w wr) (fun i _ => 16 - (intOf i).toNat)
  case atStart => exact ⟨0, by omega, rfl, Tab.start w _ _ rfl⟩
  case round =>
    obtain ⟨k, hk, rfl, ht⟩ := hrel
    by_cases hlt : k < 16
    · obtain ⟨u, hu⟩ := ht.2.2.2.1 k hlt
      have hfz := ht.2.2.2.2.2 k
      have HT := Lib.hid ht; clear ht
      go_wp2
      go_loop [5, 15] (fun v m => ∃ j : Nat, j ≤ 4 ∧ m = .int .i64 j ∧ v = .int .u32 (bitN j k : Nat)) (fun _ m => 4 - (intOf m).toNat)
      case atStart => exact ⟨0, by omega, rfl, rfl⟩
      case round =>
        obtain ⟨j, hj, rfl, rfl⟩ := hrel
        have hbl := bitN_lt j k (by omega)
        have hnx : bit (bitN j k) = bitN (j + 1) k := rfl
        by_cases hj4 : j < 4
        · have hlaw := bit_xor_law (bitN j k) hbl
          have ha := and_one (bitN j k) hbl
          rw [hnx] at hlaw
          clear hnx
          generalize bitN j k = q at *
          generalize hq : bitN (j + 1) k = q' at *
          have HQ := Lib.hid hq; clear hq
          rcases hlaw with ⟨hm, hx⟩ | ⟨hm, hx⟩
          all_goals
            rw [hm] at ha
            clear hm
            go_wp2
            go_round
            case rel => exact ⟨j + 1, by omega, by go_num, by rw [HQ.out]⟩
            case measure => simp [intOf]; omega
        · obtain rfl : j = 4 := by omega
          clear hnx
          have h4 : bitN 4 k = bit4 k := rfl
          rw [h4] at hbl ⊢
          go_wp2
          go_roundw
          case rel => exact ⟨k + 1, by omega, by go_num, HT.out.step hlt⟩
          case measure => simp [intOf]; omega
    · have hk16 : k = 16 := by omega
      have hacc := Lib.hid (Acc.start (hk16 ▸ ht) 28)
      clear hk16
      have hsz : w.heap.size < wr.heap.size := ht.2.1
      clear ht
      go_wp2
      generalize hb1 : wr.heap.size = b1 at *
      obtain ⟨wo, rfl⟩ : ∃ wo : World, wo = wr := ⟨_, rfl⟩
      go_loopw [31] (fun i wr => ∃ k : Nat, k ≤ n ∧ i = .int .i64 k ∧ Acc b1 w.heap.size (run 4294967295 (xs.take k)) w wr) (fun i _ => n - (intOf i).toNat)
      case atStart => exact ⟨0, by omega, rfl, hacc.out⟩
      case round =>
        obtain ⟨k, hk, rfl, ha⟩ := hrel
        by_cases hkn : k < n
        · have HA := Lib.hid ha; clear ha
          obtain ⟨b, o, rfl, hb, hc⟩ := HR.out.at_ (by omega)
          have hl : k < xs.length := by have := HR.out.1; omega
          have hck := hc k hl
          rw [← HA.out.2.2.2.1.cell (p := ⟨b, o + k, none⟩) hb] at hck
          clear hc
          have hx : xs[k].toNat < 256 := xs[k].toNat_lt
          have hrl := run_lt (xs.take k) 4294967295 (by decide)
          have hnext : half (half (run 4294967295 (xs.take k)) xs[k].toNat) (xs[k].toNat / 16) = run 4294967295 (xs.take (k + 1)) := by
            rw [byte_halves _ _ hx, List.take_succ_eq_append_getElem hl, run_append]; rfl
          have HN := Lib.hid hnext; clear hnext
          have hhl := half_lt (run 4294967295 (xs.take k)) xs[k].toNat hrl
          have S1 := Lib.hid (step_acc xs[k].toNat (run 4294967295 (xs.take k)) b1 w.heap.size hx hrl w wr HA.out)
          have S2 := Lib.hid (fun w2 => step_acc (xs[k].toNat / 16) (half (run 4294967295 (xs.take k)) xs[k].toNat) b1 w.heap.size (by omega) hhl w w2)
          clear hrl hhl
          generalize xs[k].toNat = x at *
          go_wp2_with fail
          refine S1.out.mono ?_
          rintro e w2 ⟨rfl, hA2⟩
          have HA2 := Lib.hid hA2; clear hA2
          go_wp2_with fail
          refine (S2.out _ HA2.out).mono ?_
          rintro e w3 ⟨rfl, hA3⟩
          have HA3 := Lib.hid hA3; clear hA3
          go_wp2_with fail
          go_roundw
          case rel => exact ⟨k + 1, by omega, by go_num, by rw [← HN.out]; exact HA3.out⟩
          case measure => simp [intOf]; omega
        · obtain rfl : k = n := by omega
          have hfin : run 4294967295 (xs.take k) = run 4294967295 xs := by rw [List.take_of_length_le (by have := HR.out.1; omega)]
          rw [hfin] at ha
          have hcw := ha.2.2.2.2.1
          have hbel := Lib.hid ha.2.2.2.1
          clear ha hfin
          go_wp2_with fail
          go_ret
          exact ⟨ret_int (not_run _ (run_lt xs 4294967295 (by decide))), hbel.out⟩

theorem ref_bit_law (c : Nat) (hc : c < 4294967296) : (c % 2 = 0 ∧ ((c / 2 : Nat) = bit c)) ∨ (c % 2 = 1 ∧ bits .xor .u32 ((c : Int) / 2) 2197175160 = ((bit c : Nat) : Int)) := by
  rcases bit_xor_law c hc with h | h
  · exact .inl ⟨h.1, by unfold bit; rw [if_neg (by omega)]⟩
  · exact .inr h

set_option maxRecDepth 100000 in
set_option maxHeartbeats 1600000 in
theorem refSum_any (A : Option Addr) (n c : Nat) (xs : List UInt8) (w : World) (hr : Rd w w.heap.size A n xs) (hn : n ≤ 140737488355328) :
    Calls Try.prog 27 #[.slice A n c] w fun e w' => e = .returned (.int .u32 (sum xs : Nat)) ∧ w = w' := by
  have HR := Lib.hid hr; clear hr
  go_enter Try.func27, Try.ntmps27
  go_wp2
  go_loop [3, 4] (fun v i => ∃ k : Nat, k ≤ n ∧ i = .int .i64 k ∧ v = .int .u32 (run 4294967295 (xs.take k) : Nat)) (fun _ i => n - (intOf i).toNat)
  case atStart => exact ⟨0, by omega, rfl, rfl⟩
  case round =>
    obtain ⟨k, hk, rfl, rfl⟩ := hrel
    by_cases hkn : k < n
    · obtain ⟨b, o, rfl, hb, hc⟩ := HR.out.at_ (by omega)
      have hl : k < xs.length := by have := HR.out.1; omega
      have hck := hc k hl
      clear hc
      have hx : xs[k].toNat < 256 := xs[k].toNat_lt
      have hrl := run_lt (xs.take k) 4294967295 (by decide)
      have hnext : bitN 8 (run 4294967295 (xs.take k) ^^^ xs[k].toNat) = run 4294967295 (xs.take (k + 1)) := by
        rw [List.take_succ_eq_append_getElem hl, run_append]; rfl
      have HN := Lib.hid hnext; clear hnext
      have hxor := u32_xor_nat (run 4294967295 (xs.take k)) xs[k].toNat hrl (by omega)
      have hxl : run 4294967295 (xs.take k) ^^^ xs[k].toNat < 4294967296 := Nat.xor_lt_two_pow (n := 32) hrl (by omega)
      generalize run 4294967295 (xs.take k) ^^^ xs[k].toNat = q0 at *
      generalize xs[k].toNat = x at *
      generalize hq : run 4294967295 (xs.take k) = r0 at *
      clear hq
      go_wp2
      go_loop [3, 5] (fun v m => ∃ j : Nat, j ≤ 8 ∧ m = .int .i64 j ∧ v = .int .u32 (bitN j q0 : Nat)) (fun _ m => 8 - (intOf m).toNat)
      case atStart => exact ⟨0, by omega, rfl, rfl⟩
      case round =>
        obtain ⟨j, hj, rfl, rfl⟩ := hrel
        have hbl := bitN_lt j q0 (by omega)
        have hnx : bit (bitN j q0) = bitN (j + 1) q0 := rfl
        by_cases hj8 : j < 8
        · have hlaw := ref_bit_law (bitN j q0) hbl
          rw [hnx] at hlaw
          clear hnx
          generalize bitN j q0 = q at *
          generalize hq : bitN (j + 1) q0 = q' at *
          have HQ := Lib.hid hq; clear hq
          rcases hlaw with ⟨hm, hx⟩ | ⟨hm, hx⟩
          · have ha : ((q : Int) % 2 == 1) = false := by simp; omega
            have HX := Lib.hid hx; clear hx hm
            go_wp2
            go_round
            case rel => exact ⟨j + 1, by omega, by go_num, by rw [HQ.out, ← HX.out]; rfl⟩
            case measure => simp [intOf]; omega
          · have ha : ((q : Int) % 2 == 1) = true := by simp; omega
            clear hm
            go_wp2
            go_round
            case rel => exact ⟨j + 1, by omega, by go_num, by rw [HQ.out]⟩
            case measure => simp [intOf]; omega
        · have hj8' : j = 8 := by omega
          have HJ := Lib.hid hj8'; clear hj8' hnx
          go_wp2
          go_round
          case rel => exact ⟨k + 1, by omega, by go_num, by rw [← HN.out, HJ.out]⟩
          case measure => simp [intOf]; omega
    · obtain rfl : k = n := by omega
      have hfin : run 4294967295 (xs.take k) = run 4294967295 xs := by rw [List.take_of_length_le (by have := HR.out.1; omega)]
      have HF := Lib.hid hfin; clear hfin
      have hrl := run_lt (xs.take k) 4294967295 (by decide)
      go_wp2
      go_ret
      exact ⟨ret_int (by rw [HF.out]; exact not_run _ (run_lt xs 4294967295 (by decide))), rfl⟩
end Go.Proofs.Ytecomgojaggpbaa
