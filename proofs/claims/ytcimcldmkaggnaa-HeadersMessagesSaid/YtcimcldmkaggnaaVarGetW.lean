/- Get of both packages, walked. -/
import Derived.Test.YtcimcldmkaggnaaVarPutW
namespace Go.Proofs.Ytcimcldmkaggnaa
set_option linter.unusedVariables false
open Go.RowKit
open Va
def GetEnds (xs : List UInt8) (e : Ending) : Prop :=
  match get xs with
  | none => e = .returned (.tuple #[.int .u64 0, .int .i64 0, .int .i64 30])
  | some (v, n) => e = .returned (.tuple #[.int .u64 v, .int .i64 n, .int .i64 0])

theorem or_next (v y : Int) (h0 : 0 ≤ v) (h1 : v ≤ 18014398509481983) (h2 : 0 ≤ y) (h3 : y < 256) :
    bits BinOp.or IntKind.u64 (IntKind.u64.wrap (v * 256)) (IntKind.u64.wrap y) = v * 256 + y := by
  rw [IntWalk.u64_in _ (by omega), IntWalk.u64_in _ (by omega)]
  exact bits_join .u64 64 (by decide) wraps_u64 8 _ _ (by omega) (by omega) (by omega) (by omega) (by omega) (by omega)
theorem fold_small (v : Nat) (hv : v < 64) (l : List UInt8) (k : Nat) (hk : k ≤ 6) (hl : l.length ≤ k) : fold v l ≤ 18014398509481983 := by
  have h := fold_lt l v
  have h2 : (256 : Nat) ^ l.length ≤ 256 ^ 6 := Nat.pow_le_pow_right (by omega) (by omega)
  have h3 : (v + 1) * 256 ^ l.length ≤ 64 * 256 ^ 6 := Nat.mul_le_mul (by omega) h2
  omega
theorem fold_next (v : Nat) (xs : List UInt8) (k : Nat) (h : 1 + k < xs.length) : fold v ((xs.drop 1).take (k + 1)) = fold v ((xs.drop 1).take k) * 256 + (xs[1 + k]'h).toNat := by
  rw [List.take_succ_eq_append_getElem (by rw [List.length_drop]; omega), fold_snoc]
  simp [Nat.add_comm]
theorem get_at {A : Option Addr} {n : Nat} {xs : List UInt8} {w : World} {B : Nat} (hR : Rd w B A n xs) (hn : n ≠ 0) :
    ∃ b o x, A = some ⟨b, o, none⟩ ∧ x < 256 ∧ w.cell? ⟨b, o, none⟩ = some (.int .u8 ((x : Nat) : Int)) ∧
      get xs = (if n < width x then none else some (fold (x % 64) ((xs.drop 1).take (width x - 1)), width x)) ∧
      xs.length = n ∧ ∀ j (h : j < xs.length), w.cell? ⟨b, o + j, none⟩ = some (.int .u8 ((xs[j]'h).toNat : Int)) := by
  obtain ⟨b, o, rfl, hb, hcells⟩ := hR.2 (by omega)
  have hl := hR.1
  cases xs with
  | nil => simp at hl; omega
  | cons x r =>
    have hx := x.toNat_lt
    refine ⟨b, o, x.toNat, rfl, by omega, hcells 0 (by simp), ?_, hl, hcells⟩
    rw [← hl]
    rfl

set_option maxRecDepth 100000 in
set_option maxHeartbeats 6400000 in
theorem get_any (A : Option Addr) (n c : Nat) (xs : List UInt8) (w : World) (hR : Rd w w.heap.size A n xs) (hc : n ≤ c) (hc2 : c ≤ maxLen) :
    Calls Try.prog 26 #[.slice A n c] w fun e w' => GetEnds xs e ∧ w = w' := by
  have HR := Lib.hid hR; clear hR
  by_cases hn : n = 0
  · have hx : get xs = none := by
      have := HR.out.1
      rw [hn] at this
      rw [List.length_eq_zero_iff.mp this]; rfl
    have HX := Lib.hid hx; clear hx
    have h0 : ((n : Int) == 0) = true := by simp; omega
    clear hn
    go_enter Try.func26, Try.ntmps26
    go_wp2_with fail
    go_ret3
    exact ⟨by unfold GetEnds; rw [HX.out]; rfl, rfl⟩
  · have h0 : ((n : Int) == 0) = false := by simp; omega
    obtain ⟨b, o, x, rfl, hx, hcell, hg, hl, hcells⟩ := get_at HR.out hn
    have HX := Lib.hid hg; have HL := Lib.hid hl; have HCS := Lib.hid hcells
    clear hg hl hcells
    obtain ⟨m, hm, hmw, hm8⟩ : ∃ m, width x = m ∧ wrap64 (2 ^ (x / 64)) = ((m : Nat) : Int) ∧ 1 ≤ m ∧ m ≤ 8 := by
      refine ⟨_, rfl, ?_⟩
      have hq : x / 64 = 0 ∨ x / 64 = 1 ∨ x / 64 = 2 ∨ x / 64 = 3 := by omega
      unfold width
      rcases hq with h | h | h | h <;> rw [h]
      · rw [if_pos (by omega)]; exact ⟨by first | kernel_rfl | decide | (simp [wrap64]; done), by omega⟩
      · rw [if_neg (by omega), if_pos (by omega)]; exact ⟨by first | kernel_rfl | decide | (simp [wrap64]; done), by omega⟩
      · rw [if_neg (by omega), if_neg (by omega), if_pos (by omega)]; exact ⟨by first | kernel_rfl | decide | (simp [wrap64]; done), by omega⟩
      · rw [if_neg (by omega), if_neg (by omega), if_neg (by omega)]; exact ⟨by first | kernel_rfl | decide | (simp [wrap64]; done), by omega⟩
    rw [hm] at HX
    have HM := Lib.hid hm; clear hm
    by_cases hsh : n < m
    · have hlt : ((n : Int) < (m : Int)) := by omega
      go_enter Try.func26, Try.ntmps26
      go_wp2_with fail
      go_ret3
      exact ⟨by unfold GetEnds; rw [HX.out, if_pos hsh]; rfl, rfl⟩
    · have hlt : ¬ ((n : Int) < (m : Int)) := by omega
      obtain ⟨A', hsl, hA⟩ : ∃ A', (∀ w : World, (Instr.slice 24 (.slice (some ⟨b, o, none⟩) n c) (some (.int .i64 1)) (some (.int .i64 (m : Nat))) none).run Try.prog w = .ok (.slice A' (m - 1) (c - 1)) w) ∧ (1 < m → A' = some ⟨b, o + 1, none⟩) := by
        by_cases hc1 : c = 1
        · obtain rfl : m = 1 := by omega
          obtain rfl : n = 1 := by omega
          subst hc1
          exact ⟨some ⟨b, o, none⟩, fun w => by kernel_rfl, fun h => by omega⟩
        · exact ⟨some ⟨b, o + 1, none⟩, fun w => run_mid w b o n c 1 m 1 m rfl rfl (by omega) (by omega) (by omega), fun _ => rfl⟩
      have HA := Lib.hid hA; clear hA
      go_enter Try.func26, Try.ntmps26
      go_wp2_with fail
      go_loopw [6, 36] (fun x1 i wr => ∃ (k : Nat) (v : Int), k ≤ m - 1 ∧ i = .int .i64 k ∧ x1 = .int .u64 v ∧ 0 ≤ v ∧ v = (fold (x % 64) ((xs.drop 1).take k) : Nat) ∧ wr = w) (fun _ i _ => m - (intOf i).toNat)
      case atStart => exact ⟨0, ((x % 64 : Nat) : Int), by omega, rfl, by simp, by omega, rfl, rfl⟩
      case round =>
        obtain ⟨k, v, hk, rfl, rfl, hv0, hv, rfl⟩ := hrel
        have HV := Lib.hid hv; clear hv
        by_cases hkm : k < m - 1
        · obtain rfl := HA.out (by omega)
          have hcell := HCS.out (1 + k) (by rw [HL.out]; omega)
          rw [show o + (1 + k) = o + 1 + k by omega] at hcell
          generalize hy : xs[1 + k]'(by rw [HL.out]; omega) = y at hcell
          go_wp2_with fail
          go_roundw
          case rel =>
            have hn1 := fold_next (x % 64) xs k (by rw [HL.out]; omega)
            rw [hy] at hn1
            have hfs := fold_small (x % 64) (by omega) ((xs.drop 1).take k) k (by omega) (by rw [List.length_take]; omega)
            have hyb := y.toNat_lt
            have hve := HV.out
            refine ⟨k + 1, v * 256 + (y.toNat : Int), by omega, by go_num, ?_, by omega, ?_, trivial⟩
            · rw [or_next v _ hv0 (by omega) (by omega) (by omega)]
            · rw [hn1, hve]; omega
          case measure => simp [intOf]; omega
        · obtain rfl : k = m - 1 := by omega
          go_wp2_with fail
          go_ret3
          refine ⟨?_, rfl⟩
          unfold GetEnds
          rw [HX.out, if_neg hsh]
          show _ = Ending.returned _
          rw [← HV.out]
          rfl
theorem times_next (v y : Int) (h0 : 0 ≤ v) (h1 : v ≤ 18014398509481983) (h2 : 0 ≤ y) (h3 : y < 256) :
    IntKind.u64.wrap (IntKind.u64.wrap (v * 256) + y) = v * 256 + y := by
  rw [IntWalk.u64_in (v * 256) (by omega), IntWalk.u64_in _ (by omega)]

set_option maxRecDepth 100000 in
set_option maxHeartbeats 6400000 in
theorem refGet_any (A : Option Addr) (n c : Nat) (xs : List UInt8) (w : World) (hR : Rd w w.heap.size A n xs) (hc : n ≤ c) (hc2 : c ≤ maxLen) :
    Calls Try.prog 27 #[.slice A n c] w fun e w' => GetEnds xs e ∧ w = w' := by
  have HR := Lib.hid hR; clear hR
  by_cases hn : n = 0
  · have hx : get xs = none := by
      have := HR.out.1
      rw [hn] at this
      rw [List.length_eq_zero_iff.mp this]; rfl
    have HX := Lib.hid hx; clear hx
    have h0 : ((n : Int) == 0) = true := by simp; omega
    clear hn
    go_enter Try.func27, Try.ntmps27
    go_wp2_with fail
    go_ret3
    exact ⟨by unfold GetEnds; rw [HX.out]; rfl, rfl⟩
  · have h0 : ((n : Int) == 0) = false := by simp; omega
    obtain ⟨b, o, x, rfl, hx, hcell, hg, hl, hcells⟩ := get_at HR.out hn
    have HX := Lib.hid hg; have HL := Lib.hid hl; have HCS := Lib.hid hcells
    clear hg hl hcells
    obtain ⟨m, hm, hmw, hm8⟩ : ∃ m, width x = m ∧ wrap64 (2 ^ (x / 64)) = ((m : Nat) : Int) ∧ 1 ≤ m ∧ m ≤ 8 := by
      refine ⟨_, rfl, ?_⟩
      have hq : x / 64 = 0 ∨ x / 64 = 1 ∨ x / 64 = 2 ∨ x / 64 = 3 := by omega
      unfold width
      rcases hq with h | h | h | h <;> rw [h]
      · rw [if_pos (by omega)]; exact ⟨by first | kernel_rfl | decide | (simp [wrap64]; done), by omega⟩
      · rw [if_neg (by omega), if_pos (by omega)]; exact ⟨by first | kernel_rfl | decide | (simp [wrap64]; done), by omega⟩
      · rw [if_neg (by omega), if_neg (by omega), if_pos (by omega)]; exact ⟨by first | kernel_rfl | decide | (simp [wrap64]; done), by omega⟩
      · rw [if_neg (by omega), if_neg (by omega), if_neg (by omega)]; exact ⟨by first | kernel_rfl | decide | (simp [wrap64]; done), by omega⟩
    rw [hm] at HX
    have HM := Lib.hid hm; clear hm
    by_cases hsh : n < m
    · have hlt : ((n : Int) < (m : Int)) := by omega
      go_enter Try.func27, Try.ntmps27
      go_wp2_with fail
      go_ret3
      exact ⟨by unfold GetEnds; rw [HX.out, if_pos hsh]; rfl, rfl⟩
    · have hlt : ¬ ((n : Int) < (m : Int)) := by omega
      go_enter Try.func27, Try.ntmps27
      go_wp2_with fail
      go_loopw [6, 7] (fun x1 i wr => ∃ (k : Nat) (v : Int), k ≤ m - 1 ∧ i = .int .i64 (1 + (k : Int)) ∧ x1 = .int .u64 v ∧ 0 ≤ v ∧ v = (fold (x % 64) ((xs.drop 1).take k) : Nat) ∧ wr = w) (fun _ i _ => m - (intOf i).toNat)
      case atStart => exact ⟨0, ((x % 64 : Nat) : Int), by omega, rfl, by simp, by omega, rfl, rfl⟩
      case round =>
        obtain ⟨k, v, hk, rfl, rfl, hv0, hv, rfl⟩ := hrel
        have HV := Lib.hid hv; clear hv
        by_cases hkm : k < m - 1
        · have hcell := HCS.out (1 + k) (by rw [HL.out]; omega)
          generalize hy : xs[1 + k]'(by rw [HL.out]; omega) = y at hcell
          have hyb := y.toNat_lt
          go_wp2_with fail
          go_roundw
          case rel =>
            have hn1 := fold_next (x % 64) xs k (by rw [HL.out]; omega)
            rw [hy] at hn1
            have hfs := fold_small (x % 64) (by omega) ((xs.drop 1).take k) k (by omega) (by rw [List.length_take]; omega)
            have hve := HV.out
            refine ⟨k + 1, v * 256 + (y.toNat : Int), by omega, by go_num, ?_, by omega, ?_, trivial⟩
            · rw [times_next v _ hv0 (by omega) (by omega) (by omega)]
            · rw [hn1, hve]; omega
          case measure => simp [intOf]; omega
        · obtain rfl : k = m - 1 := by omega
          go_wp2_with fail
          go_ret3
          refine ⟨?_, rfl⟩
          unfold GetEnds
          rw [HX.out, if_neg hsh]
          show _ = Ending.returned _
          rw [← HV.out]
          rfl
end Go.Proofs.Ytcimcldmkaggnaa
