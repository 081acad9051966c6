/- Masks of windows: '&', '&^' and '|' of packet numbers, as sums and rests. -/
import Derived.Test.YtecomgojaggpbaaPnPlain
import Derived.Laws.BitsAllLaws
import Derived.Laws.BitsLemmas
import Derived.Lib.EndianBits
namespace Go.Proofs.Ytecomgojaggpbaa.Pn

theorem high_and (a k m : Nat) (ha : a < 2 ^ (m + k)) : a &&& ((2 ^ m - 1) <<< k) = (a >>> k) <<< k := by
  apply Nat.eq_of_testBit_eq
  intro i
  simp only [Nat.testBit_and, Nat.testBit_shiftLeft, Nat.testBit_two_pow_sub_one, Nat.testBit_shiftRight]
  by_cases h : k ≤ i
  · have e : k + (i - k) = i := by omega
    rw [e]
    by_cases h2 : i - k < m
    · simp [h, h2]
    · have : a.testBit i = false := Nat.testBit_lt_two_pow (Nat.lt_of_lt_of_le ha (Nat.pow_le_pow_right (by omega) (by omega)))
      simp [this]
  · simp [h]

theorem high_and' (a k m : Nat) (ha : a < 2 ^ (m + k)) : a &&& ((2 ^ m - 1) <<< k) = a - a % 2 ^ k := by
  rw [high_and a k m ha, Nat.shiftLeft_eq, Nat.shiftRight_eq_div_pow]
  have := Nat.div_add_mod a (2 ^ k)
  rw [Nat.mul_comm]
  omega

theorem and_win (a s : Int) (h0 : 0 ≤ a) (h1 : a ≤ 18446744073709551615) : bits .and .u64 a (win s - 1) = a % win s := by
  obtain ⟨n, rfl⟩ := Int.eq_ofNat_of_zero_le h0
  rcases win_cases s with ⟨_, h⟩ | ⟨_, h⟩ | ⟨_, h⟩ | ⟨_, _, _, h⟩ <;> rw [h]
  · have e := u64_and_nat n 255 (by omega) (by omega)
    rw [show n &&& 255 = n % 256 from Nat.and_two_pow_sub_one_eq_mod n 8] at e
    simpa using e
  · have e := u64_and_nat n 65535 (by omega) (by omega)
    rw [show n &&& 65535 = n % 65536 from Nat.and_two_pow_sub_one_eq_mod n 16] at e
    simpa using e
  · have e := u64_and_nat n 16777215 (by omega) (by omega)
    rw [show n &&& 16777215 = n % 16777216 from Nat.and_two_pow_sub_one_eq_mod n 24] at e
    simpa using e
  · have e := u64_and_nat n 4294967295 (by omega) (by omega)
    rw [show n &&& 4294967295 = n % 4294967296 from Nat.and_two_pow_sub_one_eq_mod n 32] at e
    simpa using e

theorem andNot_win (a s : Int) (h0 : 0 ≤ a) (h1 : a ≤ 18446744073709551615) : bits .andNot .u64 a (win s - 1) = a - a % win s := by
  obtain ⟨n, rfl⟩ := Int.eq_ofNat_of_zero_le h0
  rcases win_cases s with ⟨_, h⟩ | ⟨_, h⟩ | ⟨_, h⟩ | ⟨_, _, _, h⟩ <;> rw [h]
  · have e := u64_andNot_nat n 255 (by omega) (by omega)
    have f := high_and' n 8 56 (by omega)
    rw [show (18446744073709551615 - 255 : Nat) = (2 ^ 56 - 1) <<< 8 from by decide, f] at e
    rw [show ((256 : Int) - 1) = ((255 : Nat) : Int) from rfl, e]; omega
  · have e := u64_andNot_nat n 65535 (by omega) (by omega)
    have f := high_and' n 16 48 (by omega)
    rw [show (18446744073709551615 - 65535 : Nat) = (2 ^ 48 - 1) <<< 16 from by decide, f] at e
    rw [show ((65536 : Int) - 1) = ((65535 : Nat) : Int) from rfl, e]; omega
  · have e := u64_andNot_nat n 16777215 (by omega) (by omega)
    have f := high_and' n 24 40 (by omega)
    rw [show (18446744073709551615 - 16777215 : Nat) = (2 ^ 40 - 1) <<< 24 from by decide, f] at e
    rw [show ((16777216 : Int) - 1) = ((16777215 : Nat) : Int) from rfl, e]; omega
  · have e := u64_andNot_nat n 4294967295 (by omega) (by omega)
    have f := high_and' n 32 32 (by omega)
    rw [show (18446744073709551615 - 4294967295 : Nat) = (2 ^ 32 - 1) <<< 32 from by decide, f] at e
    rw [show ((4294967296 : Int) - 1) = ((4294967295 : Nat) : Int) from rfl, e]; omega

theorem or_win (a p s : Int) (h0 : 0 ≤ a) (h1 : a ≤ 18446744073709551615) : bits .or .u64 (a - a % win s) (p % win s) = a - a % win s + p % win s := by
  rcases win_cases s with ⟨_, h⟩ | ⟨_, h⟩ | ⟨_, h⟩ | ⟨_, _, _, h⟩ <;> rw [h]
  · exact bits_join .u64 64 (by decide) wraps_u64 8 _ _ (by omega) (by omega) (by omega) (by omega) (by omega) (by omega)
  · exact bits_join .u64 64 (by decide) wraps_u64 16 _ _ (by omega) (by omega) (by omega) (by omega) (by omega) (by omega)
  · exact bits_join .u64 64 (by decide) wraps_u64 24 _ _ (by omega) (by omega) (by omega) (by omega) (by omega) (by omega)
  · exact bits_join .u64 64 (by decide) wraps_u64 32 _ _ (by omega) (by omega) (by omega) (by omega) (by omega) (by omega)
end Go.Proofs.Ytecomgojaggpbaa.Pn
