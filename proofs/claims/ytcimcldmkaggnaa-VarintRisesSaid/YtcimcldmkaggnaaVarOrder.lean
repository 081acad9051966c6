/- Bytes put rise as the numbers do. -/
import Derived.Test.YtcimcldmkaggnaaVarMore
import Derived.Test.YtcimcldmkaggnaaKit
namespace Go.Proofs.Ytcimcldmkaggnaa.Va
open Go

theorem less_head {a b : UInt8} (x y : List UInt8) (h : a.toNat < b.toNat) : Op.bytesLess (a :: x) (b :: y) = true := by
  have : a < b := UInt8.lt_iff_toNat_lt.2 h
  simp [Op.bytesLess, this]
theorem less_same (a : UInt8) (x y : List UInt8) : Op.bytesLess (a :: x) (a :: y) = Op.bytesLess x y := by
  have : ¬ a < a := UInt8.lt_irrefl a
  simp [Op.bytesLess, this]
theorem less_self (x : List UInt8) : Op.bytesLess x x = false := by
  induction x with
  | nil => rfl
  | cons a x ih => rw [less_same, ih]
theorem low_less (p q : Nat) (hpq : p < q) : ∀ k, p / 256 ^ k = q / 256 ^ k → Op.bytesLess (low p k) (low q k) = true := by
  intro k
  induction k with
  | zero => intro h; simp at h; omega
  | succ k ih =>
    intro h
    rw [Nat.pow_succ, ← Nat.div_div_eq_div_mul, ← Nat.div_div_eq_div_mul] at h
    have hle : p / 256 ^ k ≤ q / 256 ^ k := Nat.div_le_div_right (by omega)
    by_cases he : p / 256 ^ k = q / 256 ^ k
    · have hb : bt p k = bt q k := by unfold bt; rw [he]
      show Op.bytesLess (bt p k :: low p k) (bt q k :: low q k) = true
      rw [hb, less_same]
      exact ih he
    · refine less_head _ _ ?_
      rw [bt, bt, UInt8.toNat_ofNat', UInt8.toNat_ofNat']
      omega
theorem top_less (t p q k : Nat) (hpq : p < q) (hq : t + q / 256 ^ k < 256) : Op.bytesLess (UInt8.ofNat (t + p / 256 ^ k) :: low p k) (UInt8.ofNat (t + q / 256 ^ k) :: low q k) = true := by
  have hle : p / 256 ^ k ≤ q / 256 ^ k := Nat.div_le_div_right (by omega)
  by_cases he : p / 256 ^ k = q / 256 ^ k
  · rw [he, less_same]
    exact low_less p q hpq k he
  · refine less_head _ _ ?_
    rw [UInt8.toNat_ofNat', UInt8.toNat_ofNat']
    generalize p / 256 ^ k = P at *
    generalize q / 256 ^ k = Q at *
    rw [Nat.mod_eq_of_lt (by omega), Nat.mod_eq_of_lt (by omega)]
    omega
theorem put_parts (v : Nat) (h : v < 4611686018427387904) : ∃ t k, put v = UInt8.ofNat (t + v / 256 ^ k) :: low v k ∧ t + v / 256 ^ k < t + 64 ∧ ((t = 0 ∧ k = 0 ∧ v < 64) ∨ (t = 64 ∧ k = 1 ∧ 64 ≤ v ∧ v < 16384) ∨ (t = 128 ∧ k = 3 ∧ 16384 ≤ v ∧ v < 1073741824) ∨ (t = 192 ∧ k = 7 ∧ 1073741824 ≤ v)) := by
  unfold put
  split
  · exact ⟨0, 0, by simp [low], by simp; omega, by omega⟩
  · split
    · exact ⟨64, 1, by simp [low], by simp; omega, by omega⟩
    · split
      · exact ⟨128, 3, rfl, by simp; omega, by omega⟩
      · exact ⟨192, 7, rfl, by simp; omega, by omega⟩
theorem put_less (a b : Nat) (hab : a ≤ b) (hb : b < 4611686018427387904) : Op.bytesLess (put a) (put b) = decide (a < b) := by
  by_cases h : a = b
  · subst h
    rw [less_self]; simp
  · rw [decide_eq_true (show a < b by omega)]
    obtain ⟨t, k, e1, l1, c1⟩ := put_parts a (by omega)
    obtain ⟨s, j, e2, l2, c2⟩ := put_parts b hb
    rw [e1, e2]
    by_cases hts : t = s
    · have hkj : k = j := by omega
      subst hts hkj
      exact top_less t a b k (by omega) (by omega)
    · refine less_head _ _ ?_
      rw [UInt8.toNat_ofNat', UInt8.toNat_ofNat']
      generalize a / 256 ^ k = P at *
      generalize b / 256 ^ j = Q at *
      rw [Nat.mod_eq_of_lt (by omega), Nat.mod_eq_of_lt (by omega)]
      omega
theorem size_mono (a b : Nat) (hab : a ≤ b) (hb : b < 4611686018427387904) : size a ≤ size b := by
  unfold size
  repeat' split
  all_goals omega
end Go.Proofs.Ytcimcldmkaggnaa.Va
