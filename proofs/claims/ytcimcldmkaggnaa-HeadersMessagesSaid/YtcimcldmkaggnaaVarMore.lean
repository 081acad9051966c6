/- What bytes tell when cut short, plainly. No program in sight. -/
import Derived.Test.YtcimcldmkaggnaaVarPlain
namespace Go.Proofs.Ytcimcldmkaggnaa.Va

theorem width_cases (x : Nat) : (width x = 1) ∨ (width x = 2) ∨ (width x = 4) ∨ width x = 8 := by
  unfold width
  repeat' split
  all_goals omega
theorem get_none_short {xs : List UInt8} (h : get xs = none) : xs.length < 8 := by
  cases xs with
  | nil => simp
  | cons x r =>
    unfold get at h
    simp only at h
    split at h
    · have := width_cases x.toNat; omega
    · cases h
theorem get_some {xs : List UInt8} {v n : Nat} (h : get xs = some (v, n)) :
    1 ≤ n ∧ n ≤ 8 ∧ n ≤ xs.length ∧ v < 4611686018427387904 ∧ size v ≤ n ∧ (∀ m, m < n → get (xs.take m) = none) ∧ get (xs.take n) = some (v, n) := by
  cases xs with
  | nil => cases h
  | cons x r =>
    unfold get at h
    simp only at h
    split at h
    · cases h
    · rename_i hl
      injection h with h
      injection h with hv hn
      have hw := width_cases x.toNat
      rw [hn] at hv hw hl
      have hfl := fold_lt (r.take (n - 1)) (x.toNat % 64)
      have hlen : (r.take (n - 1)).length = n - 1 := by rw [List.length_take]; simp at hl; omega
      rw [hlen, hv] at hfl
      have hx : x.toNat % 64 + 1 ≤ 64 := by omega
      have hb : v < 64 * 256 ^ (n - 1) := Nat.lt_of_lt_of_le hfl (Nat.mul_le_mul_right _ hx)
      have hvs : v < 4611686018427387904 ∧ size v ≤ n := by
        unfold size
        rcases hw with rfl | rfl | rfl | rfl
        · have : v < 64 := by simpa using hb
          exact ⟨by omega, by rw [if_pos this]; omega⟩
        · have : v < 16384 := by simpa using hb
          refine ⟨by omega, ?_⟩
          repeat' split
          all_goals omega
        · have : v < 1073741824 := by simpa using hb
          refine ⟨by omega, ?_⟩
          repeat' split
          all_goals omega
        · have : v < 4611686018427387904 := by simpa using hb
          refine ⟨by omega, ?_⟩
          repeat' split
          all_goals omega
      refine ⟨by omega, by omega, by omega, hvs.1, hvs.2, ?_, ?_⟩
      · intro m hm
        cases m with
        | zero => rfl
        | succ m =>
          show get (x :: r.take m) = none
          unfold get
          simp only
          rw [if_pos]
          rw [hn, List.length_cons, List.length_take]
          omega
      · obtain ⟨k, rfl⟩ : ∃ k, n = k + 1 := ⟨n - 1, by omega⟩
        show get (x :: r.take k) = some (v, k + 1)
        unfold get
        simp only
        rw [Nat.add_sub_cancel] at hv hlen
        rw [if_neg (by rw [hn, List.length_cons, hlen]; omega), hn, Nat.add_sub_cancel, List.take_take, Nat.min_self, hv]
end Go.Proofs.Ytcimcldmkaggnaa.Va
