/- Plain facts on packet numbers: windows, sizes, parts and wholes. No program in sight. -/
namespace Go.Proofs.Ytecomgojaggpbaa.Pn
def win (s : Int) : Int := if s = 1 then 256 else if s = 2 then 65536 else if s = 3 then 16777216 else 4294967296
def szOf (a b : Int) : Int := if a < b then 4 else if 2 * (a - b) < 256 then 1 else if 2 * (a - b) < 65536 then 2 else if 2 * (a - b) < 16777216 then 3 else 4
def cutOf (a s : Int) : Int := a % win s
def most : Int := 4611686018427387903
def wholeOf (p s nx : Int) : Int :=
  if (nx - nx % win s + p % win s) + win s / 2 ≤ nx ∧ (nx - nx % win s + p % win s) + win s ≤ most then nx - nx % win s + p % win s + win s
  else if nx + win s / 2 < nx - nx % win s + p % win s ∧ win s ≤ nx - nx % win s + p % win s then nx - nx % win s + p % win s - win s
  else nx - nx % win s + p % win s
def lim (nx : Int) : Int := if nx < most then nx else most

theorem win_cases (s : Int) : (s = 1 ∧ win s = 256) ∨ (s = 2 ∧ win s = 65536) ∨ (s = 3 ∧ win s = 16777216) ∨ (s ≠ 1 ∧ s ≠ 2 ∧ s ≠ 3 ∧ win s = 4294967296) := by
  unfold win; split
  · left; exact ⟨by assumption, rfl⟩
  · split
    · right; left; exact ⟨by assumption, rfl⟩
    · split
      · right; right; left; exact ⟨by assumption, rfl⟩
      · right; right; right; exact ⟨by assumption, by assumption, by assumption, rfl⟩

theorem whole_back (a b s : Int) (h0 : 0 ≤ b) (hb : b ≤ most) (ha : 0 ≤ a) (ham : a ≤ most) (h1 : a - b ≤ win s / 2) (h2 : b - a < win s / 2) : wholeOf (a % win s) s b = a := by
  unfold wholeOf most at *
  rcases win_cases s with ⟨_, h⟩ | ⟨_, h⟩ | ⟨_, h⟩ | ⟨_, _, _, h⟩ <;> rw [h] at h1 h2 ⊢ <;> split <;> try split
  all_goals omega

theorem szOf_spec (a b : Int) (h : b ≤ a) (hf : a - b ≤ 2147483648) : a - b ≤ win (szOf a b) / 2 - (if szOf a b = 4 then 0 else 1) := by
  unfold szOf
  rw [if_neg (by omega)]
  split
  · simp [win]; omega
  · split
    · simp [win]; omega
    · split
      · simp [win]; omega
      · simp [win]; omega
end Go.Proofs.Ytecomgojaggpbaa.Pn
