/- Numbers as bytes, plainly: sizes, bytes, and what bytes tell. No program in sight. -/
namespace Go.Proofs.Ytcimcldmkaggnaa.Va

def size (v : Nat) : Nat := if v < 64 then 1 else if v < 16384 then 2 else if v < 1073741824 then 4 else if v < 4611686018427387904 then 8 else 0
def bt (p k : Nat) : UInt8 := UInt8.ofNat (p / 256 ^ k)
def low (p : Nat) : Nat → List UInt8
  | 0 => []
  | k + 1 => bt p k :: low p k
theorem low_length (p k : Nat) : (low p k).length = k := by
  induction k with
  | zero => rfl
  | succ k ih => simp [low, ih]
def put (v : Nat) : List UInt8 :=
  if v < 64 then [UInt8.ofNat v]
  else if v < 16384 then UInt8.ofNat (64 + v / 256) :: low v 1
  else if v < 1073741824 then UInt8.ofNat (128 + v / 16777216) :: low v 3
  else UInt8.ofNat (192 + v / 72057594037927936) :: low v 7
def fold (v : Nat) (l : List UInt8) : Nat := l.foldl (fun v b => v * 256 + b.toNat) v
def width (x : Nat) : Nat := if x < 64 then 1 else if x < 128 then 2 else if x < 192 then 4 else 8
def get (xs : List UInt8) : Option (Nat × Nat) :=
  match xs with
  | [] => none
  | x :: r => if (x :: r).length < width x.toNat then none else some (fold (x.toNat % 64) (r.take (width x.toNat - 1)), width x.toNat)

theorem put_length (v : Nat) (h : v < 4611686018427387904) : (put v).length = size v := by
  unfold put size
  repeat' split
  all_goals first | rfl | omega

theorem fold_append (v : Nat) (l m : List UInt8) : fold v (l ++ m) = fold (fold v l) m := by unfold fold; rw [List.foldl_append]
theorem fold_snoc (v : Nat) (l : List UInt8) (b : UInt8) : fold v (l ++ [b]) = fold v l * 256 + b.toNat := by rw [fold_append]; rfl
theorem fold_lt (l : List UInt8) : ∀ v : Nat, fold v l < (v + 1) * 256 ^ l.length := by
  induction l with
  | nil => intro v; simp [fold]
  | cons b l ih =>
    intro v
    have h := ih (v * 256 + b.toNat)
    have hb := b.toNat_lt
    show fold (v * 256 + b.toNat) l < _
    rw [List.length_cons, Nat.pow_succ, Nat.mul_comm (256 ^ l.length) 256, ← Nat.mul_assoc]
    exact Nat.lt_of_lt_of_le h (Nat.mul_le_mul_right _ (by omega))

/-- what was put is got, whatever stands behind it -/
theorem get_put (v : Nat) (hv : v < 4611686018427387904) (more : List UInt8) : get (put v ++ more) = some (v, size v) := by
  unfold put size
  split
  · rename_i h
    have e : (UInt8.ofNat v).toNat = v := by rw [UInt8.toNat_ofNat']; omega
    have hw : width v = 1 := by unfold width; rw [if_pos h]
    simp only [get, List.cons_append, List.nil_append, e, hw]
    rw [if_neg (by simp)]
    simp [fold]; omega
  · split
    · rename_i h0 h
      have e : (UInt8.ofNat (64 + v / 256)).toNat = 64 + v / 256 := by rw [UInt8.toNat_ofNat']; omega
      have hw : width (64 + v / 256) = 2 := by unfold width; rw [if_neg (by omega), if_pos (by omega)]
      simp only [get, List.cons_append, e, hw, low]
      rw [if_neg (by simp)]
      simp [fold, bt]; omega
    · split
      · rename_i h0 h1 h
        have e : (UInt8.ofNat (128 + v / 16777216)).toNat = 128 + v / 16777216 := by rw [UInt8.toNat_ofNat']; omega
        have hw : width (128 + v / 16777216) = 4 := by unfold width; rw [if_neg (by omega), if_neg (by omega), if_pos (by omega)]
        simp only [get, List.cons_append, e, hw, low]
        rw [if_neg (by simp)]
        simp [fold, bt]; omega
      · rename_i h0 h1 h2
        have e : (UInt8.ofNat (192 + v / 72057594037927936)).toNat = 192 + v / 72057594037927936 := by rw [UInt8.toNat_ofNat']; omega
        have hw : width (192 + v / 72057594037927936) = 8 := by unfold width; rw [if_neg (by omega), if_neg (by omega), if_neg (by omega)]
        simp only [get, List.cons_append, e, hw, low]
        rw [if_neg (by simp)]
        simp [fold, bt]; omega
end Go.Proofs.Ytcimcldmkaggnaa.Va
