/- Check sums, plainly: the bitwise step, the step by halves of bytes, linearity, and that no step loses anything. No program in sight. -/
namespace Go.Proofs.Ytecomgojaggpbaa.Crc

def poly : Nat := 2197175160
/-- one bit -/
def bit (c : Nat) : Nat := if c % 2 = 1 then (c / 2) ^^^ poly else c / 2
def bit4 (c : Nat) : Nat := bit (bit (bit (bit c)))
/-- one byte, bit by bit -/
def byte (c x : Nat) : Nat := bit4 (bit4 (c ^^^ x))
/-- half a byte, by the table -/
def half (c x : Nat) : Nat := (c / 16) ^^^ bit4 ((c ^^^ x) % 16)
def run (c : Nat) (xs : List UInt8) : Nat := xs.foldl (fun c x => byte c x.toNat) c
def sum (xs : List UInt8) : Nat := 4294967295 ^^^ run 4294967295 xs

theorem bit_xor (a b : Nat) : bit (a ^^^ b) = bit a ^^^ bit b := by
  have e1 : (a ^^^ b) / 2 = a / 2 ^^^ b / 2 := by have := @Nat.xor_div_two_pow a b 1; simpa using this
  have e2 : (a ^^^ b) % 2 = (a % 2) ^^^ (b % 2) := by have := @Nat.xor_mod_two_pow a b 1; simpa using this
  unfold bit
  rw [e1, e2]
  rcases Nat.mod_two_eq_zero_or_one a with ha | ha <;> rcases Nat.mod_two_eq_zero_or_one b with hb | hb <;> rw [ha, hb]
  · simp
  · simp [Nat.xor_assoc]
  · simp; rw [Nat.xor_assoc, Nat.xor_assoc, Nat.xor_comm (b / 2)]
  · simp
    rw [show a / 2 ^^^ poly ^^^ (b / 2 ^^^ poly) = a / 2 ^^^ b / 2 ^^^ (poly ^^^ poly) from by
      rw [Nat.xor_assoc, Nat.xor_assoc, ← Nat.xor_assoc poly, Nat.xor_comm poly (b / 2), Nat.xor_assoc (b / 2)]]
    simp

theorem bit_lt (a : Nat) (h : a < 4294967296) : bit a < 4294967296 := by
  unfold bit
  split
  · exact Nat.xor_lt_two_pow (n := 32) (by omega) (by decide)
  · omega

theorem bit_zero (a : Nat) (h : a < 4294967296) (h0 : bit a = 0) : a = 0 := by
  unfold bit at h0
  split at h0
  · exfalso
    have : a / 2 = poly := by
      have := congrArg (· ^^^ poly) h0
      simpa [Nat.xor_assoc] using this
    unfold poly at this
    omega
  · omega

theorem bit4_xor (a b : Nat) : bit4 (a ^^^ b) = bit4 a ^^^ bit4 b := by
  unfold bit4; rw [bit_xor, bit_xor, bit_xor, bit_xor]
theorem bit4_lt (a : Nat) (h : a < 4294967296) : bit4 a < 4294967296 := bit_lt _ (bit_lt _ (bit_lt _ (bit_lt _ h)))
theorem bit4_zero (a : Nat) (h : a < 4294967296) (h0 : bit4 a = 0) : a = 0 :=
  bit_zero _ h (bit_zero _ (bit_lt _ h) (bit_zero _ (bit_lt _ (bit_lt _ h)) (bit_zero _ (bit_lt _ (bit_lt _ (bit_lt _ h))) h0)))

theorem bit_even (k : Nat) : bit (2 * k) = k := by unfold bit; rw [if_neg (by omega)]; omega
theorem bit4_16 (k : Nat) : bit4 (16 * k) = k := by
  unfold bit4
  rw [show 16 * k = 2 * (2 * (2 * (2 * k))) from by omega, bit_even, bit_even, bit_even, bit_even]

theorem split16 (c : Nat) : c = (16 * (c / 16)) ^^^ (c % 16) := by
  apply Nat.eq_of_testBit_eq
  intro i
  rw [Nat.testBit_xor]
  have e16 : 16 * (c / 16) = (c >>> 4) <<< 4 := by rw [Nat.shiftLeft_eq, Nat.shiftRight_eq_div_pow]; omega
  have em : c % 16 = c % 2 ^ 4 := rfl
  rw [e16, em, Nat.testBit_shiftLeft, Nat.testBit_shiftRight, Nat.testBit_mod_two_pow]
  by_cases h : 4 ≤ i
  · simp [h, show ¬ i < 4 from by omega, show 4 + (i - 4) = i from by omega]
  · simp [h, show i < 4 from by omega]

/-- four bits at once: the table's law -/
theorem bit4_half (c : Nat) : bit4 c = (c / 16) ^^^ bit4 (c % 16) := by
  conv => lhs; rw [split16 c]
  rw [bit4_xor, bit4_16]

theorem xor_div16 (a b : Nat) : (a ^^^ b) / 16 = a / 16 ^^^ b / 16 := by have := @Nat.xor_div_two_pow a b 4; simpa using this

/-- **a byte by halves is a byte bit by bit** -/
theorem byte_halves (c x : Nat) (hx : x < 256) : half (half c x) (x / 16) = byte c x := by
  unfold byte
  have e1 : bit4 (c ^^^ x) = half c x ^^^ (x / 16) := by
    rw [bit4_half (c ^^^ x), xor_div16]
    unfold half
    rw [Nat.xor_assoc, Nat.xor_assoc, Nat.xor_comm (x / 16)]
  rw [e1, bit4_half, xor_div16, show x / 16 / 16 = 0 from by omega, Nat.xor_zero]
  rfl

theorem byte_lt (c x : Nat) (hc : c < 4294967296) (hx : x < 256) : byte c x < 4294967296 :=
  bit4_lt _ (bit4_lt _ (Nat.xor_lt_two_pow (n := 32) hc (by omega)))
theorem half_lt (c x : Nat) (hc : c < 4294967296) : half c x < 4294967296 :=
  Nat.xor_lt_two_pow (n := 32) (by omega) (bit4_lt _ (by omega))
theorem run_lt (xs : List UInt8) : ∀ c, c < 4294967296 → run c xs < 4294967296 := by
  induction xs with
  | nil => intro c h; exact h
  | cons x xs ih => intro c h; exact ih _ (byte_lt _ _ h x.toNat_lt)
theorem sum_lt (xs : List UInt8) : sum xs < 4294967296 := Nat.xor_lt_two_pow (n := 32) (by decide) (run_lt _ _ (by decide))

theorem byte_xor (a b x y : Nat) : byte (a ^^^ b) (x ^^^ y) = byte a x ^^^ byte b y := by
  unfold byte
  rw [← bit4_xor, ← bit4_xor]
  congr 2
  rw [Nat.xor_assoc, Nat.xor_assoc, ← Nat.xor_assoc b, Nat.xor_comm b x, Nat.xor_assoc x]

theorem eq_of_xor {a b : Nat} (h : a ^^^ b = 0) : a = b := by
  have := congrArg (· ^^^ b) h
  simpa [Nat.xor_assoc] using this

theorem byte_inj (a b x y : Nat) (ha : a < 4294967296) (hb : b < 4294967296) (hx : x < 256) (hy : y < 256) (h : byte a x = byte b y) : a ^^^ x = b ^^^ y := by
  unfold byte at h
  have l1 : a ^^^ x < 4294967296 := Nat.xor_lt_two_pow (n := 32) ha (by omega)
  have l2 : b ^^^ y < 4294967296 := Nat.xor_lt_two_pow (n := 32) hb (by omega)
  have l : (a ^^^ x) ^^^ (b ^^^ y) < 4294967296 := Nat.xor_lt_two_pow (n := 32) l1 l2
  have h' : bit4 (bit4 ((a ^^^ x) ^^^ (b ^^^ y))) = 0 := by rw [bit4_xor, bit4_xor, h]; simp
  exact eq_of_xor (bit4_zero _ l (bit4_zero _ (bit4_lt _ l) h'))

theorem run_append (c : Nat) (xs ys : List UInt8) : run c (xs ++ ys) = run (run c xs) ys := by unfold run; rw [List.foldl_append]

/-- **nothing is lost**: behind the same bytes two states are the same only if they were -/
theorem run_inj (ys : List UInt8) : ∀ a b, a < 4294967296 → b < 4294967296 → run a ys = run b ys → a = b := by
  induction ys with
  | nil => intro a b _ _ h; exact h
  | cons y ys ih =>
    intro a b ha hb h
    have h1 := ih _ _ (byte_lt _ _ ha y.toNat_lt) (byte_lt _ _ hb y.toNat_lt) h
    have h2 := byte_inj a b _ _ ha hb y.toNat_lt y.toNat_lt h1
    have := congrArg (· ^^^ y.toNat) h2
    simpa [Nat.xor_assoc] using this

theorem sum_join (xs ys more : List UInt8) : sum (xs ++ more) = sum (ys ++ more) ↔ sum xs = sum ys := by
  have lx := run_lt xs 4294967295 (by decide)
  have ly := run_lt ys 4294967295 (by decide)
  unfold sum
  rw [run_append, run_append]
  constructor
  · intro h
    have h' := congrArg (4294967295 ^^^ ·) h
    simp only [← Nat.xor_assoc, Nat.xor_self, Nat.zero_xor] at h'
    rw [run_inj more _ _ lx ly h']
  · intro h
    have h' := congrArg (4294967295 ^^^ ·) h
    simp only [← Nat.xor_assoc, Nat.xor_self, Nat.zero_xor] at h'
    rw [h']

/-- one byte turned -/
theorem run_turn (c : Nat) (hc : c < 4294967296) (pre post : List UInt8) (x y : UInt8) (h : run c (pre ++ x :: post) = run c (pre ++ y :: post)) : x = y := by
  rw [run_append, run_append] at h
  have l := run_lt pre c hc
  have h1 := run_inj post _ _ (byte_lt _ _ l x.toNat_lt) (byte_lt _ _ l y.toNat_lt) h
  have h2 := byte_inj _ _ _ _ l l x.toNat_lt y.toNat_lt h1
  have := congrArg (run c pre ^^^ ·) h2
  simp only [← Nat.xor_assoc, Nat.xor_self, Nat.zero_xor] at this
  exact UInt8.toNat_inj.1 this
theorem sum_turn (pre post : List UInt8) (x y : UInt8) (h : sum (pre ++ x :: post) = sum (pre ++ y :: post)) : x = y := by
  unfold sum at h
  have h' := congrArg (4294967295 ^^^ ·) h
  simp only [← Nat.xor_assoc, Nat.xor_self, Nat.zero_xor] at h'
  exact run_turn _ (by decide) pre post x y h'

theorem run_xor (xs : List UInt8) : ∀ (ys : List UInt8) (a b : Nat), xs.length = ys.length → run (a ^^^ b) (List.zipWith (· ^^^ ·) xs ys) = run a xs ^^^ run b ys := by
  induction xs with
  | nil =>
    intro ys a b h
    obtain rfl : ys = [] := List.eq_nil_of_length_eq_zero (by simpa using h.symm)
    rfl
  | cons x xs ih =>
    intro ys a b h
    cases ys with
    | nil => simp at h
    | cons y ys =>
      show run (byte (a ^^^ b) (x ^^^ y).toNat) (List.zipWith (· ^^^ ·) xs ys) = run (byte a x.toNat) xs ^^^ run (byte b y.toNat) ys
      rw [UInt8.toNat_xor, byte_xor]
      exact ih ys _ _ (by simpa using h)

theorem sum_xor3 (xs ys zs : List UInt8) (h1 : xs.length = ys.length) (h2 : xs.length = zs.length) :
    sum (List.zipWith (· ^^^ ·) (List.zipWith (· ^^^ ·) xs ys) zs) = sum xs ^^^ sum ys ^^^ sum zs := by
  unfold sum
  have e1 := run_xor xs ys 4294967295 4294967295 h1
  have e2 := run_xor (List.zipWith (· ^^^ ·) xs ys) zs (4294967295 ^^^ 4294967295) 4294967295 (by simp [h1]; omega)
  rw [e1] at e2
  simp only [Nat.xor_self, Nat.zero_xor] at e2
  rw [e2]
  generalize run 4294967295 xs = a
  generalize run 4294967295 ys = b
  generalize run 4294967295 zs = c
  apply Nat.eq_of_testBit_eq
  intro i
  simp only [Nat.testBit_xor]
  cases Nat.testBit 4294967295 i <;> cases a.testBit i <;> cases b.testBit i <;> cases c.testBit i <;> rfl
end Go.Proofs.Ytecomgojaggpbaa.Crc
