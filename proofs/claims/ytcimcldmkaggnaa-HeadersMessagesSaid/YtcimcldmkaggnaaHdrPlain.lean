/- Headers as bytes, plainly: numbers, texts, lines, and what bytes tell. No program in sight. -/
import Derived.Test.YtcimcldmkaggnaaVarMore
namespace Go.Proofs.Ytcimcldmkaggnaa.Hd
set_option linter.unusedVariables false
set_option linter.unusedSimpArgs false

/-- digits of base 128, low first; every one but the last bears 128 -/
def digitsF : Nat → Nat → List UInt8
  | 0, v => [UInt8.ofNat v]
  | f + 1, v => if v < 128 then [UInt8.ofNat v] else UInt8.ofNat (v % 128 + 128) :: digitsF f (v / 128)
def digits (v : Nat) : List UInt8 := digitsF v v
theorem digitsF_eq : ∀ f g v, v ≤ f → v ≤ g → digitsF f v = digitsF g v := by
  intro f
  induction f with
  | zero =>
    intro g v h _
    obtain rfl : v = 0 := by omega
    cases g <;> simp [digitsF]
  | succ f ih =>
    intro g v h1 h2
    cases g with
    | zero =>
      obtain rfl : v = 0 := by omega
      simp [digitsF]
    | succ g =>
      simp only [digitsF]
      by_cases h : v < 128
      · rw [if_pos h, if_pos h]
      · rw [if_neg h, if_neg h, ih g (v / 128) (by omega) (by omega)]
theorem digits_snoc (v : Nat) (h : 128 ≤ v) : digits v = UInt8.ofNat (v % 128 + 128) :: digits (v / 128) := by
  unfold digits
  obtain ⟨k, rfl⟩ : ∃ k, v = k + 1 := ⟨v - 1, by omega⟩
  rw [show digitsF (k + 1) (k + 1) = UInt8.ofNat ((k + 1) % 128 + 128) :: digitsF k ((k + 1) / 128) from if_neg (by omega)]
  rw [digitsF_eq k _ _ (by omega) (Nat.le_refl _)]
theorem digits_last (v : Nat) (h : v < 128) : digits v = [UInt8.ofNat v] := by
  unfold digits
  cases v with
  | zero => rfl
  | succ k => exact if_pos h
def num (lead k v : Nat) : List UInt8 := if v < 2 ^ k - 1 then [UInt8.ofNat (lead + v)] else UInt8.ofNat (lead + (2 ^ k - 1)) :: digits (v - (2 ^ k - 1))
def text (lead k : Nat) (s : List UInt8) : List UInt8 := num lead k s.length ++ s
theorem digits_length (v : Nat) : 1 ≤ (digits v).length := by
  by_cases h : v < 128
  · rw [digits_last v h]; exact Nat.le_refl _
  · rw [digits_snoc v (by omega), List.length_cons]; omega
theorem digits_two (v : Nat) (h : v < 16384) : (digits v).length ≤ 2 := by
  by_cases h1 : v < 128
  · rw [digits_last v h1]; exact (by decide : 1 ≤ 2)
  · rw [digits_snoc v (by omega), digits_last (v / 128) (by omega)]; exact Nat.le_refl 2

def bl (s : ByteArray) : List UInt8 := s.data.toList
theorem bl_length (s : ByteArray) : (bl s).length = s.size := by unfold bl ByteArray.size; exact Array.length_toList
def sl (l : List UInt8) : ByteArray := ⟨l.toArray⟩
theorem bl_sl (l : List UInt8) : bl (sl l) = l := by simp [bl, sl]
theorem sl_bl (s : ByteArray) : sl (bl s) = s := by simp [bl, sl]
theorem sl_size (l : List UInt8) : (sl l).size = l.length := by unfold sl ByteArray.size; exact List.size_toArray

abbrev H := ByteArray × ByteArray
def tab : List H := [
  (⟨#[58, 97, 117, 116, 104, 111, 114, 105, 116, 121]⟩, ⟨#[]⟩),
  (⟨#[58, 112, 97, 116, 104]⟩, ⟨#[47]⟩),
  (⟨#[97, 103, 101]⟩, ⟨#[48]⟩),
  (⟨#[99, 111, 110, 116, 101, 110, 116, 45, 100, 105, 115, 112, 111, 115, 105, 116, 105, 111, 110]⟩, ⟨#[]⟩),
  (⟨#[99, 111, 110, 116, 101, 110, 116, 45, 108, 101, 110, 103, 116, 104]⟩, ⟨#[48]⟩),
  (⟨#[99, 111, 111, 107, 105, 101]⟩, ⟨#[]⟩),
  (⟨#[100, 97, 116, 101]⟩, ⟨#[]⟩),
  (⟨#[101, 116, 97, 103]⟩, ⟨#[]⟩),
  (⟨#[105, 102, 45, 109, 111, 100, 105, 102, 105, 101, 100, 45, 115, 105, 110, 99, 101]⟩, ⟨#[]⟩),
  (⟨#[105, 102, 45, 110, 111, 110, 101, 45, 109, 97, 116, 99, 104]⟩, ⟨#[]⟩),
  (⟨#[108, 97, 115, 116, 45, 109, 111, 100, 105, 102, 105, 101, 100]⟩, ⟨#[]⟩),
  (⟨#[108, 105, 110, 107]⟩, ⟨#[]⟩),
  (⟨#[108, 111, 99, 97, 116, 105, 111, 110]⟩, ⟨#[]⟩),
  (⟨#[114, 101, 102, 101, 114, 101, 114]⟩, ⟨#[]⟩),
  (⟨#[115, 101, 116, 45, 99, 111, 111, 107, 105, 101]⟩, ⟨#[]⟩),
  (⟨#[58, 109, 101, 116, 104, 111, 100]⟩, ⟨#[67, 79, 78, 78, 69, 67, 84]⟩),
  (⟨#[58, 109, 101, 116, 104, 111, 100]⟩, ⟨#[68, 69, 76, 69, 84, 69]⟩),
  (⟨#[58, 109, 101, 116, 104, 111, 100]⟩, ⟨#[71, 69, 84]⟩),
  (⟨#[58, 109, 101, 116, 104, 111, 100]⟩, ⟨#[72, 69, 65, 68]⟩),
  (⟨#[58, 109, 101, 116, 104, 111, 100]⟩, ⟨#[79, 80, 84, 73, 79, 78, 83]⟩),
  (⟨#[58, 109, 101, 116, 104, 111, 100]⟩, ⟨#[80, 79, 83, 84]⟩),
  (⟨#[58, 109, 101, 116, 104, 111, 100]⟩, ⟨#[80, 85, 84]⟩),
  (⟨#[58, 115, 99, 104, 101, 109, 101]⟩, ⟨#[104, 116, 116, 112]⟩),
  (⟨#[58, 115, 99, 104, 101, 109, 101]⟩, ⟨#[104, 116, 116, 112, 115]⟩),
  (⟨#[58, 115, 116, 97, 116, 117, 115]⟩, ⟨#[49, 48, 51]⟩),
  (⟨#[58, 115, 116, 97, 116, 117, 115]⟩, ⟨#[50, 48, 48]⟩),
  (⟨#[58, 115, 116, 97, 116, 117, 115]⟩, ⟨#[51, 48, 52]⟩),
  (⟨#[58, 115, 116, 97, 116, 117, 115]⟩, ⟨#[52, 48, 52]⟩),
  (⟨#[58, 115, 116, 97, 116, 117, 115]⟩, ⟨#[53, 48, 51]⟩),
  (⟨#[97, 99, 99, 101, 112, 116]⟩, ⟨#[42, 47, 42]⟩)]
def wholeAt (h : H) : Option Nat := tab.findIdx? fun x => decide (x = h)
def nameAt (n : ByteArray) : Option Nat := tab.findIdx? fun x => decide (x.1 = n)
def line (h : H) : List UInt8 :=
  match wholeAt h with
  | some i => num 192 6 i
  | none => match nameAt h.1 with
    | some j => num 80 4 j ++ text 0 7 (bl h.2)
    | none => text 32 3 (bl h.1) ++ text 0 7 (bl h.2)
def enc (hs : List H) : List UInt8 := 0 :: 0 :: hs.flatMap line

def goodH (h : H) : Bool := decide (1 ≤ h.1.size ∧ h.1.size ≤ 60 ∧ h.2.size ≤ 200)
def good (hs : List H) : Bool := decide (hs.length ≤ 20) && hs.all goodH

def count (k : Nat) : List UInt8 → Option (Nat × List UInt8)
  | [] => none
  | x :: r =>
    if x.toNat % 2 ^ k < 2 ^ k - 1 then some (x.toNat % 2 ^ k, r)
    else match r with
      | [] => none
      | y :: r' =>
        if y.toNat < 128 then some (2 ^ k - 1 + y.toNat, r')
        else match r' with
          | [] => none
          | z :: r'' => if z.toNat < 128 then some (2 ^ k - 1 + y.toNat % 128 + z.toNat * 128, r'') else none
def taken (k : Nat) (b : List UInt8) : Option (List UInt8 × List UInt8) :=
  match count k b with
  | none => none
  | some (n, r) => if n ≤ r.length then some (r.take n, r.drop n) else none
def value (b : List UInt8) : Option (List UInt8 × List UInt8) :=
  match b with
  | [] => none
  | x :: r => if x.toNat < 128 then taken 7 (x :: r) else none
def named (n : ByteArray) (b : List UInt8) : Option (H × List UInt8) :=
  match value b with
  | none => none
  | some (v, r) => some ((n, sl v), r)
def next (b : List UInt8) : Option (H × List UInt8) :=
  match b with
  | [] => none
  | x :: r =>
    if 192 ≤ x.toNat then match count 6 (x :: r) with
      | none => none
      | some (n, r') => match tab[n]? with
        | none => none
        | some h => some (h, r')
    else if x.toNat / 16 = 5 then match count 4 (x :: r) with
      | none => none
      | some (n, r') => match tab[n]? with
        | none => none
        | some h => named h.1 r'
    else if x.toNat / 8 = 4 then match taken 3 (x :: r) with
      | none => none
      | some (s, r') => named (sl s) r'
    else none
def linesF : Nat → List UInt8 → Option (List H)
  | _, [] => some []
  | 0, _ :: _ => none
  | f + 1, x :: r => match next (x :: r) with
    | none => none
    | some (h, r') => match linesF f r' with
      | none => none
      | some hs => some (h :: hs)
def lines (b : List UInt8) : Option (List H) := linesF b.length b
def dec (b : List UInt8) : Option (List H) :=
  match b with
  | x :: y :: r => if x = 0 ∧ y = 0 then match lines r with
      | none => none
      | some hs => if good hs then some hs else none
    else none
  | _ => none

open Va
def frm (k : Nat) (b : List UInt8) : List UInt8 := put k ++ put b.length ++ b
def msg (hs : List H) (body : List UInt8) : List UInt8 := frm 1 (enc hs) ++ (if body = [] then [] else frm 0 body)
def first (b : List UInt8) : Option (Nat × List UInt8 × List UInt8) :=
  match get b with
  | none => none
  | some (k, i) => match get (b.drop i) with
    | none => none
    | some (n, j) => if n ≤ (b.drop (i + j)).length then some (k, (b.drop (i + j)).take n, (b.drop (i + j)).drop n) else none
def bodiesF : Nat → List UInt8 → Option (List UInt8)
  | _, [] => some []
  | 0, _ :: _ => none
  | f + 1, x :: r => match first (x :: r) with
    | none => none
    | some (k, b, r') => if 0 < k ∧ k < 10 then none else match bodiesF f r' with
      | none => none
      | some bs => some (if k = 0 then b ++ bs else bs)
def bodies (b : List UInt8) : Option (List UInt8) := bodiesF b.length b
/-- headers, body, error -/
def parse (b : List UInt8) : List H × List UInt8 × Int :=
  match first b with
  | none => ([], [], 201)
  | some (k, h, r) => if k = 1 then match bodies r with
      | none => ([], [], 201)
      | some body => match dec h with
        | none => ([], [], 200)
        | some hs => (hs, body, 0)
    else ([], [], 201)

/-! what is consumed -/
theorem count_lt {k : Nat} {b r : List UInt8} {n : Nat} (h : count k b = some (n, r)) : r.length < b.length := by
  unfold count at h
  split at h
  · cases h
  · split at h
    · injection h with h; injection h with h1 h2; subst h2; simp
    · split at h
      · cases h
      · split at h
        · injection h with h; injection h with h1 h2; subst h2; simp; omega
        · split at h
          · cases h
          · split at h
            · injection h with h; injection h with h1 h2; subst h2; simp; omega
            · cases h
theorem taken_lt {k : Nat} {b s r : List UInt8} (h : taken k b = some (s, r)) : r.length < b.length := by
  unfold taken at h
  split at h
  · cases h
  · rename_i n r' hc
    split at h
    · injection h with h; injection h with h1 h2; subst h2
      have := count_lt hc
      rw [List.length_drop]; omega
    · cases h
theorem value_lt {b s r : List UInt8} (h : value b = some (s, r)) : r.length < b.length := by
  unfold value at h
  split at h
  · cases h
  · split at h
    · exact taken_lt h
    · cases h
theorem named_lt {n : ByteArray} {b r : List UInt8} {x : H} (h : named n b = some (x, r)) : r.length < b.length := by
  unfold named at h
  split at h
  · cases h
  · rename_i v r' hv
    injection h with h; injection h with h1 h2; subst h2
    exact value_lt hv
theorem next_lt {b r : List UInt8} {x : H} (h : next b = some (x, r)) : r.length < b.length := by
  unfold next at h
  split at h
  · cases h
  · split at h
    · split at h
      · cases h
      · rename_i n r' hc
        split at h
        · cases h
        · injection h with h; injection h with h1 h2; subst h2
          exact count_lt hc
    · split at h
      · split at h
        · cases h
        · rename_i n r' hc
          split at h
          · cases h
          · have := count_lt hc
            have := named_lt h
            omega
      · split at h
        · split at h
          · cases h
          · rename_i s r' hc
            have := taken_lt hc
            have := named_lt h
            omega
        · cases h
theorem linesF_eq : ∀ f g b, b.length ≤ f → b.length ≤ g → linesF f b = linesF g b := by
  intro f
  induction f with
  | zero =>
    intro g b h _
    obtain rfl : b = [] := List.eq_nil_of_length_eq_zero (by omega)
    cases g <;> rfl
  | succ f ih =>
    intro g b h1 h2
    cases b with
    | nil => cases g <;> rfl
    | cons x r =>
      cases g with
      | zero => simp at h2
      | succ g =>
        simp only [linesF]
        split
        · rfl
        · rename_i h r' hn
          have := next_lt hn
          rw [ih g r' (by simp at h1 this; omega) (by simp at h2 this; omega)]
theorem lines_nil : lines [] = some [] := rfl
theorem next_nil : next [] = none := rfl
theorem lines_none {b : List UInt8} (hb : b ≠ []) (h : next b = none) : lines b = none := by
  unfold lines
  cases b with
  | nil => exact absurd rfl hb
  | cons x r => simp only [List.length_cons, linesF, h]
theorem lines_some {b r : List UInt8} {x : H} (h : next b = some (x, r)) : lines b = (lines r).map (x :: ·) := by
  unfold lines
  cases b with
  | nil => cases h
  | cons y t =>
    have hl := next_lt h
    simp only [List.length_cons, linesF, h]
    rw [linesF_eq t.length r.length r (by simp at hl; omega) (Nat.le_refl _)]
    cases linesF r.length r <;> rfl
/-- the round of a reader of lines -/
theorem lines_round {b0 b r : List UInt8} {acc : List H} {x : H} (h0 : lines b0 = (lines b).map (acc ++ ·)) (h : next b = some (x, r)) : lines b0 = (lines r).map ((acc ++ [x]) ++ ·) := by
  rw [h0, lines_some h]
  cases lines r <;> simp
theorem lines_stop {b0 b : List UInt8} {acc : List H} (h0 : lines b0 = (lines b).map (acc ++ ·)) (hb : b ≠ []) (h : next b = none) : lines b0 = none := by
  rw [h0, lines_none hb h]; rfl
theorem lines_end {b0 : List UInt8} {acc : List H} (h0 : lines b0 = (lines []).map (acc ++ ·)) : lines b0 = some acc := by
  rw [h0, lines_nil]; simp

/-! what was put is read -/
theorem u8_of (n : Nat) (h : n < 256) : (UInt8.ofNat n).toNat = n := by rw [UInt8.toNat_ofNat']; omega
theorem pow_two_pos (k : Nat) : 0 < 2 ^ k := Nat.pow_pos (by omega)
theorem count_num {l k v : Nat} (r : List UInt8) (hl : l % 2 ^ k = 0) (hb : l + 2 ^ k ≤ 256) (hv : v < 2 ^ k - 1 + 16384) : count k (num l k v ++ r) = some (v, r) := by
  have hp := pow_two_pos k
  unfold num
  split
  · rename_i h
    have e : (UInt8.ofNat (l + v)).toNat % 2 ^ k = v := by
      rw [u8_of _ (by omega), Nat.add_mod, hl, Nat.zero_add, Nat.mod_mod, Nat.mod_eq_of_lt (by omega)]
    simp only [List.cons_append, List.nil_append, count, e]
    rw [if_pos h]
  · rename_i h
    have e : (UInt8.ofNat (l + (2 ^ k - 1))).toNat % 2 ^ k = 2 ^ k - 1 := by
      rw [u8_of _ (by omega), Nat.add_mod, hl, Nat.zero_add, Nat.mod_mod, Nat.mod_eq_of_lt (by omega)]
    by_cases h1 : v - (2 ^ k - 1) < 128
    · rw [digits_last _ h1]
      simp only [List.cons_append, List.nil_append, count, e, u8_of _ (show v - (2 ^ k - 1) < 256 by omega)]
      rw [if_neg (by omega), if_pos h1]
      congr 2; omega
    · rw [digits_snoc _ (by omega), digits_last _ (by omega)]
      simp only [List.cons_append, List.nil_append, count, e, u8_of _ (show (v - (2 ^ k - 1)) % 128 + 128 < 256 by omega), u8_of _ (show (v - (2 ^ k - 1)) / 128 < 256 by omega)]
      rw [if_neg (by omega), if_neg (by omega), if_pos (by omega)]
      congr 2; omega
theorem taken_text {l k : Nat} (s r : List UInt8) (hl : l % 2 ^ k = 0) (hb : l + 2 ^ k ≤ 256) (hv : s.length < 2 ^ k - 1 + 16384) : taken k (text l k s ++ r) = some (s, r) := by
  unfold text taken
  rw [List.append_assoc, count_num (s ++ r) hl hb hv]
  simp
/-- a number's first byte -/
theorem num_head {l k v : Nat} (hb : l + 2 ^ k ≤ 256) : ∃ x t, num l k v = x :: t ∧ l ≤ x.toNat ∧ x.toNat < l + 2 ^ k := by
  have hp := pow_two_pos k
  unfold num
  split
  · rename_i h
    exact ⟨_, _, rfl, by rw [u8_of _ (by omega)]; omega, by rw [u8_of _ (by omega)]; omega⟩
  · exact ⟨_, _, rfl, by rw [u8_of _ (by omega)]; omega, by rw [u8_of _ (by omega)]; omega⟩
theorem named_text (n : ByteArray) (v r : List UInt8) (hv : v.length ≤ 300) : named n (text 0 7 v ++ r) = some ((n, sl v), r) := by
  have ht := taken_text (l := 0) (k := 7) v r rfl (by decide) (by omega)
  obtain ⟨x, t, hx, h0, h1⟩ := num_head (l := 0) (k := 7) (v := v.length) (by decide)
  have hc : text 0 7 v ++ r = x :: (t ++ v ++ r) := by unfold text; rw [hx]; simp
  rw [hc] at ht ⊢
  unfold named value
  simp only
  rw [if_pos (by omega), ht]
theorem tab_length : tab.length = 30 := by decide +kernel
theorem wholeAt_some {h : H} {i : Nat} (hi : wholeAt h = some i) : i < 30 ∧ tab[i]? = some h := by
  obtain ⟨hl, hp, _⟩ := List.findIdx?_eq_some_iff_getElem.1 hi
  exact ⟨by rw [tab_length] at hl; exact hl, by rw [List.getElem?_eq_getElem hl]; exact congrArg some (of_decide_eq_true hp)⟩
theorem nameAt_some {n : ByteArray} {i : Nat} (hi : nameAt n = some i) : i < 30 ∧ ∃ h, tab[i]? = some h ∧ h.1 = n := by
  obtain ⟨hl, hp, _⟩ := List.findIdx?_eq_some_iff_getElem.1 hi
  exact ⟨by rw [tab_length] at hl; exact hl, _, List.getElem?_eq_getElem hl, of_decide_eq_true hp⟩
theorem next_line (h : H) (r : List UInt8) (h1 : h.1.size ≤ 300) (h2 : h.2.size ≤ 300) : next (line h ++ r) = some (h, r) := by
  have hv : (bl h.2).length ≤ 300 := by rw [bl_length]; exact h2
  have hn : (bl h.1).length ≤ 300 := by rw [bl_length]; exact h1
  unfold line
  split
  · rename_i i hi
    obtain ⟨hi1, hi2⟩ := wholeAt_some hi
    have hc := count_num (l := 192) (k := 6) (v := i) r rfl (by decide) (by omega)
    obtain ⟨x, t, hx, h0, h1⟩ := num_head (l := 192) (k := 6) (v := i) (by decide)
    rw [hx] at hc ⊢
    unfold next
    simp only [List.cons_append] at hc ⊢
    rw [if_pos h0, hc]
    simp only [hi2]
  · split
    · rename_i j hj
      obtain ⟨hj1, hd, hj2, hj3⟩ := nameAt_some hj
      have hc := count_num (l := 80) (k := 4) (v := j) (text 0 7 (bl h.2) ++ r) rfl (by decide) (by omega)
      have hw := named_text hd.1 (bl h.2) r hv
      rw [hj3, sl_bl] at hw
      obtain ⟨x, t, hx, h0, h1⟩ := num_head (l := 80) (k := 4) (v := j) (by decide)
      rw [List.append_assoc]
      rw [hx] at hc ⊢
      unfold next
      simp only [List.cons_append] at hc ⊢
      rw [if_neg (by simp at h1; omega), if_pos (by simp at h1; omega), hc]
      simp only [hj2, hj3]
      exact hw
    · have hc := taken_text (l := 32) (k := 3) (bl h.1) (text 0 7 (bl h.2) ++ r) rfl (by decide) (by simp; omega)
      have hw := named_text (sl (bl h.1)) (bl h.2) r hv
      rw [sl_bl, sl_bl] at hw
      obtain ⟨x, t, hx, h0, h1⟩ := num_head (l := 32) (k := 3) (v := (bl h.1).length) (by decide)
      have hx2 : text 32 3 (bl h.1) = x :: (t ++ bl h.1) := by unfold text; rw [hx]; simp
      rw [List.append_assoc]
      rw [hx2] at hc ⊢
      unfold next
      simp only [List.cons_append] at hc ⊢
      rw [if_neg (by simp at h1; omega), if_neg (by simp at h1; omega), if_pos (by simp at h1; omega), hc]
      simp only [sl_bl]
      exact hw
theorem lines_flat (hs : List H) (r : List UInt8) (hg : ∀ h ∈ hs, h.1.size ≤ 300 ∧ h.2.size ≤ 300) : lines (hs.flatMap line ++ r) = (lines r).map (hs ++ ·) := by
  induction hs with
  | nil => simp
  | cons h hs ih =>
    rw [List.flatMap_cons, List.append_assoc, lines_some (next_line h _ (hg h (by simp)).1 (hg h (by simp)).2), ih fun x hx => hg x (by simp [hx])]
    cases lines r <;> simp
theorem good_sizes {hs : List H} (h : good hs = true) : ∀ x ∈ hs, x.1.size ≤ 300 ∧ x.2.size ≤ 300 := by
  intro x hx
  unfold good at h
  simp only [Bool.and_eq_true, List.all_eq_true] at h
  have := of_decide_eq_true (h.2 x hx)
  omega
theorem dec_join (a b : List H) (ha : ∀ x ∈ a, x.1.size ≤ 300 ∧ x.2.size ≤ 300) (hb : ∀ x ∈ b, x.1.size ≤ 300 ∧ x.2.size ≤ 300) : dec (enc a ++ (enc b).drop 2) = if good (a ++ b) then some (a ++ b) else none := by
  have e : enc a ++ (enc b).drop 2 = 0 :: 0 :: (a.flatMap line ++ (b.flatMap line ++ [])) := by simp [enc]
  rw [e]
  unfold dec
  simp only [and_self, if_true]
  rw [lines_flat a _ ha, lines_flat b [] hb, lines_nil]
  simp
theorem dec_enc (hs : List H) (h : good hs = true) : dec (enc hs) = some hs := by
  have hj := dec_join hs [] (good_sizes h) (by simp)
  have e : enc hs ++ (enc []).drop 2 = enc hs := by simp [enc]
  rw [e, List.append_nil, h] at hj
  exact hj
theorem good_append (a b : List H) (ha : good a = true) (hb : good b = true) : good (a ++ b) = decide (a.length + b.length ≤ 20) := by
  unfold good at *
  simp only [Bool.and_eq_true, List.length_append, List.all_append] at *
  rw [ha.2, hb.2]; simp

/-! lengths -/
theorem num_length (l k v : Nat) (hv : v < 16384) : 1 ≤ (num l k v).length ∧ (num l k v).length ≤ 3 := by
  unfold num
  split
  · simp
  · have h1 := digits_two (v - (2 ^ k - 1)) (by omega)
    have h2 := digits_length (v - (2 ^ k - 1))
    simp only [List.length_cons]; omega
theorem text_length (l k : Nat) (s : List UInt8) (hs : s.length ≤ 300) : 1 ≤ (text l k s).length ∧ (text l k s).length ≤ 303 := by
  have := num_length l k s.length (by omega)
  unfold text
  rw [List.length_append]; omega
theorem line_length (h : H) (h1 : h.1.size ≤ 300) (h2 : h.2.size ≤ 300) : 1 ≤ (line h).length ∧ (line h).length ≤ 606 := by
  have hv : (bl h.2).length ≤ 300 := by rw [bl_length]; exact h2
  have hn : (bl h.1).length ≤ 300 := by rw [bl_length]; exact h1
  have t1 := text_length 0 7 _ hv
  have t2 := text_length 32 3 _ hn
  unfold line
  split
  · rename_i i hi
    have := num_length 192 6 i (by have := (wholeAt_some hi).1; omega)
    omega
  · split
    · rename_i j hj
      have := num_length 80 4 j (by have := (nameAt_some hj).1; omega)
      rw [List.length_append]; omega
    · rw [List.length_append]; omega
theorem flat_length (hs : List H) (hg : ∀ x ∈ hs, x.1.size ≤ 300 ∧ x.2.size ≤ 300) : hs.length ≤ (hs.flatMap line).length ∧ (hs.flatMap line).length ≤ 606 * hs.length := by
  induction hs with
  | nil => simp
  | cons h hs ih =>
    have h1 := line_length h (hg h (by simp)).1 (hg h (by simp)).2
    have h2 := ih fun x hx => hg x (by simp [hx])
    rw [List.flatMap_cons, List.length_append, List.length_cons]; omega
theorem enc_length (hs : List H) (h : good hs = true) : 2 ≤ (enc hs).length ∧ (enc hs).length ≤ 12122 := by
  have h1 := flat_length hs (good_sizes h)
  unfold good at h
  simp only [Bool.and_eq_true, decide_eq_true_eq] at h
  unfold enc
  simp only [List.length_cons]; omega

/-! frames -/
theorem size_small {v : Nat} (h : v < 4611686018427387904) : 1 ≤ size v ∧ size v ≤ 8 := by
  unfold size
  repeat' split
  all_goals omega
theorem first_frm (k : Nat) (b r : List UInt8) (hk : k < 4611686018427387904) (hb : b.length < 4611686018427387904) : first (frm k b ++ r) = some (k, b, r) := by
  unfold first frm
  rw [show put k ++ put b.length ++ b ++ r = put k ++ (put b.length ++ (b ++ r)) by simp, get_put k hk]
  simp only
  rw [← put_length k hk, List.drop_left, get_put b.length hb]
  simp only
  rw [← put_length b.length hb]
  rw [show (put k ++ (put b.length ++ (b ++ r))).drop ((put k).length + (put b.length).length) = b ++ r by
    rw [← List.drop_drop, List.drop_left, List.drop_left]]
  rw [if_pos (by simp)]
  simp
theorem frm_length (k : Nat) (b : List UInt8) (hk : k < 4611686018427387904) (hb : b.length < 4611686018427387904) : (frm k b).length = size k + size b.length + b.length := by
  unfold frm
  rw [List.length_append, List.length_append, put_length k hk, put_length _ hb]
theorem first_lt {b x r : List UInt8} {k : Nat} (h : first b = some (k, x, r)) : r.length < b.length := by
  unfold first at h
  split at h
  · cases h
  · rename_i k' i hi
    have gi := get_some hi
    split at h
    · cases h
    · rename_i n j hj
      have gj := get_some hj
      split at h
      · injection h with h; injection h with h1 h2; injection h2 with h2 h3; subst h3
        rw [List.length_drop, List.length_drop]; omega
      · cases h
theorem bodiesF_eq : ∀ f g b, b.length ≤ f → b.length ≤ g → bodiesF f b = bodiesF g b := by
  intro f
  induction f with
  | zero =>
    intro g b h _
    obtain rfl : b = [] := List.eq_nil_of_length_eq_zero (by omega)
    cases g <;> rfl
  | succ f ih =>
    intro g b h1 h2
    cases b with
    | nil => cases g <;> rfl
    | cons x r =>
      cases g with
      | zero => simp at h2
      | succ g =>
        simp only [bodiesF]
        split
        · rfl
        · rename_i k b r' hn
          have := first_lt hn
          rw [ih g r' (by simp at h1 this; omega) (by simp at h2 this; omega)]
theorem bodies_nil : bodies [] = some [] := rfl
theorem bodies_none {b : List UInt8} (hb : b ≠ []) (h : first b = none) : bodies b = none := by
  unfold bodies
  cases b with
  | nil => exact absurd rfl hb
  | cons x r => simp only [List.length_cons, bodiesF, h]
theorem bodies_bad {b x r : List UInt8} {k : Nat} (h : first b = some (k, x, r)) (hk : 0 < k ∧ k < 10) : bodies b = none := by
  unfold bodies
  cases b with
  | nil => cases h
  | cons y t => simp only [List.length_cons, bodiesF, h, if_pos hk]
theorem bodies_some {b x r : List UInt8} {k : Nat} (h : first b = some (k, x, r)) (hk : ¬ (0 < k ∧ k < 10)) : bodies b = (bodies r).map fun y => if k = 0 then x ++ y else y := by
  unfold bodies
  cases b with
  | nil => cases h
  | cons y t =>
    have hl := first_lt h
    simp only [List.length_cons, bodiesF, h, if_neg hk]
    rw [bodiesF_eq t.length r.length r (by simp at hl; omega) (Nat.le_refl _)]
    cases bodiesF r.length r <;> rfl
theorem bodies_frm (k : Nat) (b r : List UInt8) (hk : k < 4611686018427387904) (hb : b.length < 4611686018427387904) (h : ¬ (0 < k ∧ k < 10)) : bodies (frm k b ++ r) = (bodies r).map fun y => if k = 0 then b ++ y else y :=
  bodies_some (first_frm k b r hk hb) h
theorem parse_frames (hs : List H) (r body : List UInt8) (h : good hs = true) (hb : bodies r = some body) : parse (frm 1 (enc hs) ++ r) = (hs, body, 0) := by
  unfold parse
  rw [first_frm 1 (enc hs) r (by decide) (by have := enc_length hs h; omega)]
  simp only [if_true, hb, dec_enc hs h]
theorem parse_msg (hs : List H) (body : List UInt8) (h : good hs = true) (hb : body.length ≤ 3000) : parse (msg hs body) = (hs, body, 0) := by
  unfold msg
  refine parse_frames hs _ body h ?_
  split
  · rename_i e; subst e; rfl
  · have := bodies_frm 0 body [] (by decide) (by omega) (by omega)
    rw [List.append_nil, bodies_nil] at this
    simpa using this
end Go.Proofs.Ytcimcldmkaggnaa.Hd
