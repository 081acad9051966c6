/- Plain laws on seals: what is packed opens; one byte turned does not; sizes. No program is walked here. -/
import Derived.Test.YtecomgojaggpbaaOpenWalks
import Derived.Test.YtecomgojaggpbaaPnumBackW
import Derived.Test.YtecomgojaggpbaaPnumSizesW
namespace Go.Proofs.Ytecomgojaggpbaa
set_option linter.unusedVariables false
open Crc Pn

theorem partOf_low (s p : Nat) (hs : 1 ≤ s ∧ s ≤ 4) (hp : p < 256 ^ s) : partOf (low p s) = p := by
  rcases (show s = 1 ∨ s = 2 ∨ s = 3 ∨ s = 4 by omega) with rfl | rfl | rfl | rfl
  all_goals
    simp [low, partOf, bt] at hp ⊢
    omega

theorem sealed_length (xs : List UInt8) : (sealed xs).length = xs.length + 4 := by unfold sealed; rw [List.length_append]; rfl
theorem take_sealed (xs : List UInt8) : (sealed xs).take xs.length = xs := by unfold sealed; rw [List.take_append_of_le_length (Nat.le_refl _), List.take_length]

theorem open_sealed (s p : Nat) (xs : List UInt8) (nx : Int) (hs : 1 ≤ s ∧ s ≤ 4) (hp : p < 256 ^ s) (hx : 1 ≤ xs.length) (hl : xs.length + s ≤ 1195) :
    openOf (sealed (hd s p ++ xs)) nx = some (wholeOf p s (lim nx), xs) := by
  have hb : (hd s p ++ xs).length = 1 + s + xs.length := by rw [List.length_append, hd_length]
  have hlen : (sealed (hd s p ++ xs)).length = 1 + s + xs.length + 4 := by rw [sealed_length, hb]
  have h0 : ((sealed (hd s p ++ xs)).getD 0 0).toNat = 63 + s := by
    show (UInt8.ofNat (63 + s)).toNat = 63 + s
    rw [UInt8.toNat_ofNat']; omega
  have ht : (sealed (hd s p ++ xs)).take ((sealed (hd s p ++ xs)).length - 4) = hd s p ++ xs := by
    rw [hlen, show 1 + s + xs.length + 4 - 4 = (hd s p ++ xs).length from by rw [hb]; omega, take_sealed]
  unfold openOf
  rw [h0, ht, hlen, if_neg (by omega), if_neg (by intro h; rcases h with h | h; omega; exact h rfl), show 63 + s - 63 = s from by omega]
  have e1 : ((sealed (hd s p ++ xs)).drop 1).take s = low p s := by
    unfold sealed hd
    simp only [List.cons_append, List.drop_succ_cons, List.drop_zero, List.append_assoc]
    rw [List.take_append_of_le_length (by rw [low_length]; omega), List.take_of_length_le (by rw [low_length]; omega)]
  have e2 : (hd s p ++ xs).drop (1 + s) = xs := by
    rw [← hd_length s p, List.drop_left]
  rw [e1, e2, partOf_low s p hs hp]

theorem win_pow (s : Nat) (hs : 1 ≤ s ∧ s ≤ 4) : win s = (256 ^ s : Nat) := by
  rcases (show s = 1 ∨ s = 2 ∨ s = 3 ∨ s = 4 by omega) with rfl | rfl | rfl | rfl <;> rfl

/-- what Pack makes, where it makes something -/
theorem pack_some {a nx : Int} {xs ys : List UInt8} (ha : 0 ≤ a) (h : pack a nx xs = some ys) :
    a ≤ 4611686018427387903 ∧ ∃ s p : Nat, szOf a nx = (s : Int) ∧ cutOf a s = (p : Int) ∧ 1 ≤ s ∧ s ≤ 4 ∧ p < 256 ^ s ∧ 1 ≤ xs.length ∧ xs.length + s ≤ 1195 ∧ ys = sealed (hd s p ++ xs) := by
  unfold pack at h
  split at h
  · cases h
  · rename_i hc
    have hb := szOf_bd a nx
    obtain ⟨s, hs⟩ : ∃ s : Nat, szOf a nx = (s : Int) := ⟨_, (Int.toNat_of_nonneg (by omega)).symm⟩
    rw [hs, Int.toNat_natCast] at hc
    rw [hs] at h
    have hcl := cut_lt a s ha
    rw [hs] at hb
    rw [win_pow s (by omega)] at hcl
    obtain ⟨p, hp⟩ : ∃ p : Nat, cutOf a s = (p : Int) := ⟨_, (Int.toNat_of_nonneg hcl.1).symm⟩
    rw [hp, Int.toNat_natCast, Int.toNat_natCast] at h
    rw [hp] at hcl
    exact ⟨by omega, s, p, hs, hp, by omega, by omega, by omega, by omega, by omega, (Option.some.inj h).symm⟩
theorem pack_none {a nx : Int} {xs : List UInt8} (ham : a ≤ 4611686018427387903) (h : pack a nx xs = none) : xs.length = 0 ∨ 1190 < xs.length := by
  unfold pack at h
  split at h
  · rename_i hc
    have hb := szOf_bd a nx
    omega
  · cases h
theorem pack_length {a nx : Int} {xs ys : List UInt8} (ha : 0 ≤ a) (h : pack a nx xs = some ys) : (ys.length : Int) = xs.length + 5 + szOf a nx := by
  obtain ⟨_, s, p, hs, hp, _, _, _, _, _, rfl⟩ := pack_some ha h
  rw [sealed_length, List.length_append, hd_length, hs]; omega
theorem pack_is {a nx : Int} {xs : List UInt8} (ham : a ≤ 4611686018427387903) (h0 : 0 < xs.length) (h1 : xs.length ≤ 1190) : ∃ ys, pack a nx xs = some ys := by
  cases h : pack a nx xs with
  | none => have := pack_none ham h; omega
  | some ys => exact ⟨ys, rfl⟩

/-- packed, it opens -/
theorem open_pack {a f n : Int} {xs ys : List UInt8} (ha : 0 ≤ a) (ham : a ≤ 4611686018427387903) (hf : 0 ≤ f) (hf2 : f ≤ 2147483648) (hfa : f ≤ a) (hn : 0 ≤ n) (hnf : n ≤ f) (h : pack a (a - f) xs = some ys) :
    openOf ys (a - f + n) = some (a, xs) ∧ openOf ys (a + 1) = some (a, xs) := by
  obtain ⟨_, s, p, hs, hp, h1, h2, h3, h4, h5, rfl⟩ := pack_some ha h
  rw [open_sealed s p xs _ ⟨h1, h2⟩ h3 h4 h5, open_sealed s p xs _ ⟨h1, h2⟩ h3 h4 h5]
  have e1 := back_plain a f n ha ham hf hf2 hfa hn hnf
  have e2 := back_plain1 a f ha ham hf hf2 hfa
  rw [hs, hp] at e1 e2
  rw [e1, e2]
  exact ⟨rfl, rfl⟩
theorem open_pack_any {a nx : Int} {xs ys : List UInt8} (ha : 0 ≤ a) (h : pack a nx xs = some ys) : ∃ m, openOf ys nx = some (m, xs) := by
  obtain ⟨_, s, p, hs, hp, h1, h2, h3, h4, h5, rfl⟩ := pack_some ha h
  exact ⟨_, open_sealed s p xs _ ⟨h1, h2⟩ h3 h4 h5⟩

theorem tail4_inj (s t : Nat) (hs : s < 4294967296) (ht : t < 4294967296) (h : tail4 s = tail4 t) : s = t := by
  have hp : ∀ s : Nat, s < 4294967296 → partOf (tail4 s).reverse = s := fun s hs => by
    simp [tail4, partOf]
    omega
  rw [← hp s hs, h, hp t ht]

theorem open_not {zs : List UInt8} {nx : Int} (h : sealed (zs.take (zs.length - 4)) ≠ zs) : openOf zs nx = none := by
  unfold openOf
  split
  · rfl
  · rw [if_pos (.inr h)]

/-- one byte turned, it does not -/
theorem open_turned (body : List UInt8) (i : Nat) (b : UInt8) (nx : Int) (hi : i < (sealed body).length) (hb : b ≠ (sealed body)[i]'hi) : openOf ((sealed body).set i b) nx = none := by
  apply open_not
  have hl : ((sealed body).set i b).length - 4 = body.length := by rw [List.length_set, sealed_length]; omega
  rw [hl]
  intro h
  by_cases hn : i < body.length
  · have e1 : ((sealed body).set i b).take body.length = body.set i b := by
      rw [List.take_set, take_sealed]
    have e2 : (sealed body).set i b = body.set i b ++ tail4 (sum body) := by
      unfold sealed; rw [List.set_append_left _ _ hn]
    rw [e1, e2] at h
    have h3 : tail4 (sum (body.set i b)) = tail4 (sum body) := by
      have := List.append_inj_right h rfl
      exact this
    have h4 := tail4_inj _ _ (sum_lt _) (sum_lt _) h3
    have e3 : body.set i b = body.take i ++ b :: body.drop (i + 1) := List.set_eq_take_append_cons_drop .. |>.trans (if_pos hn)
    have e4 : body = body.take i ++ (body[i]'hn) :: body.drop (i + 1) := by
      rw [List.getElem_cons_drop, List.take_append_drop]
    rw [e3] at h4
    have h5 : sum (body.take i ++ b :: body.drop (i + 1)) = sum (body.take i ++ (body[i]'hn) :: body.drop (i + 1)) := by rw [h4, ← e4]
    have h6 := sum_turn _ _ _ _ h5
    apply hb
    rw [h6]
    have e5 : (body ++ tail4 (sum body))[i]'hi = body[i] := List.getElem_append_left hn
    exact e5.symm
  · have e1 : ((sealed body).set i b).take body.length = body := by
      rw [List.take_set_of_le (by omega), take_sealed]
    rw [e1] at h
    apply hb
    have := congrArg (fun l => l[i]?) h
    simp only [List.getElem?_set_self hi] at this
    rw [List.getElem?_eq_getElem hi] at this
    exact (Option.some.inj this).symm

theorem sum_set (xs : List UInt8) (i : Nat) (b : UInt8) (hi : i < xs.length) (h : sum (xs.set i b) = sum xs) : b = xs[i] := by
  have e3 : xs.set i b = xs.take i ++ b :: xs.drop (i + 1) := List.set_eq_take_append_cons_drop .. |>.trans (if_pos hi)
  have e4 : xs = xs.take i ++ xs[i] :: xs.drop (i + 1) := by
    rw [List.getElem_cons_drop, List.take_append_drop]
  rw [e3] at h
  have h5 : sum (xs.take i ++ b :: xs.drop (i + 1)) = sum (xs.take i ++ xs[i] :: xs.drop (i + 1)) := by rw [h, ← e4]
  exact sum_turn _ _ _ _ h5
end Go.Proofs.Ytecomgojaggpbaa
