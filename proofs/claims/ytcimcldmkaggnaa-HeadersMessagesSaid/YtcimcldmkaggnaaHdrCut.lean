/- Messages cut short, and bodies in parts, plainly. No program in sight. -/
import Derived.Test.YtcimcldmkaggnaaHdrPlain
namespace Go.Proofs.Ytcimcldmkaggnaa.Hd
set_option linter.unusedVariables false
set_option linter.unusedSimpArgs false
open Va

theorem take_past {α : Type} (a b : List α) (m : Nat) (h : a.length ≤ m) : (a ++ b).take m = a ++ b.take (m - a.length) := by
  rw [List.take_append, List.take_of_length_le h]
theorem get_cut (v : Nat) (hv : v < 4611686018427387904) (more : List UInt8) (m : Nat) (hm : m < size v) : get ((put v ++ more).take m) = none :=
  (get_some (get_put v hv more)).2.2.2.2.2.1 m hm
theorem first_cut (k : Nat) (b r : List UInt8) (hk : k < 4611686018427387904) (hb : b.length < 4611686018427387904) (m : Nat) (hm : m < (frm k b).length) : first ((frm k b ++ r).take m) = none := by
  rw [frm_length k b hk hb] at hm
  have e : frm k b ++ r = put k ++ (put b.length ++ (b ++ r)) := by unfold frm; simp
  rw [e]
  unfold first
  by_cases h1 : m < size k
  · rw [get_cut k hk _ m h1]
  · rw [take_past _ _ _ (by rw [put_length k hk]; omega), get_put k hk]
    simp only
    rw [← put_length k hk, List.drop_left]
    by_cases h2 : m - (put k).length < size b.length
    · rw [get_cut b.length hb _ _ h2]
    · rw [take_past _ _ _ (by rw [put_length b.length hb]; omega), get_put b.length hb]
      simp only
      rw [if_neg]
      rw [← put_length b.length hb, ← List.drop_drop, List.drop_left, List.drop_left, List.length_take, put_length b.length hb, put_length k hk]
      rw [put_length k hk] at h2
      omega
theorem frm_cons (k : Nat) (b : List UInt8) (hk : k < 4611686018427387904) (hb : b.length < 4611686018427387904) : 0 < (frm k b).length := by
  rw [frm_length k b hk hb]
  have := size_small hk
  omega
/-- a message that is cut is none, but where its body begins -/
theorem parse_cut (hs : List H) (body : List UInt8) (hg : good hs = true) (hb : body.length ≤ 3000) (k : Nat) (hk : k < (msg hs body).length) :
    parse ((msg hs body).take k) = ([], [], 201) ∨ (parse ((msg hs body).take k) = (hs, [], 0) ∧ body ≠ []) := by
  have he : (enc hs).length < 4611686018427387904 := by have := enc_length hs hg; omega
  unfold msg at hk ⊢
  by_cases h1 : k < (frm 1 (enc hs)).length
  · left
    unfold parse
    rw [first_cut 1 (enc hs) _ (by omega) he k h1]
  · by_cases hbody : body = []
    · rw [if_pos hbody] at hk
      simp at hk
      omega
    · rw [if_neg hbody] at hk ⊢
      rw [take_past _ _ _ (by omega)]
      rw [List.length_append] at hk
      obtain ⟨j, hj⟩ : ∃ j, k - (frm 1 (enc hs)).length = j := ⟨_, rfl⟩
      rw [hj]
      have hjl : j < (frm 0 body).length := by omega
      by_cases hj0 : j = 0
      · right
        subst hj0
        exact ⟨by rw [List.take_zero]; exact parse_frames hs [] [] hg rfl, hbody⟩
      · left
        have hne : (frm 0 body).take j ≠ [] := by
          intro e
          have := congrArg List.length e
          rw [List.length_take, List.length_nil] at this
          omega
        have hcut := first_cut 0 body [] (by omega) (by omega) j hjl
        rw [List.append_nil] at hcut
        unfold parse
        rw [first_frm 1 (enc hs) _ (by omega) he]
        simp only [if_true]
        rw [bodies_none hne hcut]
theorem msg_pos (hs : List H) (body : List UInt8) (hg : good hs = true) : 0 < (msg hs body).length := by
  have := frm_cons 1 (enc hs) (by omega) (by have := enc_length hs hg; omega)
  unfold msg
  rw [List.length_append]; omega
theorem msg_length (hs : List H) (body : List UInt8) (hg : good hs = true) (hb : body.length ≤ 3000) : (msg hs body).length ≤ 20000 := by
  have h0 := enc_length hs hg
  have h1 := frm_length 1 (enc hs) (by omega) (by omega)
  have h2 := frm_length 0 body (by omega) (by omega)
  have s1 := size_small (v := 1) (by omega)
  have s2 := size_small (v := 0) (by omega)
  have s3 := size_small (v := (enc hs).length) (by omega)
  have s4 := size_small (v := body.length) (by omega)
  unfold msg
  rw [List.length_append]
  split
  · simp; omega
  · omega
end Go.Proofs.Ytcimcldmkaggnaa.Hd
