/- Parts laid one behind the other; a string's bytes. -/
import Derived.Test.YtcimcldmkaggnaaShelf
import Derived.Test.YtcimcldmkaggnaaHdrNumW
import Derived.Lib.ConvBytes
namespace Go.Proofs.Ytcimcldmkaggnaa
set_option linter.unusedVariables false
set_option linter.unusedSimpArgs false
open Go.RowKit
open Hd

/-- a slice of bytes that reads as xs and lies below the heap's end -/
def Byt (w : World) (v : Value) (xs : List UInt8) : Prop := ∃ A c, v = .slice A xs.length c ∧ Rd w w.heap.size A xs.length xs ∧ xs.length ≤ c ∧ c ≤ maxLen
theorem Byt.after {w w' : World} {v : Value} {xs : List UInt8} (h : Byt w v xs) (hb : Below w.heap.size w w') : Byt w' v xs := by
  obtain ⟨A, c, rfl, hr, hc⟩ := h
  exact ⟨A, c, rfl, hr.after hb, hc⟩
theorem Byt.of_own {w : World} {b : Nat} {v : Value} {xs : List UInt8} (h : w.ownsRow b 5 1 v xs.length (bs xs)) : Byt w v xs := by
  obtain ⟨A, c, rfl, h1, h2⟩ := own_form h
  exact ⟨A, c, rfl, Rd.of_own h rfl, h1, h2⟩
theorem Byt.of_fresh {w : World} {B : Nat} {v : Value} {xs : List UInt8} (h : Lib.FreshBytes B w v xs) : Byt w v xs := by
  obtain ⟨g, cap, zs, rfl, hB, h1, h2, hz, hb, hl, hc, hf⟩ := h
  refine ⟨_, cap, rfl, ⟨rfl, fun hn => ⟨g, 0, rfl, World.block_lt_of_cell? w ⟨g, 0, none⟩ (hc 0 (by omega)), fun j hj => ?_⟩⟩, h1, h2⟩
  rw [Nat.zero_add, hc j (by omega)]
  have hj2 : j < (Lib.bytesOf (zs.take xs.length)).length := by rw [hl]; exact hj
  have e : xs[j] = (Lib.bytesOf (zs.take xs.length))[j] := by simp only [hl]
  rw [e]
  simp only [Lib.bytesOf, List.getElem_map, List.getElem_take]
  have hb2 := hb (zs[j]'(by omega)) (List.getElem_mem _)
  rw [List.getD_eq_getElem?_getD, List.getElem?_eq_getElem (by omega), Option.getD_some, UInt8.toNat_ofNat']
  congr 3; omega
theorem Byt.holds {w : World} {v : Value} {xs : List UInt8} (h : Byt w v xs) : Lib.HoldsBytes w v xs := by
  obtain ⟨A, c, rfl, hr, h1, h2⟩ := h
  refine ⟨A, c, rfl, fun hA => ?_, fun a ha i x hx => ?_⟩
  · subst hA
    rcases Nat.eq_zero_or_pos xs.length with h0 | h0
    · exact List.eq_nil_of_length_eq_zero h0
    · obtain ⟨b, o, h3, _⟩ := hr.2 h0
      cases h3
  · have := hr.news ha i (.int .u8 (x.toNat : Int)) (by unfold bs; rw [List.getElem?_map, hx]; rfl)
    exact this

/-- the parts that a literal of slices holds -/
def Parts (w : World) (vs : List Value) (ls : List (List UInt8)) : Prop := vs.length = ls.length ∧ ∀ (i : Nat) v l, vs[i]? = some v → ls[i]? = some l → Byt w v l
theorem Parts.nil (w : World) : Parts w [] [] := ⟨rfl, fun i v l h => by simp at h⟩
theorem Parts.cons {w : World} {vs : List Value} {ls : List (List UInt8)} {v : Value} {l : List UInt8} (h : Byt w v l) (hp : Parts w vs ls) : Parts w (v :: vs) (l :: ls) := by
  refine ⟨by simp [hp.1], fun i v' l' h1 h2 => ?_⟩
  cases i with
  | zero => simp only [List.getElem?_cons_zero] at h1 h2; injection h1 with h1; injection h2 with h2; subst h1 h2; exact h
  | succ i => exact hp.2 i v' l' (by simpa using h1) (by simpa using h2)
theorem join_flatten (ls : List (List UInt8)) : Lib.join ls [] = ls.flatten := by
  cases ls with
  | nil => rfl
  | cons x r => rw [Lib.join_cons]; simp [Lib.joinTail]
set_option maxHeartbeats 400000 in
theorem laid_any (b o n c : Nat) (vs : List Value) (ls : List (List UInt8)) (w : World) (hc : ∀ (i : Nat) v, vs[i]? = some v → w.cell? ⟨b, o + i, none⟩ = some v) (hP : Parts w vs ls) (hn : ls.length = n) (h2 : 2 ≤ n) (hcap : n ≤ c) (hn47 : n ≤ 1000) (hl : Lib.lens ls ≤ 140737488355328) :
    Calls Try.prog 38 #[.slice (some ⟨b, o, none⟩) n c] w fun e w' => ∃ v, e = .returned v ∧ Lib.FreshBytes w.heap.size w' v ls.flatten ∧ Below w.heap.size w w' := by
  have hj := sh_bytes_Join_many b o n c vs ls (.slice none 0 0) [] w hn h2 ⟨hP.1, fun i v hi => by rw [Lib.add_plain2]; exact hc i v hi, fun i v l h1 h2 => (hP.2 i v l h1 h2).holds⟩ hcap ⟨none, 0, rfl, fun _ => rfl, fun a h => by cases h⟩ (by omega) (by simpa using hl)
  rw [join_flatten] at hj
  have HJ := Lib.hid hj
  clear hj hc hP hn h2 hcap hn47 hl
  go_enter Try.func38, Try.ntmps38
  go_wp2_with fail
  refine HJ.out.mono ?_
  rintro e w1 ⟨v, rfl, hf, hb⟩
  have HF := Lib.hid hf; have HB := Lib.hid hb; clear hf hb
  go_wp2_with fail
  go_ret
  exact ⟨v, rfl, HF.out, HB.out⟩

theorem parts_cells (W : World) (vs : List Value) (e : TypeId) (i : Nat) (v : Value) (h : vs[i]? = some v) : (W.alloc (.cells vs.toArray e)).cell? ⟨W.heap.size, 0 + i, none⟩ = some v := by
  rw [Nat.zero_add, cell_of_row _ W.heap.size i vs.toArray e (0, 0) (heap_alloc_new W _)]
  simpa using h
theorem Parts.alloc {W : World} {vs : List Value} {ls : List (List UInt8)} (h : Parts W vs ls) (o : Obj) : Parts (W.alloc o) vs ls :=
  ⟨h.1, fun i v l h1 h2 => (h.2 i v l h1 h2).after ((Below.refl _ _).alloc (Nat.le_refl _) _)⟩
theorem laid_new (W : World) (vs : List Value) (ls : List (List UInt8)) (n : Nat) (hP : Parts W vs ls) (hn : ls.length = n) (h2 : 2 ≤ n) (h4 : n ≤ 4) (hl : Lib.lens ls ≤ 140737488355328) :
    Calls Try.prog 38 #[.slice (some ⟨W.heap.size, 0, none⟩) n n] (W.alloc (.cells vs.toArray 24)) fun e w' => ∃ v, e = .returned v ∧ Lib.FreshBytes W.heap.size w' v ls.flatten ∧ Byt w' v ls.flatten ∧ Below W.heap.size W w' := by
  refine (laid_any W.heap.size 0 n n vs ls _ (fun i v h => parts_cells W vs 24 i v h) (hP.alloc _) hn h2 (Nat.le_refl _) (by omega) hl).mono ?_
  rintro e w1 ⟨v, rfl, hf, hb⟩
  refine ⟨v, rfl, ?_, Byt.of_fresh hf, ((Below.refl _ W).alloc (Nat.le_refl _) _).trans (hb.mono (by simp))⟩
  obtain ⟨g, cap, zs, h⟩ := hf
  exact ⟨g, cap, zs, h.1, by have := h.2.1; simp at this; omega, h.2.2⟩
theorem laid_two (W : World) (v1 v2 : Value) (l1 l2 : List UInt8) (h1 : Byt W v1 l1) (h2 : Byt W v2 l2) (hl : l1.length + l2.length ≤ 140737488355328) :
    Calls Try.prog 38 #[.slice (some ⟨W.heap.size, 0, none⟩) 2 2] (W.alloc (.cells #[v1, v2] 24)) fun e w' => ∃ v, e = .returned v ∧ Lib.FreshBytes W.heap.size w' v (l1 ++ l2) ∧ Byt w' v (l1 ++ l2) ∧ Below W.heap.size W w' := by
  have h := laid_new W [v1, v2] [l1, l2] 2 (.cons h1 (.cons h2 (.nil W))) rfl (by omega) (by omega) (by simp [Lib.lens]; omega)
  simpa using h
theorem laid_three (W : World) (v1 v2 v3 : Value) (l1 l2 l3 : List UInt8) (h1 : Byt W v1 l1) (h2 : Byt W v2 l2) (h3 : Byt W v3 l3) (hl : l1.length + l2.length + l3.length ≤ 140737488355328) :
    Calls Try.prog 38 #[.slice (some ⟨W.heap.size, 0, none⟩) 3 3] (W.alloc (.cells #[v1, v2, v3] 24)) fun e w' => ∃ v, e = .returned v ∧ Lib.FreshBytes W.heap.size w' v (l1 ++ (l2 ++ l3)) ∧ Byt w' v (l1 ++ (l2 ++ l3)) ∧ Below W.heap.size W w' := by
  have h := laid_new W [v1, v2, v3] [l1, l2, l3] 3 (.cons h1 (.cons h2 (.cons h3 (.nil W)))) rfl (by omega) (by omega) (by simp [Lib.lens]; omega)
  simpa using h
theorem laid_four (W : World) (v1 v2 v3 v4 : Value) (l1 l2 l3 l4 : List UInt8) (h1 : Byt W v1 l1) (h2 : Byt W v2 l2) (h3 : Byt W v3 l3) (h4 : Byt W v4 l4) (hl : l1.length + l2.length + l3.length + l4.length ≤ 140737488355328) :
    Calls Try.prog 38 #[.slice (some ⟨W.heap.size, 0, none⟩) 4 4] (W.alloc (.cells #[v1, v2, v3, v4] 24)) fun e w' => ∃ v, e = .returned v ∧ Lib.FreshBytes W.heap.size w' v (l1 ++ (l2 ++ (l3 ++ l4))) ∧ Byt w' v (l1 ++ (l2 ++ (l3 ++ l4))) ∧ Below W.heap.size W w' := by
  have h := laid_new W [v1, v2, v3, v4] [l1, l2, l3, l4] 4 (.cons h1 (.cons h2 (.cons h3 (.cons h4 (.nil W))))) rfl (by omega) (by omega) (by simp [Lib.lens]; omega)
  simpa using h

theorem below_bytes {B : Nat} {a w : World} (h : Below B a w) (hB : B ≤ w.heap.size) (s : ByteArray) : Below B a (Lib.bytesWorld w 5 s) :=
  ⟨h.os, h.tape, h.output, by rw [Lib.bytesWorld_size]; have := h.size; omega, fun k hk => (Lib.bytesWorld_at_old w 5 s k (by omega)).trans (h.block k hk)⟩
theorem bytes_below (w : World) (s : ByteArray) : Below w.heap.size w (Lib.bytesWorld w 5 s) := below_bytes (Below.refl _ _) (Nat.le_refl _) s
theorem byt_bytes (w : World) (s : ByteArray) (hs : s.size ≤ 140737488355328) : Byt (Lib.bytesWorld w 5 s) (.slice (some ⟨w.heap.size, 0, none⟩) s.size (grownCap w s.size 0 5)) (bl s) := by
  have hl := bl_length s
  refine ⟨some ⟨w.heap.size, 0, none⟩, grownCap w s.size 0 5, by rw [hl], ⟨rfl, fun _ => ⟨w.heap.size, 0, rfl, by rw [Lib.bytesWorld_size]; omega, fun j hj => ?_⟩⟩, by rw [hl]; exact grownCap_ge w s.size 0 5, grownCap_le_maxLen w s.size 0 5 (by unfold maxLen; omega)⟩
  rw [Nat.zero_add, Lib.bytesWorld_cell w 5 s j (by omega)]
  unfold bl at hj ⊢
  rw [List.getD_eq_getElem?_getD, List.getElem?_eq_getElem hj, Option.getD_some]
end Go.Proofs.Ytcimcldmkaggnaa
