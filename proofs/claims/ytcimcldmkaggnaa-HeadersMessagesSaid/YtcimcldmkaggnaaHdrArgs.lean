/- Slices of headers that came in, as the walks want them. -/
import Derived.Test.YtcimcldmkaggnaaHdrMem
import Derived.Test.YtcimcldmkaggnaaArgs
import Derived.Deep.SlicePairs
namespace Go.Proofs.Ytcimcldmkaggnaa
set_option linter.unusedVariables false
set_option linter.unusedSimpArgs false
open Go.RowKit Go.ChangeShapes Go.WideShapes Go.ChangeAt

/-- a slice of headers that came in -/
def HdrsIn (W : World) (a : Option Addr) (len cap : Nat) (hs : List (ByteArray × ByteArray)) : Prop :=
  HRd W W.heap.size a len hs ∧ len ≤ cap ∧ cap ≤ maxLen ∧ (a = none → cap = 0)
theorem list_of_fn {α : Type} (n : Nat) (p : Nat → α → Prop) (h : ∀ i, i < n → ∃ x, p i x) : ∃ l : List α, l.length = n ∧ ∀ i (hi : i < l.length), p i l[i] := by
  induction n with
  | zero => exact ⟨[], rfl, fun i hi => by simp at hi⟩
  | succ n ih =>
    obtain ⟨l, hl, hp⟩ := ih fun i hi => h i (by omega)
    obtain ⟨x, hx⟩ := h n (by omega)
    refine ⟨l ++ [x], by simp [hl], fun i hi => ?_⟩
    by_cases hin : i < l.length
    · rw [List.getElem_append_left hin]; exact hp i hin
    · have : i = n := by simp at hi; omega
      subst this
      subst hl
      simpa using hx
theorem opened_hdrs {H : Type} {enc : TypeId × Value → H} {W : World} {base : Nat} {spare : Nat → Bool} {held : Bool} {fuel : Nat} {a : Option Addr} {len cap : Nat} {x : DataW H × List MemPlace}
    (h : DataW.trod enc Try.prog W base spare held fuel 23 (Value.slice a len cap).cells.toList = some x) :
    ∃ hs, HdrsIn W a len cap hs := by
  have h' : DataW.trod enc Try.prog W base spare held fuel 23 [.slice a len cap] = some x := h
  rcases Deep.open_slice_pairs (f0 := { name := "Name", type := 9, offset := 0, embedded := false, tag := "", pkgPath := "", byteOffset := 0 }) (f1 := { name := "Value", type := 9, offset := 1, embedded := false, tag := "", pkgPath := "", byteOffset := 16 }) Try.underlying23 Try.underlying53 (by kernel_rfl) rfl rfl (by kernel_rfl) (by kernel_rfl) h' with ⟨hcs, _⟩ | ⟨ad, l, c, m, n, V0, V1, D0, D1, P0, P1, hcs, _, hl, hm, hmm, _, hx⟩
  · simp at hcs
    obtain ⟨rfl, rfl, rfl⟩ := hcs
    exact ⟨[], HRd.none_ _ _, by omega, by unfold maxLen; omega, fun _ => rfl⟩
  · simp at hcs
    obtain ⟨rfl, rfl, rfl⟩ := hcs
    have hlm : len ≤ m := by rw [hmm]; split <;> omega
    obtain ⟨hs, hhl, hhs⟩ := list_of_fn len (fun i (q : ByteArray × ByteArray) => W.cell? (ad.add (i * 2)) = some (.string q.1) ∧ W.cell? (ad.add (i * 2 + 1)) = some (.string q.2)) (fun i hi => by
      obtain ⟨c0, c1, t0, t1⟩ := hx i (by omega)
      obtain ⟨s0, hs0, _⟩ := DataW.trod_string Try.underlying9 t0
      obtain ⟨s1, hs1, _⟩ := DataW.trod_string Try.underlying9 t1
      injection hs0 with hs0
      injection hs1 with hs1
      rw [hs0] at c0
      rw [hs1] at c1
      exact ⟨(s0, s1), c0, c1⟩)
    refine ⟨hs, ⟨hhl, fun hn => ?_⟩, hl, hm, fun h => by cases h⟩
    have h0 := (hhs 0 (by omega)).1
    obtain ⟨b, off, spot⟩ := ad
    have hspot : spot = none := by simpa [Addr.add] using World.cell?_spot h0
    subst hspot
    refine ⟨b, off, rfl, World.block_lt_of_cell? W ⟨b, off, none⟩ (by simpa [Addr.add] using h0), fun j hj => ?_⟩
    have hadd : ∀ i, (⟨b, off, none⟩ : Addr).add i = ⟨b, off + i, none⟩ := by
      intro i
      unfold Addr.add
      split
      · rename_i e0; subst e0; rfl
      · rfl
    have hj2 := hhs j hj
    rw [hadd, hadd] at hj2
    exact hj2
end Go.Proofs.Ytcimcldmkaggnaa
