/- Slices of bytes that came in, as the walks want them. -/
import Derived.Test.YtcimcldmkaggnaaMem
import Derived.ProofKit
import Derived.OpenShut
namespace Go.Proofs.Ytcimcldmkaggnaa
set_option linter.unusedVariables false
open Go.RowKit Go.ChangeShapes Go.WideShapes Go.ChangeAt

/-- a slice of bytes that came in -/
def SliceIn (W : World) (a : Option Addr) (len cap : Nat) (xs : List UInt8) : Prop :=
  Rd W W.heap.size a len xs ∧ len ≤ cap ∧ cap ≤ maxLen ∧ (a = none → cap = 0)

theorem opened_slice {P : Program} {H : Type} {enc : TypeId × Value → H} {W : World} {base : Nat} {spare : Nat → Bool} {held : Bool} {fuel : Nat} {t e : TypeId} {a : Option Addr} {len cap : Nat} {x : DataW H × List MemPlace}
    (ht : P.underlying t = some (.slice e)) (he : P.underlying e = some (.int .u8)) (hc : P.cellsOf e = 1) (h : DataW.trod enc P W base spare held fuel t (Value.slice a len cap).cells.toList = some x) :
    ∃ xs, SliceIn W a len cap xs := by
  rcases open_ints ht he hc h with ⟨hcs, _⟩ | ⟨ad, l, c, zs, hcs, _, hl, hm, hz, _, hcell, hwz⟩
  · simp [Value.cells] at hcs
    obtain ⟨rfl, rfl, rfl⟩ := hcs
    exact ⟨[], Rd.none_, by omega, by unfold maxLen; omega, fun _ => rfl⟩
  · simp [Value.cells] at hcs
    obtain ⟨rfl, rfl, rfl⟩ := hcs
    have hzl : len ≤ zs.length := by rw [hz]; split <;> omega
    refine ⟨(zs.take len).map fun z => UInt8.ofNat z.toNat, ⟨by simp; omega, fun hn => ?_⟩, hl, hm, fun h => by cases h⟩
    have h0 := hcell 0 (by omega)
    obtain ⟨b, off, spot⟩ := ad
    have hspot : spot = none := by simpa [Addr.add] using World.cell?_spot h0
    subst hspot
    refine ⟨b, off, rfl, World.block_lt_of_cell? W ⟨b, off, none⟩ (by simpa [Addr.add] using h0), fun j hj => ?_⟩
    have hj' : j < len := by simp at hj; omega
    have hcj := hcell j (by omega)
    have hw := hwz (zs.getD j 0) (by rw [List.getD_eq_getElem?_getD, List.getElem?_eq_getElem (by omega)]; exact List.getElem_mem _)
    have hb := bounds_u8 hw
    have hadd : (⟨b, off, none⟩ : Addr).add j = ⟨b, off + j, none⟩ := by
      unfold Addr.add
      split
      · rename_i e0; subst e0; rfl
      · rfl
    rw [hadd] at hcj
    rw [hcj]
    simp only [List.getElem_map, List.getElem_take]
    rw [List.getD_eq_getElem?_getD, List.getElem?_eq_getElem (by omega)] at hb ⊢
    simp only [Option.getD_some] at hb ⊢
    have : ((UInt8.ofNat (zs[j]'(by omega)).toNat).toNat : Int) = zs[j]'(by omega) := by
      rw [UInt8.toNat_ofNat']; omega
    rw [this]
end Go.Proofs.Ytcimcldmkaggnaa
