/- The reference's table, walked. -/
import Derived.Test.YtcimcldmkaggnaaHdrTab
namespace Go.Proofs.Ytcimcldmkaggnaa
set_option linter.unusedVariables false
set_option linter.unusedSimpArgs false
open Go.RowKit
open Hd

set_option maxRecDepth 1000000 in
set_option maxHeartbeats 4000000 in
theorem table34_any (w : World) : Calls Try.prog 34 #[] w fun e w' => e = .returned (.slice (some ⟨w.heap.size, 0, none⟩) 30 30) ∧ w' = w.alloc (.cells tabV 53) := by
  go_enter Try.func34, Try.ntmps34
  go_wp2_with fail
  go_ret
  exact ⟨rfl, rfl⟩
theorem tabAt_new53 (w : World) (i : Nat) (h : H) (hi : tab[i]? = some h) : (w.alloc (.cells tabV 53)).cell? ⟨w.heap.size, i * 2, none⟩ = some (.string h.1) ∧ (w.alloc (.cells tabV 53)).cell? ⟨w.heap.size, i * 2 + 1, none⟩ = some (.string h.2) := by
  have hc := cellsOf_at tab i h hi
  have hrow := heap_alloc_new w (.cells tabV 53)
  have e : ∀ j, j < 2 → tabV[i * 2 + j]? = ([Value.string h.1, Value.string h.2] : List Value)[j]? := by
    intro j hj
    rw [← hc, ← Array.getElem?_toList, tabV_cells, List.getElem?_take, if_pos hj, List.getElem?_drop]
  exact ⟨(cell_of_row _ _ _ _ _ _ hrow).trans (e 0 (by omega)), (cell_of_row _ _ _ _ _ _ hrow).trans (e 1 (by omega))⟩
end Go.Proofs.Ytcimcldmkaggnaa
