/- The program's table, walked. -/
import Derived.Test.YtcimcldmkaggnaaHdrLaid
import Derived.Deep.WholeRow
import Derived.Deep.DeepCutAuto
import Derived.Deep.CutBlock
namespace Go.Proofs.Ytcimcldmkaggnaa
set_option linter.unusedVariables false
set_option linter.unusedSimpArgs false
open Go.RowKit
open Hd

def tabV : Array Value := #[
  .string ⟨#[58, 97, 117, 116, 104, 111, 114, 105, 116, 121]⟩,
  .string ⟨#[]⟩,
  .string ⟨#[58, 112, 97, 116, 104]⟩,
  .string ⟨#[47]⟩,
  .string ⟨#[97, 103, 101]⟩,
  .string ⟨#[48]⟩,
  .string ⟨#[99, 111, 110, 116, 101, 110, 116, 45, 100, 105, 115, 112, 111, 115, 105, 116, 105, 111, 110]⟩,
  .string ⟨#[]⟩,
  .string ⟨#[99, 111, 110, 116, 101, 110, 116, 45, 108, 101, 110, 103, 116, 104]⟩,
  .string ⟨#[48]⟩,
  .string ⟨#[99, 111, 111, 107, 105, 101]⟩,
  .string ⟨#[]⟩,
  .string ⟨#[100, 97, 116, 101]⟩,
  .string ⟨#[]⟩,
  .string ⟨#[101, 116, 97, 103]⟩,
  .string ⟨#[]⟩,
  .string ⟨#[105, 102, 45, 109, 111, 100, 105, 102, 105, 101, 100, 45, 115, 105, 110, 99, 101]⟩,
  .string ⟨#[]⟩,
  .string ⟨#[105, 102, 45, 110, 111, 110, 101, 45, 109, 97, 116, 99, 104]⟩,
  .string ⟨#[]⟩,
  .string ⟨#[108, 97, 115, 116, 45, 109, 111, 100, 105, 102, 105, 101, 100]⟩,
  .string ⟨#[]⟩,
  .string ⟨#[108, 105, 110, 107]⟩,
  .string ⟨#[]⟩,
  .string ⟨#[108, 111, 99, 97, 116, 105, 111, 110]⟩,
  .string ⟨#[]⟩,
  .string ⟨#[114, 101, 102, 101, 114, 101, 114]⟩,
  .string ⟨#[]⟩,
  .string ⟨#[115, 101, 116, 45, 99, 111, 111, 107, 105, 101]⟩,
  .string ⟨#[]⟩,
  .string ⟨#[58, 109, 101, 116, 104, 111, 100]⟩,
  .string ⟨#[67, 79, 78, 78, 69, 67, 84]⟩,
  .string ⟨#[58, 109, 101, 116, 104, 111, 100]⟩,
  .string ⟨#[68, 69, 76, 69, 84, 69]⟩,
  .string ⟨#[58, 109, 101, 116, 104, 111, 100]⟩,
  .string ⟨#[71, 69, 84]⟩,
  .string ⟨#[58, 109, 101, 116, 104, 111, 100]⟩,
  .string ⟨#[72, 69, 65, 68]⟩,
  .string ⟨#[58, 109, 101, 116, 104, 111, 100]⟩,
  .string ⟨#[79, 80, 84, 73, 79, 78, 83]⟩,
  .string ⟨#[58, 109, 101, 116, 104, 111, 100]⟩,
  .string ⟨#[80, 79, 83, 84]⟩,
  .string ⟨#[58, 109, 101, 116, 104, 111, 100]⟩,
  .string ⟨#[80, 85, 84]⟩,
  .string ⟨#[58, 115, 99, 104, 101, 109, 101]⟩,
  .string ⟨#[104, 116, 116, 112]⟩,
  .string ⟨#[58, 115, 99, 104, 101, 109, 101]⟩,
  .string ⟨#[104, 116, 116, 112, 115]⟩,
  .string ⟨#[58, 115, 116, 97, 116, 117, 115]⟩,
  .string ⟨#[49, 48, 51]⟩,
  .string ⟨#[58, 115, 116, 97, 116, 117, 115]⟩,
  .string ⟨#[50, 48, 48]⟩,
  .string ⟨#[58, 115, 116, 97, 116, 117, 115]⟩,
  .string ⟨#[51, 48, 52]⟩,
  .string ⟨#[58, 115, 116, 97, 116, 117, 115]⟩,
  .string ⟨#[52, 48, 52]⟩,
  .string ⟨#[58, 115, 116, 97, 116, 117, 115]⟩,
  .string ⟨#[53, 48, 51]⟩,
  .string ⟨#[97, 99, 99, 101, 112, 116]⟩,
  .string ⟨#[42, 47, 42]⟩]
def cellsOf (hs : List H) : List Value := hs.flatMap fun h => [Value.string h.1, Value.string h.2]
theorem tabV_cells : tabV.toList = cellsOf tab := rfl
theorem cellsOf_drop (hs : List H) : ∀ i, (cellsOf hs).drop (i * 2) = cellsOf (hs.drop i) := by
  induction hs with
  | nil => intro i; simp [cellsOf]
  | cons h hs ih =>
    intro i
    cases i with
    | zero => rfl
    | succ i =>
      rw [show (i + 1) * 2 = i * 2 + 1 + 1 by omega]
      show (Value.string h.1 :: Value.string h.2 :: cellsOf hs).drop (i * 2 + 1 + 1) = _
      rw [List.drop_succ_cons, List.drop_succ_cons, List.drop_succ_cons, ih i]
theorem cellsOf_at (hs : List H) (i : Nat) (x : H) (hx : hs[i]? = some x) : ((cellsOf hs).drop (i * 2)).take 2 = [.string x.1, .string x.2] := by
  obtain ⟨hl, he⟩ := List.getElem?_eq_some_iff.1 hx
  rw [cellsOf_drop, List.drop_eq_getElem_cons hl, he]
  rfl
set_option maxRecDepth 1000000 in
set_option maxHeartbeats 4000000 in
theorem table_any (w : World) : Calls Try.prog 37 #[] w fun e w' => e = .returned (.agg tabV) ∧ w' = w.alloc (.cells tabV 56) := by
  go_enter Try.func37, Try.ntmps37
  go_upto_region 1 with fail
  refine wp_region_lit ?_
  go_wp2_with (refine wpList_store_row rfl 56 (.tmp 0) (.tmp 31) rfl w.heap.size tabV (by as_aux_lemma => rfl) (by as_aux_lemma => rfl) 56 _ (heap_alloc_last w _) (by as_aux_lemma => kernel_rfl) (by as_aux_lemma => kernel_rfl) (by as_aux_lemma => kernel_rfl) ?_)
  rw [World.setRow_alloc_new]
  exact bodyPost_ret (v := .agg tabV) (results_cell_row Try.results37 _ _ w.heap.size 56 tabV (0, 0) _ (by as_aux_lemma => rfl) (heap_alloc_last w _) Try.underlying56 rfl (by as_aux_lemma => kernel_rfl)) rfl ⟨rfl, rfl⟩
end Go.Proofs.Ytcimcldmkaggnaa
