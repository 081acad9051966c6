/- The reference's line, walked. -/
import Derived.Test.YtcimcldmkaggnaaHdrRefFoundW
import Derived.Test.YtcimcldmkaggnaaHdrRefNumW
import Derived.Deep.RegionHeld3
namespace Go.Proofs.Ytcimcldmkaggnaa
set_option linter.unusedVariables false
set_option linter.unusedSimpArgs false
open Go.RowKit
open Hd

theorem idx_whole (h : H) : idx (pTest h true) 30 = match wholeAt h with | some j => (j : Int) | none => -1 := by
  rw [idx_all]
  have e : pTest h true = fun x => decide (x = h) := by
    funext x
    unfold pTest
    rw [Bool.not_true, Bool.false_or, ← Bool.decide_and]
    exact decide_eq_decide.2 ⟨fun q => Prod.ext q.1 q.2, fun q => by subst q; exact ⟨rfl, rfl⟩⟩
  rw [e]; rfl
theorem idx_name (h : H) : idx (pTest h false) 30 = match nameAt h.1 with | some j => (j : Int) | none => -1 := by
  rw [idx_all]
  have e : pTest h false = fun x => decide (x.1 = h.1) := by
    funext x
    unfold pTest
    simp
  rw [e]; rfl
theorem own_belowL {w w' : World} {base n c : Nat} {e : TypeId} {size : Nat} {A : Option Addr} {xs : List Value} (h : w.ownsRow base e size (.slice A n c) n xs) (hb : Below w.heap.size w w') : w'.ownsRow base e size (.slice A n c) n xs := by
  obtain ⟨h1, h2⟩ := h
  refine ⟨h1, ?_⟩
  rcases h2 with h2 | ⟨k, cap, cur, hv, hbk, hh, r⟩
  · exact .inl h2
  · exact .inr ⟨k, cap, cur, hv, hbk, (hb.block k (Array.getElem?_eq_some_iff.1 hh).1).trans hh, r⟩
set_option maxRecDepth 100000 in
set_option maxHeartbeats 3200000 in
theorem refLine_any (h : H) (w : World) (h1 : h.1.size ≤ 300) (h2 : h.2.size ≤ 300) :
    Calls Try.prog 48 #[.agg #[.string h.1, .string h.2]] w (NumEnds (line h) w) := by
  obtain ⟨i0, hi0, hz0, hz1, hz2⟩ := info_parts info5
  have HW := Lib.hid (idx_whole h); have HM := Lib.hid (idx_name h)
  have ib1 := idx_bounds (pTest h true) 30
  have ib2 := idx_bounds (pTest h false) 30
  go_enter Try.func48, Try.ntmps48
  go_wp2_with fail
  refine (found_any h true _).mono ?_
  rintro e w1 ⟨rfl, hb1⟩
  have hb1' : Below w.heap.size w w1 := ((Below.refl _ w).alloc (Nat.le_refl _) _).trans (hb1.mono (by simp))
  have hz1' : w.heap.size + 1 ≤ w1.heap.size := by have := hb1.size; simpa using this
  have hd1 : w1.cell? ⟨w.heap.size, 0, none⟩ = some (.string h.1) := (hb1.cell (p := ⟨w.heap.size, 0, none⟩) (by simp)).trans (by go_simp)
  have hd2 : w1.cell? ⟨w.heap.size, 1, none⟩ = some (.string h.2) := (hb1.cell (p := ⟨w.heap.size, 1, none⟩) (by simp)).trans (by go_simp)
  have HB1 := Lib.hid hb1'; have HZ1 := Lib.hid hz1'; clear hb1 hb1' hz1'
  go_wp2_with fail
  refine (found_any h false w1).mono ?_
  rintro e W ⟨rfl, hb2⟩
  have hd1 : W.cell? ⟨w.heap.size, 0, none⟩ = some (.string h.1) := (hb2.cell (p := ⟨w.heap.size, 0, none⟩) (by have := HZ1.out; show w.heap.size < _; omega)).trans hd1
  have hd2 : W.cell? ⟨w.heap.size, 1, none⟩ = some (.string h.2) := (hb2.cell (p := ⟨w.heap.size, 1, none⟩) (by have := HZ1.out; show w.heap.size < _; omega)).trans hd2
  have HZB := Lib.hid (HB1.out.trans (hb2.mono HB1.out.size)); have HZ := Lib.hid (show w.heap.size + 1 ≤ W.heap.size by have := HZ1.out; have := hb2.size; omega)
  clear hb2
  cases hwh : wholeAt h with
  | some j =>
    have e1 : idx (pTest h true) 30 = (j : Nat) := by have := HW.out; rw [hwh] at this; exact this
    have hj := (wholeAt_some hwh).1
    have HL := Lib.hid (line_whole hwh)
    rw [e1] at ib1 ⊢
    clear e1 HW HM hwh
    generalize idx (pTest h false) 30 = a2 at *
    have HN := Lib.hid (fun w => refNumber_6 j w (by omega))
    go_wp2_with fail
    refine (HN.out W).mono ?_
    rintro e w3 ⟨hb3, A3, c3, rfl, ho3⟩
    have HB3 := Lib.hid hb3; have HO3 := Lib.hid ho3; clear hb3 ho3
    go_wp2_with fail
    go_ret
    rw [HL.out]
    exact ⟨HZB.out.trans (HB3.out.mono HZB.out.size), A3, c3, rfl, own_base HO3.out HZB.out.size⟩
  | none =>
    have e1 : idx (pTest h true) 30 = -1 := by have := HW.out; rw [hwh] at this; exact this
    rw [e1] at ib1 ⊢
    clear e1
    cases hnm : nameAt h.1 with
    | some j =>
      have e2 : idx (pTest h false) 30 = (j : Nat) := by have := HM.out; rw [hnm] at this; exact this
      have hj := (nameAt_some hnm).1
      have HL := Lib.hid (line_name hwh hnm)
      rw [e2] at ib2 ⊢
      clear e2 HW HM hwh hnm
      have HN1 := Lib.hid (fun w => refNumber_4 j w (by omega))
      have HN2 := Lib.hid (fun w => refText_7 h.2 w h2)
      have HL1 := Lib.hid (num_length 80 4 j (by omega)).2
      have HL2 := Lib.hid (text_length 0 7 (bl h.2) (by rw [bl_length]; exact h2)).2
      go_upto_region 6 with fail
      refine wp_region_held_drew (S := (fun w' => w'.cell? ⟨w.heap.size, 0, none⟩ = some (.string h.1) ∧ w'.cell? ⟨w.heap.size, 1, none⟩ = some (.string h.2))) (by kernel_rfl) (show (fun w' => w'.cell? ⟨w.heap.size, 0, none⟩ = some (.string h.1) ∧ w'.cell? ⟨w.heap.size, 1, none⟩ = some (.string h.2)) W.drew from ⟨hd1, hd2⟩) (fun hHeld => ?_)
      have hSWd : (fun w' => w'.cell? ⟨w.heap.size, 0, none⟩ = some (.string h.1) ∧ w'.cell? ⟨w.heap.size, 1, none⟩ = some (.string h.2)) W.drew := ⟨hd1, hd2⟩
      have HBWd := Lib.hid (show Below W.heap.size W W.drew from (Below.refl _ _).drew)
      refine wpAnyH_take (i := 0) (oi := ?oa0) (v := ?va0) ?ea0 ?aa0 ?ba0 ?ca0 ?ha0 (Or.inl ⟨?ga0, ?ya0⟩) hSWd ?ra0
      case ea0 => simp only [List.getElem?_toArray, List.getElem?_cons_zero]; rfl
      case aa0 => kernel_rfl
      case ba0 => kernel_rfl
      case ca0 => kernel_rfl
      case ga0 => rfl
      case ya0 => (intro w' hSw; (try dsimp only at hSw); first | (go_simp; done) | (go_simp; with_reducible rfl))
      case ha0 => exact fun _ _ _ h => h
      case' ra0 => try simp only [Act.put, List.setIfInBounds_toArray, List.set_cons_zero, List.set_cons_succ]
      refine wpAnyH_take (i := 2) (oi := ?oa2) (v := ?va2) ?ea2 ?aa2 ?ba2 ?ca2 ?ha2 (Or.inl ⟨?ga2, ?ya2⟩) hSWd ?ra2
      case ea2 => simp only [List.getElem?_toArray, List.getElem?_cons_zero, List.getElem?_cons_succ]; rfl
      case aa2 => kernel_rfl
      case ba2 => kernel_rfl
      case ca2 => kernel_rfl
      case ga2 => rfl
      case ya2 => (intro w' hSw; (try dsimp only at hSw); first | (go_simp; done) | (go_simp; with_reducible rfl))
      case ha2 => exact fun _ _ _ h => h
      case' ra2 => try simp only [Act.put, List.setIfInBounds_toArray, List.set_cons_zero, List.set_cons_succ]
      refine wpAnyH_take (i := 3) (oi := ?oa3) (v := ?va3) ?ea3 ?aa3 ?ba3 ?ca3 ?ha3 (Or.inl ⟨?ga3, ?ya3⟩) hSWd ?ra3
      case ea3 => simp only [List.getElem?_toArray, List.getElem?_cons_zero, List.getElem?_cons_succ]; rfl
      case aa3 => kernel_rfl
      case ba3 => kernel_rfl
      case ca3 => kernel_rfl
      case ga3 => rfl
      case ya3 => (intro w' hSw; (try dsimp only at hSw); first | (go_simp; done) | (go_simp; with_reducible rfl))
      case ha3 => exact fun _ _ _ h => h
      case' ra3 => try simp only [Act.put, List.setIfInBounds_toArray, List.set_cons_zero, List.set_cons_succ]
      refine wpAnyH_ready (rs := [1]) (by kernel_rfl) (by simp) ?_
      refine (AllReadyH.cons (o := ?ob1) ?eb1 (fun K hK => ?sb1) AllReadyH.nil)
      case eb1 => simp only [List.getElem?_toArray, List.getElem?_cons_zero, List.getElem?_cons_succ]; rfl
      go_simp
      refine (HN1.out W.drew).mono ?_
      rintro e wa ⟨hb, Awa, cwa, rfl, ho⟩
      have HBwa := Lib.hid (below_then HBWd.out hb); have HOwa := Lib.hid ho
      have hSwa : (fun w' => w'.cell? ⟨w.heap.size, 0, none⟩ = some (.string h.1) ∧ w'.cell? ⟨w.heap.size, 1, none⟩ = some (.string h.2)) wa := ⟨(hb.cell (p := ⟨w.heap.size, 0, none⟩) (by have := HBWd.out.size; have := HZ.out; show w.heap.size < _; omega)).trans hSWd.1, (hb.cell (p := ⟨w.heap.size, 1, none⟩) (by have := HBWd.out.size; have := HZ.out; show w.heap.size < _; omega)).trans hSWd.2⟩
      clear hb ho
      refine hK.out _ _ hSwa (fun hHeld => ?_)
      clear hK K
      try simp only [Act.put, List.setIfInBounds_toArray, List.set_cons_zero, List.set_cons_succ]
      refine wpAnyH_ready (rs := [4]) (by kernel_rfl) (by simp) ?_
      refine (AllReadyH.cons (o := ?oc4) ?ec4 (fun K hK => ?sc4) AllReadyH.nil)
      case ec4 => simp only [List.getElem?_toArray, List.getElem?_cons_zero, List.getElem?_cons_succ]; rfl
      go_simp
      refine (HN2.out wa).mono ?_
      rintro e wb ⟨hb, Awb, cwb, rfl, ho⟩
      have HBwb := Lib.hid (below_then HBwa.out hb); have HOwb := Lib.hid ho
      have hSwb : (fun w' => w'.cell? ⟨w.heap.size, 0, none⟩ = some (.string h.1) ∧ w'.cell? ⟨w.heap.size, 1, none⟩ = some (.string h.2)) wb := ⟨(hb.cell (p := ⟨w.heap.size, 0, none⟩) (by have := HBwa.out.size; have := HZ.out; show w.heap.size < _; omega)).trans hSwa.1, (hb.cell (p := ⟨w.heap.size, 1, none⟩) (by have := HBwa.out.size; have := HZ.out; show w.heap.size < _; omega)).trans hSwa.2⟩
      have HOA := Lib.hid (own_base (own_belowL HOwa.out hb) (show w.heap.size ≤ W.drew.heap.size by have := HZ.out; show w.heap.size ≤ W.heap.size; omega))
      have HOA2 := Lib.hid (fun j hj => Nat.le_trans (show w.heap.size + 1 ≤ W.drew.heap.size by have := HZ.out; show w.heap.size + 1 ≤ W.heap.size; omega) ((own_belowL HOwa.out hb).lt j hj).1)
      clear hb ho
      refine hK.out _ _ hSwb (fun hHeld => ?_)
      clear hK K
      try simp only [Act.put, List.setIfInBounds_toArray, List.set_cons_zero, List.set_cons_succ]
      refine wpAnyH_ready (rs := [5]) (by kernel_rfl) (by simp) ?_
      refine (AllReadyH.cons (o := ?od5) ?ed5 (fun K hK => ?sd5) AllReadyH.nil)
      case ed5 => simp only [List.getElem?_toArray, List.getElem?_cons_zero, List.getElem?_cons_succ]; rfl
      rw [if_pos (by rfl)]
      refine wp_append_any _ (.tmp 16) (.tmp 19) 24 rfl w.heap.size 5 i0 (.int .u8 0) Try.underlying24 hi0 hz0 hz1 hz2 rfl (.slice Awa (num 80 4 j).length cwa) (num 80 4 j).length (num 80 4 j) rfl ?d1 wb.heap.size Awb (text 0 7 (bl h.2)).length cwb (text 0 7 (bl h.2)) rfl ?d2 ?d3 ?d4 ?_
      case d1 => exact HOA.out
      case d2 => exact Rd.of_own HOwb.out rfl
      case d3 => have h1 := HL1.out; have h2 := HL2.out; omega
      case d4 => have := HBwb.out.size; have := HZ.out; omega
      intro A9 c9 w9 hown9 hg9 hat9
      have hb9 : Below w.heap.size w w9 := (HZB.out.trans (HBwb.out.mono (by have := HZ.out; omega))).grown hg9 (by have := HBwb.out.size; have := HZ.out; omega) (fun j hj => (HOA.out.lt j hj).1)
      have hS9 : (fun w' => w'.cell? ⟨w.heap.size, 0, none⟩ = some (.string h.1) ∧ w'.cell? ⟨w.heap.size, 1, none⟩ = some (.string h.2)) w9 := ⟨(hg9.cell_far ⟨w.heap.size, 0, none⟩ (by have := HBwb.out.size; have := HZ.out; show w.heap.size < _; omega) (fun e => absurd (HOA2.out _ e.symm) (by show ¬ (w.heap.size + 1 ≤ w.heap.size); omega))).trans hSwb.1, (hg9.cell_far ⟨w.heap.size, 1, none⟩ (by have := HBwb.out.size; have := HZ.out; show w.heap.size < _; omega) (fun e => absurd (HOA2.out _ e.symm) (by show ¬ (w.heap.size + 1 ≤ w.heap.size); omega))).trans hSwb.2⟩
      have HB9 := Lib.hid hb9; have HO9 := Lib.hid hown9; clear hown9 hg9 hat9 hb9
      refine hK.out _ _ hS9 (fun hHeld => ?_)
      clear hK K
      try simp only [Act.put, List.setIfInBounds_toArray, List.set_cons_zero, List.set_cons_succ]
      refine wpAnyH_ready (rs := [6]) (by kernel_rfl) (by simp) ?_
      refine (AllReadyH.cons (o := ?oe6) ?ee6 (fun K hK => ?se6) AllReadyH.nil)
      case ee6 => simp only [List.getElem?_toArray, List.getElem?_cons_zero, List.getElem?_cons_succ]; rfl
      go_simp
      refine hK.out _ _ hS9 (fun hHeld => ?_)
      clear hK K
      try simp only [Act.put, List.setIfInBounds_toArray, List.set_cons_zero, List.set_cons_succ]
      refine wpAnyH_done (by kernel_rfl) ?_ _
      go_wp2_with fail
      go_ret
      have hl : (line h).length = (num 80 4 j).length + (text 0 7 (bl h.2)).length := by rw [HL.out, List.length_append]
      refine ⟨HB9.out, A9, c9, by rw [hl]; rfl, ?_⟩
      rw [hl, HL.out]
      exact HO9.out
    | none =>
      have e2 : idx (pTest h false) 30 = -1 := by have := HM.out; rw [hnm] at this; exact this
      have HL := Lib.hid (line_else hwh hnm)
      rw [e2] at ib2 ⊢
      clear e2 HW HM hwh hnm
      have HN1 := Lib.hid (fun w => refText_3 h.1 w h1)
      have HN2 := Lib.hid (fun w => refText_7 h.2 w h2)
      have HL1 := Lib.hid (text_length 32 3 (bl h.1) (by rw [bl_length]; exact h1)).2
      have HL2 := Lib.hid (text_length 0 7 (bl h.2) (by rw [bl_length]; exact h2)).2
      go_upto_region 7 with fail
      refine wp_region_held_drew (S := (fun w' => w'.cell? ⟨w.heap.size, 0, none⟩ = some (.string h.1) ∧ w'.cell? ⟨w.heap.size, 1, none⟩ = some (.string h.2))) (by kernel_rfl) (show (fun w' => w'.cell? ⟨w.heap.size, 0, none⟩ = some (.string h.1) ∧ w'.cell? ⟨w.heap.size, 1, none⟩ = some (.string h.2)) W.drew from ⟨hd1, hd2⟩) (fun hHeld => ?_)
      have hSWd : (fun w' => w'.cell? ⟨w.heap.size, 0, none⟩ = some (.string h.1) ∧ w'.cell? ⟨w.heap.size, 1, none⟩ = some (.string h.2)) W.drew := ⟨hd1, hd2⟩
      have HBWd := Lib.hid (show Below W.heap.size W W.drew from (Below.refl _ _).drew)
      refine wpAnyH_take (i := 0) (oi := ?of0) (v := ?vf0) ?ef0 ?af0 ?bf0 ?cf0 ?hf0 (Or.inl ⟨?gf0, ?yf0⟩) hSWd ?rf0
      case ef0 => simp only [List.getElem?_toArray, List.getElem?_cons_zero]; rfl
      case af0 => kernel_rfl
      case bf0 => kernel_rfl
      case cf0 => kernel_rfl
      case gf0 => rfl
      case yf0 => (intro w' hSw; (try dsimp only at hSw); first | (go_simp; done) | (go_simp; with_reducible rfl))
      case hf0 => exact fun _ _ _ h => h
      case' rf0 => try simp only [Act.put, List.setIfInBounds_toArray, List.set_cons_zero, List.set_cons_succ]
      refine wpAnyH_take (i := 1) (oi := ?of1) (v := ?vf1) ?ef1 ?af1 ?bf1 ?cf1 ?hf1 (Or.inl ⟨?gf1, ?yf1⟩) hSWd ?rf1
      case ef1 => simp only [List.getElem?_toArray, List.getElem?_cons_zero, List.getElem?_cons_succ]; rfl
      case af1 => kernel_rfl
      case bf1 => kernel_rfl
      case cf1 => kernel_rfl
      case gf1 => rfl
      case yf1 => (intro w' hSw; (try dsimp only at hSw); first | (go_simp; done) | (go_simp; with_reducible rfl))
      case hf1 => exact fun _ _ _ h => h
      case' rf1 => try simp only [Act.put, List.setIfInBounds_toArray, List.set_cons_zero, List.set_cons_succ]
      refine wpAnyH_take (i := 3) (oi := ?of3) (v := ?vf3) ?ef3 ?af3 ?bf3 ?cf3 ?hf3 (Or.inl ⟨?gf3, ?yf3⟩) hSWd ?rf3
      case ef3 => simp only [List.getElem?_toArray, List.getElem?_cons_zero, List.getElem?_cons_succ]; rfl
      case af3 => kernel_rfl
      case bf3 => kernel_rfl
      case cf3 => kernel_rfl
      case gf3 => rfl
      case yf3 => (intro w' hSw; (try dsimp only at hSw); first | (go_simp; done) | (go_simp; with_reducible rfl))
      case hf3 => exact fun _ _ _ h => h
      case' rf3 => try simp only [Act.put, List.setIfInBounds_toArray, List.set_cons_zero, List.set_cons_succ]
      refine wpAnyH_take (i := 4) (oi := ?of4) (v := ?vf4) ?ef4 ?af4 ?bf4 ?cf4 ?hf4 (Or.inl ⟨?gf4, ?yf4⟩) hSWd ?rf4
      case ef4 => simp only [List.getElem?_toArray, List.getElem?_cons_zero, List.getElem?_cons_succ]; rfl
      case af4 => kernel_rfl
      case bf4 => kernel_rfl
      case cf4 => kernel_rfl
      case gf4 => rfl
      case yf4 => (intro w' hSw; (try dsimp only at hSw); first | (go_simp; done) | (go_simp; with_reducible rfl))
      case hf4 => exact fun _ _ _ h => h
      case' rf4 => try simp only [Act.put, List.setIfInBounds_toArray, List.set_cons_zero, List.set_cons_succ]
      refine wpAnyH_ready (rs := [2]) (by kernel_rfl) (by simp) ?_
      refine (AllReadyH.cons (o := ?og2) ?eg2 (fun K hK => ?sg2) AllReadyH.nil)
      case eg2 => simp only [List.getElem?_toArray, List.getElem?_cons_zero, List.getElem?_cons_succ]; rfl
      go_simp
      refine (HN1.out W.drew).mono ?_
      rintro e wa ⟨hb, Awa, cwa, rfl, ho⟩
      have HBwa := Lib.hid (below_then HBWd.out hb); have HOwa := Lib.hid ho
      have hSwa : (fun w' => w'.cell? ⟨w.heap.size, 0, none⟩ = some (.string h.1) ∧ w'.cell? ⟨w.heap.size, 1, none⟩ = some (.string h.2)) wa := ⟨(hb.cell (p := ⟨w.heap.size, 0, none⟩) (by have := HBWd.out.size; have := HZ.out; show w.heap.size < _; omega)).trans hSWd.1, (hb.cell (p := ⟨w.heap.size, 1, none⟩) (by have := HBWd.out.size; have := HZ.out; show w.heap.size < _; omega)).trans hSWd.2⟩
      clear hb ho
      refine hK.out _ _ hSwa (fun hHeld => ?_)
      clear hK K
      try simp only [Act.put, List.setIfInBounds_toArray, List.set_cons_zero, List.set_cons_succ]
      refine wpAnyH_ready (rs := [5]) (by kernel_rfl) (by simp) ?_
      refine (AllReadyH.cons (o := ?oh5) ?eh5 (fun K hK => ?sh5) AllReadyH.nil)
      case eh5 => simp only [List.getElem?_toArray, List.getElem?_cons_zero, List.getElem?_cons_succ]; rfl
      go_simp
      refine (HN2.out wa).mono ?_
      rintro e wb ⟨hb, Awb, cwb, rfl, ho⟩
      have HBwb := Lib.hid (below_then HBwa.out hb); have HOwb := Lib.hid ho
      have hSwb : (fun w' => w'.cell? ⟨w.heap.size, 0, none⟩ = some (.string h.1) ∧ w'.cell? ⟨w.heap.size, 1, none⟩ = some (.string h.2)) wb := ⟨(hb.cell (p := ⟨w.heap.size, 0, none⟩) (by have := HBwa.out.size; have := HZ.out; show w.heap.size < _; omega)).trans hSwa.1, (hb.cell (p := ⟨w.heap.size, 1, none⟩) (by have := HBwa.out.size; have := HZ.out; show w.heap.size < _; omega)).trans hSwa.2⟩
      have HOA := Lib.hid (own_base (own_belowL HOwa.out hb) (show w.heap.size ≤ W.drew.heap.size by have := HZ.out; show w.heap.size ≤ W.heap.size; omega))
      have HOA2 := Lib.hid (fun j hj => Nat.le_trans (show w.heap.size + 1 ≤ W.drew.heap.size by have := HZ.out; show w.heap.size + 1 ≤ W.heap.size; omega) ((own_belowL HOwa.out hb).lt j hj).1)
      clear hb ho
      refine hK.out _ _ hSwb (fun hHeld => ?_)
      clear hK K
      try simp only [Act.put, List.setIfInBounds_toArray, List.set_cons_zero, List.set_cons_succ]
      refine wpAnyH_ready (rs := [6]) (by kernel_rfl) (by simp) ?_
      refine (AllReadyH.cons (o := ?oi6) ?ei6 (fun K hK => ?si6) AllReadyH.nil)
      case ei6 => simp only [List.getElem?_toArray, List.getElem?_cons_zero, List.getElem?_cons_succ]; rfl
      rw [if_pos (by rfl)]
      refine wp_append_any _ (.tmp 23) (.tmp 26) 24 rfl w.heap.size 5 i0 (.int .u8 0) Try.underlying24 hi0 hz0 hz1 hz2 rfl (.slice Awa (text 32 3 (bl h.1)).length cwa) (text 32 3 (bl h.1)).length (text 32 3 (bl h.1)) rfl ?i1 wb.heap.size Awb (text 0 7 (bl h.2)).length cwb (text 0 7 (bl h.2)) rfl ?i2 ?i3 ?i4 ?_
      case i1 => exact HOA.out
      case i2 => exact Rd.of_own HOwb.out rfl
      case i3 => have h1 := HL1.out; have h2 := HL2.out; omega
      case i4 => have := HBwb.out.size; have := HZ.out; omega
      intro A9 c9 w9 hown9 hg9 hat9
      have hb9 : Below w.heap.size w w9 := (HZB.out.trans (HBwb.out.mono (by have := HZ.out; omega))).grown hg9 (by have := HBwb.out.size; have := HZ.out; omega) (fun j hj => (HOA.out.lt j hj).1)
      have hS9 : (fun w' => w'.cell? ⟨w.heap.size, 0, none⟩ = some (.string h.1) ∧ w'.cell? ⟨w.heap.size, 1, none⟩ = some (.string h.2)) w9 := ⟨(hg9.cell_far ⟨w.heap.size, 0, none⟩ (by have := HBwb.out.size; have := HZ.out; show w.heap.size < _; omega) (fun e => absurd (HOA2.out _ e.symm) (by show ¬ (w.heap.size + 1 ≤ w.heap.size); omega))).trans hSwb.1, (hg9.cell_far ⟨w.heap.size, 1, none⟩ (by have := HBwb.out.size; have := HZ.out; show w.heap.size < _; omega) (fun e => absurd (HOA2.out _ e.symm) (by show ¬ (w.heap.size + 1 ≤ w.heap.size); omega))).trans hSwb.2⟩
      have HB9 := Lib.hid hb9; have HO9 := Lib.hid hown9; clear hown9 hg9 hat9 hb9
      refine hK.out _ _ hS9 (fun hHeld => ?_)
      clear hK K
      try simp only [Act.put, List.setIfInBounds_toArray, List.set_cons_zero, List.set_cons_succ]
      refine wpAnyH_ready (rs := [7]) (by kernel_rfl) (by simp) ?_
      refine (AllReadyH.cons (o := ?ol7) ?el7 (fun K hK => ?sl7) AllReadyH.nil)
      case el7 => simp only [List.getElem?_toArray, List.getElem?_cons_zero, List.getElem?_cons_succ]; rfl
      go_simp
      refine hK.out _ _ hS9 (fun hHeld => ?_)
      clear hK K
      try simp only [Act.put, List.setIfInBounds_toArray, List.set_cons_zero, List.set_cons_succ]
      refine wpAnyH_done (by kernel_rfl) ?_ _
      go_wp2_with fail
      go_ret
      have hl : (line h).length = (text 32 3 (bl h.1)).length + (text 0 7 (bl h.2)).length := by rw [HL.out, List.length_append]
      refine ⟨HB9.out, A9, c9, by rw [hl]; rfl, ?_⟩
      rw [hl, HL.out]
      exact HO9.out
end Go.Proofs.Ytcimcldmkaggnaa
