/- The program's Encode, walked. -/
import Derived.Test.YtcimcldmkaggnaaHdrTab
import Derived.Test.YtcimcldmkaggnaaHdrGood
import Derived.Laws.StructEq
import Derived.Deep.RegionWith
import Derived.Deep.RegionHeld3
import Derived.Deep.DeepCutAuto
import Derived.Deep.CutBlock
namespace Go.Proofs.Ytcimcldmkaggnaa
set_option linter.unusedVariables false
set_option linter.unusedSimpArgs false
open Go.RowKit
open Hd

theorem eqA53 (d : Nat) (w : World) (x0 y0 x1 y1 : ByteArray) :
    (Op.equalIn (d + 2) 53 (.agg #[.string x0, .string x1]) (.agg #[.string y0, .string y1])).run Try.prog w = .ok (x0.toList == y0.toList && (x1.toList == y1.toList)) w := by
  rw [run_equalIn_struct (P := Try.prog) w (d + 1) 53 _ _ (by kernel_rfl) (by kernel_rfl)]
  have e : (Try.prog.fieldsOf 53).toList = [{ name := "Name", type := 9, offset := 0, embedded := false, tag := "", pkgPath := "", byteOffset := 0 }, { name := "Value", type := 9, offset := 1, embedded := false, tag := "", pkgPath := "", byteOffset := 16 }] := by kernel_rfl
  rw [e]
  simp only [Op.eqFields]
  go_simp
  by_cases h0 : x0.toList = y0.toList <;> by_cases h1 : x1.toList = y1.toList <;> simp [h0, h1]
theorem eqStr (a b : ByteArray) : (a.toList == b.toList) = decide (a = b) := by
  rw [ByteArray.toList_eq, ByteArray.toList_eq]
  by_cases h : a = b
  · subst h; simp
  · rw [decide_eq_false h, beq_eq_false_iff_ne]
    intro e
    exact h (ByteArray.ext (Array.ext' e))
theorem eqH53 (d : Nat) (w : World) (x y : H) : (Op.equalIn (d + 2) 53 (.agg #[.string x.1, .string x.2]) (.agg #[.string y.1, .string y.2])).run Try.prog w = .ok (decide (x = y)) w := by
  rw [eqA53, eqStr, eqStr]
  congr 1
  rw [← Bool.decide_and]
  exact decide_eq_decide.2 ⟨fun h => Prod.ext h.1 h.2, fun h => by subst h; exact ⟨rfl, rfl⟩⟩
/-- the first of so many that fits, or -1 -/
def idx (p : H → Bool) (i : Nat) : Int := match (tab.take i).findIdx? p with | some j => (j : Int) | none => -1
theorem idx_zero (p : H → Bool) : idx p 0 = -1 := rfl
theorem idx_bounds (p : H → Bool) (i : Nat) : -1 ≤ idx p i ∧ idx p i < 30 := by
  unfold idx
  split
  · rename_i j hj
    obtain ⟨hl, _⟩ := List.findIdx?_eq_some_iff_getElem.1 hj
    rw [List.length_take, tab_length] at hl
    omega
  · omega
theorem idx_succ (p : H → Bool) (i : Nat) (x : H) (hx : tab[i]? = some x) : idx p (i + 1) = if idx p i < 0 ∧ p x = true then (i : Int) else idx p i := by
  have hl : i < tab.length := (List.getElem?_eq_some_iff.1 hx).1
  have he : tab[i] = x := (List.getElem?_eq_some_iff.1 hx).2
  unfold idx
  rw [List.take_succ_eq_append_getElem hl, he, List.findIdx?_append]
  cases hf : (tab.take i).findIdx? p with
  | some j => simp; omega
  | none =>
    by_cases hp : p x = true
    · simp [hp]; omega
    · simp [hp]
theorem idx_all (p : H → Bool) : idx p 30 = match tab.findIdx? p with | some j => (j : Int) | none => -1 := by
  unfold idx
  rw [show tab.take 30 = tab from List.take_of_length_le (by rw [tab_length]; omega)]
theorem tabV_size : tabV.size = 60 := by decide +kernel
theorem tab_index (w : World) (i : Nat) (x : H) (hx : tab[i]? = some x) : (Instr.index 56 (.agg tabV) (.int .i64 (i : Nat))).run Try.prog w = .ok (.agg #[.string x.1, .string x.2]) w := by
  obtain ⟨hl, he⟩ := List.getElem?_eq_some_iff.1 hx
  rw [tab_length] at hl
  simp only [Instr.index, asIntOf, Sem.run_bind, Sem.run_pure, Result.andThen_ok, run_underlying Try.underlying56]
  rw [if_pos (by omega)]
  simp only [Sem.run_bind, Try.sizeOf53, Result.andThen_ok, part, Try.isAgg53, if_true, Sem.run_pure, Int.toNat_natCast]
  congr 2
  apply Array.ext'
  rw [Array.toList_extract, tabV_cells, List.extract_eq_take_drop, Nat.add_sub_cancel_left]
  exact cellsOf_at tab i x hx
theorem undrew {w w' : World} (h : Below w.drew.heap.size w.drew w') : Below w.heap.size w w' := ⟨h.os, h.tape, h.output, h.size, h.block⟩
theorem num_byt {w0 w : World} {xs : List UInt8} {A : Option Addr} {c : Nat} (h : w.ownsRow w0.heap.size 5 1 (.slice A xs.length c) xs.length (bs xs)) : Byt w (.slice A xs.length c) xs := Byt.of_own h
theorem enc_take {hs : List H} {k : Nat} {x : H} (hx : hs[k]? = some x) : enc (hs.take (k + 1)) = enc (hs.take k) ++ line x := by
  obtain ⟨hl, he⟩ := List.getElem?_eq_some_iff.1 hx
  rw [List.take_succ_eq_append_getElem hl, he]
  simp [enc]
theorem enc_take_length {hs : List H} (hg : good hs = true) (k : Nat) : (enc (hs.take k)).length ≤ 12122 := by
  have hS := good_sizes hg
  have h1 := flat_length (hs.take k) (fun y hy => hS y (List.mem_of_mem_take hy))
  have h2 : hs.length ≤ 20 := by
    unfold good at hg
    simp only [Bool.and_eq_true, decide_eq_true_eq] at hg
    exact hg.1
  have h3 : (hs.take k).length ≤ hs.length := by rw [List.length_take]; omega
  unfold enc
  simp only [List.length_cons]; omega
theorem line_whole {x : H} {j : Nat} (h : wholeAt x = some j) : line x = num 192 6 j := by unfold line; rw [h]
theorem line_name {x : H} {j : Nat} (h : wholeAt x = none) (h2 : nameAt x.1 = some j) : line x = num 80 4 j ++ text 0 7 (bl x.2) := by unfold line; rw [h, h2]
theorem line_else {x : H} (h : wholeAt x = none) (h2 : nameAt x.1 = none) : line x = text 32 3 (bl x.1) ++ text 0 7 (bl x.2) := by unfold line; rw [h, h2]
def EncEnds (hs : List H) (w : World) (e : Ending) (w' : World) : Prop :=
  Below w.heap.size w w' ∧ ((good hs = true ∧ ∃ v, e = .returned (.tuple #[v, .int .i64 0]) ∧ Byt w' v (enc hs)) ∨ (good hs = false ∧ e = .returned (.tuple #[.slice none 0 0, .int .i64 200])))

set_option maxRecDepth 100000 in
set_option maxHeartbeats 4000000 in
theorem encode_any (A : Option Addr) (n c : Nat) (hs : List H) (w : World) (hR : HRd w w.heap.size A n hs) (hn : n ≤ 9223372036854775807) :
    Calls Try.prog 19 #[.slice A n c] w (EncEnds hs w) := by
  by_cases hg : good hs = true
  · have hcv : checkV hs = 0 := by rw [checkV_good, if_pos hg]
    have hsz := good_sizes hg
    have HG := Lib.hid hg; have HS := Lib.hid hsz; have HCV := Lib.hid hcv; have HR := Lib.hid hR; clear hg hsz hcv hR
    go_enter Try.func19, Try.ntmps19
    go_wp2_with fail
    refine (check_any A n c hs w HR.out hn).mono ?_
    rintro e w1 ⟨he, hb1⟩
    rw [HCV.out] at he
    subst he
    have HR1 := Lib.hid (HR.out.after hb1); have HB1 := Lib.hid hb1; clear hb1
    go_wp2_with fail
    go_loopw [5, 21] (fun s5 s21 wr => ∃ (k m c5 : Nat) (A5 : Option Addr), k ≤ n ∧ s21 = .int .i64 (k : Nat) ∧ s5 = .slice A5 m c5 ∧ Byt wr (.slice A5 m c5) (enc (hs.take k)) ∧ Below w.heap.size w wr) (fun _ s21 _ => n - (intOf s21).toNat)
    case atStart => exact ⟨0, 2, 2, _, by omega, rfl, rfl, ⟨_, 2, rfl, Rd.new w1 5 [0, 0] 2 _ rfl rfl |>.more (by simp), Nat.le_refl 2, by unfold maxLen; omega⟩, HB1.out.alloc HB1.out.size _⟩
    case round =>
      obtain ⟨k, m, c5, A5, hk, rfl, rfl, hy, hb⟩ := hrel
      have HY := Lib.hid hy; have HB := Lib.hid hb; clear hy hb
      have hlen := HR.out.1
      by_cases hkn : k < n
      · obtain ⟨b, o, rfl, hbl, hcs⟩ := HR.out.2 (by omega)
        obtain ⟨hc1, hc2⟩ := hcs k (by omega)
        rw [← HB.out.cell (p := ⟨b, o + k * 2, none⟩) hbl] at hc1
        rw [← HB.out.cell (p := ⟨b, o + k * 2 + 1, none⟩) hbl] at hc2
        obtain ⟨x, hx⟩ : ∃ x, hs[k]? = some x := ⟨_, List.getElem?_eq_getElem (show k < hs.length by omega)⟩
        have hx2 : hs[k]'(by omega) = x := (List.getElem?_eq_some_iff.1 hx).2
        rw [hx2] at hc1 hc2
        have HX := Lib.hid hx
        clear hcs hx hx2 hlen
        go_wp2_with fail
        refine (table_any _).mono ?_
        rintro e w2 ⟨rfl, rfl⟩
        have hb2 : Below w.heap.size w ((wr.alloc (.cells #[.string x.1, .string x.2] 53)).alloc (.cells tabV 56)) := (HB.out.alloc HB.out.size _).alloc (by have := HB.out.size; simp; omega) _
        have hy2 := (HY.out.after ((Below.refl _ wr).alloc (Nat.le_refl _) (.cells #[.string x.1, .string x.2] 53))).after ((Below.refl _ _).alloc (Nat.le_refl _) (.cells tabV 56))
        have hg2 : wr.heap.size < ((wr.alloc (.cells #[.string x.1, .string x.2] 53)).alloc (.cells tabV 56)).heap.size := by simp; omega
        have hc3 : ((wr.alloc (.cells #[.string x.1, .string x.2] 53)).alloc (.cells tabV 56)).cell? ⟨wr.heap.size, 0, none⟩ = some (.string x.1) := by go_simp
        have hc4 : ((wr.alloc (.cells #[.string x.1, .string x.2] 53)).alloc (.cells tabV 56)).cell? ⟨wr.heap.size, 1, none⟩ = some (.string x.2) := by go_simp
        clear hc1 hc2 HY HB
        go_wp2_with fail
        generalize ((wr.alloc (.cells #[.string x.1, .string x.2] 53)).alloc (.cells tabV 56)) = W2 at *
        generalize wr.heap.size = g at *
        have HB2 := Lib.hid hb2; have HY2 := Lib.hid hy2; have HC3 := Lib.hid hc3; have HC4 := Lib.hid hc4
        clear hb2 hy2 hc3 hc4
        go_loopw [8, 9, 26] (fun s8 s9 s26 wq => ∃ i : Nat, i ≤ 30 ∧ s26 = .int .i64 (i : Nat) ∧ s8 = .int .i64 (idx (fun y => decide (y = x)) i) ∧ s9 = .int .i64 (idx (fun y => decide (y.1 = x.1)) i) ∧ Below W2.heap.size W2 wq) (fun _ _ s26 _ => 30 - (intOf s26).toNat)
        case atStart => exact ⟨0, by omega, rfl, rfl, rfl, Below.refl _ _⟩
        case round =>
          obtain ⟨i, hi, rfl, rfl, rfl, hbq⟩ := hrel
          have hgr : g < wr.heap.size := by have := hbq.size; omega
          have hc3 := fun ob => (World.cell?_alloc_lt wr ob ⟨g, 0, none⟩ hgr).trans ((hbq.cell (p := ⟨g, 0, none⟩) hg2).trans HC3.out)
          have hc4 := fun ob => (World.cell?_alloc_lt wr ob ⟨g, 1, none⟩ hgr).trans ((hbq.cell (p := ⟨g, 1, none⟩) hg2).trans HC4.out)
          have HBQ := Lib.hid hbq; clear hbq
          by_cases hi30 : i < 30
          · obtain ⟨y, hy⟩ : ∃ y, tab[i]? = some y := ⟨_, List.getElem?_eq_getElem (show i < tab.length by rw [tab_length]; exact hi30)⟩
            have hix := fun w => tab_index w i y hy
            have q1 := idx_succ (fun z => decide (z = x)) i y hy
            have q2 := idx_succ (fun z => decide (z.1 = x.1)) i y hy
            have Q1 := Lib.hid q1; have Q2 := Lib.hid q2; clear q1 q2 hy
            have qs := eqStr y.1 x.1
            have qh := fun d w => eqH53 d w y x
            generalize idx (fun z => decide (z = x)) i = a1 at *
            generalize idx (fun z => decide (z.1 = x.1)) i = a2 at *
            go_wp2_with fail
            all_goals
              go_roundw
              case rel =>
                have t1 := Q1.out
                have t2 := Q2.out
                simp only [decide_eq_true_eq] at t1 t2
                refine ⟨i + 1, by omega, by go_num, ?_, ?_, HBQ.out.alloc HBQ.out.size _⟩
                · rw [t1]; first | rw [if_pos ⟨by assumption, by assumption⟩] | rw [if_neg (fun hh => absurd hh.2 (by assumption))] | rw [if_neg (fun hh => by have := hh.1; omega)]
                · rw [t2]; first | rw [if_pos ⟨by assumption, by assumption⟩] | rw [if_pos ⟨by assumption, congrArg Prod.fst (by assumption)⟩] | rw [if_neg (fun hh => absurd hh.2 (by assumption))] | rw [if_neg (fun hh => by have := hh.1; omega)]
              case measure => simp [intOf]; omega
          · obtain rfl : i = 30 := by omega
            have w1 := idx_all (fun z => decide (z = x))
            have w2 := idx_all (fun z => decide (z.1 = x.1))
            have b1 := idx_bounds (fun z => decide (z = x)) 30
            have b2 := idx_bounds (fun z => decide (z.1 = x.1)) 30
            have HW1 := Lib.hid w1; have HW2 := Lib.hid w2; clear w1 w2
            generalize idx (fun z => decide (z = x)) 30 = a1 at *
            generalize idx (fun z => decide (z.1 = x.1)) 30 = a2 at *
            have hbz := HB2.out.trans (HBQ.out.mono (by have := HB2.out.size; exact this))
            have HBZ := Lib.hid hbz
            have HYZ := Lib.hid (HY2.out.after HBQ.out)
            clear hbz
            have hxs : x.2.size ≤ 300 ∧ x.1.size ≤ 300 := by
              have := HS.out x (List.mem_of_getElem? HX.out)
              omega
            go_upto_region 17 with fail
            go_cut [12] (fun s12 wx => ∃ (m c : Nat) (A : Option Addr), s12 = .slice A m c ∧ Byt wx (.slice A m c) (text 0 7 (bl x.2)) ∧ Below wr.heap.size wr wx)
            case first =>
              have hcv := fun w => Lib.run_convert_string_bytes (P := Try.prog) w 9 24 5 x.2 Try.underlying9 Try.underlying24 Try.underlying5
              have hw3 : wr.cell? ⟨g, 0, none⟩ = some (.string x.1) := (HBQ.out.cell (p := ⟨g, 0, none⟩) hg2).trans HC3.out
              have hw4 : wr.cell? ⟨g, 1, none⟩ = some (.string x.2) := (HBQ.out.cell (p := ⟨g, 1, none⟩) hg2).trans HC4.out
              have hw5 : (Lib.bytesWorld wr.drew 5 x.2).cell? ⟨g, 1, none⟩ = some (.string x.2) := (Lib.bytesWorld_old wr.drew 5 x.2 ⟨g, 1, none⟩ hgr).trans hw4
              clear hc3 hc4
              go_region_with (first
                | (go_at_call 39; refine (number_7 x.2.size _ (by omega)).mono ?_; rintro e w4 ⟨hb4, A4, c4, rfl, ho4⟩; have HB4 := Lib.hid hb4; have HO4 := Lib.hid ho4; (first | (have hc6 : w4.cell? ⟨g, 1, none⟩ = some (.string x.2) := (hb4.cell (p := ⟨g, 1, none⟩) hgr).trans hw4) | skip); clear hb4 ho4)
                | (go_at_call 38; refine (laid_two _ _ _ (num 0 7 x.2.size) (bl x.2) (by first | exact (Byt.of_own HO4.out).after (bytes_below w4 x.2) | exact Byt.of_own HO4.out) (by first | exact byt_bytes w4 x.2 (by omega) | exact (byt_bytes _ x.2 (by omega)).after HB4.out) (by have h1 := (num_length 0 7 x.2.size (by omega)).2; have h2 := bl_length x.2; omega)).mono ?_; rintro e w5 ⟨v5, rfl, -, hy5, hb5⟩; have hb6 : Below wr.heap.size wr w5 := (by first | exact below_then (below_then (undrew HB4.out) (bytes_below w4 x.2)) hb5 | exact below_then (below_then (undrew (bytes_below wr.drew x.2)) HB4.out) hb5); have hy6 := hy5; obtain ⟨A6, c6, hv6, -⟩ := hy6; subst hv6; have HY5 := Lib.hid hy5; have HB6 := Lib.hid hb6; clear hy5 hb5 hb6))
              all_goals
                go_wp2_with fail
                go_meet
                refine ⟨_, _, _, rfl, ?_, HB6.out⟩
                have h5 := HY5.out
                rw [List.length_append] at h5
                unfold text
                rw [bl_length] at h5 ⊢
                exact h5
            case rest =>
              obtain ⟨m2, c2, A2, rfl, hv2, hbw⟩ := hcut
              have HV := Lib.hid hv2
              have HYC := Lib.hid (HYZ.out.after hbw)
              have HBC := Lib.hid (below_then HBZ.out hbw)
              have hgc : g < wc.heap.size := by have := hbw.size; omega
              have hw3 : wc.cell? ⟨g, 0, none⟩ = some (.string x.1) := (hbw.cell (p := ⟨g, 0, none⟩) hgr).trans ((HBQ.out.cell (p := ⟨g, 0, none⟩) hg2).trans HC3.out)
              clear hc3 hc4 hv2 hbw HC3 HC4 HYZ HBZ HBQ HY2 HB2
              have HLE := Lib.hid (enc_take_length HG.out k)
              have HTE := Lib.hid (enc_take HX.out)
              have HT7 := Lib.hid (text_length 0 7 (bl x.2) (by rw [bl_length]; omega)).2
              cases hwh : wholeAt x with
              | some j =>
                have e1 : a1 = (j : Nat) := by have := HW1.out; rw [show tab.findIdx? (fun z => decide (z = x)) = some j from hwh] at this; exact this
                have hj := (wholeAt_some hwh).1
                have HL := Lib.hid (line_whole hwh)
                clear HW1 HW2 hwh
                subst e1
                have HN := Lib.hid (fun w => number_6 j w (by omega))
                have HNL := Lib.hid (num_length 192 6 j (by omega)).2
                go_wp2_with (first
                  | (go_at_call 39; refine (HN.out _).mono ?_; rintro e w4 ⟨hb4, A4, c4, rfl, ho4⟩; have HB4 := Lib.hid hb4; have HO4 := Lib.hid ho4; clear hb4 ho4)
                  | (go_at_call 38; refine (laid_two _ _ _ (enc (hs.take k)) (num 192 6 j) (HYC.out.after HB4.out) (Byt.of_own HO4.out) (by have := HLE.out; have := HNL.out; omega)).mono ?_; rintro e w5 ⟨v5, rfl, -, hy5, hb5⟩; have hy6 := hy5; obtain ⟨A6, c6, hv6, -⟩ := hy6; subst hv6; have HY5 := Lib.hid hy5; have HB5 := Lib.hid hb5; clear hy5 hb5))
                go_roundw
                case rel => exact ⟨k + 1, _, _, _, by omega, by go_num, rfl, by rw [HTE.out, HL.out]; have h5 := HY5.out; simp only [List.length_append] at h5; exact h5, below_then (below_then HBC.out HB4.out) HB5.out⟩
                case measure => simp [intOf]; omega
              | none =>
                have e1 : a1 = -1 := by have := HW1.out; rw [show tab.findIdx? (fun z => decide (z = x)) = none from hwh] at this; exact this
                subst e1
                cases hnm : nameAt x.1 with
                | some j =>
                  have e2 : a2 = (j : Nat) := by have := HW2.out; rw [show tab.findIdx? (fun z => decide (z.1 = x.1)) = some j from hnm] at this; exact this
                  have hj := (nameAt_some hnm).1
                  have HL := Lib.hid (line_name hwh hnm)
                  clear HW1 HW2 hwh hnm
                  subst e2
                  have HN := Lib.hid (fun w => number_4 j w (by omega))
                  have HNL := Lib.hid (num_length 80 4 j (by omega)).2
                  go_wp2_with (first
                    | (go_at_call 39; refine (HN.out _).mono ?_; rintro e w4 ⟨hb4, A4, c4, rfl, ho4⟩; have HB4 := Lib.hid hb4; have HO4 := Lib.hid ho4; clear hb4 ho4)
                    | (go_at_call 38; refine (laid_three _ _ _ _ (enc (hs.take k)) (num 80 4 j) (text 0 7 (bl x.2)) (HYC.out.after HB4.out) (Byt.of_own HO4.out) (HV.out.after HB4.out) (by have := HLE.out; have := HNL.out; have := HT7.out; omega)).mono ?_; rintro e w5 ⟨v5, rfl, -, hy5, hb5⟩; have hy6 := hy5; obtain ⟨A6, c6, hv6, -⟩ := hy6; subst hv6; have HY5 := Lib.hid hy5; have HB5 := Lib.hid hb5; clear hy5 hb5))
                  go_roundw
                  case rel => exact ⟨k + 1, _, _, _, by omega, by go_num, rfl, by rw [HTE.out, HL.out]; have h5 := HY5.out; simp only [List.length_append] at h5; exact h5, below_then (below_then HBC.out HB4.out) HB5.out⟩
                  case measure => simp [intOf]; omega
                | none =>
                  have e2 : a2 = -1 := by have := HW2.out; rw [show tab.findIdx? (fun z => decide (z.1 = x.1)) = none from hnm] at this; exact this
                  have HL := Lib.hid (line_else hwh hnm)
                  clear HW1 HW2 hwh hnm
                  subst e2
                  have HN := Lib.hid (fun w => number_3 x.1.size w (by omega))
                  have HNL := Lib.hid (num_length 32 3 x.1.size (by omega)).2
                  have hcv := fun w => Lib.run_convert_string_bytes (P := Try.prog) w 9 24 5 x.1 Try.underlying9 Try.underlying24 Try.underlying5
                  have hw5 : (Lib.bytesWorld wc.drew 5 x.1).cell? ⟨g, 0, none⟩ = some (.string x.1) := (Lib.bytesWorld_old wc.drew 5 x.1 ⟨g, 0, none⟩ hgc).trans hw3
                  go_upto_region 18 with fail
                  go_region_with (first
                    | (go_at_call 39; refine (HN.out _).mono ?_; rintro e w4 ⟨hb4, A4, c4, rfl, ho4⟩; have HB4 := Lib.hid hb4; have HO4 := Lib.hid ho4; (first | (have hc6 : w4.cell? ⟨g, 0, none⟩ = some (.string x.1) := (hb4.cell (p := ⟨g, 0, none⟩) hgc).trans hw3) | skip); clear hb4 ho4)
                    | (go_at_call 38; refine (laid_four _ _ _ _ _ (enc (hs.take k)) (num 32 3 x.1.size) (bl x.1) (text 0 7 (bl x.2)) (by first | exact (HYC.out.after (undrew HB4.out)).after (bytes_below w4 x.1) | exact (HYC.out.after (undrew (bytes_below wc.drew x.1))).after HB4.out) (by first | exact (Byt.of_own HO4.out).after (bytes_below w4 x.1) | exact Byt.of_own HO4.out) (by first | exact byt_bytes w4 x.1 (by omega) | exact (byt_bytes _ x.1 (by omega)).after HB4.out) (by first | exact (HV.out.after (undrew HB4.out)).after (bytes_below w4 x.1) | exact (HV.out.after (undrew (bytes_below wc.drew x.1))).after HB4.out) (by have h1 := HNL.out; have h2 := bl_length x.1; have h3 := HLE.out; have h4 := HT7.out; omega)).mono ?_; rintro e w5 ⟨v5, rfl, -, hy5, hb5⟩; have hb6 : Below wc.heap.size wc w5 := (by first | exact below_then (below_then (undrew HB4.out) (bytes_below w4 x.1)) hb5 | exact below_then (below_then (undrew (bytes_below wc.drew x.1)) HB4.out) hb5); have hy6 := hy5; obtain ⟨A6, c6, hv6, -⟩ := hy6; subst hv6; have HY5 := Lib.hid hy5; have HB6 := Lib.hid hb6; clear hy5 hb5 hb6))
                  all_goals
                    clear hcv hw5
                    go_wp2_with fail
                    go_roundw
                    case rel =>
                      refine ⟨k + 1, _, _, _, by omega, by go_num, rfl, ?_, below_then HBC.out HB6.out⟩
                      have h5 := HY5.out
                      simp only [List.length_append] at h5
                      rw [HTE.out, HL.out]
                      unfold text
                      rw [bl_length]
                      rw [bl_length] at h5
                      simp only [List.append_assoc]
                      first | exact h5 | skip
                    case measure => simp [intOf]; omega
      · obtain rfl : k = n := by omega
        have hy := HY.out
        rw [List.take_of_length_le (by omega)] at hy
        have HY2 := Lib.hid hy; clear hy
        go_wp2_with fail
        go_ret2
        exact ⟨HB.out, .inl ⟨HG.out, _, rfl, HY2.out⟩⟩
  · have hg' : good hs = false := by simpa using hg
    have hcv : checkV hs = 200 := by rw [checkV_good, if_neg hg]
    have HG := Lib.hid hg'; have HCV := Lib.hid hcv; have HR := Lib.hid hR; clear hg hg' hcv hR
    go_enter Try.func19, Try.ntmps19
    go_wp2_with fail
    refine (check_any A n c hs w HR.out hn).mono ?_
    rintro e w1 ⟨he, hb1⟩
    rw [HCV.out] at he
    subst he
    go_wp2_with fail
    go_ret2
    exact ⟨hb1, .inr ⟨HG.out, rfl⟩⟩
end Go.Proofs.Ytcimcldmkaggnaa
