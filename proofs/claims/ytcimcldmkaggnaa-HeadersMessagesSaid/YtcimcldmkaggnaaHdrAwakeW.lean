/- awake and the comparison of two lists, walked. -/
import Derived.Test.YtcimcldmkaggnaaHdrMsgW
import Derived.Test.YtcimcldmkaggnaaHdrParseW
namespace Go.Proofs.Ytcimcldmkaggnaa
set_option linter.unusedVariables false
set_option linter.unusedSimpArgs false
open Go.RowKit
open Hd Va

theorem HRd.newm (w : World) (t : TypeId) (hs : List H) (n : Nat) (cs : Array Value) (h : cs.toList = cellsOf hs) (hn : hs.length = n) : HRd (w.alloc (.cells cs t)) (w.heap.size + 1) (some ⟨w.heap.size, 0, none⟩) n hs := by
  refine ⟨hn, fun _ => ⟨w.heap.size, 0, rfl, by omega, fun j hj => ?_⟩⟩
  have hrow := heap_alloc_new w (.cells cs t)
  obtain ⟨e0, e1⟩ := cellsOf_two hs j hj
  rw [← h, Array.getElem?_toList] at e0 e1
  rw [Nat.zero_add]
  exact ⟨(cell_of_row _ _ _ _ _ _ hrow).trans e0, (cell_of_row _ _ _ _ _ _ hrow).trans e1⟩
theorem HRd.new1 (w : World) (h : H) : HRd (w.alloc (.cells #[.string h.1, .string h.2] 53)) (w.alloc (.cells #[.string h.1, .string h.2] 53)).heap.size (some ⟨w.heap.size, 0, none⟩) 1 [h] := by
  have := HRd.newm w 53 [h] 1 #[.string h.1, .string h.2] rfl rfl
  exact this.more (by simp)
theorem eqBoth (d : Nat) (w : World) (x y : H) : (Op.equalIn (d + 2) 53 (.agg #[.string x.1, .string x.2]) (.agg #[.string y.1, .string y.2])).run Try.prog w = .ok (decide (x = y)) w := eqH53 d w x y
theorem take_eq_succ {a b : List H} {k : Nat} (ha : k < a.length) (hb : k < b.length) (h : a.take k = b.take k) (he : a[k] = b[k]) : a.take (k + 1) = b.take (k + 1) := by
  rw [List.take_succ_eq_append_getElem ha, List.take_succ_eq_append_getElem hb, h, he]
set_option maxRecDepth 100000 in
set_option maxHeartbeats 800000 in
theorem same_any (A : Option Addr) (n c : Nat) (as1 : List H) (B : Option Addr) (m d : Nat) (bs1 : List H) (w : World) (hA : HRd w w.heap.size A n as1) (hB : HRd w w.heap.size B m bs1) (hn : n ≤ 9223372036854775807) (hm : m ≤ 9223372036854775807) :
    Calls Try.prog 23 #[.slice A n c, .slice B m d] w fun e w' => e = .returned (.bool (decide (as1 = bs1))) ∧ Below w.heap.size w w' := by
  have HA := Lib.hid hA; have HB := Lib.hid hB; clear hA hB
  by_cases hl : n = m
  · subst hl
    go_enter Try.func23, Try.ntmps23
    go_wp2_with fail
    go_loopw [5] (fun i wr => ∃ k : Nat, k ≤ n ∧ i = .int .i64 k ∧ as1.take k = bs1.take k ∧ Below w.heap.size w wr) (fun i _ => n - (intOf i).toNat)
    case atStart => exact ⟨0, by omega, rfl, rfl, Below.refl _ _⟩
    case round =>
      obtain ⟨k, hk, rfl, hall, hbr⟩ := hrel
      have HT := Lib.hid hall; have HBR := Lib.hid hbr; clear hall hbr
      by_cases hkn : k < n
      · obtain ⟨b1, o1, rfl, hbl1, hcs1⟩ := HA.out.2 (by omega)
        obtain ⟨b2, o2, rfl, hbl2, hcs2⟩ := HB.out.2 (by omega)
        obtain ⟨c1, c2⟩ := hcs1 k (by have := HA.out.1; omega)
        obtain ⟨c3, c4⟩ := hcs2 k (by have := HB.out.1; omega)
        rw [← HBR.out.cell (p := ⟨b1, o1 + k * 2, none⟩) hbl1] at c1
        rw [← HBR.out.cell (p := ⟨b1, o1 + k * 2 + 1, none⟩) hbl1] at c2
        rw [← HBR.out.cell (p := ⟨b2, o2 + k * 2, none⟩) hbl2] at c3
        rw [← HBR.out.cell (p := ⟨b2, o2 + k * 2 + 1, none⟩) hbl2] at c4
        generalize hx : as1[k]'(by have := HA.out.1; omega) = x at c1 c2
        generalize hy : bs1[k]'(by have := HB.out.1; omega) = y at c3 c4
        have HX := Lib.hid hx; have HYY := Lib.hid hy
        clear hcs1 hcs2 hx hy
        have hkn1 : (k : Int) < (n : Int) := by omega
        have hk0 : (0 : Int) ≤ (k : Int) := by omega
        by_cases hxy : x = y
        · have heq := fun d w => (eqBoth d w x y).trans (by rw [decide_eq_true hxy])
          have HXY := Lib.hid hxy; clear hxy
          go_wp2_with fail
          go_quiet (fail)
          go_wp2_with fail
          go_roundw
          case rel => exact ⟨k + 1, by omega, by go_num, take_eq_succ (by have := HA.out.1; omega) (by have := HB.out.1; omega) HT.out (HX.out.trans (HXY.out.trans HYY.out.symm)), below_drewN HBR.out _⟩
          case measure => simp [intOf]; omega
        · have heq := fun d w => (eqBoth d w x y).trans (by rw [decide_eq_false hxy])
          have HV := Lib.hid (show decide (as1 = bs1) = false from decide_eq_false (by
            intro e
            subst e
            exact hxy (HX.out.symm.trans HYY.out)))
          clear hxy
          go_wp2_with fail
          go_quiet (fail)
          go_wp2_with fail
          go_ret
          rw [HV.out]
          exact ⟨rfl, below_drewN HBR.out _⟩
      · obtain rfl : k = n := by omega
        have HV := Lib.hid (show decide (as1 = bs1) = true from decide_eq_true (by
          have h := HT.out
          rwa [List.take_of_length_le (by have := HA.out.1; omega), List.take_of_length_le (by have := HB.out.1; omega)] at h))
        go_wp2_with fail
        go_ret
        rw [HV.out]; exact ⟨rfl, HBR.out⟩
  · have HV := Lib.hid (show decide (as1 = bs1) = false from decide_eq_false (by
      intro e
      subst e
      exact hl (HA.out.1.symm.trans HB.out.1)))
    have hne : ((n : Int) == (m : Int)) = false := beq_eq_false_iff_ne.2 (by omega)
    have hne2 : ((n : Int) != (m : Int)) = true := by rw [bne, hne]; rfl
    go_enter Try.func23, Try.ntmps23
    go_wp2_with fail
    go_ret
    rw [HV.out]; exact ⟨rfl, Below.refl _ _⟩

def hGet : H := (⟨#[58, 109, 101, 116, 104, 111, 100]⟩, ⟨#[71, 69, 84]⟩)
def hPath : H := (⟨#[58, 112, 97, 116, 104]⟩, ⟨#[47, 97]⟩)
def hStat : H := (⟨#[58, 115, 116, 97, 116, 117, 115]⟩, ⟨#[50, 48, 48]⟩)
theorem enc_get : enc [hGet] = [0, 0, 209] := by decide +kernel
theorem enc_path : enc [hPath] = [0, 0, 81, 2, 47, 97] := by decide +kernel
theorem parse_stat : parse [1, 3, 0, 0, 217, 0, 2, 111, 107] = ([hStat], [111, 107], 0) := by decide +kernel
theorem parse_none : parse [] = ([], [], 201) := by decide +kernel
theorem parse_got (A : Option Addr) (n c : Nat) (xs : List UInt8) (w : World) (hR : Rd w w.heap.size A n xs) (hc : n ≤ c) (hm : c ≤ maxLen) (hn : n ≤ 1000000) (hs : List H) (body : List UInt8) (z : Int) (hp : parse xs = (hs, body, z)) :
    Calls Try.prog 22 #[.slice A n c] w fun e w' => ∃ A1 c1 A2 c2, e = .returned (.tuple #[.slice A1 hs.length c1, .slice A2 body.length c2, .int .i64 z]) ∧ Hds w' (.slice A1 hs.length c1) hs ∧ Byt w' (.slice A2 body.length c2) body ∧ Below w.heap.size w w' := by
  refine (parse_any A n c xs w hR hc hm hn).mono ?_
  rintro e w1 ⟨hb, v, u, rfl, hv, hu⟩
  rw [hp] at hv hu ⊢
  simp only at hv hu ⊢
  have hv' := hv; have hu' := hu
  obtain ⟨A1, c1, rfl, -⟩ := hv'
  obtain ⟨A2, c2, rfl, -⟩ := hu'
  exact ⟨A1, c1, A2, c2, rfl, hv, hu, hb⟩
theorem Byt.convert {w : World} {A : Option Addr} {n c : Nat} {xs : List UInt8} (h : Byt w (.slice A n c) xs) : (convert 24 9 (.slice A n c)).run Try.prog w = .ok (.string (sl xs)) w := by
  obtain ⟨A1, c1, hv, hr, _⟩ := h
  injection hv with h1 h2 h3
  subst h1 h2 h3
  exact hr.convert (P := Try.prog) _ 24 5 9 Try.underlying24 Try.underlying5 Try.underlying9
set_option maxRecDepth 100000 in
set_option maxHeartbeats 1600000 in
theorem awake20_any (w : World) : Calls Try.prog 17 #[] w fun e w' => e = .returned (.bool true) ∧ Below w.heap.size w w' := by
  have s1 := fun w => encode_good (some ⟨w.heap.size, 0, none⟩) 1 1 [hGet] _ (HRd.new1 w hGet) (by omega) (by decide +kernel)
  rw [enc_get] at s1
  have s2 := fun w => encode_good (some ⟨w.heap.size, 0, none⟩) 1 1 [hPath] _ (HRd.new1 w hPath) (by omega) (by decide +kernel)
  rw [enc_path] at s2
  have S1 := Lib.hid s1; have S2 := Lib.hid s2; clear s1 s2
  go_enter Try.func17, Try.ntmps17
  go_wp2_with fail
  refine (S1.out w).mono ?_
  rintro e w1 ⟨A1, c1, rfl, hy1, hb1⟩
  have HY1 := Lib.hid hy1; have HB1 := Lib.hid (((Below.refl _ w).alloc (Nat.le_refl _) _).trans (hb1.mono (by simp))); clear hy1 hb1
  go_wp2_with fail
  refine (S2.out w1).mono ?_
  rintro e w2 ⟨A2, c2, rfl, hy2, hb2⟩
  have HY2 := Lib.hid hy2; have HB2 := Lib.hid (((Below.refl _ w1).alloc (Nat.le_refl _) _).trans (hb2.mono (by simp))); clear hy2 hb2
  go_wp2_with fail
  refine (parse_got (some ⟨w2.heap.size, 0, none⟩) 9 9 [1, 3, 0, 0, 217, 0, 2, 111, 107] _ ((Rd.new w2 5 [1, 3, 0, 0, 217, 0, 2, 111, 107] 9 _ rfl rfl).more (by simp)) (Nat.le_refl _) (by unfold maxLen; omega) (by omega) _ _ _ parse_stat).mono ?_
  rintro e w3 ⟨A3, c3, A4, c4, rfl, hv3, hy3, hb3⟩
  have hb3' := ((Below.refl _ w2).alloc (Nat.le_refl _) _).trans (hb3.mono (by simp))
  have HV3 := Lib.hid hv3; have HY3 := Lib.hid hy3; have HB3 := Lib.hid hb3'; clear hv3 hy3 hb3 hb3'
  rw [show ([hStat] : List H).length = 1 from rfl, show ([111, 107] : List UInt8).length = 2 from rfl] at *
  go_wp2_with fail
  refine (parse_got none 0 0 [] w3 Rd.none_ (Nat.le_refl _) (by unfold maxLen; omega) (by omega) _ _ _ parse_none).mono ?_
  rintro e w4 ⟨A5, c5, A6, c6, rfl, -, -, hb4⟩
  have HB4 := Lib.hid hb4; clear hb4
  have k1 := (((HY1.out.after HB2.out).after HB3.out).after HB4.out).convert
  have k2 := ((HY2.out.after HB3.out).after HB4.out).convert
  have k3 := (HY3.out.after HB4.out).convert
  obtain ⟨A7, c7, hv7, hr7, -⟩ := HV3.out.after HB4.out
  injection hv7 with q1 q2 q3
  subst q1
  obtain ⟨b, o, rfl, hbl, hcs⟩ := hr7.2 (by decide)
  obtain ⟨z1, z2⟩ := hcs 0 (by decide)
  rw [show ([hStat] : List H)[0] = hStat from rfl, show hStat.2 = ⟨#[50, 48, 48]⟩ from rfl] at z2
  rw [show sl [0, 0, 209] = ⟨#[0, 0, 209]⟩ from rfl] at k1
  rw [show sl [0, 0, 81, 2, 47, 97] = ⟨#[0, 0, 81, 2, 47, 97]⟩ from rfl] at k2
  rw [show sl [111, 107] = ⟨#[111, 107]⟩ from rfl] at k3
  simp only [List.length_cons, List.length_nil, Nat.zero_add, Nat.add_zero, Nat.zero_mul] at k1 k2 k3 z2 ⊢
  clear hcs hr7 z1 q2 q3
  go_wp2_with (go_at_call 32; refine (check_any none 0 0 [] w4 (HRd.none_ _ _) (by omega)).mono ?_; rintro e w5 ⟨rfl, hb5⟩; rw [show checkV [] = 0 from rfl])
  go_ret
  exact ⟨rfl, below_then (below_then (below_then (below_then HB1.out HB2.out) HB3.out) HB4.out) hb5⟩
theorem walk_HeadersNames (w : World) : Calls Try.prog 11 #[] w fun e w' => e = .returned (.bool true) ∧ Below w.heap.size w w' := by
  go_enter Try.func11, Try.ntmps11
  go_wp2_with fail
  refine (awake20_any w).mono ?_
  rintro e w1 ⟨rfl, hb1⟩
  go_wp2_with fail
  go_ret
  exact ⟨rfl, hb1⟩
end Go.Proofs.Ytcimcldmkaggnaa
