/- The walk of the law HeadersLines. -/
import Derived.Test.YtcimcldmkaggnaaHeadersBackW
import Derived.Test.YtcimcldmkaggnaaHdrTab34
namespace Go.Proofs.Ytcimcldmkaggnaa
set_option linter.unusedVariables false
set_option linter.unusedSimpArgs false
open Go.RowKit
open Hd Va

theorem line_one : ∀ i : Fin 30, ∃ h, tab[i.val]? = some h ∧ enc [h] = [0, 0, UInt8.ofNat (192 + i.val)] ∧ good [h] = true ∧ dec [0, 0, UInt8.ofNat (192 + i.val)] = some [h] := by
  intro i
  have h0 : ∀ i : Fin 30, enc [tab[i.val]'(by rw [tab_length]; exact i.isLt)] = [0, 0, UInt8.ofNat (192 + i.val)] ∧ good [tab[i.val]'(by rw [tab_length]; exact i.isLt)] = true := by decide +kernel
  obtain ⟨h1, h2⟩ := h0 i
  refine ⟨tab[i.val]'(by rw [tab_length]; exact i.isLt), List.getElem?_eq_getElem _, h1, h2, ?_⟩
  rw [← h1]
  exact dec_enc _ h2
set_option maxRecDepth 100000 in
set_option maxHeartbeats 1600000 in
theorem walk_HeadersLines (n : Int) (w : World) (wn : (Lit.int .u8 n).wf = true) :
    Calls Try.prog 14 #[.int .u8 n] w fun e w' => e = .returned (.bool true) ∧ Below w.heap.size w w' := by
  obtain ⟨y, rfl⟩ := byte_of wn
  have hyl : y.toNat < 256 := y.toNat_lt
  obtain ⟨h, ht, he, hg, hd⟩ := line_one ⟨y.toNat % 30, Nat.mod_lt _ (by omega)⟩
  simp only at ht he hd
  obtain ⟨k, hk⟩ : ∃ k, y.toNat % 30 = k := ⟨_, rfl⟩
  have hk30 : k < 30 := by rw [← hk]; exact Nat.mod_lt _ (by omega)
  have hmod : (y.toNat : Int) % 30 = (k : Int) := by omega
  rw [hk] at ht he hd
  have HT := Lib.hid ht; have HE := Lib.hid he; have HG := Lib.hid hg; have HD := Lib.hid hd
  clear ht he hg hd hk wn
  go_enter Try.func14, Try.ntmps14
  go_wp2_with fail
  refine (awake20_any w).mono ?_
  rintro e w1 ⟨rfl, hb1⟩
  have HB1 := Lib.hid hb1; clear hb1
  go_wp2_with fail
  refine (table34_any w1).mono ?_
  rintro e w2 ⟨rfl, rfl⟩
  obtain ⟨c1, c2⟩ := tabAt_new53 w1 k h HT.out
  have hb2 := HB1.out.alloc HB1.out.size (.cells tabV 53)
  generalize w1.alloc (.cells tabV 53) = W2 at *
  have HB2 := Lib.hid hb2; clear hb2
  go_wp2_with fail
  have hh := HRd.new1 (W2.alloc (.cells #[.string h.1, .string h.2] 53)) h
  rw [show (W2.alloc (.cells #[.string h.1, .string h.2] 53)).heap.size = W2.heap.size + 1 by simp] at hh
  have hg3 : W2.heap.size < ((W2.alloc (.cells #[.string h.1, .string h.2] 53)).alloc (.cells #[.string h.1, .string h.2] 53)).heap.size := by simp; omega
  have hd1 : ((W2.alloc (.cells #[.string h.1, .string h.2] 53)).alloc (.cells #[.string h.1, .string h.2] 53)).cell? ⟨W2.heap.size, 0, none⟩ = some (.string h.1) := by go_simp
  have hd2 : ((W2.alloc (.cells #[.string h.1, .string h.2] 53)).alloc (.cells #[.string h.1, .string h.2] 53)).cell? ⟨W2.heap.size, 1, none⟩ = some (.string h.2) := by go_simp
  have hb3 := (HB2.out.alloc HB2.out.size (.cells #[.string h.1, .string h.2] 53)).alloc (by have := HB2.out.size; simp; omega) (.cells #[.string h.1, .string h.2] 53)
  have HS := Lib.hid (encode_good (some ⟨W2.heap.size + 1, 0, none⟩) 1 1 [h] _ hh (by omega) HG.out)
  clear c1 c2 hh
  generalize ((W2.alloc (.cells #[.string h.1, .string h.2] 53)).alloc (.cells #[.string h.1, .string h.2] 53)) = W3 at *
  generalize W2.heap.size = g at *
  have HB3 := Lib.hid hb3; clear hb3
  have hs := HS.out
  rw [HE.out] at hs
  refine hs.mono ?_
  clear hs HS
  rintro e w4 ⟨A4, c4, rfl, hy4, hb4⟩
  have HY4 := Lib.hid hy4; have HB4 := Lib.hid hb4; clear hy4 hb4
  go_wp2_with fail
  refine (decode_got A4 3 c4 _ w4 HY4.out (by omega) [h] HD.out).mono ?_
  rintro e w5 ⟨A5, c5, rfl, hv5, hb5⟩
  have hb45 := below_then HB4.out hb5
  have e1 := (hb45.cell (p := ⟨g, 0, none⟩) hg3).trans hd1
  have e2 := (hb45.cell (p := ⟨g, 1, none⟩) hg3).trans hd2
  have HBE := Lib.hid (HB3.out.trans (hb45.mono HB3.out.size))
  obtain ⟨A7, c7, hv7, hr7, -⟩ := hv5
  injection hv7 with q1 q2 q3
  subst q1
  obtain ⟨b, o, rfl, hbl, hcs⟩ := hr7.2 (by show 0 < 1; omega)
  obtain ⟨z1, z2⟩ := hcs 0 (by show 0 < 1; omega)
  rw [show ([h] : List H)[0] = h from rfl] at z1 z2
  rw [Nat.zero_mul, Nat.add_zero] at z1 z2
  obtain ⟨A8, c8, hv8, hr8, -⟩ := HY4.out.after hb5
  injection hv8 with r1 r2 r3
  subst r1
  obtain ⟨b2, o2, rfl, hbl2, hcs2⟩ := hr8.2 (by show 0 < 3; omega)
  have z3 := hcs2 2 (by show 2 < 3; omega)
  rw [show ([0, 0, UInt8.ofNat (192 + k)] : List UInt8)[2] = UInt8.ofNat (192 + k) from rfl, u8_of (192 + k) (by omega)] at z3
  obtain ⟨v, hv⟩ : ∃ v, 192 + k = v := ⟨_, rfl⟩
  rw [hv] at z3
  have hv192 : (192 : Int) ≤ (v : Int) := by omega
  have heq := fun d w => (eqH53 d w h h).trans (by rw [decide_eq_true rfl])
  have hdg : decide ((192 : Int) ≤ (v : Int)) = true := decide_eq_true hv192
  clear hcs hcs2 hr7 hr8 hb45 hb5 hd1 hd2 q2 q3 r2 r3 hv HY4 HB4 HB3 HE HD HG HT
  rw [show ([h] : List H).length = 1 from rfl]
  go_wp2_with fail
  go_quiet (fail)
  go_wp2_with fail
  go_ret
  exact ⟨rfl, below_drewN HBE.out _⟩
end Go.Proofs.Ytcimcldmkaggnaa
