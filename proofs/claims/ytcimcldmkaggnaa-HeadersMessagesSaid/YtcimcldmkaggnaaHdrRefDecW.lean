/- The reference's Decode, walked. -/
import Derived.Test.YtcimcldmkaggnaaHdrRefNextW
import Derived.Test.YtcimcldmkaggnaaHdrDec2W
namespace Go.Proofs.Ytcimcldmkaggnaa
set_option linter.unusedVariables false
set_option linter.unusedSimpArgs false
open Go.RowKit
open Hd

set_option maxRecDepth 100000 in
set_option maxHeartbeats 4000000 in
theorem refDecode (A : Option Addr) (n c : Nat) (xs : List UInt8) (w : World) (hR : Rd w w.heap.size A n xs) (hc : n ≤ c) (hm : c ≤ maxLen) (hn : n ≤ 1000000) :
    Calls Try.prog 31 #[.slice A n c] w (DecEnds xs w) := by
  obtain ⟨i0, hi0, hz0, hz1, hz2⟩ := info_parts info53
  have hln := hR.1
  by_cases hx2 : xs.length < 2
  · have HD := Lib.hid (dec_short hx2)
    have hn2 : (n : Int) < 2 := by omega
    clear hR
    go_enter Try.func31, Try.ntmps31
    go_wp2_with fail
    go_ret2
    exact ⟨Below.refl _ _, by rw [HD.out]; rfl⟩
  · obtain ⟨x, y, r, rfl⟩ : ∃ x y r, xs = x :: y :: r := by
      cases xs with
      | nil => simp at hx2
      | cons x r => cases r with
        | nil => simp at hx2
        | cons y r => exact ⟨x, y, r, rfl⟩
    have hn2 : ((n : Int) < 2) = False := eq_false (by omega)
    have hrl : r.length + 2 = n := by rw [← hln]; simp
    have hn3 : 2 ≤ n := by omega
    obtain ⟨b, o, rfl, hb, hcs⟩ := hR.2 (by omega)
    have c0 := hcs 0 (by simp)
    have c1 := hcs 1 (by simp)
    rw [Nat.add_zero] at c0
    rw [show (x :: y :: r)[0] = x from rfl] at c0
    rw [show (x :: y :: r)[1] = y from rfl] at c1
    have HDC := Lib.hid (dec_cons x y r)
    obtain ⟨A2, hs2, hr2⟩ := tail_exists .i64 w w.heap.size (some ⟨b, o, none⟩) n c 2 (x :: y :: r) hR hn3 hc
    have hs2 : ∀ w2, (Instr.slice 24 (.slice (some ⟨b, o, none⟩) n c) (some (.int .i64 2)) none none).run Try.prog w2 = .ok (.slice A2 (n - 2) (c - 2)) w2 := hs2
    have HR2 := Lib.hid (show Rd w w.heap.size A2 (n - 2) r from hr2)
    clear hR hcs hln hx2 hr2
    by_cases hxy : x = 0 ∧ y = 0
    · obtain ⟨rfl, rfl⟩ := hxy
      have HD0 := Lib.hid (HDC.out.trans (if_pos ⟨rfl, rfl⟩)); clear HDC
      rw [show (((0 : UInt8).toNat : Nat) : Int) = 0 from rfl] at c0 c1
      go_enter Try.func31, Try.ntmps31
      go_wp2_with fail
      go_loopg [0, 4] (r.length) (fun gh s0 s4 wr => ∃ (rest : List UInt8) (acc : List H) (A0 A' : Option Addr) (m0 c0 m c' : Nat), gh = rest.length ∧ s0 = .slice A0 m0 c0 ∧ Rd wr w.heap.size A0 m0 rest ∧ m0 ≤ c0 ∧ c0 ≤ c ∧ s4 = .slice A' m c' ∧ acc.length = m ∧ wr.ownsRow w.heap.size 53 2 (.slice A' m c') m (cellsOf acc) ∧ Below w.heap.size w wr ∧ lines r = (lines rest).map (acc ++ ·) ∧ rest.length + m ≤ r.length)
      case atStart => exact ⟨r, [], A2, none, n - 2, c - 2, 0, 0, rfl, rfl, HR2.out, by omega, by omega, rfl, rfl, World.ownsRow_nil _ _ _ _, Below.refl _ _, by simp, by omega⟩
      case round =>
        obtain ⟨rest, acc, A0, A', m0, e0, m, c', rfl, rfl, hrr, l1, l2, rfl, hal, hor, hbr, hlr, hlm⟩ := hrel
        have HAL := Lib.hid hal; have HOR := Lib.hid hor; have HBR := Lib.hid hbr; have HLR := Lib.hid hlr
        have hsz := hbr.size
        have hm0 := hrr.1
        have HRR := Lib.hid hrr
        clear hal hor hbr hlr hrr hs2 c1 HR2
        cases rest with
        | nil =>
          have hm00 : m0 = 0 := by simpa using hm0.symm
          subst hm00
          have HLE := Lib.hid (lines_end HLR.out)
          have hcv := checkV_good acc
          by_cases hg : good acc = true
          · rw [if_pos hg] at hcv
            have HD := Lib.hid (show dec (0 :: 0 :: r) = some acc by rw [HD0.out, HLE.out]; simp only [if_pos hg])
            have HCV := Lib.hid hcv
            clear hcv hg
            go_wp2_with fail
            refine (refCheck_any A' m c' acc wr (HRd.of_own HOR.out HAL.out) (by omega)).mono ?_
            rintro e w4 ⟨he, rfl⟩
            rw [HCV.out] at he
            subst he
            go_wp2_with fail
            go_ret2
            exact ⟨HBR.out, by rw [HD.out]; exact ⟨_, rfl, Hds.of_own HOR.out HAL.out⟩⟩
          · rw [if_neg hg] at hcv
            have HD := Lib.hid (show dec (0 :: 0 :: r) = none by rw [HD0.out, HLE.out]; simp only [if_neg hg])
            have HCV := Lib.hid hcv
            clear hcv hg
            go_wp2_with fail
            refine (refCheck_any A' m c' acc wr (HRd.of_own HOR.out HAL.out) (by omega)).mono ?_
            rintro e w4 ⟨he, rfl⟩
            rw [HCV.out] at he
            subst he
            go_wp2_with fail
            go_ret2
            exact ⟨HBR.out, by rw [HD.out]; rfl⟩
        | cons x t =>
          have hmp : 0 < m0 := by rw [← hm0]; simp
          have HHD := Lib.hid (refNext A0 m0 e0 x t wr w.heap.size HRR.out hsz l1 (by omega))
          have HNR := Lib.hid hm0
          clear HRR
          rw [hm0] at hlm
          clear hm0
          cases hnx : next (x :: t) with
          | none =>
            have HNX := Lib.hid hnx
            have HD := Lib.hid (show dec (0 :: 0 :: r) = none by rw [HD0.out, lines_stop HLR.out (by simp) hnx])
            clear hnx
            go_wp2_with fail
            refine HHD.out.mono ?_
            rintro e w4 ⟨hb4, he⟩
            rw [HNX.out] at he
            obtain ⟨⟨n1, v1⟩, rfl⟩ := he
            have HB4 := Lib.hid (HBR.out.trans (hb4.mono hsz)); clear hb4
            go_wp2_with fail
            go_ret2
            exact ⟨HB4.out.alloc HB4.out.size _, by rw [HD.out]; rfl⟩
          | some p =>
            obtain ⟨⟨h1, h2⟩, r'⟩ := p
            have HNX := Lib.hid hnx
            clear hnx
            go_wp2_with fail
            refine HHD.out.mono ?_
            rintro e w4 ⟨hb4, he⟩
            rw [HNX.out] at he
            obtain ⟨A1, c1, rfl, hr4, k1, k2⟩ := he
            have HR4 := Lib.hid hr4
            have HO4 := Lib.hid (own_below HOR.out hb4)
            have hz4 := hb4.size
            have HB4 := Lib.hid (HBR.out.trans (hb4.mono hsz)); clear hb4 hr4 HOR HBR
            have hm1 : Below w4.heap.size w4 (w4.alloc (.cells #[.string h1, .string h2] 53)) := (Below.refl _ _).alloc (Nat.le_refl _) _
            have e1 : (w4.alloc (.cells #[.string h1, .string h2] 53)).heap.size = w4.heap.size + 1 := by simp
            have HNW := Lib.hid (World.news_of_block (w := (w4.alloc (.cells #[.string h1, .string h2] 53)).alloc (.cells #[.string h1, .string h2] 53)) (B := w4.heap.size + 1) (cs := #[.string h1, .string h2]) (t := 53) (fr := (0, 0)) (by rw [← e1]; exact heap_alloc_new _ _))
            clear e1 hm1
            go_upto_region 9 with fail
            go_wp2_with (refine wpList_append_lies _ rfl (.tmp 36) (.tmp 38) 23 rfl w.heap.size 53 i0 (.agg #[.string ⟨#[]⟩, .string ⟨#[]⟩]) 2 32 Try.underlying23 hi0 hz0 hz1 hz2 rfl (by omega) (.slice A' m c') m (cellsOf acc) rfl ((HO4.out.alloc _).alloc _) ⟨w4.heap.size + 1, 0, none⟩ 1 1 [.string h1, .string h2] rfl rfl HNW.out (by simp [Value.oneCell']) (by omega) (by unfold maxLen; omega) (by omega) (by simp; omega) _ rfl ?_)
            intro g6 cap6 w6 hown6 hgrow6 hat6 hlt6
            have hb6 : Below w.heap.size w4 w6 := (((Below.refl _ w4).alloc (by omega) _).alloc (by simp; omega) _).grown hgrow6 (by simp; omega) (fun k hk => (HO4.out.lt k hk).1)
            have HB6 := Lib.hid (HB4.out.trans hb6); have HR6 := Lib.hid (HR4.out.below hb6); have HO6 := Lib.hid hown6
            clear hb6 hown6 hgrow6 hat6
            go_wp2_with fail
            go_roundg r'.length
            case measure => have := next_lt HNX.out; exact this
            case rel =>
              refine ⟨r', acc ++ [(h1, h2)], A1, _, r'.length, c1, m + 1, cap6, rfl, rfl, HR6.out, k1, by omega, rfl, by rw [List.length_append, HAL.out]; rfl, ?_, HB6.out, lines_round HLR.out HNX.out, by have := next_lt HNX.out; have := HNR.out; omega⟩
              rw [cellsOf_append]
              exact HO6.out
    · have HD := Lib.hid (HDC.out.trans (if_neg hxy)); clear HDC hs2
      by_cases hx : x = 0
      · have hy : ((y.toNat : Int) == 0) = false := beq_eq_false_iff_ne.2 fun q => hxy ⟨hx, UInt8.toNat_inj.1 (by show y.toNat = 0; omega)⟩
        subst hx
        rw [show (((0 : UInt8).toNat : Nat) : Int) = 0 from rfl] at c0
        clear hxy
        go_enter Try.func31, Try.ntmps31
        go_wp2_with fail
        go_ret2
        exact ⟨Below.refl _ _, by rw [HD.out]; rfl⟩
      · have hy : ((x.toNat : Int) == 0) = false := beq_eq_false_iff_ne.2 fun q => hx (UInt8.toNat_inj.1 (by show x.toNat = 0; omega))
        clear hxy hx
        go_enter Try.func31, Try.ntmps31
        go_wp2_with fail
        go_ret2
        exact ⟨Below.refl _ _, by rw [HD.out]; rfl⟩
end Go.Proofs.Ytcimcldmkaggnaa
