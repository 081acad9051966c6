/- The reference's Encode, walked. -/
import Derived.Test.YtcimcldmkaggnaaHdrRefLineW
namespace Go.Proofs.Ytcimcldmkaggnaa
set_option linter.unusedVariables false
set_option linter.unusedSimpArgs false
open Go.RowKit
open Hd

set_option maxRecDepth 100000 in
set_option maxHeartbeats 1600000 in
theorem refEncode_bad (A : Option Addr) (n c : Nat) (hs : List H) (w : World) (hR : HRd w w.heap.size A n hs) (hn : n ≤ 9223372036854775807) (hg : good hs = false) :
    Calls Try.prog 30 #[.slice A n c] w fun e w' => e = .returned (.tuple #[.slice none 0 0, .int .i64 200]) ∧ Below w.heap.size w w' := by
  have hcv : checkV hs = 200 := by rw [checkV_good, if_neg (by rw [hg]; simp)]
  have HCV := Lib.hid hcv; have HR := Lib.hid hR; clear hcv hg hR
  go_enter Try.func30, Try.ntmps30
  go_wp2_with fail
  refine (refCheck_any A n c hs w HR.out hn).mono ?_
  rintro e w1 ⟨he, rfl⟩
  rw [HCV.out] at he
  subst he
  go_wp2_with fail
  go_ret2
  exact ⟨rfl, Below.refl _ _⟩
set_option maxRecDepth 100000 in
set_option maxHeartbeats 1600000 in
theorem refEncode_good (A : Option Addr) (n c : Nat) (hs : List H) (w : World) (hR : HRd w w.heap.size A n hs) (hn : n ≤ 9223372036854775807) (hg : good hs = true) :
    Calls Try.prog 30 #[.slice A n c] w fun e w' => ∃ A1 c1, e = .returned (.tuple #[.slice A1 (enc hs).length c1, .int .i64 0]) ∧ Byt w' (.slice A1 (enc hs).length c1) (enc hs) ∧ Below w.heap.size w w' := by
  obtain ⟨i0, hi0, hz0, hz1, hz2⟩ := info_parts info5
  have hcv : checkV hs = 0 := by rw [checkV_good, if_pos hg]
  have hsz := good_sizes hg
  have HG := Lib.hid hg; have HS := Lib.hid hsz; have HCV := Lib.hid hcv; have HR := Lib.hid hR; have HLN := Lib.hid hR.1; clear hg hsz hcv hR
  go_enter Try.func30, Try.ntmps30
  go_wp2_with fail
  refine (refCheck_any A n c hs w HR.out hn).mono ?_
  rintro e w1 ⟨he, rfl⟩
  rw [HCV.out] at he
  subst he
  go_wp2_with fail
  go_loopw [4, 5] (fun s4 s5 wr => ∃ (k q c4 : Nat) (A4 : Option Addr), k ≤ n ∧ s5 = .int .i64 (k : Nat) ∧ s4 = .slice A4 q c4 ∧ q = (enc (hs.take k)).length ∧ wr.ownsRow w.heap.size 5 1 (.slice A4 q c4) q (bs (enc (hs.take k))) ∧ Below w.heap.size w wr) (fun _ s5 _ => n - (intOf s5).toNat)
  case atStart => exact ⟨0, 2, 2, _, by omega, rfl, rfl, rfl, World.ownsRow_lit w #[.int .u8 0, .int .u8 0] 2 (Nat.le_refl _) (by unfold maxLen; omega) rfl, (Below.refl _ _).alloc (Nat.le_refl _) _⟩
  case round =>
    obtain ⟨k, q, c4, A4, hk, rfl, rfl, hq, ho, hb⟩ := hrel
    have hql := enc_take_length HG.out k
    rw [← hq] at hql
    have HQ := Lib.hid hq; have HO := Lib.hid ho; have HB := Lib.hid hb; clear hq ho hb
    have hlen := HLN.out
    by_cases hkn : k < n
    · obtain ⟨b, o, rfl, hbl, hcs⟩ := HR.out.2 (by omega)
      obtain ⟨hc1, hc2⟩ := hcs k (by omega)
      rw [← HB.out.cell (p := ⟨b, o + k * 2, none⟩) hbl] at hc1
      rw [← HB.out.cell (p := ⟨b, o + k * 2 + 1, none⟩) hbl] at hc2
      obtain ⟨x, hx⟩ : ∃ x, hs[k]? = some x := ⟨_, List.getElem?_eq_getElem (show k < hs.length by omega)⟩
      have hx2 : hs[k]'(by omega) = x := (List.getElem?_eq_some_iff.1 hx).2
      rw [hx2] at hc1 hc2
      have hxs := HS.out x (List.mem_of_getElem? hx)
      have HTE := Lib.hid (enc_take hx)
      have HLL := Lib.hid (line_length x hxs.1 hxs.2).2
      clear hcs hx hx2 hlen
      go_wp2_with fail
      refine (refLine_any x wr hxs.1 hxs.2).mono ?_
      rintro e w3 ⟨hb3, A3, c3, rfl, ho3⟩
      have HB3 := Lib.hid (HB.out.trans (hb3.mono HB.out.size)); have HO3 := Lib.hid ho3; have HO4 := Lib.hid (own_belowL HO.out hb3); clear hb3 ho3
      go_wp2_with (at_builtin; refine wpList_append_any _ rfl (.tmp 16) (.tmp 21) 24 rfl w.heap.size 5 i0 (.int .u8 0) Try.underlying24 hi0 hz0 hz1 hz2 rfl (.slice A4 q c4) q (enc (hs.take k)) rfl ?q1 w3.heap.size A3 (line x).length c3 (line x) rfl ?q2 ?q3 ?q4 ?_)
      case q1 => exact HO4.out
      case q2 => exact Rd.of_own HO3.out rfl
      case q3 => have := HLL.out; omega
      case q4 => exact HB3.out.size
      intro A5 c5 w5 hown5 hg5 hat5
      have hb5 : Below w.heap.size w w5 := HB3.out.grown hg5 HB3.out.size (fun j hj => (HO4.out.lt j hj).1)
      have HO5 := Lib.hid hown5; have HB5 := Lib.hid hb5; clear hown5 hg5 hat5 hb5
      go_wp2_with fail
      go_roundw
      case rel => exact ⟨k + 1, q + (line x).length, c5, A5, by omega, by go_num, rfl, by rw [HTE.out, List.length_append, ← HQ.out], by rw [HTE.out]; exact HO5.out, HB5.out⟩
      case measure => simp [intOf]; omega
    · obtain rfl : k = n := by omega
      have hq := HQ.out
      have ho := HO.out
      rw [List.take_of_length_le (by omega)] at hq ho
      subst hq
      have HO2 := Lib.hid ho; clear ho
      go_wp2_with fail
      go_ret2
      exact ⟨A4, c4, rfl, Byt.of_own HO2.out, HB.out⟩
end Go.Proofs.Ytcimcldmkaggnaa
