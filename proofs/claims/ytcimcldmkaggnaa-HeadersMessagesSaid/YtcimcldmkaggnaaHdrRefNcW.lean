/- The reference's reader of a header: all else -/
import Derived.Test.YtcimcldmkaggnaaHdrRefNxW
namespace Go.Proofs.Ytcimcldmkaggnaa
set_option linter.unusedVariables false
set_option linter.unusedSimpArgs false
open Go.RowKit
open Hd

set_option maxRecDepth 1000000 in
set_option maxHeartbeats 8000000 in
theorem refNextC (A : Option Addr) (n c : Nat) (x : UInt8) (t : List UInt8) (w : World) (B : Nat) (hR : Rd w B A n (x :: t)) (hB : B ≤ w.heap.size) (hc : n ≤ c) (hn : n ≤ 1000000000) (h1 : ¬192 ≤ x.toNat) (h2 : ¬x.toNat / 16 = 5) :
    Calls Try.prog 49 #[.slice A n c] w (NextEnds (next (x :: t)) B c w) := by
  have hl := hR.1
  have hln : (x :: t).length ≤ 1000000000 := by omega
  have hn1 : 0 < n := by rw [← hl]; simp
  have HNX := Lib.hid (next_cons x t)
  have HR := Lib.hid hR
  clear hR
  go_enter Try.func49, Try.ntmps49
  go_wp2_with fail
  refine (table34_any _).mono ?_
  rintro e w2 ⟨rfl, rfl⟩
  have hb1 : Below w.heap.size w ((w.alloc (.cells #[.string ⟨#[]⟩, .string ⟨#[]⟩] 53)).alloc (.cells tabV 53)) := ((Below.refl _ w).alloc (Nat.le_refl _) _).alloc (by simp) _
  have hc1 : ((w.alloc (.cells #[.string ⟨#[]⟩, .string ⟨#[]⟩] 53)).alloc (.cells tabV 53)).heap[w.heap.size]? = some (.cells #[.string ⟨#[]⟩, .string ⟨#[]⟩] 53 (0, 0)) := by
    rw [heap_alloc_old (h := by simp)]; exact heap_alloc_new _ _
  have ht1 := tabAt_new53 (w.alloc (.cells #[.string ⟨#[]⟩, .string ⟨#[]⟩] 53))
  have hz1 : (w.alloc (.cells #[.string ⟨#[]⟩, .string ⟨#[]⟩] 53)).heap.size = w.heap.size + 1 := by simp
  have ha1 : w.heap.size < ((w.alloc (.cells #[.string ⟨#[]⟩, .string ⟨#[]⟩] 53)).alloc (.cells tabV 53)).heap.size := by simp; omega
  have hr1 := HR.out.below (hb1.mono hB)
  simp only [hz1] at ht1 ⊢
  generalize ((w.alloc (.cells #[.string ⟨#[]⟩, .string ⟨#[]⟩] 53)).alloc (.cells tabV 53)) = W at *
  have HBW := Lib.hid hb1; have HR1 := Lib.hid hr1; have HTB := Lib.hid ht1
  have hca0 := cell_of_row W w.heap.size 0 _ _ _ hc1
  have hca1 := cell_of_row W w.heap.size 1 _ _ _ hc1
  have hfa0 := frozen_of_row W w.heap.size 0 _ _ hc1
  have hfa1 := frozen_of_row W w.heap.size 1 _ _ hc1
  rw [show (#[Value.string ⟨#[]⟩, Value.string ⟨#[]⟩] : Array Value)[0]? = some (.string ⟨#[]⟩) from rfl] at hca0
  rw [show (#[Value.string ⟨#[]⟩, Value.string ⟨#[]⟩] : Array Value)[1]? = some (.string ⟨#[]⟩) from rfl] at hca1
  have HT2 := Lib.hid (show Two W w.heap.size ⟨#[]⟩ ⟨#[]⟩ from ⟨hca0, hca1, hfa0, hfa1, ha1⟩)
  obtain ⟨b, o, rfl, hb, hcx⟩ := hr1.2 hn1
  have h0 : W.cell? ⟨b, o, none⟩ = some (.int .u8 (x.toNat : Int)) := hcx 0 (by simp)
  have hxl : x.toNat < 256 := x.toNat_lt
  have HC6 := Lib.hid (refCount_6 (some ⟨b, o, none⟩) n c (x :: t) W B HR1.out hc (by omega))
  have HC4 := Lib.hid (refCount_4 (some ⟨b, o, none⟩) n c (x :: t) W B HR1.out hc (by omega))
  have HC3 := Lib.hid (refTaken_3 (some ⟨b, o, none⟩) n c (x :: t) W B HR1.out hc (by omega))
  obtain ⟨a, haw⟩ : ∃ a, w.heap.size = a := ⟨_, rfl⟩
  have HAW := Lib.hid haw
  rw [haw] at HT2 HTB hca0 hca1 hfa0 hfa1 hB ⊢
  clear hb1 hr1 ht1 hc1 hcx hl HR hz1 ha1 haw
  have g1 : ((192 : Int) ≤ (x.toNat : Int)) = False := eq_false (by omega)
  clear HC6
  clear HC4
  by_cases h3 : x.toNat / 8 = 4
  · have g2 : ((80 : Int) ≤ (x.toNat : Int)) = False := eq_false (by omega)
    have g4 : (32 : Int) ≤ (x.toNat : Int) := by omega
    have g5 : (x.toNat : Int) < 40 := by omega
    cases htk : taken 3 (x :: t) with
    | none =>
      rw [htk] at HC3
      have HNN := Lib.hid (show next (x :: t) = none by rw [HNX.out, if_neg h1, if_neg h2, if_pos h3, htk])
      clear htk
      go_wp2_with fail
      refine HC3.out.mono ?_
      rintro e w4 ⟨⟨q, rfl⟩, rfl⟩
      go_wp2_with fail
      refine bodyPost_ret (v := .tuple #[.agg #[.string ⟨#[]⟩, .string ⟨#[]⟩], .slice none 0 0, .bool false]) (res49 _ _ a _ _ none 0 0 false (show Two (put2 _ a ⟨#[]⟩ ⟨#[]⟩) a ⟨#[]⟩ ⟨#[]⟩ from (show Two (W.drewN q) a ⟨#[]⟩ ⟨#[]⟩ from HT2.out).put2) rfl rfl rfl) rfl ?_
      exact ⟨show Below w.heap.size w (put2 (W.drewN _) a _ _) from below_put2 HBW.out HAW.out _ _ _, by rw [HNN.out]; exact ⟨(⟨#[]⟩, ⟨#[]⟩), rfl⟩⟩
    | some p =>
      obtain ⟨s0, r⟩ := p
      rw [htk] at HC3
      have hrl := taken_lt htk
      have HNM := Lib.hid (show next (x :: t) = named (sl s0) r by rw [HNX.out, if_neg h1, if_neg h2, if_pos h3, htk])
      clear htk
      go_wp2_with fail
      refine HC3.out.mono ?_
      rintro e w4 ⟨⟨q, rfl⟩, A1, c1, rfl, hrr, l1, l2⟩
      generalize sl s0 = NM at *
      have HN := Lib.hid (refValue A1 r.length c1 r (W.drewN q) B hrr l1 (by omega))
      cases hvv : value r with
      | none =>
        rw [hvv] at HN
        have HNN := Lib.hid (show next (x :: t) = none by rw [HNM.out, named, hvv])
        clear hvv
        go_wp2_with fail
        refine HN.out.mono ?_
        rintro e w5 ⟨⟨q2, rfl⟩, rfl⟩
        go_wp2_with fail
        refine bodyPost_ret (v := .tuple #[.agg #[.string NM, .string ⟨#[]⟩], .slice none 0 0, .bool false]) (res49 _ _ a _ _ none 0 0 false (show Two (put2 _ a NM ⟨#[]⟩) a NM ⟨#[]⟩ from (show Two ((W.drewN q).drewN q2) a ⟨#[]⟩ ⟨#[]⟩ from HT2.out).put2) rfl rfl rfl) rfl ?_
        exact ⟨show Below w.heap.size w (put2 (W.drewN _) a _ _) from below_put2 HBW.out HAW.out _ _ _, by rw [HNN.out]; exact ⟨(NM, ⟨#[]⟩), rfl⟩⟩
      | some p =>
        obtain ⟨s, r2⟩ := p
        rw [hvv] at HN
        have HNN := Lib.hid (show next (x :: t) = some ((NM, sl s), r2) by rw [HNM.out, named, hvv])
        clear hvv
        go_wp2_with fail
        refine HN.out.mono ?_
        rintro e w5 ⟨⟨q2, rfl⟩, A2, c2, rfl, hr2, k1, k2⟩
        have HR2 := Lib.hid hr2
        clear hr2
        generalize sl s = S at *
        go_wp2_with fail
        refine bodyPost_ret (v := .tuple #[.agg #[.string NM, .string S], .slice A2 r2.length c2, .bool true]) (res49 _ _ a _ _ A2 r2.length c2 true (show Two (put2 _ a NM S) a NM S from (show Two ((W.drewN q).drewN q2) a ⟨#[]⟩ ⟨#[]⟩ from HT2.out).put2) rfl rfl rfl) rfl ?_
        exact ⟨show Below w.heap.size w (put2 (W.drewN _) a _ _) from below_put2 HBW.out HAW.out _ _ _, by rw [HNN.out]; exact ⟨A2, c2, rfl, rd_put2 HR2.out (by omega) _ _, k1, by omega⟩⟩
  · have HNN := Lib.hid (show next (x :: t) = none by rw [HNX.out, if_neg h1, if_neg h2, if_neg h3])
    by_cases j1 : 80 ≤ x.toNat
    · have g2 : (80 : Int) ≤ (x.toNat : Int) := by omega
      have g3 : ((x.toNat : Int) < 96) = False := eq_false (by omega)
      have g4 : (32 : Int) ≤ (x.toNat : Int) := by omega
      have g5 : ((x.toNat : Int) < 40) = False := eq_false (by omega)
      go_wp2_with fail
      refine bodyPost_ret (v := .tuple #[.agg #[.string ⟨#[]⟩, .string ⟨#[]⟩], .slice none 0 0, .bool false]) (res49 _ _ a _ _ none 0 0 false (show Two (put2 _ a ⟨#[]⟩ ⟨#[]⟩) a ⟨#[]⟩ ⟨#[]⟩ from (show Two W a ⟨#[]⟩ ⟨#[]⟩ from HT2.out).put2) rfl rfl rfl) rfl ?_
      exact ⟨show Below w.heap.size w (put2 W a _ _) from below_put2 HBW.out HAW.out 0 _ _, by rw [HNN.out]; exact ⟨(⟨#[]⟩, ⟨#[]⟩), rfl⟩⟩
    · have g2 : ((80 : Int) ≤ (x.toNat : Int)) = False := eq_false (by omega)
      by_cases j2 : 32 ≤ x.toNat
      · have g4 : (32 : Int) ≤ (x.toNat : Int) := by omega
        have g5 : ((x.toNat : Int) < 40) = False := eq_false (by omega)
        go_wp2_with fail
        refine bodyPost_ret (v := .tuple #[.agg #[.string ⟨#[]⟩, .string ⟨#[]⟩], .slice none 0 0, .bool false]) (res49 _ _ a _ _ none 0 0 false (show Two (put2 _ a ⟨#[]⟩ ⟨#[]⟩) a ⟨#[]⟩ ⟨#[]⟩ from (show Two W a ⟨#[]⟩ ⟨#[]⟩ from HT2.out).put2) rfl rfl rfl) rfl ?_
        exact ⟨show Below w.heap.size w (put2 W a _ _) from below_put2 HBW.out HAW.out 0 _ _, by rw [HNN.out]; exact ⟨(⟨#[]⟩, ⟨#[]⟩), rfl⟩⟩
      · have g4 : ((32 : Int) ≤ (x.toNat : Int)) = False := eq_false (by omega)
        go_wp2_with fail
        refine bodyPost_ret (v := .tuple #[.agg #[.string ⟨#[]⟩, .string ⟨#[]⟩], .slice none 0 0, .bool false]) (res49 _ _ a _ _ none 0 0 false (show Two (put2 _ a ⟨#[]⟩ ⟨#[]⟩) a ⟨#[]⟩ ⟨#[]⟩ from (show Two W a ⟨#[]⟩ ⟨#[]⟩ from HT2.out).put2) rfl rfl rfl) rfl ?_
        exact ⟨show Below w.heap.size w (put2 W a _ _) from below_put2 HBW.out HAW.out 0 _ _, by rw [HNN.out]; exact ⟨(⟨#[]⟩, ⟨#[]⟩), rfl⟩⟩
end Go.Proofs.Ytcimcldmkaggnaa
