/- The walk of the law HeadersBack. -/
import Derived.Test.YtcimcldmkaggnaaHdrAwakeW
import Derived.Test.YtcimcldmkaggnaaHdrArgs
import Derived.Test.YtcimcldmkaggnaaHdrCut
namespace Go.Proofs.Ytcimcldmkaggnaa
set_option linter.unusedVariables false
set_option linter.unusedSimpArgs false
open Go.RowKit
open Hd Va

theorem decode_got (A : Option Addr) (n c : Nat) (xs : List UInt8) (w : World) (hy : Byt w (.slice A n c) xs) (hn : n ≤ 1000000) (hs : List H) (hd : dec xs = some hs) :
    Calls Try.prog 21 #[.slice A n c] w fun e w' => ∃ A1 c1, e = .returned (.tuple #[.slice A1 hs.length c1, .int .i64 0]) ∧ Hds w' (.slice A1 hs.length c1) hs ∧ Below w.heap.size w w' := by
  obtain ⟨A1, c1, hv, hr, h1, h2⟩ := hy
  injection hv with q1 q2 q3
  subst q1 q2 q3
  refine (decode_any A xs.length c xs w hr h1 h2 hn).mono ?_
  rintro e w1 ⟨hb, he⟩
  rw [hd] at he
  obtain ⟨v, rfl, hv⟩ := he
  have hv' := hv
  obtain ⟨A1, c1, rfl, -⟩ := hv'
  exact ⟨A1, c1, rfl, hv, hb⟩
theorem decode_no (A : Option Addr) (n c : Nat) (xs : List UInt8) (w : World) (hy : Byt w (.slice A n c) xs) (hn : n ≤ 1000000) (hd : dec xs = none) :
    Calls Try.prog 21 #[.slice A n c] w fun e w' => e = .returned (.tuple #[.slice none 0 0, .int .i64 200]) ∧ Below w.heap.size w w' := by
  obtain ⟨A1, c1, hv, hr, h1, h2⟩ := hy
  injection hv with q1 q2 q3
  subst q1 q2 q3
  refine (decode_any A xs.length c xs w hr h1 h2 hn).mono ?_
  rintro e w1 ⟨hb, he⟩
  rw [hd] at he
  exact ⟨he, hb⟩
theorem parse_gotB (A : Option Addr) (n c : Nat) (xs : List UInt8) (w : World) (hy : Byt w (.slice A n c) xs) (hn : n ≤ 1000000) (hs : List H) (body : List UInt8) (z : Int) (hp : parse xs = (hs, body, z)) :
    Calls Try.prog 22 #[.slice A n c] w fun e w' => ∃ A1 c1 A2 c2, e = .returned (.tuple #[.slice A1 hs.length c1, .slice A2 body.length c2, .int .i64 z]) ∧ Hds w' (.slice A1 hs.length c1) hs ∧ Byt w' (.slice A2 body.length c2) body ∧ Below w.heap.size w w' := by
  obtain ⟨A1, c1, hv, hr, h1, h2⟩ := hy
  injection hv with q1 q2 q3
  subst q1 q2 q3
  exact parse_got A xs.length c xs w hr h1 h2 hn hs body z hp
theorem message_good (A : Option Addr) (n c : Nat) (hs : List H) (B : Option Addr) (m d : Nat) (body : List UInt8) (w : World) (hR : HRd w w.heap.size A n hs) (hn : n ≤ 9223372036854775807) (hY : Byt w (.slice B m d) body) (hl : body.length = m) (hm : m ≤ 3000) (hg : good hs = true) :
    Calls Try.prog 20 #[.slice A n c, .slice B m d] w fun e w' => ∃ A1 c1, e = .returned (.tuple #[.slice A1 (msg hs body).length c1, .int .i64 0]) ∧ Lib.FreshBytes w.heap.size w' (.slice A1 (msg hs body).length c1) (msg hs body) ∧ Byt w' (.slice A1 (msg hs body).length c1) (msg hs body) ∧ Below w.heap.size w w' := by
  refine (message_any A n c hs B m d body w hR hn hY hl hm).mono ?_
  rintro e w1 ⟨hb1, ⟨_, v1, rfl, hf1, hy1⟩ | ⟨h1, _⟩⟩
  · have hy2 := hy1
    obtain ⟨A1, c1, rfl, -⟩ := hy2
    exact ⟨A1, c1, rfl, hf1, hy1, hb1⟩
  · rw [hg] at h1; cases h1
theorem message_bad (A : Option Addr) (n c : Nat) (hs : List H) (B : Option Addr) (m d : Nat) (body : List UInt8) (w : World) (hR : HRd w w.heap.size A n hs) (hn : n ≤ 9223372036854775807) (hY : Byt w (.slice B m d) body) (hl : body.length = m) (hm : m ≤ 3000) (hg : good hs = false) :
    Calls Try.prog 20 #[.slice A n c, .slice B m d] w fun e w' => e = .returned (.tuple #[.slice none 0 0, .int .i64 200]) ∧ Below w.heap.size w w' := by
  refine (message_any A n c hs B m d body w hR hn hY hl hm).mono ?_
  rintro e w1 ⟨hb1, ⟨h1, _⟩ | ⟨_, rfl⟩⟩
  · rw [hg] at h1; cases h1
  · exact ⟨rfl, hb1⟩
theorem same_hds (A : Option Addr) (n c : Nat) (hs1 : List H) (B : Option Addr) (m d : Nat) (hs2 : List H) (w : World) (hA : Hds w (.slice A n c) hs1) (hB : HRd w w.heap.size B m hs2) (hm : m ≤ 9223372036854775807) :
    Calls Try.prog 23 #[.slice A n c, .slice B m d] w fun e w' => e = .returned (.bool (decide (hs1 = hs2))) ∧ Below w.heap.size w w' := by
  obtain ⟨A1, c1, hv, hr, h1, h2⟩ := hA
  injection hv with q1 q2 q3
  subst q1 q2 q3
  unfold maxLen at h2
  exact same_any A hs1.length c hs1 B m d hs2 w hr hB (by omega) hm
theorem Byt.cap {w : World} {A : Option Addr} {n c : Nat} {xs : List UInt8} (h : Byt w (.slice A n c) xs) : n ≤ c := by
  obtain ⟨A1, c1, hv, _, h1, _⟩ := h
  injection hv with q1 q2 q3
  omega
theorem Byt.head {w : World} {A : Option Addr} {n c k : Nat} {xs : List UInt8} (h : Byt w (.slice A n c) xs) (hk : k ≤ xs.length) : Byt w (.slice A k c) (xs.take k) := by
  obtain ⟨A1, c1, hv, hr, h1, h2⟩ := h
  injection hv with q1 q2 q3
  subst q1 q3
  have hl : (xs.take k).length = k := by rw [List.length_take]; omega
  exact ⟨A, c, by rw [hl], by rw [hl]; exact hr.head_ hk, by rw [hl]; omega, h2⟩
theorem Byt.rd {w : World} {A : Option Addr} {n c : Nat} {xs : List UInt8} (h : Byt w (.slice A n c) xs) : Rd w w.heap.size A n xs := by
  obtain ⟨A1, c1, hv, hr, h1, _⟩ := h
  injection hv with q1 q2 q3
  subst q1 q2
  exact hr
theorem few_fits {hs : List H} (h : fewV hs = true) : hs.length ≤ 50 ∧ ∀ x ∈ hs, x.1.size ≤ 300 ∧ x.2.size ≤ 300 := by
  have h2 := of_decide_eq_true h
  refine ⟨h2.1, fun x hx => ?_⟩
  have := List.all_eq_true.1 h2.2 x hx
  exact of_decide_eq_true this

set_option maxRecDepth 100000 in
set_option maxHeartbeats 3200000 in
theorem walk_HeadersBack (A : Option Addr) (n c : Nat) (hs : List H) (B : Option Addr) (m d : Nat) (body : List UInt8) (cut : Int) (w : World) (hh : HdrsIn w A n c hs) (hb : SliceIn w B m d body) (wc : (Lit.int .i64 cut).wf = true) :
    Calls Try.prog 4 #[.slice A n c, .slice B m d, .int .i64 cut] w fun e w' => e = .returned (.bool true) ∧ Below w.heap.size w w' := by
  obtain ⟨hc0, hc1⟩ := bounds_i64 wc
  obtain ⟨hr, hnc, hcm, -⟩ := hh
  obtain ⟨hrb, hmd, hdm, -⟩ := hb
  have hy : Byt w (.slice B m d) body := ⟨B, d, by rw [hrb.1], by rw [hrb.1]; exact hrb, by rw [hrb.1]; exact hmd, hdm⟩
  have hbl := hrb.1
  have hn63 : n ≤ 9223372036854775807 := by unfold maxLen at hcm; omega
  have hm63 : m ≤ 9223372036854775807 := by unfold maxLen at hdm; omega
  clear wc hrb hnc hcm hmd hdm
  have HR := Lib.hid hr; have HY := Lib.hid hy; have HBL := Lib.hid hbl; clear hr hy hbl
  cases hfew : fewV hs with
  | false =>
    have HFW := Lib.hid hfew; clear hfew
    go_enter Try.func4, Try.ntmps4
    go_wp2_with fail
    refine (awake20_any w).mono ?_
    rintro e w1 ⟨rfl, hb1⟩
    have HR1 := Lib.hid (HR.out.after hb1); have HB1 := Lib.hid hb1; clear hb1
    go_wp2_with fail
    refine (few_any A n c hs w1 HR1.out hn63).mono ?_
    rintro e w2 ⟨rfl, rfl⟩
    rw [HFW.out]
    go_wp2_with fail
    go_ret
    exact ⟨rfl, HB1.out⟩
  | true =>
    have HFW := Lib.hid hfew; clear hfew
    by_cases hm3 : m ≤ 3000
    · have hg3 : ((3000 : Int) < (m : Int)) = False := eq_false (by omega)
      cases hgd : good hs with
      | false =>
        have HGD := Lib.hid hgd; clear hgd
        go_enter Try.func4, Try.ntmps4
        go_wp2_with fail
        refine (awake20_any w).mono ?_
        rintro e w1 ⟨rfl, hb1⟩
        have HR1 := Lib.hid (HR.out.after hb1); have HY1 := Lib.hid (HY.out.after hb1); have HB1 := Lib.hid hb1; clear hb1
        go_wp2_with fail
        refine (few_any A n c hs w1 HR1.out hn63).mono ?_
        rintro e w2 ⟨rfl, rfl⟩
        rw [HFW.out]
        go_wp2_with fail
        refine (encode_bad A n c hs w1 HR1.out hn63 HGD.out).mono ?_
        rintro e w2 ⟨rfl, hb2⟩
        have HB2 := Lib.hid hb2; clear hb2
        go_wp2_with fail
        refine (message_bad A n c hs B m d body w2 (HR1.out.after HB2.out) hn63 (HY1.out.after HB2.out) HBL.out hm3 HGD.out).mono ?_
        rintro e w3 ⟨rfl, hb3⟩
        have HB3 := Lib.hid hb3; clear hb3
        go_wp2_with fail
        go_ret
        exact ⟨rfl, below_then (below_then HB1.out HB2.out) HB3.out⟩
      | true =>
        have HDE := Lib.hid (dec_enc hs hgd)
        have HPM := Lib.hid (parse_msg hs body hgd (by rw [HBL.out]; exact hm3))
        have HEL := Lib.hid (enc_length hs hgd)
        have HML := Lib.hid (msg_length hs body hgd (by rw [HBL.out]; exact hm3))
        have HMP := Lib.hid (msg_pos hs body hgd)
        have HPC := Lib.hid (parse_cut hs body hgd (by rw [HBL.out]; exact hm3))
        have HGD := Lib.hid hgd; clear hgd
        obtain ⟨q, hq0, hq⟩ : ∃ q : Nat, (0 ≤ cut → cut = (q : Int)) ∧ (cut < 0 → -(cut + 1) = (q : Int)) := by
          by_cases h : 0 ≤ cut
          · exact ⟨cut.toNat, fun _ => by omega, fun h2 => by omega⟩
          · exact ⟨(-(cut + 1)).toNat, fun h2 => by omega, fun _ => by omega⟩
        have HQ := Lib.hid (And.intro hq0 hq); clear hq0 hq
        obtain ⟨N, hN⟩ : ∃ N, (msg hs body).length = N := ⟨_, rfl⟩
        obtain ⟨K, hK⟩ : ∃ K, (enc hs).length = K := ⟨_, rfl⟩
        have HN := Lib.hid hN; have HK := Lib.hid hK; clear hN hK
        have hN0 : 0 < N := by have := HMP.out; have := HN.out; omega
        have hN2 : N ≤ 20000 := by have := HML.out; have := HN.out; omega
        have hK2 : K ≤ 12122 := by have := HEL.out; have := HK.out; omega
        have hHL := HR.out.1
        have HHL := Lib.hid hHL; clear hHL
        have hNz : ((N : Int) == 0) = false := beq_eq_false_iff_ne.2 (by omega)
        go_enter Try.func4, Try.ntmps4
        go_wp2_with fail
        refine (awake20_any w).mono ?_
        rintro e w1 ⟨rfl, hb1⟩
        have HR1 := Lib.hid (HR.out.after hb1); have HY1 := Lib.hid (HY.out.after hb1); have HB1 := Lib.hid hb1; clear hb1
        go_wp2_with fail
        refine (few_any A n c hs w1 HR1.out hn63).mono ?_
        rintro e w2 ⟨rfl, rfl⟩
        rw [HFW.out]
        go_wp2_with fail
        refine (encode_good A n c hs w1 HR1.out hn63 HGD.out).mono ?_
        rintro e w2 ⟨A2, c2, rfl, hy2, hb2⟩
        rw [HK.out] at hy2 ⊢
        have HR2 := Lib.hid (HR1.out.after hb2); have HY2 := Lib.hid (HY1.out.after hb2); have HE2 := Lib.hid hy2; have HB2 := Lib.hid (below_then HB1.out hb2); clear hb2 hy2
        go_wp2_with fail
        refine (message_good A n c hs B m d body w2 HR2.out hn63 HY2.out HBL.out hm3 HGD.out).mono ?_
        rintro e w3 ⟨A3, c3, rfl, -, hy3, hb3⟩
        rw [HN.out] at hy3 ⊢
        have HR3 := Lib.hid (HR2.out.after hb3); have HY3 := Lib.hid (HY2.out.after hb3); have HE3 := Lib.hid (HE2.out.after hb3); have HM3 := Lib.hid hy3; have HB3 := Lib.hid (below_then HB2.out hb3); clear hb3 hy3
        go_wp2_with fail
        refine (decode_got A2 K c2 (enc hs) w3 HE3.out (by omega) hs HDE.out).mono ?_
        rintro e w4 ⟨A4, c4, rfl, hv4, hb4⟩
        rw [HHL.out] at hv4 ⊢
        have HR4 := Lib.hid (HR3.out.after hb4); have HY4 := Lib.hid (HY3.out.after hb4); have HM4 := Lib.hid (HM3.out.after hb4); have HV4 := Lib.hid hv4; have HB4 := Lib.hid (below_then HB3.out hb4); clear hb4 hv4
        go_wp2_with fail
        refine (parse_gotB A3 N c3 (msg hs body) w4 HM4.out (by omega) hs body 0 HPM.out).mono ?_
        rintro e w5 ⟨A5, c5, A6, c6, rfl, hv5, hy5, hb5⟩
        rw [HHL.out] at hv5 ⊢
        rw [HBL.out] at hy5 ⊢
        have HR5 := Lib.hid (HR4.out.after hb5); have HY5 := Lib.hid (HY4.out.after hb5); have HM5 := Lib.hid (HM4.out.after hb5); have HV5 := Lib.hid (HV4.out.after hb5); have HW5 := Lib.hid hv5; have HZ5 := Lib.hid hy5; have HB5 := Lib.hid (below_then HB4.out hb5); clear hb5 hv5 hy5
        go_wp2_with fail
        refine (same_hds A4 n c4 hs A n c hs w5 HV5.out HR5.out hn63).mono ?_
        rintro e w6 ⟨rfl, hb6⟩
        rw [decide_eq_true rfl]
        have HR6 := Lib.hid (HR5.out.after hb6); have HY6 := Lib.hid (HY5.out.after hb6); have HM6 := Lib.hid (HM5.out.after hb6); have HW6 := Lib.hid (HW5.out.after hb6); have HZ6 := Lib.hid (HZ5.out.after hb6); have HB6 := Lib.hid (below_then HB5.out hb6); clear hb6
        go_wp2_with fail
        refine (same_hds A5 n c5 hs A n c hs w6 HW6.out HR6.out hn63).mono ?_
        rintro e w7 ⟨rfl, hb7⟩
        rw [decide_eq_true rfl]
        have hk1 := (HY6.out.after hb7).convert
        have hk2 := (HZ6.out.after hb7).convert
        have HM7 := Lib.hid (HM6.out.after hb7); have HB7 := Lib.hid (below_then HB6.out hb7); clear hb7
        clear HR HY HR1 HY1 HB1 HR2 HY2 HE2 HB2 HR3 HY3 HE3 HM3 HB3 HR4 HY4 HM4 HV4 HB4 HR5 HY5 HM5 HV5 HW5 HZ5 HB5 HR6 HY6 HM6 HW6 HZ6 HB6
        by_cases hcut : cut < 0
        · have hneg := HQ.out.2 hcut
          obtain ⟨k, hkq⟩ : ∃ k, q % N = k := ⟨_, rfl⟩
          have hkN : k < N := by rw [← hkq]; exact Nat.mod_lt _ hN0
          have heq : (q : Int) % (N : Int) = (k : Int) := by rw [← hkq]; omega
          have hNc : N ≤ c3 := HM7.out.cap
          have hsl := fun w2 => run_headK .i64 w2 A3 N c3 k (by omega)
          have hyk := HM7.out.head (k := k) (by have := HN.out; omega)
          have HYK := Lib.hid hyk
          have HKQ := Lib.hid hkq
          clear hyk hkq
          obtain hp | ⟨hp, hbn⟩ := HPC.out k (by have := HN.out; omega)
          · have HP := Lib.hid hp; clear hp
            go_wp2_with fail
            refine (parse_gotB A3 k c3 ((msg hs body).take k) w7 HYK.out (by omega) _ _ _ HP.out).mono ?_
            rintro e w8 ⟨A8, c8, A9, c9, rfl, -, -, hb8⟩
            go_wp2_with fail
            go_ret
            exact ⟨rfl, below_then HB7.out hb8⟩
          · have HP := Lib.hid hp; clear hp
            have hm0 : (0 : Int) < (m : Int) := by
              have h1 := HBL.out
              have h2 : body.length ≠ 0 := fun e => hbn (List.eq_nil_of_length_eq_zero e)
              omega
            have hdm : decide (0 < m) = true := decide_eq_true (by omega)
            clear hbn
            go_wp2_with fail
            refine (parse_gotB A3 k c3 ((msg hs body).take k) w7 HYK.out (by omega) _ _ _ HP.out).mono ?_
            rintro e w8 ⟨A8, c8, A9, c9, rfl, -, -, hb8⟩
            rw [show ([] : List UInt8).length = 0 from rfl]
            go_wp2_with fail
            go_ret
            exact ⟨rfl, below_then HB7.out hb8⟩
        · have hpos := HQ.out.1 (by omega)
          subst hpos
          obtain ⟨k, hkq⟩ : ∃ k, q % N = k := ⟨_, rfl⟩
          have hkN : k < N := by rw [← hkq]; exact Nat.mod_lt _ hN0
          have heq : (q : Int) % (N : Int) = (k : Int) := by rw [← hkq]; omega
          have hNc : N ≤ c3 := HM7.out.cap
          have hsl := fun w2 => run_headK .i64 w2 A3 N c3 k (by omega)
          have hyk := HM7.out.head (k := k) (by have := HN.out; omega)
          have HYK := Lib.hid hyk
          have HKQ := Lib.hid hkq
          clear hyk hkq
          obtain hp | ⟨hp, hbn⟩ := HPC.out k (by have := HN.out; omega)
          · have HP := Lib.hid hp; clear hp
            go_wp2_with fail
            refine (parse_gotB A3 k c3 ((msg hs body).take k) w7 HYK.out (by omega) _ _ _ HP.out).mono ?_
            rintro e w8 ⟨A8, c8, A9, c9, rfl, -, -, hb8⟩
            go_wp2_with fail
            go_ret
            exact ⟨rfl, below_then HB7.out hb8⟩
          · have HP := Lib.hid hp; clear hp
            have hm0 : (0 : Int) < (m : Int) := by
              have h1 := HBL.out
              have h2 : body.length ≠ 0 := fun e => hbn (List.eq_nil_of_length_eq_zero e)
              omega
            have hdm : decide (0 < m) = true := decide_eq_true (by omega)
            clear hbn
            go_wp2_with fail
            refine (parse_gotB A3 k c3 ((msg hs body).take k) w7 HYK.out (by omega) _ _ _ HP.out).mono ?_
            rintro e w8 ⟨A8, c8, A9, c9, rfl, -, -, hb8⟩
            rw [show ([] : List UInt8).length = 0 from rfl]
            go_wp2_with fail
            go_ret
            exact ⟨rfl, below_then HB7.out hb8⟩
    · have hg3 : ((3000 : Int) < (m : Int)) := by omega
      go_enter Try.func4, Try.ntmps4
      go_wp2_with fail
      refine (awake20_any w).mono ?_
      rintro e w1 ⟨rfl, hb1⟩
      have HR1 := Lib.hid (HR.out.after hb1); have HB1 := Lib.hid hb1; clear hb1
      go_wp2_with fail
      refine (few_any A n c hs w1 HR1.out hn63).mono ?_
      rintro e w2 ⟨rfl, rfl⟩
      rw [HFW.out]
      go_wp2_with fail
      go_ret
      exact ⟨rfl, HB1.out⟩
end Go.Proofs.Ytcimcldmkaggnaa
