/- The reference's Parse, walked. -/
import Derived.Test.YtcimcldmkaggnaaHdrRefMsgW
import Derived.Test.YtcimcldmkaggnaaHdrRefFrmW
namespace Go.Proofs.Ytcimcldmkaggnaa
set_option linter.unusedVariables false
set_option linter.unusedSimpArgs false
open Go.RowKit
open Hd Va

def pfin (h : List UInt8) (o : Option (List UInt8)) : List H × List UInt8 × Int := match o with
  | none => ([], [], 201)
  | some body => match dec h with
    | none => ([], [], 200)
    | some hs => (hs, body, 0)
theorem parse_one {b h r : List UInt8} (hf : first b = some (1, h, r)) : parse b = pfin h (bodies r) := by
  rw [parse_eq, hf]; rfl
theorem parse_no {b : List UInt8} (hf : first b = none) : parse b = ([], [], 201) := by
  rw [parse_eq, hf]
theorem parse_other {b h r : List UInt8} {k : Nat} (hf : first b = some (k, h, r)) (hk : k ≠ 1) : parse b = ([], [], 201) := by
  rw [parse_eq, hf]; simp only [if_neg hk]
set_option maxRecDepth 100000 in
set_option maxHeartbeats 3200000 in
theorem refParse (A : Option Addr) (n c : Nat) (xs : List UInt8) (w : World) (hR : Rd w w.heap.size A n xs) (hc : n ≤ c) (hm : c ≤ maxLen) (hn : n ≤ 1000000) :
    Calls Try.prog 36 #[.slice A n c] w (ParseEnds xs w) := by
  obtain ⟨i0, hi0, hz0, hz1, hz2⟩ := info_parts info5
  have HF := Lib.hid (refFirst A n c xs w w.heap.size hR (Nat.le_refl _) hc hm)
  have HLN := Lib.hid hR.1
  have HC := Lib.hid (And.intro hc hm)
  clear hR hc hm
  go_enter Try.func36, Try.ntmps36
  go_wp2_with fail
  go_loopg [0, 5, 6, 7] (n + 1) (fun gh s0 s5 s6 s7 wr => (gh = n + 1 ∧ s0 = .slice A n c ∧ s5 = .slice none 0 0 ∧ s6 = .slice none 0 0 ∧ s7 = .int .i64 0 ∧ wr = w) ∨ (∃ (h r rest acc : List UInt8) (A1 A3 A4 : Option Addr) (nh c1 m c3 q c4 i : Nat), m = gh ∧ s0 = .slice A3 m c3 ∧ s5 = .slice A1 nh c1 ∧ s6 = .slice A4 q c4 ∧ s7 = .int .i64 (i : Nat) ∧ Rd wr w.heap.size A3 m rest ∧ (m ≤ c3 ∧ c3 ≤ maxLen) ∧ Rd wr w.heap.size A1 nh h ∧ (nh ≤ c1 ∧ c1 ≤ maxLen) ∧ wr.ownsRow w.heap.size 5 1 (.slice A4 q c4) q (bs acc) ∧ acc.length = q ∧ q + m ≤ n ∧ nh ≤ n ∧ 1 ≤ i ∧ i + m ≤ n + 1 ∧ parse xs = pfin h (bodies r) ∧ bodies r = (bodies rest).map (acc ++ ·) ∧ Below w.heap.size w wr))
  case atStart => exact .inl ⟨rfl, rfl, rfl, rfl, rfl, by trivial⟩
  case round =>
    rcases hrel with ⟨rfl, rfl, rfl, rfl, rfl, rfl⟩ | ⟨h, r, rest, acc, A1, A3, A4, nh, c1, m, c3, q4, c4, i, rfl, rfl, rfl, rfl, rfl, hr3, hm3, hr1, hm1, ho4, hl4, hq4, hnh, hi1, him, hpp, hbo, hbr⟩
    · cases hf : first xs with
      | none =>
        have HP := Lib.hid (parse_no hf)
        have HFN := Lib.hid hf; clear hf
        go_wp2_with fail
        refine HF.out.mono ?_
        rintro e w1 ⟨⟨q, rfl⟩, he⟩
        rw [HFN.out] at he
        subst he
        go_wp2_with fail
        go_ret3
        exact parse_end (below_drewN (Below.refl _ _) q) HP.out
      | some p =>
        obtain ⟨k, h, r⟩ := p
        have hfl := first_lengths hf
        rw [HLN.out] at hfl
        have hk62 := first_kind hf
        by_cases hk1 : k = 1
        · subst hk1
          have HP := Lib.hid (parse_one hf)
          have HFN := Lib.hid hf; clear hf
          have HFL := Lib.hid hfl; clear hfl
          go_wp2_with fail
          refine HF.out.mono ?_
          rintro e w1 ⟨⟨q, rfl⟩, he⟩
          rw [HFN.out] at he
          obtain ⟨A1, c1, A2, c2, rfl, hr1, hr2, l1, l2, l3, l4⟩ := he
          obtain ⟨nh, hnh⟩ : ∃ nh, h.length = nh := ⟨_, rfl⟩
          obtain ⟨nr, hnr⟩ : ∃ nr, r.length = nr := ⟨_, rfl⟩
          rw [hnh] at hr1 l1 ⊢
          rw [hnr] at hr2 l3 ⊢
          have HFL2 := Lib.hid (show nh + nr < n by have := HFL.out; omega)
          have HR1 := Lib.hid hr1; have HR2 := Lib.hid hr2; have HL := Lib.hid (And.intro l1 (And.intro l2 (And.intro l3 l4)))
          clear hr1 hr2 hnh hnr l1 l2 l3 l4
          go_wp2_with fail
          go_roundg nr
          case measure => have := HFL2.out; omega
          case rel =>
            have := HFL2.out; have := HL.out; have := HC.out
            exact .inr ⟨h, r, r, [], A1, A2, none, nh, c1, nr, c2, 0, 0, 1, rfl, rfl, rfl, rfl, rfl, HR2.out, ⟨by omega, by omega⟩, HR1.out, ⟨by omega, by omega⟩, World.ownsRow_nil _ _ _ _, rfl, by omega, by omega, by omega, by omega, HP.out, by simp, below_drewN (Below.refl _ _) q⟩
        · have HP := Lib.hid (parse_other hf hk1)
          have HFN := Lib.hid hf; clear hf
          have hkn : ((k : Int) == 1) = false := beq_eq_false_iff_ne.2 (by omega)
          have hkn2 : ((k : Int) != 1) = true := by rw [bne, hkn]; rfl
          go_wp2_with fail
          refine HF.out.mono ?_
          rintro e w1 ⟨⟨q, rfl⟩, he⟩
          rw [HFN.out] at he
          obtain ⟨A1, c1, A2, c2, rfl, -⟩ := he
          go_wp2_with fail
          go_ret3
          exact parse_end (below_drewN (Below.refl _ _) q) HP.out
    · have HR3 := Lib.hid hr3; have HM3 := Lib.hid hm3; have HR1 := Lib.hid hr1; have HM1 := Lib.hid hm1; have HO4 := Lib.hid ho4; have HL4 := Lib.hid hl4; have HPP := Lib.hid hpp; have HBO := Lib.hid hbo; have HBR := Lib.hid hbr
      have HNH := Lib.hid hnh; have HQ4 := Lib.hid hq4
      clear hr3 hm3 hr1 hm1 ho4 hl4 hpp hbo hbr HF hnh hq4
      have hi2 : ((i : Int) == 0) = false := beq_eq_false_iff_ne.2 (by omega)
      have hi3 : (0 : Int) < (i : Int) := by omega
      by_cases hm0 : m = 0
      · subst hm0
        obtain rfl : rest = [] := List.eq_nil_of_length_eq_zero HR3.out.1
        have HBE := Lib.hid (show parse xs = pfin h (some acc) by rw [HPP.out, HBO.out, bodies_nil]; simp)
        go_wp2_with fail
        refine (refDecode A1 nh c1 h wr (HR1.out.more HBR.out.size) HM1.out.1 HM1.out.2 (by have := HNH.out; omega)).mono ?_
        rintro e w5 ⟨hb5, he⟩
        cases hd : dec h with
        | none =>
          rw [hd] at he
          subst he
          have HP2 := Lib.hid (show parse xs = ([], [], 200) by rw [HBE.out]; unfold pfin; simp only [hd])
          have HB5 := Lib.hid hb5; clear hb5 hd
          go_wp2_with fail
          go_ret3
          exact parse_end (HBR.out.trans (HB5.out.mono HBR.out.size)) HP2.out
        | some hs =>
          rw [hd] at he
          obtain ⟨v, rfl, hv⟩ := he
          have HP2 := Lib.hid (show parse xs = (hs, acc, 0) by rw [HBE.out]; unfold pfin; simp only [hd])
          have HB5 := Lib.hid hb5; have HV := Lib.hid hv; clear hb5 hd
          obtain ⟨A6, c6, rfl, -⟩ := hv
          go_wp2_with fail
          go_ret3
          refine ⟨HBR.out.trans (HB5.out.mono HBR.out.size), ?_⟩
          rw [HP2.out]
          refine ⟨_, _, rfl, HV.out, Byt.after ?_ HB5.out⟩
          have ho := HO4.out
          have hl := HL4.out
          subst hl
          exact Byt.of_own ho
      · have HFR := Lib.hid (refFirst A3 m c3 rest wr w.heap.size HR3.out HBR.out.size HM3.out.1 HM3.out.2)
        have hrn : rest ≠ [] := by intro e; subst e; have := HR3.out.1; simp at this; omega
        have hmp : (0 : Int) < (m : Int) := by omega
        cases hfr : first rest with
        | none =>
          have HP2 := Lib.hid (show parse xs = ([], [], 201) by rw [HPP.out, HBO.out, bodies_none hrn hfr]; rfl)
          have HFF := Lib.hid hfr; clear hfr hrn
          go_wp2_with fail
          refine HFR.out.mono ?_
          rintro e w5 ⟨⟨q5, rfl⟩, he⟩
          rw [HFF.out] at he
          subst he
          go_wp2_with fail
          go_ret3
          exact parse_end (below_drewN HBR.out q5) HP2.out
        | some p =>
          obtain ⟨k2, x, r2⟩ := p
          have hfl2 := first_lengths hfr
          have hk2 := first_kind hfr
          have HFF := Lib.hid hfr
          by_cases hkb : 0 < k2 ∧ k2 < 10
          · have HP2 := Lib.hid (show parse xs = ([], [], 201) by
              rw [HPP.out, HBO.out, bodies_bad hfr hkb]; rfl)
            have hg1 : ((k2 : Int) == 0) = false := beq_eq_false_iff_ne.2 (by omega)
            have hg3 : ((k2 : Int) != 0) = true := by rw [bne, hg1]; rfl
            have hg2 : (k2 : Int) < 10 := by omega
            clear hfr hrn hkb hfl2
            go_wp2_with fail
            refine HFR.out.mono ?_
            rintro e w5 ⟨⟨q5, rfl⟩, he⟩
            rw [HFF.out] at he
            obtain ⟨A5, c5, A6, c6, rfl, -⟩ := he
            go_wp2_with fail
            go_ret3
            exact parse_end (below_drewN HBR.out q5) HP2.out
          · have HBO2 := Lib.hid (bodies_round HBO.out hfr hkb)
            rw [HR3.out.1] at hfl2
            have HFL2 := Lib.hid hfl2
            clear hfr hrn hfl2
            by_cases hk0 : k2 = 0
            · subst hk0
              clear hkb
              go_wp2_with fail
              refine HFR.out.mono ?_
              rintro e w5 ⟨⟨q5, rfl⟩, he⟩
              rw [HFF.out] at he
              obtain ⟨A5, c5, A6, c6, rfl, hr5, hr6, l1, l2, l3, l4⟩ := he
              obtain ⟨nx, hnx⟩ : ∃ nx, x.length = nx := ⟨_, rfl⟩
              obtain ⟨n2, hn2⟩ : ∃ n2, r2.length = n2 := ⟨_, rfl⟩
              rw [hnx] at hr5 l1 ⊢
              rw [hn2] at hr6 l3 ⊢
              have HR5 := Lib.hid hr5; have HR6 := Lib.hid hr6; have HL6 := Lib.hid (And.intro l3 l4)
              have HNX := Lib.hid hnx
              have HFL3 := Lib.hid (show nx + n2 < m by rw [← hnx, ← hn2]; exact HFL2.out)
              clear hr5 hr6 l1 l2 l3 l4 hnx hn2
              go_wp2_with (at_builtin; refine wpList_append_any _ rfl (.tmp 57) (.tmp 58) 24 rfl w.heap.size 5 i0 (.int .u8 0) Try.underlying24 hi0 hz0 hz1 hz2 rfl (.slice A4 q4 c4) q4 acc rfl ?p1 w.heap.size A5 nx c5 x rfl ?p2 ?p3 ?p4 ?_)
              case p1 => exact HO4.out
              case p2 => exact HR5.out
              case p3 => have := HFL3.out; have := HQ4.out; omega
              case p4 => exact HBR.out.size
              intro A7 c7 w7 hown7 hg7 hat7
              have hb7 : Below w.heap.size w w7 := (below_drewN HBR.out q5).grown hg7 HBR.out.size (fun j hj => (HO4.out.lt j hj).1)
              have hr7 : Rd w7 w.heap.size A6 n2 r2 := HR6.out.grown hg7 HBR.out.size (fun j hj => (HO4.out.lt j hj).1)
              have hr8 : Rd w7 w.heap.size A1 nh h := (Rd.drewN HR1.out q5).grown hg7 HBR.out.size (fun j hj => (HO4.out.lt j hj).1)
              have HB7 := Lib.hid hb7; have HR7 := Lib.hid hr7; have HR8 := Lib.hid hr8; have HO7 := Lib.hid hown7
              clear hb7 hr7 hr8 hown7 hg7 hat7
              go_wp2_with fail
              go_roundg n2
              case measure => have := HFL3.out; omega
              case rel =>
                have := HFL3.out; have := HL6.out; have := HM3.out; have := HQ4.out
                exact .inr ⟨h, r, r2, acc ++ x, A1, A6, A7, nh, c1, n2, c6, q4 + nx, c7, i + 1, rfl, rfl, rfl, rfl, by go_num, HR7.out, ⟨by omega, by omega⟩, HR8.out, HM1.out, HO7.out, by rw [List.length_append, HL4.out, HNX.out], by omega, HNH.out, by omega, by omega, HPP.out, by have h2 := HBO2.out; simpa using h2, HB7.out⟩
            · have hg2 : ((k2 : Int) < 10) = False := eq_false (by omega)
              have hg3 : ((k2 : Int) == 0) = false := beq_eq_false_iff_ne.2 (by omega)
              have hg4 : ((k2 : Int) != 0) = true := by rw [bne, hg3]; rfl
              have HBO3 := Lib.hid (show bodies r = (bodies r2).map (acc ++ ·) by have h2 := HBO2.out; simpa only [if_neg hk0] using h2)
              clear hkb hk0
              go_wp2_with fail
              refine HFR.out.mono ?_
              rintro e w5 ⟨⟨q5, rfl⟩, he⟩
              rw [HFF.out] at he
              obtain ⟨A5, c5, A6, c6, rfl, hr5, hr6, l1, l2, l3, l4⟩ := he
              obtain ⟨nx, hnx⟩ : ∃ nx, x.length = nx := ⟨_, rfl⟩
              obtain ⟨n2, hn2⟩ : ∃ n2, r2.length = n2 := ⟨_, rfl⟩
              rw [hn2] at hr6 l3 ⊢
              have HR6 := Lib.hid hr6; have HL6 := Lib.hid (And.intro l3 l4)
              have HFL3 := Lib.hid (show nx + n2 < m by rw [← hnx, ← hn2]; exact HFL2.out)
              clear hr5 hr6 l1 l2 l3 l4 hnx hn2
              go_wp2_with fail
              go_roundg n2
              case measure => have := HFL3.out; omega
              case rel =>
                have := HFL3.out; have := HL6.out; have := HM3.out; have := HQ4.out
                exact .inr ⟨h, r, r2, acc, A1, A6, A4, nh, c1, n2, c6, q4, c4, i + 1, rfl, rfl, rfl, rfl, by go_num, HR6.out, ⟨by omega, by omega⟩, Rd.drewN HR1.out q5, HM1.out, HO4.out, HL4.out, by omega, HNH.out, by omega, by omega, HPP.out, HBO3.out, below_drewN HBR.out q5⟩
end Go.Proofs.Ytcimcldmkaggnaa
