/- The program's Parse, walked. -/
import Derived.Test.YtcimcldmkaggnaaHdrFrmW
import Derived.Test.YtcimcldmkaggnaaHdrDec2W
namespace Go.Proofs.Ytcimcldmkaggnaa
set_option linter.unusedVariables false
set_option linter.unusedSimpArgs false
open Go.RowKit
open Hd Va

theorem parse_eq (b : List UInt8) : parse b = match first b with
  | none => ([], [], 201)
  | some (k, h, r) => if k = 1 then match bodies r with
      | none => ([], [], 201)
      | some body => match dec h with
        | none => ([], [], 200)
        | some hs => (hs, body, 0)
    else ([], [], 201) := rfl
theorem bodies_round {r0 rest x r : List UInt8} {acc : List UInt8} {k : Nat} (h0 : bodies r0 = (bodies rest).map (acc ++ ·)) (h : first rest = some (k, x, r)) (hk : ¬ (0 < k ∧ k < 10)) : bodies r0 = (bodies r).map ((if k = 0 then acc ++ x else acc) ++ ·) := by
  rw [h0, bodies_some h hk]
  by_cases h0 : k = 0
  · simp only [if_pos h0]
    cases bodies r <;> simp
  · simp only [if_neg h0]
    cases bodies r <;> simp
theorem first_lengths {b x r : List UInt8} {k : Nat} (h : first b = some (k, x, r)) : x.length + r.length < b.length := by
  unfold first at h
  split at h
  · cases h
  · rename_i k' i hi
    have gi := get_some hi
    split at h
    · cases h
    · rename_i n j hj
      have gj := get_some hj
      split at h
      · rename_i hn
        injection h with h; injection h with h1 h2; injection h2 with h2 h3; subst h2 h3
        obtain ⟨g1, -, g3, -⟩ := gi
        simp only [List.length_take, List.length_drop] at hn ⊢
        rw [Nat.min_eq_left hn]
        omega
      · cases h
theorem first_kind {b x r : List UInt8} {k : Nat} (h : first b = some (k, x, r)) : k < 4611686018427387904 := by
  unfold first at h
  split at h
  · cases h
  · rename_i k' i hi
    have gi := get_some hi
    split at h
    · cases h
    · split at h
      · injection h with h; injection h with h1 h2; omega
      · cases h
def ParseEnds (xs : List UInt8) (w : World) (e : Ending) (w' : World) : Prop :=
  Below w.heap.size w w' ∧ ∃ v u, e = .returned (.tuple #[v, u, .int .i64 (parse xs).2.2]) ∧ Hds w' v (parse xs).1 ∧ Byt w' u (parse xs).2.1
theorem hds_nil (w : World) : Hds w (.slice none 0 0) [] := ⟨none, 0, rfl, HRd.none_ _ _, Nat.le_refl _, by unfold maxLen; omega⟩
theorem byt_nil (w : World) : Byt w (.slice none 0 0) [] := ⟨none, 0, rfl, Rd.none_, Nat.le_refl _, by unfold maxLen; omega⟩
theorem parse_end {xs : List UInt8} {w w' : World} {z : Int} (hb : Below w.heap.size w w') (hp : parse xs = ([], [], z)) : ParseEnds xs w (.returned (.tuple #[.slice none 0 0, .slice none 0 0, .int .i64 z])) w' := by
  unfold ParseEnds
  rw [hp]
  exact ⟨hb, _, _, rfl, hds_nil _, byt_nil _⟩
set_option maxRecDepth 100000 in
set_option maxHeartbeats 1600000 in
theorem parse_any (A : Option Addr) (n c : Nat) (xs : List UInt8) (w : World) (hR : Rd w w.heap.size A n xs) (hc : n ≤ c) (hm : c ≤ maxLen) (hn : n ≤ 1000000) :
    Calls Try.prog 22 #[.slice A n c] w (ParseEnds xs w) := by
  obtain ⟨i0, hi0, hz0, hz1, hz2⟩ := info_parts info5
  have HF := Lib.hid (frame_any A n c xs w w.heap.size hR (Nat.le_refl _) hc hm)
  have HLN := Lib.hid hR.1
  have HPE := Lib.hid (parse_eq xs)
  have HC := Lib.hid (And.intro hc hm)
  clear hR hc hm
  cases hf : first xs with
  | none =>
    have HP := Lib.hid (show parse xs = ([], [], 201) by rw [HPE.out, hf])
    have HFN := Lib.hid hf; clear hf
    go_enter Try.func22, Try.ntmps22
    go_wp2_with fail
    refine HF.out.mono ?_
    rintro e w1 ⟨⟨q, rfl⟩, he⟩
    rw [HFN.out] at he
    subst he
    go_wp2_with fail
    go_ret3
    exact parse_end (below_drewN (Below.refl _ w) q) HP.out
  | some p =>
    obtain ⟨k, h, r⟩ := p
    have hfl := first_lengths hf
    have hk62 := first_kind hf
    have HFN := Lib.hid hf; clear hf
    by_cases hk1 : k = 1
    · subst hk1
      have HP := Lib.hid (show parse xs = match bodies r with | none => ([], [], 201) | some body => match dec h with | none => ([], [], 200) | some hs => (hs, body, 0) by rw [HPE.out, HFN.out]; simp only [if_true])
      go_enter Try.func22, Try.ntmps22
      go_wp2_with fail
      refine HF.out.mono ?_
      rintro e w1 ⟨⟨q, rfl⟩, he⟩
      rw [HFN.out] at he
      obtain ⟨A1, c1, A2, c2, rfl, hr1, hr2, l1, l2, l3, l4⟩ := he
      obtain ⟨nh, hnh⟩ : ∃ nh, h.length = nh := ⟨_, rfl⟩
      obtain ⟨nr, hnr⟩ : ∃ nr, r.length = nr := ⟨_, rfl⟩
      rw [hnh] at hr1 l1 ⊢
      rw [hnr] at hr2 l3 ⊢
      have HBD := Lib.hid (below_drewN (Below.refl w.heap.size w) q)
      have hsz : (w.drewN q).heap.size = w.heap.size := rfl
      generalize w.drewN q = W at *
      have HR1 := Lib.hid hr1; have HR2 := Lib.hid hr2; have HNH := Lib.hid hnh; have HNR := Lib.hid hnr; have HL := Lib.hid (And.intro l1 (And.intro l2 (And.intro l3 l4)))
      have HSZ := Lib.hid hsz
      have HFL := Lib.hid (show nh + nr < n by have := HLN.out; omega)
      clear hr1 hr2 hnh hnr l1 l2 l3 l4 hsz HF hfl
      go_wp2_with fail
      go_loopg [7, 9] nr (fun gh s7 s9 wr => ∃ (rest acc : List UInt8) (A3 A4 : Option Addr) (m c3 q c4 : Nat), m = gh ∧ s7 = .slice A3 m c3 ∧ Rd wr w.heap.size A3 m rest ∧ m ≤ c3 ∧ c3 ≤ maxLen ∧ s9 = .slice A4 q c4 ∧ wr.ownsRow w.heap.size 5 1 (.slice A4 q c4) q (bs acc) ∧ acc.length = q ∧ q + m ≤ nr ∧ bodies r = (bodies rest).map (acc ++ ·) ∧ Below w.heap.size w wr)
      case atStart => exact ⟨r, [], A2, none, nr, c2, 0, 0, rfl, rfl, HR2.out, HL.out.2.2.1, by have := HL.out.2.2.2; have := HC.out.2; omega, rfl, World.ownsRow_nil _ _ _ _, rfl, by omega, by simp, HBD.out⟩
      case round =>
        obtain ⟨rest, acc, A3, A4, m, c3, q4, c4, rfl, rfl, hr3, hm3, hc3, rfl, ho4, hl4, hq4, hbo, hbr⟩ := hrel
        have HR3 := Lib.hid hr3; have HM3 := Lib.hid (And.intro hm3 hc3); have HO4 := Lib.hid ho4; have HL4 := Lib.hid hl4; have HBO := Lib.hid hbo; have HBR := Lib.hid hbr
        clear hr3 hm3 hc3 ho4 hl4 hbo hbr
        by_cases hm0 : m = 0
        · subst hm0
          obtain rfl : rest = [] := List.eq_nil_of_length_eq_zero HR3.out.1
          have HBE := Lib.hid (show bodies r = some acc by rw [HBO.out, bodies_nil]; simp)
          go_wp2_with fail
          refine (decode_any A1 nh c1 h wr ((HR1.out.below (B := w.heap.size) (by have := HBR.out; have h2 := HBD.out; exact ⟨this.os.trans h2.os.symm, this.tape.trans h2.tape.symm, this.output.trans h2.output.symm, by have := this.size; have := HSZ.out; omega, fun k hk => (this.block k hk).trans (h2.block k hk).symm⟩)).more HBR.out.size) HL.out.1 (by have := HL.out.2.1; have := HC.out.2; omega) (by have := HFL.out; omega)).mono ?_
          rintro e w5 ⟨hb5, he⟩
          cases hd : dec h with
          | none =>
            rw [hd] at he
            subst he
            have HP2 := Lib.hid (show parse xs = ([], [], 200) by rw [HP.out, HBE.out]; simp only [hd])
            have HB5 := Lib.hid hb5; clear hb5 hd
            go_wp2_with fail
            go_ret3
            exact parse_end (HBR.out.trans (HB5.out.mono HBR.out.size)) HP2.out
          | some hs =>
            rw [hd] at he
            obtain ⟨v, rfl, hv⟩ := he
            have HP2 := Lib.hid (show parse xs = (hs, acc, 0) by rw [HP.out, HBE.out]; simp only [hd])
            have HB5 := Lib.hid hb5; have HV := Lib.hid hv; clear hb5 hd
            obtain ⟨A6, c6, rfl, -⟩ := hv
            go_wp2_with fail
            go_ret3
            refine ⟨HBR.out.trans (HB5.out.mono HBR.out.size), ?_⟩
            rw [HP2.out]
            refine ⟨_, _, rfl, HV.out, Byt.after ?_ HB5.out⟩
            have ho := HO4.out
            have hl := HL4.out
            subst hl
            exact Byt.of_own ho
        · have HFR := Lib.hid (frame_any A3 m c3 rest wr w.heap.size HR3.out HBR.out.size HM3.out.1 HM3.out.2)
          have hrn : rest ≠ [] := by intro e; subst e; have := HR3.out.1; simp at this; omega
          cases hfr : first rest with
          | none =>
            have HP2 := Lib.hid (show parse xs = ([], [], 201) by rw [HP.out, HBO.out, bodies_none hrn hfr]; rfl)
            have HFF := Lib.hid hfr; clear hfr hrn
            go_wp2_with fail
            refine HFR.out.mono ?_
            rintro e w5 ⟨⟨q5, rfl⟩, he⟩
            rw [HFF.out] at he
            subst he
            go_wp2_with fail
            go_ret3
            exact parse_end (below_drewN HBR.out q5) HP2.out
          | some p =>
            obtain ⟨k2, x, r2⟩ := p
            have hfl2 := first_lengths hfr
            have hk2 := first_kind hfr
            have HFF := Lib.hid hfr
            by_cases hkb : 0 < k2 ∧ k2 < 10
            · have HP2 := Lib.hid (show parse xs = ([], [], 201) by
                rw [HP.out, HBO.out, bodies_bad hfr hkb]; rfl)
              have hg1 : (0 : Int) < (k2 : Int) := by omega
              have hg2 : (k2 : Int) < 10 := by omega
              clear hfr hrn hkb hfl2
              go_wp2_with fail
              refine HFR.out.mono ?_
              rintro e w5 ⟨⟨q5, rfl⟩, he⟩
              rw [HFF.out] at he
              obtain ⟨A5, c5, A6, c6, rfl, -⟩ := he
              go_wp2_with fail
              go_ret3
              exact parse_end (below_drewN HBR.out q5) HP2.out
            · have HBO2 := Lib.hid (bodies_round HBO.out hfr hkb)
              rw [HR3.out.1] at hfl2
              have HFL2 := Lib.hid hfl2
              clear hfr hrn hfl2
              by_cases hk0 : k2 = 0
              · subst hk0
                clear hkb
                go_wp2_with fail
                refine HFR.out.mono ?_
                rintro e w5 ⟨⟨q5, rfl⟩, he⟩
                rw [HFF.out] at he
                obtain ⟨A5, c5, A6, c6, rfl, hr5, hr6, l1, l2, l3, l4⟩ := he
                obtain ⟨nx, hnx⟩ : ∃ nx, x.length = nx := ⟨_, rfl⟩
                obtain ⟨n2, hn2⟩ : ∃ n2, r2.length = n2 := ⟨_, rfl⟩
                rw [hnx] at hr5 l1 ⊢
                rw [hn2] at hr6 l3 ⊢
                have HR5 := Lib.hid hr5; have HR6 := Lib.hid hr6; have HL6 := Lib.hid (And.intro l3 l4)
                have HNX := Lib.hid hnx
                have HFL3 := Lib.hid (show nx + n2 < m by rw [← hnx, ← hn2]; exact HFL2.out)
                clear hr5 hr6 l1 l2 l3 l4 hnx hn2
                go_wp2_with (at_builtin; refine wpList_append_any _ rfl (.tmp 50) (.tmp 51) 24 rfl w.heap.size 5 i0 (.int .u8 0) Try.underlying24 hi0 hz0 hz1 hz2 rfl (.slice A4 q4 c4) q4 acc rfl ?p1 w.heap.size A5 nx c5 x rfl ?p2 ?p3 ?p4 ?_)
                case p1 => exact HO4.out
                case p2 => exact HR5.out
                case p3 => have := HFL3.out; have := HFL.out; omega
                case p4 => exact HBR.out.size
                intro A7 c7 w7 hown7 hg7 hat7
                have hb7 : Below w.heap.size w w7 := (below_drewN HBR.out q5).grown hg7 HBR.out.size (fun j hj => (HO4.out.lt j hj).1)
                have hr7 : Rd w7 w.heap.size A6 n2 r2 := HR6.out.grown hg7 HBR.out.size (fun j hj => (HO4.out.lt j hj).1)
                go_wp2_with fail
                go_roundg n2
                case measure => have := HFL3.out; omega
                case rel => exact ⟨r2, acc ++ x, A6, A7, n2, c6, q4 + nx, c7, rfl, rfl, hr7, HL6.out.1, by have := HL6.out.2; have := HM3.out.2; omega, rfl, hown7, by rw [List.length_append, HL4.out, HNX.out], by have := HFL3.out; omega, by have h2 := HBO2.out; simpa using h2, hb7⟩
              · have hg1 : (0 : Int) < (k2 : Int) := by omega
                have hg2 : ((k2 : Int) < 10) = False := eq_false (by omega)
                have hg3 : ((k2 : Int) == 0) = false := beq_eq_false_iff_ne.2 (by omega)
                have HBO3 := Lib.hid (show bodies r = (bodies r2).map (acc ++ ·) by have h2 := HBO2.out; simpa only [if_neg hk0] using h2)
                clear hkb hk0
                go_wp2_with fail
                refine HFR.out.mono ?_
                rintro e w5 ⟨⟨q5, rfl⟩, he⟩
                rw [HFF.out] at he
                obtain ⟨A5, c5, A6, c6, rfl, hr5, hr6, l1, l2, l3, l4⟩ := he
                obtain ⟨nx, hnx⟩ : ∃ nx, x.length = nx := ⟨_, rfl⟩
                obtain ⟨n2, hn2⟩ : ∃ n2, r2.length = n2 := ⟨_, rfl⟩
                rw [hn2] at hr6 l3 ⊢
                have HR6 := Lib.hid hr6; have HL6 := Lib.hid (And.intro l3 l4)
                have HFL3 := Lib.hid (show nx + n2 < m by rw [← hnx, ← hn2]; exact HFL2.out)
                clear hr5 hr6 l1 l2 l3 l4 hnx hn2
                go_wp2_with fail
                go_roundg n2
                case measure => have := HFL3.out; omega
                case rel => exact ⟨r2, acc, A6, A4, n2, c6, q4, c4, rfl, rfl, HR6.out, HL6.out.1, by have := HL6.out.2; have := HM3.out.2; omega, rfl, HO4.out, HL4.out, by have := HFL3.out; omega, HBO3.out, below_drewN HBR.out q5⟩
    · have HP := Lib.hid (show parse xs = ([], [], 201) by rw [HPE.out, HFN.out]; simp only [if_neg hk1])
      have hkn : ((k : Int) == 1) = false := beq_eq_false_iff_ne.2 (by omega)
      have hkn2 : ((k : Int) != 1) = true := by rw [bne, hkn]; rfl
      go_enter Try.func22, Try.ntmps22
      go_wp2_with fail
      refine HF.out.mono ?_
      rintro e w1 ⟨⟨q, rfl⟩, he⟩
      rw [HFN.out] at he
      obtain ⟨A1, c1, A2, c2, rfl, -⟩ := he
      go_wp2_with fail
      go_ret3
      exact parse_end (below_drewN (Below.refl _ w) q) HP.out
end Go.Proofs.Ytcimcldmkaggnaa
