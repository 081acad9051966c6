/- The walk of the law VarintMany, and the opening of its argument. -/
import Derived.Test.YtcimcldmkaggnaaVarintBackW
import Derived.ProofKit
import Derived.OpenShut
import Derived.Outline
namespace Go.Proofs.Ytcimcldmkaggnaa
set_option linter.unusedVariables false
open Go.RowKit Go.ChangeShapes Go.WideShapes Go.ChangeAt
open Va

/-- a slice of 64-bit numbers that came in -/
def U64sIn (W : World) (a : Option Addr) (len cap : Nat) (zs : List Int) : Prop :=
  zs.length = len ∧ len ≤ cap ∧ cap ≤ maxLen ∧ (0 < len → ∃ b o, a = some ⟨b, o, none⟩ ∧ b < W.heap.size ∧ ∀ j (h : j < zs.length), W.cell? ⟨b, o + j, none⟩ = some (.int .u64 (zs[j]'h)) ∧ 0 ≤ zs[j]'h)

theorem opened_u64s {P : Program} {H : Type} {enc : TypeId × Value → H} {W : World} {base : Nat} {spare : Nat → Bool} {held : Bool} {fuel : Nat} {t e : TypeId} {a : Option Addr} {len cap : Nat} {x : DataW H × List MemPlace}
    (ht : P.underlying t = some (.slice e)) (he : P.underlying e = some (.int .u64)) (hc : P.cellsOf e = 1) (h : DataW.trod enc P W base spare held fuel t (Value.slice a len cap).cells.toList = some x) :
    ∃ xs, U64sIn W a len cap xs := by
  rcases open_ints ht he hc h with ⟨hcs, _⟩ | ⟨ad, l, c, zs, hcs, _, hl, hm, hz, _, hcell, hwz⟩
  · simp [Value.cells] at hcs
    obtain ⟨rfl, rfl, rfl⟩ := hcs
    exact ⟨[], rfl, by omega, by unfold maxLen; omega, fun h => by omega⟩
  · simp [Value.cells] at hcs
    obtain ⟨rfl, rfl, rfl⟩ := hcs
    have hzl : len ≤ zs.length := by rw [hz]; split <;> omega
    refine ⟨zs.take len, by simp; omega, hl, hm, fun hn => ?_⟩
    have h0 := hcell 0 (by omega)
    obtain ⟨b, off, spot⟩ := ad
    have hspot : spot = none := by simpa [Addr.add] using World.cell?_spot h0
    subst hspot
    refine ⟨b, off, rfl, World.block_lt_of_cell? W ⟨b, off, none⟩ (by simpa [Addr.add] using h0), fun j hj => ?_⟩
    have hj' : j < len := by simp at hj; omega
    have hcj := hcell j (by omega)
    have hw := hwz (zs.getD j 0) (by rw [List.getD_eq_getElem?_getD, List.getElem?_eq_getElem (by omega)]; exact List.getElem_mem _)
    have hb := bounds_u64 hw
    have hadd : (⟨b, off, none⟩ : Addr).add j = ⟨b, off + j, none⟩ := by
      unfold Addr.add
      split
      · rename_i e0; subst e0; rfl
      · rfl
    rw [hadd] at hcj
    rw [hcj]
    simp only [List.getElem_take]
    rw [List.getD_eq_getElem?_getD, List.getElem?_eq_getElem (by omega)] at hb ⊢
    simp only [Option.getD_some] at hb ⊢
    exact ⟨trivial, hb.1⟩

def cutN (z : Int) : Int := z % 4611686018427387904
def many (zs : List Int) : List UInt8 := zs.flatMap fun z => putL (cutN z)
theorem many_snoc (zs : List Int) (k : Nat) (h : k < zs.length) : many (zs.take (k + 1)) = many (zs.take k) ++ putL (cutN zs[k]) := by
  unfold many
  rw [List.take_succ_eq_append_getElem h, List.flatMap_append]
  simp
theorem many_length (zs : List Int) : (many zs).length ≤ 8 * zs.length := by
  induction zs with
  | nil => simp [many]
  | cons z zs ih =>
    have h := putL_small (cutN z)
    have e : many (z :: zs) = putL (cutN z) ++ many zs := by simp [many]
    rw [e, List.length_append, List.length_cons]; omega
theorem many_head (zs : List Int) (N k : Nat) (h : k < N) (hN : N ≤ zs.length) : many ((zs.take N).drop k) = putL (cutN (zs[k]'(by omega))) ++ many ((zs.take N).drop (k + 1)) := by
  rw [List.drop_eq_getElem_cons (by rw [List.length_take]; omega)]
  simp [many]
theorem cutN_range (z : Int) : 0 ≤ cutN z ∧ cutN z < 4611686018427387904 := by unfold cutN; omega
theorem size_pos (v : Nat) (h : v < 4611686018427387904) : 1 ≤ size v := by
  unfold size
  repeat' split
  all_goals omega
theorem run_low (w : World) (b o n c : Nat) (l : Int) (k : Nat) (hl : l = k) (hk : k ≤ n) :
    (Instr.slice 24 (.slice (some ⟨b, o, none⟩) n c) (some (.int .i64 l)) none none).run Try.prog w = .ok (.slice (if c = k then some ⟨b, o, none⟩ else some ⟨b, o + k, none⟩) (n - k) (c - k)) w := by
  subst hl
  rw [run_slice_l (P := Try.prog) w 24 _ _ _ (by kernel_rfl) .i64 _ (by omega) (by omega)]
  rw [show ((sizeOf (Try.prog.elem 24)).run Try.prog w) = .ok 1 w from by kernel_rfl]
  simp only [Result.andThen, sliced, Int.toNat_natCast]
  by_cases h : c = k
  · rw [if_pos h, if_pos h]
  · rw [if_neg h, if_neg h]
    simp only [Option.map_some, Addr.add]
    split
    · rename_i h0; simp at h0; subst h0; rfl
    · simp

theorem own_keep {w w' : World} {b : Nat} {e : TypeId} {size n : Nat} {v : Value} {xs : List Value} (h : w.ownsRow b e size v n xs) (hb : Below w.heap.size w w') : w'.ownsRow b e size v n xs := by
  refine ⟨h.1, ?_⟩
  rcases h.2 with h0 | ⟨g, cap, cur, h1, h2, h3, h4⟩
  · exact .inl h0
  · have hg : g < w.heap.size := (Array.getElem?_eq_some_iff.1 h3).1
    exact .inr ⟨g, cap, cur, h1, h2, (hb.block g hg).trans h3, h4⟩

set_option maxRecDepth 100000 in
set_option maxHeartbeats 3200000 in
theorem walk_VarintMany (A : Option Addr) (n c : Nat) (zs : List Int) (w : World) (hs : U64sIn w A n c zs) :
    Calls Try.prog 10 #[.slice A n c] w fun e w' => e = .returned (.bool true) ∧ Below w.heap.size w w' := by
  obtain ⟨hl, hc, hm, hcell⟩ := hs
  have hnm : n ≤ 9223372036854775807 := by unfold maxLen at hm; omega
  have HL := Lib.hid hl; have HC := Lib.hid hcell; have HM := Lib.hid (And.intro hc hm)
  clear hl hc hm hcell
  obtain ⟨i0, hi0, hz0, hz1, hz2⟩ := info_parts info5
  obtain ⟨N, hNn, hN5, hN⟩ : ∃ N, N ≤ n ∧ N ≤ 50 ∧ (N = n ∨ N = 50) := ⟨min n 50, by omega, by omega, by omega⟩
  go_enter Try.func10, Try.ntmps10
  go_wp2_with fail
  refine (awake03_any _).mono ?_
  rintro e w1 ⟨rfl, hb1⟩
  have HB1 := Lib.hid hb1; clear hb1
  go_wp2_with fail
  go_loopw [4, 5] (fun x i wr => ∃ (k q : Nat) (A' : Option Addr) (c' : Nat), k ≤ N ∧ i = .int .i64 k ∧ x = .slice A' q c' ∧ q = (many (zs.take k)).length ∧ wr.ownsRow w.heap.size 5 1 (.slice A' q c') q (bs (many (zs.take k))) ∧ Below w.heap.size w wr) (fun _ i _ => N - (intOf i).toNat)
  case atStart => exact ⟨0, 0, none, 0, by omega, rfl, rfl, rfl, World.ownsRow_nil _ _ _ _, HB1.out⟩
  case round =>
    obtain ⟨k, q, A', c', hk, rfl, rfl, hq, ho, hb⟩ := hrel
    have hqb : q ≤ 8 * k := by rw [hq]; exact Nat.le_trans (many_length _) (by rw [List.length_take]; omega)
    have HQ := Lib.hid hq; have HO := Lib.hid ho; have HB := Lib.hid hb; clear hq ho hb
    by_cases hkN : k < N
    · obtain ⟨b, o, rfl, hbl, hcs⟩ := HC.out (by omega)
      obtain ⟨hcell, hz0'⟩ := hcs k (by rw [HL.out]; omega)
      rw [← HB.out.cell (p := ⟨b, o + k, none⟩) hbl] at hcell
      obtain ⟨z, hz⟩ : ∃ z, zs[k]'(by rw [HL.out]; omega) = z := ⟨_, rfl⟩
      rw [hz] at hcell hz0'
      have hr := cutN_range z
      have hp : ∀ w, Calls Try.prog 24 #[.int .u64 (z % 4611686018427387904)] w (PutEnds (cutN z) w) := fun w => put_any (cutN z) hr.1 (by omega) w
      have HP := Lib.hid hp
      have hE : putE (cutN z) = 0 := if_pos hr.2
      have HE := Lib.hid hE; have HZ := Lib.hid hz
      have hyl := putL_small (cutN z)
      clear hp hE hz hr hcs
      have hk1 : (k : Int) < (n : Nat) := by omega
      have hk2 : (k : Int) < 50 := by omega
      go_wp2_with fail
      refine (HP.out _).mono ?_
      rintro e w2 h2
      obtain ⟨hb2, A2, d2, rfl, hr2, -, -, -⟩ := h2.form
      rw [HE.out]
      have hm1 := many_snoc zs k (by rw [HL.out]; omega)
      rw [HZ.out] at hm1
      have HM1 := Lib.hid hm1
      have HO2 := Lib.hid (own_keep HO.out hb2)
      have HR2 := Lib.hid hr2; have HB2 := Lib.hid (HB.out.trans (hb2.mono HB.out.size)); clear h2 hr2 hb2 hm1
      go_wp2_with (at_builtin; refine wpList_append_any _ rfl (.tmp 34) (.tmp 35) 24 rfl w.heap.size 5 i0 (.int .u8 0) Try.underlying24 hi0 hz0 hz1 hz2 rfl (.slice A' q c') q (many (zs.take k)) rfl ?q1 w2.heap.size A2 (putL (cutN z)).length d2 (putL (cutN z)) rfl ?q2 ?q3 ?q4 ?_)
      case q1 => exact HO2.out
      case q2 => exact HR2.out
      case q3 => omega
      case q4 => exact HB2.out.size
      intro A3 c3 w3 hown3 hg3 hat3
      have hb3 : Below w.heap.size w w3 := HB2.out.grown hg3 HB2.out.size (fun j hj => (HO2.out.lt j hj).1)
      rw [← HM1.out] at hown3
      have HO3 := Lib.hid hown3; have HB3 := Lib.hid hb3; clear hown3 hb3 hg3 hat3
      go_wp2_with fail
      go_roundw
      case rel =>
        have e : q + (putL (cutN z)).length = (many (zs.take (k + 1))).length := by
          rw [HM1.out, List.length_append, ← HQ.out]
        exact ⟨k + 1, q + (putL (cutN z)).length, A3, c3, by omega, by go_num, rfl, e, HO3.out, HB3.out⟩
      case measure => simp [intOf]; omega
    · obtain rfl : k = N := by omega
      have HR := Lib.hid (Rd.of_own HO.out rfl : Rd wr wr.heap.size A' q (many (zs.take k)))
      have hcap := own_caps HO.out
      have HCP := Lib.hid hcap; clear hcap
      rcases (show k = n ∨ (k = 50 ∧ k < n) by omega) with hN | ⟨hN, hN2⟩
      · have h1 : ((k : Int) < (n : Nat)) = False := eq_false (by omega)
        have HN := Lib.hid hN; clear hN
        go_wp2_with fail
        go_loopw [4, 8] (fun x i wr2 => ∃ (j r : Nat) (B : Option Addr) (d : Nat), j ≤ k ∧ i = .int .i64 j ∧ x = .slice B r d ∧ Rd wr2 wr2.heap.size B r (many ((zs.take k).drop j)) ∧ r ≤ d ∧ d ≤ maxLen ∧ Below w.heap.size w wr2) (fun _ i _ => k - (intOf i).toNat)
        case atStart => exact ⟨0, q, A', c', by omega, rfl, rfl, HR.out, HCP.out.1, HCP.out.2, HB.out⟩
        case round =>
          obtain ⟨j, r, B, d, hj, rfl, rfl, hr, hd1, hd2, hb⟩ := hrel
          have HB2 := Lib.hid hb; have HD := Lib.hid (And.intro hd1 hd2); clear hb hd1 hd2
          by_cases hjk : j < k
          · obtain ⟨b, o, rfl, hbl, hcs⟩ := HC.out (by omega)
            obtain ⟨hcell, hz0'⟩ := hcs j (by rw [HL.out]; omega)
            rw [← HB2.out.cell (p := ⟨b, o + j, none⟩) hbl] at hcell
            have hmh := many_head zs k j hjk (by rw [HL.out]; omega)
            obtain ⟨z, hz⟩ : ∃ z, zs[j]'(by rw [HL.out]; omega) = z := ⟨_, rfl⟩
            rw [hz] at hcell hz0' hmh
            have hcr := cutN_range z
            obtain ⟨g1, g2, g3, g4⟩ := got_put (cutN z) hcr.1 hcr.2 (many ((zs.take k).drop (j + 1)))
            rw [hmh] at hr
            have hsp := size_pos (cutN z).toNat (by omega)
            obtain ⟨s, hs⟩ : ∃ s, size (cutN z).toNat = s := ⟨_, rfl⟩
            rw [hs] at g2 g4 hsp
            have g1' : getV (putL (cutN z) ++ many ((zs.take k).drop (j + 1))) = z % 4611686018427387904 := g1
            have hrl := hr.1
            rw [List.length_append, g4] at hrl
            have hsr : s ≤ r := by omega
            obtain ⟨b2, o2, rfl, -, -⟩ := hr.2 (by omega)
            have HR2 := Lib.hid hr
            have G1 := Lib.hid g1'; have G2 := Lib.hid g2; have G3 := Lib.hid g3; have G4 := Lib.hid g4
            obtain ⟨B2, hB2⟩ : ∃ B2, (if d = s then some (⟨b2, o2, none⟩ : Addr) else some ⟨b2, o2 + s, none⟩) = B2 := ⟨_, rfl⟩
            have hsl := fun w => run_low w b2 o2 r d (s : Nat) s rfl hsr
            rw [hB2] at hsl
            have ht := hr.tail_ (k := s) (cap := d) hsr HD.out.1
            rw [show (putL (cutN z) ++ many ((zs.take k).drop (j + 1))).drop s = many ((zs.take k).drop (j + 1)) from by rw [← g4, List.drop_left]] at ht
            have hadd : (⟨b2, o2, none⟩ : Addr).add s = ⟨b2, o2 + s, none⟩ := by
              unfold Addr.add
              split
              · rename_i e0; subst e0; rfl
              · rfl
            rw [Option.map_some, hadd, hB2] at ht
            have HT := Lib.hid ht
            have HSL := Lib.hid hsl
            have HRR := Lib.hid hrl
            clear hr g1 g1' g2 g3 g4 hz hmh hcr hs hcs hsl hrl ht hadd hB2
            have hk1 : (j : Int) < (n : Nat) := by omega
            have hk2 : (j : Int) < 50 := by omega
            have hs1 : ((s : Int) < 1) = False := eq_false (by omega)
            have hs2 : ((r : Int) < (s : Nat)) = False := eq_false (by omega)
            go_wp2_with fail
            refine (get_any _ r d _ _ HR2.out HD.out.1 HD.out.2).mono ?_
            rintro e w3 ⟨h3, rfl⟩
            obtain rfl := h3.form
            clear h3
            rw [G1.out, G2.out, G3.out]
            have hsl := HSL.out
            go_wp2_with fail
            go_roundw
            case rel =>
              exact ⟨j + 1, r - s, B2, d - s, by omega, by go_num, rfl, HT.out, by have := HD.out.1; omega, by have := HD.out.2; omega, HB2.out⟩
            case measure => simp [intOf]; omega
          · obtain rfl : j = k := by omega
            have hr0 : r = 0 := by
              have h := hr.1
              rw [List.drop_of_length_le (by rw [List.length_take]; omega)] at h
              simpa [many] using h.symm
            clear hr
            subst hr0
            have h2 : ((j : Int) < (n : Nat)) = False := eq_false (by have := HN.out; omega)
            go_wp2_with fail
            go_ret
            exact ⟨rfl, HB2.out⟩
      · have h1 : ((k : Int) < 50) = False := eq_false (by omega)
        have h0 : (k : Int) < (n : Nat) := by omega
        have HN := Lib.hid hN; clear hN
        go_wp2_with fail
        go_loopw [4, 8] (fun x i wr2 => ∃ (j r : Nat) (B : Option Addr) (d : Nat), j ≤ k ∧ i = .int .i64 j ∧ x = .slice B r d ∧ Rd wr2 wr2.heap.size B r (many ((zs.take k).drop j)) ∧ r ≤ d ∧ d ≤ maxLen ∧ Below w.heap.size w wr2) (fun _ i _ => k - (intOf i).toNat)
        case atStart => exact ⟨0, q, A', c', by omega, rfl, rfl, HR.out, HCP.out.1, HCP.out.2, HB.out⟩
        case round =>
          obtain ⟨j, r, B, d, hj, rfl, rfl, hr, hd1, hd2, hb⟩ := hrel
          have HB2 := Lib.hid hb; have HD := Lib.hid (And.intro hd1 hd2); clear hb hd1 hd2
          by_cases hjk : j < k
          · obtain ⟨b, o, rfl, hbl, hcs⟩ := HC.out (by omega)
            obtain ⟨hcell, hz0'⟩ := hcs j (by rw [HL.out]; omega)
            rw [← HB2.out.cell (p := ⟨b, o + j, none⟩) hbl] at hcell
            have hmh := many_head zs k j hjk (by rw [HL.out]; omega)
            obtain ⟨z, hz⟩ : ∃ z, zs[j]'(by rw [HL.out]; omega) = z := ⟨_, rfl⟩
            rw [hz] at hcell hz0' hmh
            have hcr := cutN_range z
            obtain ⟨g1, g2, g3, g4⟩ := got_put (cutN z) hcr.1 hcr.2 (many ((zs.take k).drop (j + 1)))
            rw [hmh] at hr
            have hsp := size_pos (cutN z).toNat (by omega)
            obtain ⟨s, hs⟩ : ∃ s, size (cutN z).toNat = s := ⟨_, rfl⟩
            rw [hs] at g2 g4 hsp
            have g1' : getV (putL (cutN z) ++ many ((zs.take k).drop (j + 1))) = z % 4611686018427387904 := g1
            have hrl := hr.1
            rw [List.length_append, g4] at hrl
            have hsr : s ≤ r := by omega
            obtain ⟨b2, o2, rfl, -, -⟩ := hr.2 (by omega)
            have HR2 := Lib.hid hr
            have G1 := Lib.hid g1'; have G2 := Lib.hid g2; have G3 := Lib.hid g3; have G4 := Lib.hid g4
            obtain ⟨B2, hB2⟩ : ∃ B2, (if d = s then some (⟨b2, o2, none⟩ : Addr) else some ⟨b2, o2 + s, none⟩) = B2 := ⟨_, rfl⟩
            have hsl := fun w => run_low w b2 o2 r d (s : Nat) s rfl hsr
            rw [hB2] at hsl
            have ht := hr.tail_ (k := s) (cap := d) hsr HD.out.1
            rw [show (putL (cutN z) ++ many ((zs.take k).drop (j + 1))).drop s = many ((zs.take k).drop (j + 1)) from by rw [← g4, List.drop_left]] at ht
            have hadd : (⟨b2, o2, none⟩ : Addr).add s = ⟨b2, o2 + s, none⟩ := by
              unfold Addr.add
              split
              · rename_i e0; subst e0; rfl
              · rfl
            rw [Option.map_some, hadd, hB2] at ht
            have HT := Lib.hid ht
            have HSL := Lib.hid hsl
            have HRR := Lib.hid hrl
            clear hr g1 g1' g2 g3 g4 hz hmh hcr hs hcs hsl hrl ht hadd hB2
            have hk1 : (j : Int) < (n : Nat) := by omega
            have hk2 : (j : Int) < 50 := by omega
            have hs1 : ((s : Int) < 1) = False := eq_false (by omega)
            have hs2 : ((r : Int) < (s : Nat)) = False := eq_false (by omega)
            go_wp2_with fail
            refine (get_any _ r d _ _ HR2.out HD.out.1 HD.out.2).mono ?_
            rintro e w3 ⟨h3, rfl⟩
            obtain rfl := h3.form
            clear h3
            rw [G1.out, G2.out, G3.out]
            have hsl := HSL.out
            go_wp2_with fail
            go_roundw
            case rel =>
              exact ⟨j + 1, r - s, B2, d - s, by omega, by go_num, rfl, HT.out, by have := HD.out.1; omega, by have := HD.out.2; omega, HB2.out⟩
            case measure => simp [intOf]; omega
          · obtain rfl : j = k := by omega
            have hr0 : r = 0 := by
              have h := hr.1
              rw [List.drop_of_length_le (by rw [List.length_take]; omega)] at h
              simpa [many] using h.symm
            clear hr
            subst hr0
            have h2 : ((j : Int) < 50) = False := eq_false (by have := HN.out; omega)
            have h3 : (j : Int) < (n : Nat) := by omega
            go_wp2_with fail
            go_ret
            exact ⟨rfl, HB2.out⟩
end Go.Proofs.Ytcimcldmkaggnaa
