/- The program's reader of headers: a header. -/
import Derived.Test.YtcimcldmkaggnaaHdrReadW
import Derived.Test.YtcimcldmkaggnaaHdrTab
import Derived.Deep.WholeRow
import Derived.Deep.DeepCutAuto
import Derived.Deep.CutBlock
namespace Go.Proofs.Ytcimcldmkaggnaa
set_option linter.unusedVariables false
set_option linter.unusedSimpArgs false
open Go.RowKit
open Hd

/-- the table lies in block g -/
def TabAt (w : World) (g : Nat) : Prop := ∀ (i : Nat) (h : H), tab[i]? = some h → w.cell? ⟨g, i * 2, none⟩ = some (.string h.1) ∧ w.cell? ⟨g, i * 2 + 1, none⟩ = some (.string h.2)
def LineEnds (n : Nat) (w : World) (e : Ending) (w' : World) : Prop :=
  Below w.heap.size w w' ∧ match tab[n]? with
    | some h => e = .returned (.agg #[.string h.1, .string h.2])
    | none => e = .panicked chain
set_option maxHeartbeats 800000 in
theorem srcLine (n g : Nat) (w : World) (hT : TabAt w g) (hg : g < w.heap.size) (hn : n ≤ 9223372036854775807) :
    Calls Try.prog 55 #[.int .i64 (n : Nat), .pointer (some ⟨g, 0, none⟩)] w (LineEnds n w) := by
  by_cases h30 : n < 30
  · obtain ⟨h, hh⟩ : ∃ h, tab[n]? = some h := ⟨_, List.getElem?_eq_getElem (show n < tab.length by rw [tab_length]; exact h30)⟩
    obtain ⟨c1, c2⟩ := hT n h hh
    have HH := Lib.hid hh; clear hh hT
    have hg30 : (n : Int) < 30 := by omega
    have e1 := fun ob => (World.cell?_alloc_lt w ob ⟨g, n * 2, none⟩ hg).trans c1
    have e2 := fun ob => (World.cell?_alloc_lt w ob ⟨g, n * 2 + 1, none⟩ hg).trans c2
    clear c1 c2
    go_enter Try.func55, Try.ntmps55
    go_wp2_with (go_at_call 43; refine (needs_yes _).mono ?_; rintro e w1 ⟨rfl, rfl⟩)
    refine bodyPost_ret (v := .agg #[.string h.1, .string h.2]) (by simp [results, Try.results55, go_sem]) rfl ⟨?_, by rw [HH.out]⟩
    exact (Below.refl _ _).alloc (Nat.le_refl _) _
  · have hh : tab[n]? = none := List.getElem?_eq_none (by rw [tab_length]; omega)
    have HH := Lib.hid hh; clear hh hT
    have hg30 : ((n : Int) < 30) = False := eq_false (by omega)
    go_enter Try.func55, Try.ntmps55
    go_wp2_with (go_at_call 43; refine (needs_no _).mono ?_; rintro e w1 ⟨rfl, rfl⟩)
    exact ⟨rfl, (Below.refl _ _).alloc (Nat.le_refl _) _, by rw [HH.out]⟩

theorem tabAt_new (w : World) : TabAt (w.alloc (.cells tabV 56)) w.heap.size := by
  intro i h hi
  have hc := cellsOf_at tab i h hi
  have hrow := heap_alloc_last w (.cells tabV 56)
  have e : ∀ j, j < 2 → tabV[i * 2 + j]? = ([Value.string h.1, Value.string h.2] : List Value)[j]? := by
    intro j hj
    rw [← hc, ← Array.getElem?_toList, tabV_cells, List.getElem?_take, if_pos hj, List.getElem?_drop]
  exact ⟨(cell_of_row _ _ _ _ _ _ hrow).trans (e 0 (by omega)), (cell_of_row _ _ _ _ _ _ hrow).trans (e 1 (by omega))⟩
theorem Past.frozen {g : Nat} {w w' : World} (h : Past g w w') {p : Addr} (hp : p.block < w.heap.size) (hg : p.block ≠ g) : w'.frozen? p = w.frozen? p := World.frozen?_of_block (h.block _ hp hg)
theorem Past.store {g a i : Nat} {w w' : World} (h : Past g w w') (ha : w.heap.size ≤ a) (v : Value) : Past g w (w'.setCell ⟨a, i, none⟩ v) :=
  ⟨h.os, h.tape, h.output, by simpa using h.size, fun k hk hg => (Below.heap_setCell w' ⟨a, i, none⟩ v k (by simp; omega)).trans (h.block k hk hg)⟩
theorem Src.store {g a i : Nat} {w : World} {xs : List UInt8} (h : Src w g xs) (ha : g < a) (v : Value) : Src (w.setCell ⟨a, i, none⟩ v) g xs := by
  obtain ⟨A, c, h1, h2, h3, h4⟩ := h
  have hb : ∀ q : Addr, q.block < a → (w.setCell ⟨a, i, none⟩ v).cell? q = w.cell? q := fun q hq => World.cell?_setCell_other w _ q _ (fun e => by rw [← e] at hq; exact absurd hq (Nat.lt_irrefl _))
  exact ⟨A, c, (hb _ ha).trans h1, by simpa using h2, h3.keep fun p hp => hb p (by omega), h4⟩
theorem TabAt.past {g gl : Nat} {w w' : World} (h : TabAt w gl) (hp : Past g w w') (hl : gl < w.heap.size) (hg : gl ≠ g) : TabAt w' gl := fun i x hi => ⟨(hp.cell hl hg).trans (h i x hi).1, (hp.cell hl hg).trans (h i x hi).2⟩
/-- the named result's two cells -/
def Two (w : World) (a : Nat) (n v : ByteArray) : Prop :=
  w.cell? ⟨a, 0, none⟩ = some (.string n) ∧ w.cell? ⟨a, 1, none⟩ = some (.string v) ∧ w.frozen? ⟨a, 0, none⟩ = false ∧ w.frozen? ⟨a, 1, none⟩ = false ∧ a < w.heap.size
theorem Two.past {w w' : World} {a g : Nat} {n v : ByteArray} (h : Two w a n v) (hp : Past g w w') (hg : a ≠ g) : Two w' a n v :=
  ⟨(hp.cell h.2.2.2.2 hg).trans h.1, (hp.cell h.2.2.2.2 hg).trans h.2.1, (hp.frozen h.2.2.2.2 hg).trans h.2.2.1, (hp.frozen h.2.2.2.2 hg).trans h.2.2.2.1, Nat.lt_of_lt_of_le h.2.2.2.2 hp.size⟩
theorem Two.below {w w' : World} {a : Nat} {n v : ByteArray} (h : Two w a n v) (hb : Below w.heap.size w w') : Two w' a n v := h.past (Past.of_below (g := a + 1) hb) (by omega)
theorem Two.store0 {w : World} {a : Nat} {n v m : ByteArray} (h : Two w a n v) : Two (w.setCell ⟨a, 0, none⟩ (.string m)) a m v :=
  ⟨World.cell?_setCell_same w _ _ h.1, (World.cell?_setCell_other w ⟨a, 0, none⟩ ⟨a, 1, none⟩ _ (by simp)).trans h.2.1, by simpa using h.2.2.1, by simpa using h.2.2.2.1, by simpa using h.2.2.2.2⟩
theorem Two.store1 {w : World} {a : Nat} {n v m : ByteArray} (h : Two w a n v) : Two (w.setCell ⟨a, 1, none⟩ (.string m)) a n m :=
  ⟨(World.cell?_setCell_other w ⟨a, 1, none⟩ ⟨a, 0, none⟩ _ (by simp)).trans h.1, World.cell?_setCell_same w _ _ h.2.1, by simpa using h.2.2.1, by simpa using h.2.2.2.1, by simpa using h.2.2.2.2⟩
theorem res46 (tmps : Array Value) (W : World) (a : Nat) (n v : ByteArray) (h : Two W a n v) (hp : tmps.getD 2 undef = .pointer (some ⟨a, 0, none⟩)) : (results Try.f46 tmps).run Try.prog W = .ok (.agg #[.string n, .string v]) W := by
  obtain ⟨h0, h1, _, _, _⟩ := h
  have hp' : tmps[2]?.getD undef = .pointer (some ⟨a, 0, none⟩) := by simpa using hp
  simp [results, Try.results46, go_sem, hp', h0, h1]
theorem field0 (a b : ByteArray) (w : World) : (Instr.field 53 (.agg #[.string a, .string b]) 0).run Try.prog w = .ok (.string a) w := rfl
def HeadEnds (xs : List UInt8) (g : Nat) (w : World) (e : Ending) (w' : World) : Prop :=
  Past g w w' ∧ match next xs with
    | some (h, r) => e = .returned (.agg #[.string h.1, .string h.2]) ∧ Src w' g r
    | none => e = .panicked chain
theorem next_cons (x : UInt8) (t : List UInt8) : next (x :: t) =
    if 192 ≤ x.toNat then match count 6 (x :: t) with | none => none | some (n, r) => match tab[n]? with | none => none | some h => some (h, r)
    else if x.toNat / 16 = 5 then match count 4 (x :: t) with | none => none | some (n, r) => match tab[n]? with | none => none | some h => named h.1 r
    else if x.toNat / 8 = 4 then match taken 3 (x :: t) with | none => none | some (s, r) => named (sl s) r
    else none := rfl
set_option maxRecDepth 1000000 in
set_option maxHeartbeats 4000000 in
theorem srcHeader (x : UInt8) (t : List UInt8) (g : Nat) (w : World) (hs : Src w g (x :: t)) (hl : (x :: t).length ≤ 1000000000) :
    Calls Try.prog 46 #[.pointer (some ⟨g, 0, none⟩)] w (HeadEnds (x :: t) g w) := by
  have hmf : ∀ (fn : Fn) (first cap : Array Value) (w : World), (Instr.makeFunc fn first cap).run Try.prog w = .ok (.func fn first cap) w := fun _ _ _ _ => rfl
  have HS := Lib.hid hs; clear hs
  have HNX := Lib.hid (next_cons x t)
  go_enter Try.func46, Try.ntmps46
  go_wp2_with fail
  refine (table_any _).mono ?_
  rintro e w2 ⟨rfl, rfl⟩
  have hp1 : Past g w ((w.alloc (.cells #[.string ⟨#[]⟩, .string ⟨#[]⟩] 53)).alloc (.cells tabV 56)) := Past.of_below (((Below.refl _ w).alloc (Nat.le_refl _) _).alloc (by simp) _)
  have hs1 := (HS.out.below ((Below.refl _ w).alloc (Nat.le_refl _) (.cells #[.string ⟨#[]⟩, .string ⟨#[]⟩] 53))).below ((Below.refl _ _).alloc (Nat.le_refl _) (.cells tabV 56))
  have ha1 : w.heap.size < ((w.alloc (.cells #[.string ⟨#[]⟩, .string ⟨#[]⟩] 53)).alloc (.cells tabV 56)).heap.size := by simp; omega
  have hc1 : ((w.alloc (.cells #[.string ⟨#[]⟩, .string ⟨#[]⟩] 53)).alloc (.cells tabV 56)).heap[w.heap.size]? = some (.cells #[.string ⟨#[]⟩, .string ⟨#[]⟩] 53 (0, 0)) := by
    rw [heap_alloc_old (h := by simp)]; exact heap_alloc_new _ _
  generalize ((w.alloc (.cells #[.string ⟨#[]⟩, .string ⟨#[]⟩] 53)).alloc (.cells tabV 56)) = W2 at *
  generalize haw : w.heap.size = a at *
  have HAW := Lib.hid haw
  have HP1 := Lib.hid hp1; have HS1 := Lib.hid hs1; have HC1 := Lib.hid hc1
  clear hp1 hs1 hc1 haw
  go_upto_region 2 with (refine wpList_store_row rfl 56 (.tmp 3) (.tmp 8) rfl W2.heap.size tabV (by as_aux_lemma => rfl) (by as_aux_lemma => rfl) 56 _ (heap_alloc_last W2 _) (by as_aux_lemma => kernel_rfl) (by as_aux_lemma => kernel_rfl) (by as_aux_lemma => kernel_rfl) ?_)
  rw [World.setRow_alloc_new]
  have hb3 : Below W2.heap.size W2 (W2.alloc (.cells tabV 56)) := (Below.refl _ _).alloc (Nat.le_refl _) _
  have hT3 : TabAt (W2.alloc (.cells tabV 56)) W2.heap.size := tabAt_new W2
  have hg3 : W2.heap.size < (W2.alloc (.cells tabV 56)).heap.size := by simp
  have hp3 := HP1.out.trans (Past.of_below (g := g) hb3)
  have hs3 := HS1.out.below hb3
  have hc3 := (hb3.block a ha1).trans HC1.out
  have ha3 : a < (W2.alloc (.cells tabV 56)).heap.size := by omega
  have hga : g < a := by have := HS.out.lt; have := HAW.out; omega
  clear hb3 HS HP1 HS1 HC1
  generalize W2.alloc (.cells tabV 56) = W3 at *
  generalize W2.heap.size = gl at *
  have hca0 := cell_of_row W3 a 0 _ _ _ hc3
  have hca1 := cell_of_row W3 a 1 _ _ _ hc3
  have hfa0 := frozen_of_row W3 a 0 _ _ hc3
  have hfa1 := frozen_of_row W3 a 1 _ _ hc3
  rw [show (#[Value.string ⟨#[]⟩, Value.string ⟨#[]⟩] : Array Value)[0]? = some (.string ⟨#[]⟩) from rfl] at hca0
  rw [show (#[Value.string ⟨#[]⟩, Value.string ⟨#[]⟩] : Array Value)[1]? = some (.string ⟨#[]⟩) from rfl] at hca1
  have HT3 := Lib.hid hT3; have HP3 := Lib.hid hp3; have HS3 := Lib.hid hs3
  obtain ⟨A, c, h1, h2, h3, h4⟩ := hs3
  obtain ⟨b, o, rfl, hb, hcx⟩ := h3.2 (by simp)
  have h0 : W3.cell? ⟨b, o, none⟩ = some (.int .u8 (x.toNat : Int)) := hcx 0 (by simp)
  have hxl : x.toNat < 256 := x.toNat_lt
  obtain ⟨n, hn⟩ : ∃ n, (x :: t).length = n := ⟨_, rfl⟩
  have hn0 : 0 < n := by rw [← hn]; simp
  have HLN := Lib.hid hn
  rw [hn] at h1 h3 h4 hl
  have HTW := Lib.hid (show Two W3 a ⟨#[]⟩ ⟨#[]⟩ from ⟨hca0, hca1, hfa0, hfa1, ha3⟩)
  clear hT3 hp3 hc3 hcx h3 h2 hn hca0 hca1 hfa0 hfa1
  go_upto_block 0 with fail
  clear hmf
  go_cut [7] (fun s7 wc => s7 = .int .u8 (x.toNat : Int) ∧ ∃ (nm : ByteArray) (r : List UInt8), next (x :: t) = named nm r ∧ r.length ≤ n ∧ Src wc g r ∧ Two wc a nm ⟨#[]⟩ ∧ Past g w wc)
  case first =>
    clear h0 h1
    by_cases c1 : 192 ≤ x.toNat
    · have hg1 : (192 : Int) ≤ (x.toNat : Int) := by omega
      cases hc : count 6 (x :: t) with
      | none =>
        have HNN := Lib.hid (show next (x :: t) = none by rw [HNX.out, if_pos c1, hc])
        have HC := Lib.hid hc
        clear hc c1
        go_wp2_with (go_at_call 53; refine (srcNumber_6 (x :: t) g W3 HS3.out).mono ?_; rintro e w4 ⟨hp4, he⟩; rw [HC.out] at he; subst he)
        exact ⟨rfl, HP3.out.trans hp4, by rw [HNN.out]⟩
      | some p =>
        obtain ⟨m, r⟩ := p
        have hml := count_le hc
        have HC := Lib.hid hc
        cases htb : tab[m]? with
        | none =>
          have HNN := Lib.hid (show next (x :: t) = none by rw [HNX.out, if_pos c1, hc]; simp only [htb])
          have HB := Lib.hid htb
          clear hc c1 htb
          go_wp2_with (first
            | (go_at_call 53; refine (srcNumber_6 (x :: t) g W3 HS3.out).mono ?_; rintro e w4 ⟨hp4, he⟩; rw [HC.out] at he; obtain ⟨rfl, hs4⟩ := he; have HP4 := Lib.hid hp4; clear hp4 hs4)
            | (go_at_call 55; refine (srcLine m gl w4 (HT3.out.past HP4.out hg3 (by omega)) (by have := HP4.out.size; omega) (by omega)).mono ?_; rintro e w5 ⟨hb5, he⟩; rw [HB.out] at he; subst he))
          exact ⟨rfl, (HP3.out.trans HP4.out).trans (Past.of_below hb5), by rw [HNN.out]⟩
        | some h =>
          have HNN := Lib.hid (show next (x :: t) = some (h, r) by rw [HNX.out, if_pos c1, hc]; simp only [htb])
          have HB := Lib.hid htb
          clear hc c1 htb
          go_wp2_with (first
            | (go_at_call 53; refine (srcNumber_6 (x :: t) g W3 HS3.out).mono ?_; rintro e w4 ⟨hp4, he⟩; rw [HC.out] at he; obtain ⟨rfl, hs4⟩ := he; have HP4 := Lib.hid hp4; have HS4 := Lib.hid hs4; clear hp4 hs4)
            | (go_at_call 55; refine (srcLine m gl w4 (HT3.out.past HP4.out hg3 (by omega)) (by have := HP4.out.size; omega) (by omega)).mono ?_; rintro e w5 ⟨hb5, he⟩; rw [HB.out] at he; subst he; have htw5 := (HTW.out.past HP4.out (by omega)).below hb5; have HTW5 := Lib.hid htw5; obtain ⟨z0, z1, y0, y1, z2⟩ := htw5; have HB5 := Lib.hid hb5; clear hb5))
          refine bodyPost_ret (res46 _ _ a h.1 h.2 (HTW5.out.store0.store1) rfl) rfl ⟨?_, by rw [HNN.out]; exact ⟨rfl, ((HS4.out.below HB5.out).store hga _).store hga _⟩⟩
          exact (((HP3.out.trans HP4.out).trans (Past.of_below HB5.out)).store (Nat.le_of_eq HAW.out) _).store (Nat.le_of_eq HAW.out) _
    · have hg1 : ((192 : Int) ≤ (x.toNat : Int)) = False := eq_false (by omega)
      by_cases c2 : x.toNat / 16 = 5
      · have hg2 : (x.toNat : Int) / 16 = 5 := by omega
        cases hc : count 4 (x :: t) with
        | none =>
          have HNN := Lib.hid (show next (x :: t) = none by rw [HNX.out, if_neg c1, if_pos c2, hc])
          have HC := Lib.hid hc
          clear hc c1 c2
          go_wp2_with (go_at_call 53; refine (srcNumber_4 (x :: t) g W3 HS3.out).mono ?_; rintro e w4 ⟨hp4, he⟩; rw [HC.out] at he; subst he)
          exact ⟨rfl, HP3.out.trans hp4, by rw [HNN.out]⟩
        | some p =>
          obtain ⟨m, r⟩ := p
          have hml := count_le hc
          have hrl := count_lt hc
          have HC := Lib.hid hc
          cases htb : tab[m]? with
          | none =>
            have HNN := Lib.hid (show next (x :: t) = none by rw [HNX.out, if_neg c1, if_pos c2, hc]; simp only [htb])
            have HB := Lib.hid htb
            clear hc c1 c2 htb hrl
            go_wp2_with (first
              | (go_at_call 53; refine (srcNumber_4 (x :: t) g W3 HS3.out).mono ?_; rintro e w4 ⟨hp4, he⟩; rw [HC.out] at he; obtain ⟨rfl, hs4⟩ := he; have HP4 := Lib.hid hp4; clear hp4 hs4)
              | (go_at_call 55; refine (srcLine m gl w4 (HT3.out.past HP4.out hg3 (by omega)) (by have := HP4.out.size; omega) (by omega)).mono ?_; rintro e w5 ⟨hb5, he⟩; rw [HB.out] at he; subst he))
            exact ⟨rfl, (HP3.out.trans HP4.out).trans (Past.of_below hb5), by rw [HNN.out]⟩
          | some h =>
            have HNN := Lib.hid (show next (x :: t) = named h.1 r by rw [HNX.out, if_neg c1, if_pos c2, hc]; simp only [htb])
            have HB := Lib.hid htb
            have HRL := Lib.hid hrl
            have hfl := fun w => field0 h.1 h.2 w
            clear hc c1 c2 htb hrl
            go_wp2_with (first
              | (go_at_call 53; refine (srcNumber_4 (x :: t) g W3 HS3.out).mono ?_; rintro e w4 ⟨hp4, he⟩; rw [HC.out] at he; obtain ⟨rfl, hs4⟩ := he; have HP4 := Lib.hid hp4; have HS4 := Lib.hid hs4; clear hp4 hs4)
              | (go_at_call 55; refine (srcLine m gl w4 (HT3.out.past HP4.out hg3 (by omega)) (by have := HP4.out.size; omega) (by omega)).mono ?_; rintro e w5 ⟨hb5, he⟩; rw [HB.out] at he; subst he; have htw5 := (HTW.out.past HP4.out (by omega)).below hb5; have HTW5 := Lib.hid htw5; obtain ⟨z0, z1, y0, y1, z2⟩ := htw5; have HB5 := Lib.hid hb5; clear hb5))
            go_meet
            exact ⟨rfl, h.1, r, HNN.out, by have := HRL.out; have := HLN.out; omega, (HS4.out.below HB5.out).store hga _, HTW5.out.store0, ((HP3.out.trans HP4.out).trans (Past.of_below HB5.out)).store (Nat.le_of_eq HAW.out) _⟩
      · have hg2 : ((x.toNat : Int) / 16 == 5) = false := beq_eq_false_iff_ne.2 (by omega)
        by_cases c3 : x.toNat / 8 = 4
        · have hg3' : (x.toNat : Int) / 8 = 4 := by omega
          cases hc : taken 3 (x :: t) with
          | none =>
            have HNN := Lib.hid (show next (x :: t) = none by rw [HNX.out, if_neg c1, if_neg c2, if_pos c3, hc])
            have HC := Lib.hid hc
            clear hc c1 c2 c3
            go_wp2_with (first
              | (go_at_call 43; refine (needs_yes _).mono ?_; rintro e w4 ⟨rfl, rfl⟩)
              | (go_at_call 54; refine (srcText_3 (x :: t) g W3 HS3.out (by have := HLN.out; omega)).mono ?_; rintro e w4 ⟨hp4, he⟩; rw [HC.out] at he; subst he))
            exact ⟨rfl, HP3.out.trans hp4, by rw [HNN.out]⟩
          | some p =>
            obtain ⟨s, r⟩ := p
            have hrl := taken_lt hc
            have HNN := Lib.hid (show next (x :: t) = named (sl s) r by rw [HNX.out, if_neg c1, if_neg c2, if_pos c3, hc])
            have HC := Lib.hid hc
            have HRL := Lib.hid hrl
            clear hc c1 c2 c3 hrl
            go_wp2_with (first
              | (go_at_call 43; refine (needs_yes _).mono ?_; rintro e w4 ⟨rfl, rfl⟩)
              | (go_at_call 54; refine (srcText_3 (x :: t) g W3 HS3.out (by have := HLN.out; omega)).mono ?_; rintro e w4 ⟨hp4, he⟩; rw [HC.out] at he; obtain ⟨rfl, hs4⟩ := he; have htw5 := HTW.out.past hp4 (by omega); have HTW5 := Lib.hid htw5; obtain ⟨z0, z1, y0, y1, z2⟩ := htw5; have HP4 := Lib.hid hp4; have HS4 := Lib.hid hs4; clear hp4 hs4))
            go_meet
            exact ⟨rfl, sl s, r, HNN.out, by have := HRL.out; have := HLN.out; omega, HS4.out.store hga _, HTW5.out.store0, (HP3.out.trans HP4.out).store (Nat.le_of_eq HAW.out) _⟩
        · have hg3' : ((x.toNat : Int) / 8 == 4) = false := beq_eq_false_iff_ne.2 (by omega)
          have HNN := Lib.hid (show next (x :: t) = none by rw [HNX.out, if_neg c1, if_neg c2, if_neg c3])
          clear c1 c2 c3
          go_wp2_with (go_at_call 43; refine (needs_no _).mono ?_; rintro e w4 ⟨rfl, rfl⟩)
          exact ⟨rfl, HP3.out, by rw [HNN.out]⟩
  case rest =>
    obtain ⟨rfl, nm, r, hnx, hrl, hsr, htw, hpx⟩ := hcut
    clear h0 h1
    have HPX := Lib.hid hpx; have HTX := Lib.hid htw; have HSX := Lib.hid hsr
    obtain ⟨A2, c2, u1, u2, u3, u4⟩ := hsr
    obtain ⟨z0, z1, y0, y1, z2⟩ := htw
    cases r with
    | nil =>
      have HNN := Lib.hid (show next (x :: t) = none from hnx)
      clear hnx hpx hrl u3
      rw [show ([] : List UInt8).length = 0 from rfl] at u1
      go_wp2_with (go_at_call 43; refine (needs_no _).mono ?_; rintro e w4 ⟨rfl, rfl⟩)
      exact ⟨rfl, HPX.out, by rw [HNN.out]⟩
    | cons y r2 =>
      obtain ⟨b2, o2, rfl, hb2, hcx⟩ := u3.2 (by simp)
      have v0 : wc.cell? ⟨b2, o2, none⟩ = some (.int .u8 (y.toNat : Int)) := hcx 0 (by simp)
      have hyl : y.toNat < 256 := y.toNat_lt
      obtain ⟨n2, hn2⟩ : ∃ n2, (y :: r2).length = n2 := ⟨_, rfl⟩
      have hn20 : 0 < n2 := by rw [← hn2]; simp
      have HLR := Lib.hid hrl
      rw [hn2] at u1 u4
      clear hcx u3 hn2 hpx hrl
      by_cases c1 : y.toNat < 128
      · have hg1 : ((y.toNat : Int) < 128) := by omega
        cases hc : taken 7 (y :: r2) with
        | none =>
          have HNN := Lib.hid (show next (x :: t) = none by rw [hnx]; unfold named value; simp only [if_pos c1, hc])
          have HC := Lib.hid hc
          clear hc c1 hnx
          go_wp2_with (first
            | (go_at_call 43; refine (needs_yes _).mono ?_; rintro e w4 ⟨rfl, rfl⟩)
            | (go_at_call 54; refine (srcText_7 (y :: r2) g wc HSX.out (by have := HLR.out; omega)).mono ?_; rintro e w4 ⟨hp4, he⟩; rw [HC.out] at he; subst he))
          exact ⟨rfl, HPX.out.trans hp4, by rw [HNN.out]⟩
        | some p =>
          obtain ⟨s, r⟩ := p
          have HNN := Lib.hid (show next (x :: t) = some ((nm, sl s), r) by rw [hnx]; unfold named value; simp only [if_pos c1, hc])
          have HC := Lib.hid hc
          clear hc c1 hnx
          go_wp2_with (first
            | (go_at_call 43; refine (needs_yes _).mono ?_; rintro e w4 ⟨rfl, rfl⟩)
            | (go_at_call 54; refine (srcText_7 (y :: r2) g wc HSX.out (by have := HLR.out; omega)).mono ?_; rintro e w4 ⟨hp4, he⟩; rw [HC.out] at he; obtain ⟨rfl, hs4⟩ := he; have htw5 := HTX.out.past hp4 (by omega); clear z0 z1 y0 y1 z2; have HTW5 := Lib.hid htw5; obtain ⟨z0, z1, y0, y1, z2⟩ := htw5; have HP4 := Lib.hid hp4; have HS4 := Lib.hid hs4; clear hp4 hs4))
          refine bodyPost_ret (res46 _ _ a nm (sl s) (HTW5.out.store1.store0.store1) rfl) rfl ⟨?_, by rw [HNN.out]; exact ⟨rfl, ((HS4.out.store hga _).store hga _).store hga _⟩⟩
          exact (((HPX.out.trans HP4.out).store (Nat.le_of_eq HAW.out) _).store (Nat.le_of_eq HAW.out) _).store (Nat.le_of_eq HAW.out) _
      · have hg1 : ((y.toNat : Int) < 128) = False := eq_false (by omega)
        have HNN := Lib.hid (show next (x :: t) = none by rw [hnx]; unfold named value; simp only [if_neg c1])
        clear c1 hnx
        go_wp2_with (go_at_call 43; refine (needs_no _).mono ?_; rintro e w4 ⟨rfl, rfl⟩)
        exact ⟨rfl, HPX.out, by rw [HNN.out]⟩
end Go.Proofs.Ytcimcldmkaggnaa
