/- The program's Decode, walked. -/
import Derived.Test.YtcimcldmkaggnaaHdrDecW
import Derived.Test.YtcimcldmkaggnaaHdrGood
import Derived.Deep.RegionHeld3
import Derived.Deep.RegionWith
import Derived.Deep.LoopGhost
import Derived.Deep.AppendLies
namespace Go.Proofs.Ytcimcldmkaggnaa
set_option linter.unusedVariables false
set_option linter.unusedSimpArgs false
open Go.RowKit
open Hd

theorem info53 : (Try.prog.info? 53).map (fun i => (i.zero, i.size, i.bytes)) = some (some (.agg #[.string ⟨#[]⟩, .string ⟨#[]⟩]), 2, 32) := by kernel_rfl
/-- a slice of headers that reads as hs and lies below the heap's end -/
def Hds (w : World) (v : Value) (hs : List H) : Prop := ∃ A c, v = .slice A hs.length c ∧ HRd w w.heap.size A hs.length hs ∧ hs.length ≤ c ∧ c ≤ maxLen
theorem Hds.after {w w' : World} {v : Value} {hs : List H} (h : Hds w v hs) (hb : Below w.heap.size w w') : Hds w' v hs := by
  obtain ⟨A, c, rfl, hr, hc⟩ := h
  exact ⟨A, c, rfl, hr.after hb, hc⟩
theorem cellsOf_length (hs : List H) : (cellsOf hs).length = hs.length * 2 := by
  induction hs with
  | nil => rfl
  | cons h hs ih =>
    show (Value.string h.1 :: Value.string h.2 :: cellsOf hs).length = _
    rw [List.length_cons, List.length_cons, ih, List.length_cons]; omega
theorem cellsOf_append (a b : List H) : cellsOf (a ++ b) = cellsOf a ++ cellsOf b := by simp [cellsOf]
theorem cellsOf_two (hs : List H) (j : Nat) (hj : j < hs.length) : (cellsOf hs)[j * 2]? = some (.string (hs[j]).1) ∧ (cellsOf hs)[j * 2 + 1]? = some (.string (hs[j]).2) := by
  have hc := cellsOf_at hs j hs[j] (List.getElem?_eq_getElem hj)
  have e : ∀ i, i < 2 → (cellsOf hs)[j * 2 + i]? = ([Value.string (hs[j]).1, Value.string (hs[j]).2] : List Value)[i]? := by
    intro i hi
    rw [← hc, List.getElem?_take, if_pos hi, List.getElem?_drop]
  exact ⟨e 0 (by omega), e 1 (by omega)⟩
theorem HRd.of_own {w : World} {base n c : Nat} {A : Option Addr} {hs : List H} (h : w.ownsRow base 53 2 (.slice A n c) n (cellsOf hs)) (hl : hs.length = n) : HRd w w.heap.size A n hs := by
  refine ⟨hl, fun hn => ?_⟩
  obtain ⟨g, cap, hv, _, hlt⟩ := h.form hn
  injection hv with hA _ hc
  subst hA
  refine ⟨g, 0, rfl, hlt, fun j hj => ?_⟩
  obtain ⟨e0, e1⟩ := cellsOf_two hs j hj
  have k0 := h.cells (g := g) rfl (j * 2) _ e0
  have k1 := h.cells (g := g) rfl (j * 2 + 1) _ e1
  have hadd : ∀ i, (⟨g, 0, none⟩ : Addr).add i = ⟨g, i, none⟩ := by intro i; unfold Addr.add; split <;> simp_all
  rw [hadd] at k0 k1
  rw [Nat.zero_add]
  exact ⟨k0, k1⟩
theorem Hds.of_own {w : World} {base n c : Nat} {A : Option Addr} {hs : List H} (h : w.ownsRow base 53 2 (.slice A n c) n (cellsOf hs)) (hl : hs.length = n) : Hds w (.slice A n c) hs := by
  subst hl
  exact ⟨A, c, rfl, HRd.of_own h rfl, (own_caps h).1, (own_caps h).2⟩
theorem own_past {w w' : World} {g base n c : Nat} {e : TypeId} {size : Nat} {A : Option Addr} {xs : List Value} (h : w.ownsRow base e size (.slice A n c) n xs) (hp : Past g w w') (hg : g < base) : w'.ownsRow base e size (.slice A n c) n xs := by
  obtain ⟨h1, h2⟩ := h
  refine ⟨h1, ?_⟩
  rcases h2 with h2 | ⟨k, cap, cur, hv, hb, hh, r⟩
  · exact .inl h2
  · exact .inr ⟨k, cap, cur, hv, hb, (hp.block k (by have := (Array.getElem?_eq_some_iff.1 hh).1; exact this) (by omega)).trans hh, r⟩

/-- the two named results in memory -/
def Door (w : World) (pl pe : Nat) (v : Value) : Prop :=
  w.cell? ⟨pl, 0, none⟩ = some v ∧ w.frozen? ⟨pl, 0, none⟩ = false ∧ w.cell? ⟨pe, 0, none⟩ = some (.int .i64 0) ∧ w.frozen? ⟨pe, 0, none⟩ = false ∧ pl < w.heap.size ∧ pe < w.heap.size ∧ pl < pe
theorem Door.past {w w' : World} {pl pe g : Nat} {v : Value} (h : Door w pl pe v) (hp : Past g w w') (h1 : pl ≠ g) (h2 : pe ≠ g) : Door w' pl pe v := by
  obtain ⟨a, b, c, d, e, f, i⟩ := h
  exact ⟨(hp.cell e h1).trans a, (hp.frozen e h1).trans b, (hp.cell f h2).trans c, (hp.frozen f h2).trans d, Nat.lt_of_lt_of_le e hp.size, Nat.lt_of_lt_of_le f hp.size, i⟩
theorem Door.belowB {w w' : World} {pl pe B : Nat} {v : Value} (h : Door w pl pe v) (hb : Below B w w') (hB : pe < B) : Door w' pl pe v := by
  obtain ⟨a, b, c, d, e, f, i⟩ := h
  exact ⟨(hb.cell (p := ⟨pl, 0, none⟩) (by show pl < B; omega)).trans a, (hb.frozen (p := ⟨pl, 0, none⟩) (by show pl < B; omega)).trans b, (hb.cell (p := ⟨pe, 0, none⟩) hB).trans c, (hb.frozen (p := ⟨pe, 0, none⟩) hB).trans d, Nat.lt_of_lt_of_le e hb.size, Nat.lt_of_lt_of_le f hb.size, i⟩
theorem Door.store {w : World} {pl pe : Nat} {v : Value} (h : Door w pl pe v) (u : Value) : Door (w.setCell ⟨pl, 0, none⟩ u) pl pe u := by
  obtain ⟨a, b, c, d, e, f, i⟩ := h
  exact ⟨World.cell?_setCell_same w _ _ a, by simpa using b, (World.cell?_setCell_other w ⟨pl, 0, none⟩ ⟨pe, 0, none⟩ u (by simp)).trans c, by simpa using d, by simpa using e, by simpa using f, i⟩

theorem Door.storeE {w : World} {pl pe : Nat} {v : Value} (h : Door w pl pe v) : Door (w.setCell ⟨pe, 0, none⟩ (.int .i64 0)) pl pe v := by
  obtain ⟨a, b, c, d, e, f, i⟩ := h
  exact ⟨(World.cell?_setCell_other w ⟨pe, 0, none⟩ ⟨pl, 0, none⟩ _ (by simp)).trans a, by simpa using b, World.cell?_setCell_same w _ _ c, by simpa using d, by simpa using e, by simpa using f, i⟩
theorem own_move {w w' : World} {base n c : Nat} {e : TypeId} {size : Nat} {A : Option Addr} {xs : List Value} (h : w.ownsRow base e size (.slice A n c) n xs) (hm : ∀ k, base ≤ k → w'.heap[k]? = w.heap[k]?) : w'.ownsRow base e size (.slice A n c) n xs := by
  obtain ⟨h1, h2⟩ := h
  refine ⟨h1, ?_⟩
  rcases h2 with h2 | ⟨k, cap, cur, hv, hb, hh, r⟩
  · exact .inl h2
  · exact .inr ⟨k, cap, cur, hv, hb, (hm k hb).trans hh, r⟩
theorem own_below {w w' : World} {base n c : Nat} {e : TypeId} {size : Nat} {A : Option Addr} {xs : List Value} (h : w.ownsRow base e size (.slice A n c) n xs) (hb : Below w.heap.size w w') : w'.ownsRow base e size (.slice A n c) n xs := by
  obtain ⟨h1, h2⟩ := h
  refine ⟨h1, ?_⟩
  rcases h2 with h2 | ⟨k, cap, cur, hv, hbk, hh, r⟩
  · exact .inl h2
  · exact .inr ⟨k, cap, cur, hv, hbk, (hb.block k (Array.getElem?_eq_some_iff.1 hh).1).trans hh, r⟩
def DecEnds (xs : List UInt8) (w : World) (e : Ending) (w' : World) : Prop :=
  Below w.heap.size w w' ∧ match dec xs with
    | some hs => ∃ v, e = .returned (.tuple #[v, .int .i64 0]) ∧ Hds w' v hs
    | none => e = .returned (.tuple #[.slice none 0 0, .int .i64 200])
theorem leaves_slot {P : Program} {fn : Func} {R : Ending → World → Prop} {tmps tmps' : Array Value} (h : results fn tmps = results fn tmps') : ∀ (ds : List Deferred) (u : FrameMode) (w : World), Leaves P fn tmps R ds u w → Leaves P fn tmps' R ds u w := by
  intro ds
  induction ds with
  | nil =>
    intro u w hl
    cases u with
    | returning => unfold Leaves at hl ⊢; rw [← h]; exact hl
    | panicking c => exact hl
    | run => exact hl
  | cons d ds ih =>
    intro u w hl
    unfold Leaves at hl ⊢
    obtain ⟨h1, fv, cap, f, args, h2, h3, h4⟩ := hl
    refine ⟨h1, fv, cap, f, args, h2, h3, h4.mono ?_⟩
    intro e u' w' he
    cases e with
    | returned v => exact ih _ _ he
    | panicked c => exact ih _ _ he
    | outgrown => exact he
theorem door_put {R : Ending → World → Prop} {c : List PanicEntry} {a : Act} {v : Value} {w : World} (d : Nat) (hd : 3 < d) (h : bodyPostD Try.prog Try.f21 R (.panic c) (a.put (some d) v) w) : bodyPostD Try.prog Try.f21 R (.panic c) a w := by
  refine leaves_slot (tmps := (a.put (some d) v).tmps) ?_ _ _ _ h
  have e2 : (a.put (some d) v).tmps[2]?.getD undef = a.tmps[2]?.getD undef := by
    simp [Act.put, Array.getElem?_setIfInBounds, show ¬ d = 2 by omega]
  have e3 : (a.put (some d) v).tmps[3]?.getD undef = a.tmps[3]?.getD undef := by
    simp [Act.put, Array.getElem?_setIfInBounds, show ¬ d = 3 by omega]
  simp [results, Try.results21, e2, e3]
theorem door_panic {xs : List UInt8} {w W : World} {pl pe : Nat} {v : Value} {tmps : Array Value} (h : Door W pl pe v) (hb : Below w.heap.size w W) (hpl : w.heap.size ≤ pl) (hd : dec xs = none)
    (h2 : tmps.getD 2 undef = .pointer (some ⟨pl, 0, none⟩)) (h3 : tmps.getD 3 undef = .pointer (some ⟨pe, 0, none⟩)) :
    Leaves Try.prog Try.f21 tmps (DecEnds xs w) [{ target := .fn (.func 41) #[.pointer (some ⟨pe, 0, none⟩), .pointer (some ⟨pl, 0, none⟩)], args := #[] }] (.panicking chain) W := by
  obtain ⟨a, b, c, d, e, f, i⟩ := h
  have hpe : pe ≠ pl := by omega
  have p2 : tmps[2]?.getD undef = .pointer (some ⟨pl, 0, none⟩) := by simpa using h2
  have p3 : tmps[3]?.getD undef = .pointer (some ⟨pe, 0, none⟩) := by simpa using h3
  refine leaves_cons (f := 41) (args := #[.pointer (some ⟨pe, 0, none⟩), .pointer (some ⟨pl, 0, none⟩)]) (by simp) (by simp [go_sem]) ?_
  refine (defer_panicking pe pl 0 v 26 (.int .i64 200) [] W c d a b hpe).mono ?_
  rintro e1 u' w1 ⟨rfl, rfl, rfl⟩
  have z1 := World.cell?_setCell_same W _ (.int .i64 200) c
  have z2 := (World.cell?_setCell_other W ⟨pe, 0, none⟩ ⟨pl, 0, none⟩ (.int .i64 200) (by simp [hpe])).trans a
  have z3 := World.cell?_setCell_same _ _ (.slice none 0 0) z2
  have z4 := (World.cell?_setCell_other (W.setCell ⟨pe, 0, none⟩ (.int .i64 200)) ⟨pl, 0, none⟩ ⟨pe, 0, none⟩ (.slice none 0 0) (by simp)).trans z1
  have hbe : Below w.heap.size w ((W.setCell ⟨pe, 0, none⟩ (.int .i64 200)).setCell ⟨pl, 0, none⟩ (.slice none 0 0)) := (hb.setCell (by show w.heap.size ≤ pe; omega) _).setCell hpl _
  generalize ((W.setCell ⟨pe, 0, none⟩ (.int .i64 200)).setCell ⟨pl, 0, none⟩ (.slice none 0 0)) = W2 at *
  have HB := Lib.hid hbe; have HD := Lib.hid hd
  clear z1 z2 hb hbe hd a b c d
  simp [Leaves, settle, results, Try.results21, go_sem, p2, p3, z3, z4]
  exact ⟨HB.out, by rw [HD.out]⟩
theorem door_ret {xs : List UInt8} {w W : World} {pl pe : Nat} {A : Option Addr} {n c : Nat} {hs : List H} {tmps : Array Value} (h : Door W pl pe (.slice A n c)) (hb : Below w.heap.size w W) (hpl : w.heap.size ≤ pl) (hd : dec xs = some hs)
    (hv : ∀ W', (∀ k, k ≠ pl → k ≠ pe → W'.heap[k]? = W.heap[k]?) → W.heap.size ≤ W'.heap.size → Hds W' (.slice A n c) hs)
    (h2 : tmps.getD 2 undef = .pointer (some ⟨pl, 0, none⟩)) (h3 : tmps.getD 3 undef = .pointer (some ⟨pe, 0, none⟩)) :
    Leaves Try.prog Try.f21 tmps (DecEnds xs w) [{ target := .fn (.func 41) #[.pointer (some ⟨pe, 0, none⟩), .pointer (some ⟨pl, 0, none⟩)], args := #[] }] .returning W := by
  obtain ⟨a, b, c1, d, e, f, i⟩ := h
  have hpe : pe ≠ pl := by omega
  have p2 : tmps[2]?.getD undef = .pointer (some ⟨pl, 0, none⟩) := by simpa using h2
  have p3 : tmps[3]?.getD undef = .pointer (some ⟨pe, 0, none⟩) := by simpa using h3
  refine leaves_cons (f := 41) (args := #[.pointer (some ⟨pe, 0, none⟩), .pointer (some ⟨pl, 0, none⟩)]) (by simp) (by simp [go_sem]) ?_
  refine (defer_idle pe pl 0 W c1 d).mono ?_
  rintro e1 u' w1 ⟨rfl, rfl, rfl⟩
  have z1 := World.cell?_setCell_same W _ (.int .i64 0) c1
  have z2 := (World.cell?_setCell_other W ⟨pe, 0, none⟩ ⟨pl, 0, none⟩ (.int .i64 0) (by simp [hpe])).trans a
  have hbe : Below w.heap.size w (W.setCell ⟨pe, 0, none⟩ (.int .i64 0)) := hb.setCell (by show w.heap.size ≤ pe; omega) _
  have hv2 := hv (W.setCell ⟨pe, 0, none⟩ (.int .i64 0)) (fun k _ hk => Below.heap_setCell W ⟨pe, 0, none⟩ _ k hk) (by simp)
  generalize (W.setCell ⟨pe, 0, none⟩ (.int .i64 0)) = W2 at *
  have HB := Lib.hid hbe; have HD := Lib.hid hd; have HV := Lib.hid hv2
  clear hb hbe hd a b c1 d hv hv2
  simp [Leaves, settle, results, Try.results21, go_sem, p2, p3, z1, z2]
  exact ⟨HB.out, by rw [HD.out]; exact ⟨_, rfl, HV.out⟩⟩

theorem dec_short {xs : List UInt8} (h : xs.length < 2) : dec xs = none := by
  cases xs with
  | nil => rfl
  | cons x r => cases r with
    | nil => rfl
    | cons y r => simp at h; omega
theorem dec_cons (x y : UInt8) (r : List UInt8) : dec (x :: y :: r) = if x = 0 ∧ y = 0 then (match lines r with | none => none | some hs => if good hs then some hs else none) else none := rfl
theorem dec_start (A : Option Addr) (n c : Nat) (xs : List UInt8) (w : World) (hR : Rd w w.heap.size A n xs) (hc : n ≤ c) (hm : c ≤ maxLen) :
    Below w.heap.size w (((w.alloc (.cells #[.slice none 0 0] 23)).alloc (.cells #[.int .i64 0] 26)).alloc (.cells #[.slice A n c] 64)) ∧
    Door (((w.alloc (.cells #[.slice none 0 0] 23)).alloc (.cells #[.int .i64 0] 26)).alloc (.cells #[.slice A n c] 64)) w.heap.size (w.heap.size + 1) (.slice none 0 0) ∧
    Src (((w.alloc (.cells #[.slice none 0 0] 23)).alloc (.cells #[.int .i64 0] 26)).alloc (.cells #[.slice A n c] 64)) (w.heap.size + 1 + 1) xs := by
  have hb : Below w.heap.size w (((w.alloc (.cells #[.slice none 0 0] 23)).alloc (.cells #[.int .i64 0] 26)).alloc (.cells #[.slice A n c] 64)) := (((Below.refl _ w).alloc (Nat.le_refl _) _).alloc (by simp) _).alloc (by simp; omega) _
  have h0 : (((w.alloc (.cells #[.slice none 0 0] 23)).alloc (.cells #[.int .i64 0] 26)).alloc (.cells #[.slice A n c] 64)).heap[w.heap.size]? = some (.cells #[.slice none 0 0] 23 (0, 0)) := by
    rw [heap_alloc_old (h := by simp; omega), heap_alloc_old (h := by simp)]; exact heap_alloc_new _ _
  have h1 : (((w.alloc (.cells #[.slice none 0 0] 23)).alloc (.cells #[.int .i64 0] 26)).alloc (.cells #[.slice A n c] 64)).heap[w.heap.size + 1]? = some (.cells #[.int .i64 0] 26 (0, 0)) := by
    rw [heap_alloc_old (h := by simp)]
    have := heap_alloc_new (w.alloc (.cells #[.slice none 0 0] 23)) (.cells #[.int .i64 0] 26)
    simpa using this
  have h2 : (((w.alloc (.cells #[.slice none 0 0] 23)).alloc (.cells #[.int .i64 0] 26)).alloc (.cells #[.slice A n c] 64)).heap[w.heap.size + 1 + 1]? = some (.cells #[.slice A n c] 64 (0, 0)) := by
    have := heap_alloc_new ((w.alloc (.cells #[.slice none 0 0] 23)).alloc (.cells #[.int .i64 0] 26)) (.cells #[.slice A n c] 64)
    simpa using this
  have hs : w.heap.size + 1 + 1 < (((w.alloc (.cells #[.slice none 0 0] 23)).alloc (.cells #[.int .i64 0] 26)).alloc (.cells #[.slice A n c] 64)).heap.size := by simp
  have hl := hR.1
  refine ⟨hb, ⟨(cell_of_row _ _ 0 _ _ _ h0).trans rfl, frozen_of_row _ _ 0 _ _ h0, (cell_of_row _ _ 0 _ _ _ h1).trans rfl, frozen_of_row _ _ 0 _ _ h1, by omega, by omega, by omega⟩, A, c, ?_, frozen_of_row _ _ 0 _ _ h2, ?_, by rw [hl]; exact hc, hm⟩
  · rw [hl]; exact (cell_of_row _ _ 0 _ _ _ h2).trans rfl
  · rw [hl]; exact (hR.below hb).more (by omega)
set_option maxRecDepth 100000 in
set_option maxHeartbeats 4000000 in
theorem decode_any (A : Option Addr) (n c : Nat) (xs : List UInt8) (w : World) (hR : Rd w w.heap.size A n xs) (hc : n ≤ c) (hm : c ≤ maxLen) (hn : n ≤ 1000000) :
    Calls Try.prog 21 #[.slice A n c] w (DecEnds xs w) := by
  have hmf : ∀ (fn : Fn) (first cap : Array Value) (w : World), (Instr.makeFunc fn first cap).run Try.prog w = .ok (.func fn first cap) w := fun _ _ _ _ => rfl
  obtain ⟨i0, hi0, hz0, hz1, hz2⟩ := info_parts info53
  obtain ⟨hbw, hdw, hsw⟩ := dec_start A n c xs w hR hc hm
  have hln := hR.1
  go_enter_defers Try.func21, Try.ntmps21
  have HR := Lib.hid hR; have HC := Lib.hid (And.intro hc hm); have HBW := Lib.hid hbw; have HDW := Lib.hid hdw; have HSW := Lib.hid hsw
  have HLN := Lib.hid hln
  clear hR hc hm hbw hdw hsw hln
  go_wp2_with fail
  have hbw := HBW.out; have hdw := HDW.out; have hsw := HSW.out
  clear HBW HDW HSW HR HC
  generalize (((w.alloc (.cells #[.slice none 0 0] 23)).alloc (.cells #[.int .i64 0] 26)).alloc (.cells #[.slice A n c] 64)) = W at *
  generalize hpl : w.heap.size = pl at *
  have HPL := Lib.hid hpl
  have HBW := Lib.hid hbw; have HDW := Lib.hid hdw; have HSW := Lib.hid hsw
  clear hbw hdw hsw hpl hmf
  have hgl : pl + 1 + 1 < W.heap.size := HSW.out.lt
  by_cases hx2 : xs.length < 2
  · have HD := Lib.hid (dec_short hx2)
    refine (take_none 2 (pl + 1 + 1) xs W HSW.out hx2 (by omega)).mono ?_
    rintro e w1 ⟨rfl, rfl⟩
    exact door_panic HDW.out (by rw [HPL.out]; exact HBW.out) (Nat.le_of_eq HPL.out) HD.out rfl rfl
  · obtain ⟨x, y, r, rfl⟩ : ∃ x y r, xs = x :: y :: r := by
      cases xs with
      | nil => simp at hx2
      | cons x r => cases r with
        | nil => simp at hx2
        | cons y r => exact ⟨x, y, r, rfl⟩
    have hrl : r.length ≤ 1000000 := by have := HLN.out; simp at this; omega
    have HDC := Lib.hid (dec_cons x y r)
    clear hx2
    refine (take_ok 2 (pl + 1 + 1) (x :: y :: r) W HSW.out (by simp) (by omega)).mono ?_
    rintro e w1 ⟨A1, rfl, hr1, hs1, hp1⟩
    have hd1 := HDW.out.past hp1 (by omega) (by omega)
    have hb1 : Below pl w w1 := hp1.below HBW.out (by omega) (by omega)
    have hg1 : pl + 1 + 1 < w1.heap.size := by have := hp1.size; omega
    have HR1 := Lib.hid hr1; have HS1 := Lib.hid (show Src w1 (pl + 1 + 1) r from hs1); have HD1 := Lib.hid hd1; have HB1 := Lib.hid hb1
    clear hr1 hs1 hp1 hd1 hb1 HSW HDW HBW hgl
    have he := sh_bytes_Equal_strs (.slice A1 2 2) (.slice (some ⟨w1.heap.size, 0, none⟩) 2 2) (sl [x, y]) (sl [0, 0]) (w1.alloc (.cells #[.int .u8 0, .int .u8 0] 5)) ((HR1.out.more (by omega) |>.alloc (Nat.le_refl _) _).convert (P := Try.prog) 2 24 5 9 Try.underlying24 Try.underlying5 Try.underlying9) ((Rd.new w1 5 [0, 0] 2 _ rfl rfl).convert (P := Try.prog) 2 24 5 9 Try.underlying24 Try.underlying5 Try.underlying9)
    by_cases hxy : x = 0 ∧ y = 0
    · obtain ⟨rfl, rfl⟩ := hxy
      rw [beq_self_eq_true] at he
      have HE := Lib.hid he; clear he
      have HD0 := Lib.hid (HDC.out.trans (if_pos ⟨rfl, rfl⟩)); clear HDC
      go_wp2_with (first
        | (go_at_call 44; refine HE.out.mono ?_; rintro e w2 ⟨rfl, rfl⟩)
        | (go_at_call 43; refine (needs_yes _).mono ?_; rintro e w2 ⟨rfl, rfl⟩))
      have hba := (Below.refl w1.heap.size w1).alloc (Nat.le_refl _) (.cells #[.int .u8 0, .int .u8 0] 5)
      have hd2 := HD1.out.past (Past.of_below (g := pl + 1 + 1) hba) (by omega) (by omega)
      have hs2 := HS1.out.below hba
      have hb2 := HB1.out.trans (hba.mono (by omega))
      clear hba HE HR1 HS1 HD1 HB1 hg1
      generalize w1.alloc (.cells #[.int .u8 0, .int .u8 0] 5) = W2 at *
      have HD2 := Lib.hid hd2; have HS2 := Lib.hid hs2; have HB2 := Lib.hid hb2
      clear hd2 hs2 hb2
      go_loopg [14] (r.length) (fun gh s14 wr => ∃ (rest : List UInt8) (acc : List H) (A' : Option Addr) (m c' : Nat), gh = rest.length ∧ Src wr (pl + 1 + 1) rest ∧ Door wr pl (pl + 1) (.slice A' m c') ∧ acc.length = m ∧ wr.ownsRow (pl + 1 + 1 + 1) 53 2 (.slice A' m c') m (cellsOf acc) ∧ Below pl w wr ∧ lines r = (lines rest).map (acc ++ ·) ∧ rest.length + m ≤ r.length)
      case atStart => exact ⟨r, [], none, 0, 0, rfl, HS2.out, HD2.out, rfl, World.ownsRow_nil _ _ _ _, HB2.out, by simp, by omega⟩
      case round =>
        obtain ⟨rest, acc, A', m, c', rfl, hsr, hdr, hal, hor, hbr, hlr, hlm⟩ := hrel
        have HSR := Lib.hid hsr; have HDR := Lib.hid hdr; have HAL := Lib.hid hal; have HOR := Lib.hid hor; have HBR := Lib.hid hbr; have HLR := Lib.hid hlr
        have hgr := hsr.lt
        obtain ⟨A3, c3, u1, u2, u3, u4⟩ := hsr
        obtain ⟨d1, d2, d3, d4, d5, d6, d7⟩ := hdr
        clear hal hor hbr hlr u3 HD2 HS2 HB2
        cases rest with
        | nil =>
          have HLE := Lib.hid (lines_end HLR.out)
          have hck := fun w0 (hb0 : Below wr.heap.size wr w0) => check_any A' m c' acc wr (HRd.of_own HOR.out HAL.out) (by have := HAL.out; omega)
          have hcv := checkV_good acc
          rw [show ([] : List UInt8).length = 0 from rfl] at u1
          by_cases hg : good acc = true
          · rw [if_pos hg] at hcv
            have HD := Lib.hid (show dec (0 :: 0 :: r) = some acc by rw [HD0.out, HLE.out]; simp only [if_pos hg])
            have HCV := Lib.hid hcv
            clear hcv hg hck
            go_wp2_with (first
              | (go_at_call 32; refine (check_any A' m c' acc wr (HRd.of_own HOR.out HAL.out) (by omega)).mono ?_; rintro e w4 ⟨he, hb4⟩; rw [HCV.out] at he; subst he; have hd4 := HDR.out.belowB hb4 (by omega); have HB4 := Lib.hid hb4; have HD4 := Lib.hid hd4; clear d1 d2 d3 d4 d5 d6 d7; obtain ⟨d1, d2, d3, d4, d5, d6, d7⟩ := hd4; clear hb4)
              | (go_at_call 43; refine (needs_yes _).mono ?_; rintro e w5 ⟨rfl, rfl⟩))
            refine door_ret ((HD4.out.store _).storeE) (by rw [HPL.out]; exact ((HBR.out.trans (HB4.out.mono (by omega))).setCell (by show pl ≤ pl; omega) _).setCell (by show pl ≤ pl + 1; omega) _) (Nat.le_of_eq HPL.out) HD.out (fun W' hk _ => ?_) rfl rfl
            have ho4 := own_move (own_below HOR.out HB4.out) (w' := W') fun k hkb => (hk k (by omega) (by omega)).trans ((Below.heap_setCell _ ⟨pl + 1, 0, none⟩ _ k (by show k ≠ pl + 1; omega)).trans (Below.heap_setCell _ ⟨pl, 0, none⟩ _ k (by show k ≠ pl; omega)))
            exact Hds.of_own ho4 HAL.out
          · rw [if_neg hg] at hcv
            have HD := Lib.hid (show dec (0 :: 0 :: r) = none by rw [HD0.out, HLE.out]; simp only [if_neg hg])
            have HCV := Lib.hid hcv
            clear hcv hg hck
            go_wp2_with (first
              | (go_at_call 32; refine (check_any A' m c' acc wr (HRd.of_own HOR.out HAL.out) (by omega)).mono ?_; rintro e w4 ⟨he, hb4⟩; rw [HCV.out] at he; subst he; have HB4 := Lib.hid hb4; clear hb4)
              | (go_at_call 43; refine (needs_no _).mono ?_; rintro e w5 ⟨rfl, rfl⟩))
            exact door_panic (HDR.out.belowB HB4.out (by omega)) (by rw [HPL.out]; exact HBR.out.trans (HB4.out.mono (by omega))) (Nat.le_of_eq HPL.out) HD.out rfl rfl
        | cons x t =>
          obtain ⟨nr, hnr⟩ : ∃ nr, (x :: t).length = nr := ⟨_, rfl⟩
          have HNR := Lib.hid hnr
          have hnp : 0 < nr := by rw [← hnr]; simp
          rw [hnr] at u1 u4 hlm
          clear hnr
          have HHD := Lib.hid (srcHeader x t (pl + 1 + 1) wr HSR.out (by rw [HNR.out]; omega))
          cases hnx : next (x :: t) with
          | none =>
            have HNX := Lib.hid hnx
            have HD := Lib.hid (show dec (0 :: 0 :: r) = none by rw [HD0.out, lines_stop HLR.out (by simp) hnx])
            clear hnx
            go_upto_region 5 with fail
            refine wp_region_held_drew (S := fun _ => True) (by kernel_rfl) trivial (fun hHeld => ?_)
            have hsd : Src wr.drew (pl + 1 + 1) (x :: t) := HSR.out
            have hdd : Door wr.drew pl (pl + 1) (.slice A' m c') := HDR.out
            have hod : wr.drew.ownsRow (pl + 1 + 1 + 1) 53 2 (.slice A' m c') m (cellsOf acc) := HOR.out
            have hbd : Below pl w wr.drew := HBR.out.drew
            have hdc : wr.drew.cell? ⟨pl, 0, none⟩ = some (.slice A' m c') := d1
            have hgd : pl + 1 + 1 < wr.drew.heap.size := hgr
            clear d1 d2 d3 d4 d5 d6 d7 u1 u2 u4 hgr HSR HDR HOR HBR
            generalize wr.drew = wd at *
            have HSD := Lib.hid hsd; have HDD := Lib.hid hdd; have HOD := Lib.hid hod; have HBD := Lib.hid hbd
            clear hsd hdd hod hbd
            refine wpAnyH_take (i := 1) (oi := ?ok1) (v := ?vk1) ?ek1 ?ak1 ?bk1 ?ck1 ?hk1 (Or.inl ⟨?gk1, ?yk1⟩) trivial ?rk1
            case ek1 => simp only [List.getElem?_toArray, List.getElem?_cons_zero, List.getElem?_cons_succ]; rfl
            case ak1 => kernel_rfl
            case bk1 => kernel_rfl
            case ck1 => kernel_rfl
            case gk1 => rfl
            case yk1 => (intro w' hSw; (try dsimp only at hSw); first | (go_simp; done) | (go_simp; with_reducible rfl))
            case hk1 => exact fun _ _ _ h => door_put 21 (by omega) h
            case' rk1 => try simp only [Act.put, List.setIfInBounds_toArray, List.set_cons_zero, List.set_cons_succ]
            refine wpAnyH_ready (rs := [0, 2]) (by kernel_rfl) (by simp) ?_
            refine (AllReadyH.cons (o := ?on0) ?en0 (fun K hK => ?sn0) (AllReadyH.cons (o := ?on2) ?en2 (fun K hK => ?sn2) AllReadyH.nil))
            case en0 => simp only [List.getElem?_toArray, List.getElem?_cons_zero]; rfl
            case en2 => simp only [List.getElem?_toArray, List.getElem?_cons_zero, List.getElem?_cons_succ]; rfl
            case sn0 =>
              go_simp
              refine hK.out _ _ trivial (fun hHeld => ?_)
              clear hK K
              try simp only [Act.put, List.setIfInBounds_toArray, List.set_cons_zero, List.set_cons_succ]
              refine wpAnyH_ready (rs := [2]) (by kernel_rfl) (by simp) ?_
              refine (AllReadyH.cons (o := ?om2) ?em2 (fun K hK => ?sm2) AllReadyH.nil)
              case em2 => simp only [List.getElem?_toArray, List.getElem?_cons_zero, List.getElem?_cons_succ]; rfl
              go_simp
              refine (srcHeader x t (pl + 1 + 1) wd HSD.out (by rw [HNR.out]; omega)).mono ?_
              rintro e w4 ⟨hp4, he⟩
              rw [HNX.out] at he
              subst he
              exact door_panic (HDD.out.past hp4 (by omega) (by omega)) (by rw [HPL.out]; exact hp4.below HBD.out (by omega) (by omega)) (Nat.le_of_eq HPL.out) HD.out rfl rfl
            case sn2 =>
              go_simp
              refine (srcHeader x t (pl + 1 + 1) wd HSD.out (by rw [HNR.out]; omega)).mono ?_
              rintro e w4 ⟨hp4, he⟩
              rw [HNX.out] at he
              subst he
              exact door_panic (HDD.out.past hp4 (by omega) (by omega)) (by rw [HPL.out]; exact hp4.below HBD.out (by omega) (by omega)) (Nat.le_of_eq HPL.out) HD.out rfl rfl
          | some p =>
            obtain ⟨h, r'⟩ := p
            have HNX := Lib.hid hnx
            clear hnx
            go_upto_region 5 with fail
            refine wp_region_held_drew (S := fun _ => True) (by kernel_rfl) trivial (fun hHeld => ?_)
            have hsd : Src wr.drew (pl + 1 + 1) (x :: t) := HSR.out
            have hdd : Door wr.drew pl (pl + 1) (.slice A' m c') := HDR.out
            have hod : wr.drew.ownsRow (pl + 1 + 1 + 1) 53 2 (.slice A' m c') m (cellsOf acc) := HOR.out
            have hbd : Below pl w wr.drew := HBR.out.drew
            have hdc : wr.drew.cell? ⟨pl, 0, none⟩ = some (.slice A' m c') := d1
            have hgd : pl + 1 + 1 < wr.drew.heap.size := hgr
            clear d1 d2 d3 d4 d5 d6 d7 u1 u2 u4 hgr HSR HDR HOR HBR
            generalize wr.drew = wd at *
            have HSD := Lib.hid hsd; have HDD := Lib.hid hdd; have HOD := Lib.hid hod; have HBD := Lib.hid hbd
            clear hsd hdd hod hbd
            refine wpAnyH_take (i := 1) (oi := ?okk1) (v := ?vkk1) ?ekk1 ?akk1 ?bkk1 ?ckk1 ?hkk1 (Or.inl ⟨?gkk1, ?ykk1⟩) trivial ?rkk1
            case ekk1 => simp only [List.getElem?_toArray, List.getElem?_cons_zero, List.getElem?_cons_succ]; rfl
            case akk1 => kernel_rfl
            case bkk1 => kernel_rfl
            case ckk1 => kernel_rfl
            case gkk1 => rfl
            case ykk1 => (intro w' hSw; (try dsimp only at hSw); first | (go_simp; done) | (go_simp; with_reducible rfl))
            case hkk1 => exact fun _ _ _ h => door_put 21 (by omega) h
            case' rkk1 => try simp only [Act.put, List.setIfInBounds_toArray, List.set_cons_zero, List.set_cons_succ]
            refine wpAnyH_ready (rs := [0, 2]) (by kernel_rfl) (by simp) ?_
            refine (AllReadyH.cons (o := ?onn0) ?enn0 (fun K hK => ?snn0) (AllReadyH.cons (o := ?onn2) ?enn2 (fun K hK => ?snn2) AllReadyH.nil))
            case enn0 => simp only [List.getElem?_toArray, List.getElem?_cons_zero]; rfl
            case enn2 => simp only [List.getElem?_toArray, List.getElem?_cons_zero, List.getElem?_cons_succ]; rfl
            case snn0 =>
              go_simp
              refine hK.out _ _ trivial (fun hHeld => ?_)
              clear hK K
              try simp only [Act.put, List.setIfInBounds_toArray, List.set_cons_zero, List.set_cons_succ]
              refine wpAnyH_ready (rs := [2]) (by kernel_rfl) (by simp) ?_
              refine (AllReadyH.cons (o := ?omm2) ?emm2 (fun K hK => ?smm2) AllReadyH.nil)
              case emm2 => simp only [List.getElem?_toArray, List.getElem?_cons_zero, List.getElem?_cons_succ]; rfl
              go_simp
              refine (srcHeader x t (pl + 1 + 1) wd HSD.out (by rw [HNR.out]; omega)).mono ?_
              rintro e w4 ⟨hp4, he⟩
              rw [HNX.out] at he
              obtain ⟨rfl, hs4⟩ := he
              refine hK.out _ _ trivial (fun hHeld => ?_)
              clear hK K
              try simp only [Act.put, List.setIfInBounds_toArray, List.set_cons_zero, List.set_cons_succ]
              have hd4 := HDD.out.past hp4 (by omega) (by omega)
              have ho4 := own_past HOD.out hp4 (by omega)
              have hb4 : Below pl w w4 := hp4.below HBD.out (by omega) (by omega)
              have hg4 : pl + 1 + 1 < w4.heap.size := by have := hp4.size; omega
              have hdc4 := hd4.1
              have hdc5 := fun ob => (World.cell?_alloc_lt w4 ob ⟨pl, 0, none⟩ (by show pl < w4.heap.size; omega)).trans hdc4
              have HS4 := Lib.hid hs4; have HD4 := Lib.hid hd4; have HO4 := Lib.hid ho4; have HB4 := Lib.hid hb4
              clear hs4 hd4 ho4 hb4 hp4 HSD HDD HOD HBD hgd hdc
              refine wpAnyH_ready (rs := [3]) (by kernel_rfl) (by simp) ?_
              refine (AllReadyH.cons (o := ?op3) ?ep3 (fun K hK => ?sp3) AllReadyH.nil)
              case ep3 => simp only [List.getElem?_toArray, List.getElem?_cons_zero, List.getElem?_cons_succ]; rfl
              go_simp
              refine hK.out _ _ trivial (fun hHeld => ?_)
              clear hK K
              try simp only [Act.put, List.setIfInBounds_toArray, List.set_cons_zero, List.set_cons_succ]
              refine wpAnyH_ready (rs := [4]) (by kernel_rfl) (by simp) ?_
              refine (AllReadyH.cons (o := ?oq4) ?eq4 (fun K hK => ?sq4) AllReadyH.nil)
              case eq4 => simp only [List.getElem?_toArray, List.getElem?_cons_zero, List.getElem?_cons_succ]; rfl
              rw [if_pos (by rfl)]
              refine wp_append_lies _ (.tmp 20) (.tmp 23) 23 rfl (pl + 1 + 1 + 1) 53 i0 (.agg #[.string ⟨#[]⟩, .string ⟨#[]⟩]) 2 32 Try.underlying23 hi0 hz0 hz1 hz2 rfl (by omega) (.slice A' m c') m (cellsOf acc) rfl (HO4.out.alloc _) ⟨w4.heap.size, 0, none⟩ 1 1 [.string h.1, .string h.2] rfl rfl (World.news_of_block (cs := #[.string h.1, .string h.2]) (t := 53) (fr := (0, 0)) (heap_alloc_new w4 _)) (by simp [Value.oneCell']) (by omega) (by unfold maxLen; omega) (by omega) (by simp; omega) _ rfl ?_
              intro g6 cap6 w6 hown6 hgrow6 hat6 hlt6
              refine hK.out _ _ trivial (fun hHeld => ?_)
              clear hK K
              try simp only [Act.put, List.setIfInBounds_toArray, List.set_cons_zero, List.set_cons_succ]
              have hb6 : Below (pl + 1 + 1 + 1) w4 w6 := ((Below.refl _ w4).alloc (by omega) _).grown hgrow6 (by simp; omega) (fun k hk => (HO4.out.lt k hk).1)
              have hd6 := HD4.out.belowB hb6 (by omega)
              have hs6 := HS4.out.belowB hb6 (by omega)
              have hbb6 : Below pl w w6 := HB4.out.trans (hb6.mono (by omega))
              obtain ⟨d1, d2, d3, d4, d5, d6, d7⟩ := hd6
              have hg6 : pl + 1 + 1 < w6.heap.size := by have := hb6.size; omega
              have HD6 := Lib.hid (show Door w6 pl (pl + 1) (.slice A' m c') from ⟨d1, d2, d3, d4, d5, d6, d7⟩); have HS6 := Lib.hid hs6; have HB6 := Lib.hid hbb6; have HO6 := Lib.hid hown6
              clear hb6 hs6 hbb6 hown6 hgrow6 hat6 HS4 HD4 HO4 HB4 hdc4 hdc5 hg4
              refine wpAnyH_ready (rs := [5]) (by kernel_rfl) (by simp) ?_
              refine (AllReadyH.cons (o := ?oqs5) ?eqs5 (fun K hK => ?sqs5) AllReadyH.nil)
              case eqs5 => simp only [List.getElem?_toArray, List.getElem?_cons_zero, List.getElem?_cons_succ]; rfl
              go_simp
              refine hK.out _ _ trivial (fun hHeld => ?_)
              clear hK K
              try simp only [Act.put, List.setIfInBounds_toArray, List.set_cons_zero, List.set_cons_succ]
              refine wpAnyH_done (by kernel_rfl) ?_ _
              go_wp2_with fail
              go_roundg r'.length
              case measure => have := next_lt HNX.out; exact this
              case rel =>
                refine ⟨r', acc ++ [h], _, m + 1, cap6, rfl, HS6.out.storeP (by omega) (by omega) _, HD6.out.store _, by rw [List.length_append, HAL.out]; rfl, ?_, HB6.out.setCell (by show pl ≤ pl; omega) _, lines_round HLR.out HNX.out, by have := next_lt HNX.out; have := HNR.out; omega⟩
                rw [cellsOf_append]
                exact ownsRow_setCell_below HO6.out (by show pl < pl + 1 + 1 + 1; omega) _
            case snn2 =>
              go_simp
              refine (srcHeader x t (pl + 1 + 1) wd HSD.out (by rw [HNR.out]; omega)).mono ?_
              rintro e w4 ⟨hp4, he⟩
              rw [HNX.out] at he
              obtain ⟨rfl, hs4⟩ := he
              refine hK.out _ _ trivial (fun hHeld => ?_)
              clear hK K
              try simp only [Act.put, List.setIfInBounds_toArray, List.set_cons_zero, List.set_cons_succ]
              have hd4 := HDD.out.past hp4 (by omega) (by omega)
              have ho4 := own_past HOD.out hp4 (by omega)
              have hb4 : Below pl w w4 := hp4.below HBD.out (by omega) (by omega)
              have hg4 : pl + 1 + 1 < w4.heap.size := by have := hp4.size; omega
              have hdc4 := hd4.1
              have hdc5 := fun ob => (World.cell?_alloc_lt w4 ob ⟨pl, 0, none⟩ (by show pl < w4.heap.size; omega)).trans hdc4
              have HS4 := Lib.hid hs4; have HD4 := Lib.hid hd4; have HO4 := Lib.hid ho4; have HB4 := Lib.hid hb4
              clear hs4 hd4 ho4 hb4 hp4 HSD HDD HOD HBD hgd hdc
              refine wpAnyH_ready (rs := [0, 3]) (by kernel_rfl) (by simp) ?_
              refine (AllReadyH.cons (o := ?oo0) ?eo0 (fun K hK => ?so0) (AllReadyH.cons (o := ?oo3) ?eo3 (fun K hK => ?so3) AllReadyH.nil))
              case eo0 => simp only [List.getElem?_toArray, List.getElem?_cons_zero]; rfl
              case eo3 => simp only [List.getElem?_toArray, List.getElem?_cons_zero, List.getElem?_cons_succ]; rfl
              case so0 =>
                go_simp
                refine hK.out _ _ trivial (fun hHeld => ?_)
                clear hK K
                try simp only [Act.put, List.setIfInBounds_toArray, List.set_cons_zero, List.set_cons_succ]
                refine wpAnyH_ready (rs := [3]) (by kernel_rfl) (by simp) ?_
                refine (AllReadyH.cons (o := ?ot3) ?et3 (fun K hK => ?st3) AllReadyH.nil)
                case et3 => simp only [List.getElem?_toArray, List.getElem?_cons_zero, List.getElem?_cons_succ]; rfl
                go_simp
                refine hK.out _ _ trivial (fun hHeld => ?_)
                clear hK K
                try simp only [Act.put, List.setIfInBounds_toArray, List.set_cons_zero, List.set_cons_succ]
                refine wpAnyH_ready (rs := [4]) (by kernel_rfl) (by simp) ?_
                refine (AllReadyH.cons (o := ?ov4) ?ev4 (fun K hK => ?sv4) AllReadyH.nil)
                case ev4 => simp only [List.getElem?_toArray, List.getElem?_cons_zero, List.getElem?_cons_succ]; rfl
                rw [if_pos (by rfl)]
                refine wp_append_lies _ (.tmp 20) (.tmp 23) 23 rfl (pl + 1 + 1 + 1) 53 i0 (.agg #[.string ⟨#[]⟩, .string ⟨#[]⟩]) 2 32 Try.underlying23 hi0 hz0 hz1 hz2 rfl (by omega) (.slice A' m c') m (cellsOf acc) rfl (HO4.out.alloc _) ⟨w4.heap.size, 0, none⟩ 1 1 [.string h.1, .string h.2] rfl rfl (World.news_of_block (cs := #[.string h.1, .string h.2]) (t := 53) (fr := (0, 0)) (heap_alloc_new w4 _)) (by simp [Value.oneCell']) (by omega) (by unfold maxLen; omega) (by omega) (by simp; omega) _ rfl ?_
                intro g6 cap6 w6 hown6 hgrow6 hat6 hlt6
                refine hK.out _ _ trivial (fun hHeld => ?_)
                clear hK K
                try simp only [Act.put, List.setIfInBounds_toArray, List.set_cons_zero, List.set_cons_succ]
                have hb6 : Below (pl + 1 + 1 + 1) w4 w6 := ((Below.refl _ w4).alloc (by omega) _).grown hgrow6 (by simp; omega) (fun k hk => (HO4.out.lt k hk).1)
                have hd6 := HD4.out.belowB hb6 (by omega)
                have hs6 := HS4.out.belowB hb6 (by omega)
                have hbb6 : Below pl w w6 := HB4.out.trans (hb6.mono (by omega))
                obtain ⟨d1, d2, d3, d4, d5, d6, d7⟩ := hd6
                have hg6 : pl + 1 + 1 < w6.heap.size := by have := hb6.size; omega
                have HD6 := Lib.hid (show Door w6 pl (pl + 1) (.slice A' m c') from ⟨d1, d2, d3, d4, d5, d6, d7⟩); have HS6 := Lib.hid hs6; have HB6 := Lib.hid hbb6; have HO6 := Lib.hid hown6
                clear hb6 hs6 hbb6 hown6 hgrow6 hat6 HS4 HD4 HO4 HB4 hdc4 hdc5 hg4
                refine wpAnyH_ready (rs := [5]) (by kernel_rfl) (by simp) ?_
                refine (AllReadyH.cons (o := ?ovs5) ?evs5 (fun K hK => ?svs5) AllReadyH.nil)
                case evs5 => simp only [List.getElem?_toArray, List.getElem?_cons_zero, List.getElem?_cons_succ]; rfl
                go_simp
                refine hK.out _ _ trivial (fun hHeld => ?_)
                clear hK K
                try simp only [Act.put, List.setIfInBounds_toArray, List.set_cons_zero, List.set_cons_succ]
                refine wpAnyH_done (by kernel_rfl) ?_ _
                go_wp2_with fail
                go_roundg r'.length
                case measure => have := next_lt HNX.out; exact this
                case rel =>
                  refine ⟨r', acc ++ [h], _, m + 1, cap6, rfl, HS6.out.storeP (by omega) (by omega) _, HD6.out.store _, by rw [List.length_append, HAL.out]; rfl, ?_, HB6.out.setCell (by show pl ≤ pl; omega) _, lines_round HLR.out HNX.out, by have := next_lt HNX.out; have := HNR.out; omega⟩
                  rw [cellsOf_append]
                  exact ownsRow_setCell_below HO6.out (by show pl < pl + 1 + 1 + 1; omega) _
              case so3 =>
                go_simp
                refine hK.out _ _ trivial (fun hHeld => ?_)
                clear hK K
                try simp only [Act.put, List.setIfInBounds_toArray, List.set_cons_zero, List.set_cons_succ]
                refine wpAnyH_ready (rs := [0]) (by kernel_rfl) (by simp) ?_
                refine (AllReadyH.cons (o := ?ox0) ?ex0 (fun K hK => ?sx0) AllReadyH.nil)
                case ex0 => simp only [List.getElem?_toArray, List.getElem?_cons_zero]; rfl
                go_simp
                refine hK.out _ _ trivial (fun hHeld => ?_)
                clear hK K
                try simp only [Act.put, List.setIfInBounds_toArray, List.set_cons_zero, List.set_cons_succ]
                refine wpAnyH_ready (rs := [4]) (by kernel_rfl) (by simp) ?_
                refine (AllReadyH.cons (o := ?oy4) ?ey4 (fun K hK => ?sy4) AllReadyH.nil)
                case ey4 => simp only [List.getElem?_toArray, List.getElem?_cons_zero, List.getElem?_cons_succ]; rfl
                rw [if_pos (by rfl)]
                refine wp_append_lies _ (.tmp 20) (.tmp 23) 23 rfl (pl + 1 + 1 + 1) 53 i0 (.agg #[.string ⟨#[]⟩, .string ⟨#[]⟩]) 2 32 Try.underlying23 hi0 hz0 hz1 hz2 rfl (by omega) (.slice A' m c') m (cellsOf acc) rfl (HO4.out.alloc _) ⟨w4.heap.size, 0, none⟩ 1 1 [.string h.1, .string h.2] rfl rfl (World.news_of_block (cs := #[.string h.1, .string h.2]) (t := 53) (fr := (0, 0)) (heap_alloc_new w4 _)) (by simp [Value.oneCell']) (by omega) (by unfold maxLen; omega) (by omega) (by simp; omega) _ rfl ?_
                intro g6 cap6 w6 hown6 hgrow6 hat6 hlt6
                refine hK.out _ _ trivial (fun hHeld => ?_)
                clear hK K
                try simp only [Act.put, List.setIfInBounds_toArray, List.set_cons_zero, List.set_cons_succ]
                have hb6 : Below (pl + 1 + 1 + 1) w4 w6 := ((Below.refl _ w4).alloc (by omega) _).grown hgrow6 (by simp; omega) (fun k hk => (HO4.out.lt k hk).1)
                have hd6 := HD4.out.belowB hb6 (by omega)
                have hs6 := HS4.out.belowB hb6 (by omega)
                have hbb6 : Below pl w w6 := HB4.out.trans (hb6.mono (by omega))
                obtain ⟨d1, d2, d3, d4, d5, d6, d7⟩ := hd6
                have hg6 : pl + 1 + 1 < w6.heap.size := by have := hb6.size; omega
                have HD6 := Lib.hid (show Door w6 pl (pl + 1) (.slice A' m c') from ⟨d1, d2, d3, d4, d5, d6, d7⟩); have HS6 := Lib.hid hs6; have HB6 := Lib.hid hbb6; have HO6 := Lib.hid hown6
                clear hb6 hs6 hbb6 hown6 hgrow6 hat6 HS4 HD4 HO4 HB4 hdc4 hdc5 hg4
                refine wpAnyH_ready (rs := [5]) (by kernel_rfl) (by simp) ?_
                refine (AllReadyH.cons (o := ?oys5) ?eys5 (fun K hK => ?sys5) AllReadyH.nil)
                case eys5 => simp only [List.getElem?_toArray, List.getElem?_cons_zero, List.getElem?_cons_succ]; rfl
                go_simp
                refine hK.out _ _ trivial (fun hHeld => ?_)
                clear hK K
                try simp only [Act.put, List.setIfInBounds_toArray, List.set_cons_zero, List.set_cons_succ]
                refine wpAnyH_done (by kernel_rfl) ?_ _
                go_wp2_with fail
                go_roundg r'.length
                case measure => have := next_lt HNX.out; exact this
                case rel =>
                  refine ⟨r', acc ++ [h], _, m + 1, cap6, rfl, HS6.out.storeP (by omega) (by omega) _, HD6.out.store _, by rw [List.length_append, HAL.out]; rfl, ?_, HB6.out.setCell (by show pl ≤ pl; omega) _, lines_round HLR.out HNX.out, by have := next_lt HNX.out; have := HNR.out; omega⟩
                  rw [cellsOf_append]
                  exact ownsRow_setCell_below HO6.out (by show pl < pl + 1 + 1 + 1; omega) _
    · have hne : ((sl [x, y]).toList == (sl [0, 0]).toList) = false := by
        rw [beq_eq_false_iff_ne, ByteArray.toList_eq, ByteArray.toList_eq]
        intro e
        simp [sl] at e
        exact hxy e
      rw [hne] at he
      have HE := Lib.hid he; clear he
      have HD := Lib.hid (HDC.out.trans (if_neg hxy)); clear HDC hxy
      go_wp2_with (first
        | (go_at_call 44; refine HE.out.mono ?_; rintro e w2 ⟨rfl, rfl⟩)
        | (go_at_call 43; refine (needs_no _).mono ?_; rintro e w2 ⟨rfl, rfl⟩))
      exact door_panic (HD1.out.past (Past.of_below (g := pl + 1 + 1) ((Below.refl _ w1).alloc (Nat.le_refl _) _)) (by omega) (by omega)) (by rw [HPL.out]; exact HB1.out.alloc (by omega) _) (Nat.le_of_eq HPL.out) HD.out rfl rfl
end Go.Proofs.Ytcimcldmkaggnaa
