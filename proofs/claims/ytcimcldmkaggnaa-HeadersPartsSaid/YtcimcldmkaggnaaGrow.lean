/- A slice of bytes with spare that may be written: what an append makes of it. -/
import Derived.Test.YtcimcldmkaggnaaHdrLaid
import Derived.Deep.Upon
namespace Go.Proofs.Ytcimcldmkaggnaa
set_option linter.unusedVariables false
set_option linter.unusedSimpArgs false
open Go.RowKit

/-- a slice of the bytes xs at the head of a block from base on; its spare is there, and nothing of it is frozen -/
def Gr (w : World) (base : Nat) (v : Value) (xs : List UInt8) : Prop :=
  ∃ g cap, v = .slice (some ⟨g, 0, none⟩) xs.length cap ∧ base ≤ g ∧ xs.length ≤ cap ∧ cap ≤ maxLen ∧ g < w.heap.size ∧ (∀ j (h : j < xs.length), w.cell? ⟨g, j, none⟩ = some (.int .u8 ((xs[j]'h).toNat : Int))) ∧
    ∀ j, j < cap → (w.cell? ⟨g, j, none⟩).isSome = true ∧ w.frozen? ⟨g, j, none⟩ = false
theorem Gr.byt {w : World} {base : Nat} {v : Value} {xs : List UInt8} (h : Gr w base v xs) : Byt w v xs := by
  obtain ⟨g, cap, rfl, hb, h1, h2, h3, h4, h5⟩ := h
  exact ⟨_, cap, rfl, ⟨rfl, fun _ => ⟨g, 0, rfl, h3, fun j hj => by rw [Nat.zero_add]; exact h4 j hj⟩⟩, h1, h2⟩
theorem Gr.of_fresh {w : World} {B : Nat} {v : Value} {xs : List UInt8} (h : Lib.FreshBytes B w v xs) (hx : 0 < xs.length) : Gr w B v xs := by
  have hy := Byt.of_fresh h
  obtain ⟨g, cap, zs, rfl, hB, h1, h2, hz, hb, hl, hc, hf⟩ := h
  obtain ⟨A, c, hv, hr, -⟩ := hy
  injection hv with q1 q2 q3
  subst q1
  obtain ⟨b, o, e, hlt, hcell⟩ := hr.2 hx
  injection e with e
  injection e with e1 e2
  subst e1 e2
  exact ⟨g, cap, rfl, hB, h1, h2, hlt, fun j hj => by have := hcell j hj; rwa [Nat.zero_add] at this, fun j hj => ⟨by rw [hc j hj]; rfl, hf j hj⟩⟩
theorem Gr.alloc {w : World} {base : Nat} {v : Value} {xs : List UInt8} (h : Gr w base v xs) (o : Obj) : Gr (w.alloc o) base v xs := by
  obtain ⟨g, cap, rfl, hb, h1, h2, h3, h4, h5⟩ := h
  have hbl : Below w.heap.size w (w.alloc o) := (Below.refl _ _).alloc (Nat.le_refl _) _
  exact ⟨g, cap, rfl, hb, h1, h2, Nat.lt_of_lt_of_le h3 hbl.size, fun j hj => (hbl.cell (p := ⟨g, j, none⟩) h3).trans (h4 j hj), fun j hj => ⟨by rw [hbl.cell (p := ⟨g, j, none⟩) h3]; exact (h5 j hj).1, (hbl.frozen (p := ⟨g, j, none⟩) h3).trans (h5 j hj).2⟩⟩
theorem Gr.drew {w : World} {base : Nat} {v : Value} {xs : List UInt8} (h : Gr w base v xs) : Gr w.drew base v xs := h
theorem tape_setCells (g : Nat) : ∀ (vs : List Value) (o : Nat) (w : World), (w.setCells g o vs).tape = w.tape := by
  intro vs
  induction vs with
  | nil => intro o w; rfl
  | cons v vs ih => intro o w; exact (ih (o + 1) (w.setCell ⟨g, o, none⟩ v)).trans rfl
theorem size_setCells (g : Nat) : ∀ (vs : List Value) (o : Nat) (w : World), (w.setCells g o vs).heap.size = w.heap.size := by
  intro vs
  induction vs with
  | nil => intro o w; rfl
  | cons v vs ih => intro o w; exact (ih (o + 1) (w.setCell ⟨g, o, none⟩ v)).trans (by simp)
theorem below_setCells {B : Nat} {a w : World} (h : Below B a w) (g : Nat) (hg : B ≤ g) : ∀ (vs : List Value) (o : Nat), Below B a (w.setCells g o vs) := by
  intro vs o
  refine ⟨(World.os_setCells w g o vs).trans h.os, (tape_setCells g vs o w).trans h.tape, (World.output_setCells w g o vs).trans h.output, by rw [size_setCells]; exact h.size, fun k hk => ?_⟩
  by_cases hkw : k < w.heap.size
  · exact (World.heap_setCells_other w g o vs hkw (by omega)).trans (h.block k hk)
  · rw [← h.block k hk]
    rw [Array.getElem?_eq_none (by rw [size_setCells]; omega), Array.getElem?_eq_none (by omega)]
section
variable {P : Program}
theorem src_rd (w : World) (t e : TypeId) (ht : P.underlying t = some (.slice e)) (B : Nat) (A : Option Addr) (m c : Nat) (news : List UInt8) (hr : Rd w B A m news) : Src P 1 t (.slice A m c) m (bs news) w := by
  rcases A with _ | ad
  · have hm : m = 0 := by
      rcases Nat.eq_zero_or_pos m with h0 | h0
      · exact h0
      · obtain ⟨b, o, h, _⟩ := hr.2 h0
        cases h
    subst hm
    have hn : news = [] := List.eq_nil_of_length_eq_zero hr.1
    subst hn
    exact Src.ofNil w ht c
  · exact Src.ofSlice w ht ad m c (bs news) (by rw [bs_length, hr.1]; omega) (hr.news rfl) (bs_one _)
theorem run_append_gr (w : World) (base : Nat) (t ty e : TypeId) (i : TypeInfo) (z : Value) (ht : P.underlying t = some (.slice e)) (hi : P.info? e = some i) (hz : i.zero = some z)
    (hsize : i.size = 1) (hby : i.bytes = 1) (hzs : z.cells.size = 1) (v : Value) (xs : List UInt8) (h : Gr w base v xs)
    (B : Nat) (A : Option Addr) (m c : Nat) (news : List UInt8) (hr : Rd w B A m news) (hbytes : xs.length + m ≤ 140737488355328) (hbase : base ≤ w.heap.size) :
    ∃ v' w', (Builtin.append_ #[t, t] ty #[v, .slice A m c]).run P w = .ok v' w' ∧ Gr w' base v' (xs ++ news) ∧ Below base w w' := by
  obtain ⟨g, cap, rfl, hb, h1, h2, h3, h4, h5⟩ := h
  have hs : Src P i.size t (.slice A m c) m (bs news) w := by rw [hsize]; exact src_rd w t e ht B A m c news hr
  have hnl : (bs news).length = m := by rw [bs_length, hr.1]
  have hxl : (xs ++ news).length = xs.length + m := by rw [List.length_append, hr.1]
  by_cases hfit : xs.length + m ≤ cap
  · have hrun := run_append_room_src (P := P) w t t ty e i ht hi g 0 xs.length cap (.slice A m c) m (bs news) hs hfit (fun j hj => by rw [hsize, Nat.zero_add, Nat.mul_one]; exact (h5 _ (by omega)).1) (fun j hj => by rw [hsize, Nat.zero_add, Nat.mul_one]; exact (h5 _ (by omega)).2)
    rw [hsize, Nat.zero_add, Nat.mul_one] at hrun
    have hsome : ∀ j, j < (bs news).length → (w.cell? ⟨g, xs.length + j, none⟩).isSome = true := fun j hj => (h5 _ (by omega)).1
    refine ⟨_, _, hrun, ⟨g, cap, by rw [hxl], hb, by omega, h2, by rw [size_setCells]; exact h3, fun j hj => ?_, fun j hj => ⟨?_, ?_⟩⟩, below_setCells (Below.refl _ _) g hb _ _⟩
    · by_cases hjx : j < xs.length
      · rw [World.cell?_setCells_out g _ _ _ _ (fun _ _ => Or.inl (by show j < xs.length; exact hjx)), List.getElem_append_left hjx]
        exact h4 j hjx
      · have hin := World.cell?_setCells_in g (bs news) xs.length w hsome (j - xs.length) (by omega)
        rw [show xs.length + (j - xs.length) = j by omega] at hin
        rw [hin, List.getElem_append_right (by omega)]
        have hbg := bs_get news (j - xs.length) (by have := hr.1; omega)
        rw [List.getElem?_eq_getElem (by omega)] at hbg
        exact hbg
    · by_cases hjx : j < xs.length
      · rw [World.cell?_setCells_out g _ _ _ _ (fun _ _ => Or.inl (by show j < xs.length; exact hjx))]
        exact (h5 j hj).1
      · by_cases hjn : j < xs.length + m
        · have hin := World.cell?_setCells_in g (bs news) xs.length w hsome (j - xs.length) (by omega)
          rw [show xs.length + (j - xs.length) = j by omega] at hin
          rw [hin]; rfl
        · rw [World.cell?_setCells_out g _ _ _ _ (fun _ _ => Or.inr (by show xs.length + (bs news).length ≤ j; omega))]
          exact (h5 j hj).1
    · exact (World.frozen?_setCells g _ _ _ _).trans (h5 j hj).2
  · have hold : (Builtin.firstCells i.size xs.length (.slice (some ⟨g, 0, none⟩) xs.length cap)).run P w.drew = .ok (bs xs).toArray w.drew := by
      rw [hsize]
      refine run_firstCells_some w.drew 1 xs.length ⟨g, 0, none⟩ xs.length cap (bs xs) (by rw [bs_length]; omega) (fun j u hu => ?_)
      have hjx : j < xs.length := by have := (List.getElem?_eq_some_iff.1 hu).1; rwa [bs_length] at this
      rw [bs_get xs j hjx] at hu
      rw [Lib.add_plain2, Nat.zero_add, ← hu]
      exact h4 j hjx
    have hrun := run_append_grow_src (P := P) w t t ty e i z ht hi hz (some ⟨g, 0, none⟩) xs.length cap (bs xs) hold (.slice A m c) m (bs news) hs (by omega) (by omega) (growslice_fits (by omega) (by rw [hby]; omega))
    have hge := grownCap_ge w (xs.length + m) cap e
    have hcm := grownCap_le_maxLen w (xs.length + m) cap e (by unfold maxLen; omega)
    generalize grownCap w (xs.length + m) cap e = C at *
    have hbe : Below w.heap.size w (w.drew.alloc (.cells ((bs xs ++ bs news).toArray ++ Builtin.zeroCells z.cells (C - (xs.length + m))) e)) := (Below.refl w.heap.size w).drew.alloc (Nat.le_refl _) _
    have hrow : (w.drew.alloc (.cells ((bs xs ++ bs news).toArray ++ Builtin.zeroCells z.cells (C - (xs.length + m))) e)).heap[w.heap.size]? = some (.cells ((bs xs ++ bs news).toArray ++ Builtin.zeroCells z.cells (C - (xs.length + m))) e (0, 0)) := heap_alloc_new w.drew _
    refine ⟨_, _, hrun, ⟨w.heap.size, C, by rw [hxl], hbase, by omega, hcm, by have := (Array.getElem?_eq_some_iff.1 hrow).1; exact this, fun j hj => ?_, fun j hj => ⟨?_, frozen_of_row _ _ j _ _ hrow⟩⟩, hbe.mono hbase⟩
    · rw [cell_of_row _ _ j _ _ _ hrow, ← bs_append, Array.getElem?_append_left (by simp only [List.size_toArray]; rw [bs_length]; exact hj), List.getElem?_toArray]
      exact bs_get _ j hj
    · rw [cell_of_row _ _ j _ _ _ hrow, Array.getElem?_eq_getElem (by rw [Array.size_append, List.size_toArray, ← bs_append, bs_length, hxl, size_zeroCells, hzs]; omega)]
      rfl
theorem wp_append_gr (w : World) {o : Oper} {a : Act} {K : Act → World → Prop} {Q : Exit → Act → World → Prop} (s x : Operand) (t : TypeId)
    (ho : o.op = .call { callee := .builtin .append, args := #[s, x], argTypes := #[t, t] })
    (base : Nat) (e : TypeId) (i : TypeInfo) (z : Value) (ht : P.underlying t = some (.slice e)) (hi : P.info? e = some i) (hz : i.zero = some z)
    (hsize : i.size = 1) (hby : i.bytes = 1) (hzs : z.cells.size = 1) (v : Value) (xs : List UInt8) (hs : a.eval s = v) (hg : Gr w base v xs)
    (B : Nat) (A : Option Addr) (m c : Nat) (news : List UInt8) (hx : a.eval x = .slice A m c) (hr : Rd w B A m news) (hbytes : xs.length + m ≤ 140737488355328) (hbase : base ≤ w.heap.size)
    (h : ∀ A' c' w', Gr w' base (.slice A' (xs ++ news).length c') (xs ++ news) → Below base w w' → K (a.put o.dst (.slice A' (xs ++ news).length c')) w') : o.wp P a w K Q := by
  obtain ⟨v', w', hrun, h2, h3⟩ := run_append_gr (P := P) w base t o.type e i z ht hi hz hsize hby hzs v xs hg B A m c news hr hbytes hbase
  unfold Oper.wp execOp
  simp only [ho, resolve, invoke, builtin, Sem.run_bind, Sem.run_pure, Result.andThen_ok, List.map_toArray, List.map_cons, List.map_nil, hs, hx, hrun]
  have h2' := h2
  obtain ⟨g, cap, rfl, -⟩ := h2'
  exact h _ _ w' h2 h3
theorem wpList_append_gr (w : World) {ops : Array Oper} {rest : List Oper} {o : Oper} {a : Act} {Q : Exit → Act → World → Prop} (hgd : o.guard = none) (s x : Operand) (t : TypeId)
    (ho : o.op = .call { callee := .builtin .append, args := #[s, x], argTypes := #[t, t] })
    (base : Nat) (e : TypeId) (i : TypeInfo) (z : Value) (ht : P.underlying t = some (.slice e)) (hi : P.info? e = some i) (hz : i.zero = some z)
    (hsize : i.size = 1) (hby : i.bytes = 1) (hzs : z.cells.size = 1) (v : Value) (xs : List UInt8) (hs : a.eval s = v) (hg : Gr w base v xs)
    (B : Nat) (A : Option Addr) (m c : Nat) (news : List UInt8) (hx : a.eval x = .slice A m c) (hr : Rd w B A m news) (hbytes : xs.length + m ≤ 140737488355328) (hbase : base ≤ w.heap.size)
    (h : ∀ A' c' w', Gr w' base (.slice A' (xs ++ news).length c') (xs ++ news) → Below base w w' → wpList P ops Q rest (a.put o.dst (.slice A' (xs ++ news).length c')) w') : wpList P ops Q (o :: rest) a w :=
  wpList_plain hgd fun _ hK => wp_append_gr w s x t ho base e i z ht hi hz hsize hby hzs v xs hs hg B A m c news hx hr hbytes hbase fun A' c' w' h2 h3 => hK _ _ (h A' c' w' h2 h3)
end
end Go.Proofs.Ytcimcldmkaggnaa
