/- The program's reader of headers, walked: needs, take. -/
import Derived.Test.YtcimcldmkaggnaaHdrLaid
namespace Go.Proofs.Ytcimcldmkaggnaa
set_option linter.unusedVariables false
set_option linter.unusedSimpArgs false
open Go.RowKit
open Hd

/-- what needs gives up with -/
def chain : List PanicEntry := [{ v := .iface 26 (.int .i64 200), recovered := false }]
theorem needs_yes (w : World) : Calls Try.prog 43 #[.bool true] w fun e w' => e = .returned (.tuple #[]) ∧ w = w' := by
  go_enter Try.func43, Try.ntmps43
  go_wp2_with fail
  go_end0
  exact ⟨rfl, rfl⟩
theorem needs_no (w : World) : Calls Try.prog 43 #[.bool false] w fun e w' => e = .panicked chain ∧ w = w' := by
  go_enter Try.func43, Try.ntmps43
  go_wp2_with fail
  exact ⟨rfl, rfl, rfl⟩

/-- only block g has changed, and new blocks -/
structure Past (g : Nat) (w w' : World) : Prop where
  os : w'.os = w.os
  tape : w'.tape = w.tape
  output : w'.output = w.output
  size : w.heap.size ≤ w'.heap.size
  block : ∀ k, k < w.heap.size → k ≠ g → w'.heap[k]? = w.heap[k]?
theorem Past.refl (g : Nat) (w : World) : Past g w w := ⟨rfl, rfl, rfl, Nat.le_refl _, fun _ _ _ => rfl⟩
theorem Past.trans {g : Nat} {a b c : World} (h : Past g a b) (k : Past g b c) : Past g a c :=
  ⟨k.os.trans h.os, k.tape.trans h.tape, k.output.trans h.output, Nat.le_trans h.size k.size, fun i hi hg => (k.block i (Nat.lt_of_lt_of_le hi h.size) hg).trans (h.block i hi hg)⟩
theorem Past.setCell (g : Nat) (w : World) (v : Value) : Past g w (w.setCell ⟨g, 0, none⟩ v) := ⟨rfl, rfl, rfl, by simp, fun k _ hg => Below.heap_setCell w _ v k hg⟩
theorem Past.of_below {g : Nat} {w w' : World} (h : Below w.heap.size w w') : Past g w w' := ⟨h.os, h.tape, h.output, h.size, fun k hk _ => h.block k hk⟩
theorem Past.below {g B : Nat} {a w w' : World} (h : Past g w w') (hb : Below B a w) (hB : B ≤ w.heap.size) (hg : B ≤ g) : Below B a w' :=
  ⟨h.os.trans hb.os, h.tape.trans hb.tape, h.output.trans hb.output, Nat.le_trans hb.size h.size, fun k hk => (h.block k (by omega) (by omega)).trans (hb.block k hk)⟩
theorem Past.cell {g : Nat} {w w' : World} (h : Past g w w') {p : Addr} (hp : p.block < w.heap.size) (hg : p.block ≠ g) : w'.cell? p = w.cell? p := World.cell?_of_block (h.block _ hp hg)
/-- the reader's one cell: what is left of the bytes, which lie two blocks below it -/
def Src (w : World) (g : Nat) (xs : List UInt8) : Prop :=
  ∃ A c, w.cell? ⟨g, 0, none⟩ = some (.slice A xs.length c) ∧ w.frozen? ⟨g, 0, none⟩ = false ∧ Rd w (g - 2) A xs.length xs ∧ xs.length ≤ c ∧ c ≤ maxLen
theorem Rd.past {w w' : World} {g B n : Nat} {A : Option Addr} {xs : List UInt8} (h : Rd w B A n xs) (hp : Past g w w') (hg : B ≤ g) (hB : B ≤ w.heap.size) : Rd w' B A n xs := h.keep fun p hb => hp.cell (by omega) (by omega)
theorem Src.lt {w : World} {g : Nat} {xs : List UInt8} (h : Src w g xs) : g < w.heap.size := by
  obtain ⟨A, c, h1, _⟩ := h
  exact World.block_lt_of_cell? w ⟨g, 0, none⟩ h1
theorem Src.below {w w' : World} {g : Nat} {xs : List UInt8} (h : Src w g xs) (hb : Below w.heap.size w w') : Src w' g xs := by
  have hl := h.lt
  obtain ⟨A, c, h1, h2, h3, h4⟩ := h
  exact ⟨A, c, (hb.cell (p := ⟨g, 0, none⟩) hl).trans h1, (hb.frozen (p := ⟨g, 0, none⟩) hl).trans h2, h3.keep fun p hp => hb.cell (by omega), h4⟩
theorem Src.belowB {w w' : World} {g B : Nat} {xs : List UInt8} (h : Src w g xs) (hb : Below B w w') (hB : g < B) : Src w' g xs := by
  obtain ⟨A, c, h1, h2, h3, h4⟩ := h
  exact ⟨A, c, (hb.cell (p := ⟨g, 0, none⟩) hB).trans h1, (hb.frozen (p := ⟨g, 0, none⟩) hB).trans h2, h3.keep fun p hp => hb.cell (by omega), h4⟩
theorem Src.storeP {w : World} {g a : Nat} {xs : List UInt8} (h : Src w g xs) (ha : a ≠ g) (ha2 : g - 2 ≤ a) (v : Value) : Src (w.setCell ⟨a, 0, none⟩ v) g xs := by
  obtain ⟨A, c, h1, h2, h3, h4⟩ := h
  exact ⟨A, c, (World.cell?_setCell_other w ⟨a, 0, none⟩ ⟨g, 0, none⟩ v (by simp)).trans h1, by simpa using h2, h3.keep fun p hp => World.cell?_setCell_other w ⟨a, 0, none⟩ p v (fun e => by rw [← e] at hp; exact absurd hp (by show ¬ a < g - 2; omega)), h4⟩
theorem run_cut (w : World) (A : Option Addr) (n c k : Nat) (hk : k ≤ c) : (Instr.slice 24 (.slice A n c) none (some (.int .i64 (k : Nat))) (some (.int .i64 (k : Nat)))).run Try.prog w = .ok (.slice A k k) w := by
  have hu : Try.prog.underlying 24 = some (.slice (Try.prog.elem 24)) := by kernel_rfl
  have hz : ((sizeOf (Try.prog.elem 24)).run Try.prog w) = .ok 1 w := by kernel_rfl
  have h0 : (0 : Int) ≤ (k : Int) := by omega
  have h1 : (k : Int) ≤ (c : Int) := by omega
  simp [Instr.slice, run_underlying hu, Instr.sliceBounds, run_sliceBound, hz, hk, Result.andThen]
  intro _
  cases A <;> simp [Addr.add]
theorem run_tail (w : World) (A : Option Addr) (n c k : Nat) (hk : k ≤ n) : (Instr.slice 24 (.slice A n c) (some (.int .i64 (k : Nat))) none none).run Try.prog w = .ok (.slice (if c = k then A else A.map (·.add k)) (n - k) (c - k)) w := by
  rw [run_slice_l (P := Try.prog) (w := w) 24 _ _ _ (by kernel_rfl) .i64 _ (by omega) (by omega)]
  rw [show ((sizeOf (Try.prog.elem 24)).run Try.prog w) = .ok 1 w from by kernel_rfl]
  simp only [Result.andThen, sliced, Int.toNat_natCast, Nat.mul_one]

/-- so many bytes taken -/
def TakeEnds (xs : List UInt8) (k g : Nat) (w : World) (e : Ending) (w' : World) : Prop :=
  (k ≤ xs.length ∧ (∃ A, e = .returned (.slice A k k) ∧ Rd w' g A k (xs.take k)) ∧ Src w' g (xs.drop k) ∧ Past g w w') ∨ (xs.length < k ∧ e = .panicked chain ∧ w = w')
set_option maxHeartbeats 800000 in
theorem take_any (xs : List UInt8) (k g : Nat) (w : World) (hs : Src w g xs) (hk : k ≤ 9223372036854775807) : Calls Try.prog 45 #[.pointer (some ⟨g, 0, none⟩), .int .i64 (k : Nat)] w (TakeEnds xs k g w) := by
  obtain ⟨A, c, h1, h2, h3, h4, h5⟩ := hs
  unfold maxLen at h5
  obtain ⟨n, hn⟩ : ∃ n, xs.length = n := ⟨_, rfl⟩
  rw [hn] at h1 h3 h4
  have HN := Lib.hid hn; have H3 := Lib.hid h3; clear hn h3
  by_cases hkn : k ≤ n
  · have hgd : ((k : Int) ≤ (n : Nat)) := by omega
    have hcut := fun w => run_cut w A n c k (by omega)
    obtain ⟨A2, hA2⟩ : ∃ A2, A2 = (if c = k then A else A.map (·.add k)) := ⟨_, rfl⟩
    have htl := fun w => run_tail w A n c k hkn
    rw [← hA2] at htl
    have HA2 := Lib.hid hA2; clear hA2
    go_enter Try.func45, Try.ntmps45
    go_wp2_with (go_at_call 43; refine (needs_yes _).mono ?_; rintro e w1 ⟨rfl, rfl⟩)
    go_ret
    have hl : (xs.drop k).length = n - k := by rw [List.length_drop, HN.out]
    have hb : ∀ q : Addr, q.block < g → (w.setCell ⟨g, 0, none⟩ (.slice A2 (n - k) (c - k))).cell? q = w.cell? q := fun q hq => World.cell?_setCell_other w _ q _ (fun e => by rw [← e] at hq; exact absurd hq (Nat.lt_irrefl _))
    refine .inl ⟨by rw [HN.out]; exact hkn, ⟨A, rfl, ((H3.out.head_ hkn).keep fun q hq => hb q (by omega)).more (by omega)⟩, ⟨A2, c - k, by rw [hl]; exact World.cell?_setCell_same w _ _ h1, by simpa using h2, ?_, by rw [hl]; omega, by unfold maxLen; omega⟩, Past.setCell g w _⟩
    rw [hl, HA2.out]
    exact (H3.out.tail_ hkn h4).keep (by rw [← HA2.out]; exact fun q hq => hb q (by omega))
  · have hgd : ((k : Int) ≤ (n : Nat)) = False := eq_false (by omega)
    go_enter Try.func45, Try.ntmps45
    go_wp2_with (go_at_call 43; refine (needs_no _).mono ?_; rintro e w1 ⟨rfl, rfl⟩)
    exact ⟨rfl, .inr ⟨by rw [HN.out]; omega, rfl, rfl⟩⟩
end Go.Proofs.Ytcimcldmkaggnaa
