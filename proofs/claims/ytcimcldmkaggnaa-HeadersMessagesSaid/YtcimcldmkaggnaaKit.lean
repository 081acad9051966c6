/- Small words for this seat: own rows, ends of walks, slices cut, literals laid. -/
import Derived.Test.YtcimcldmkaggnaaMem
import Derived.Test.YtcimcldmkaggnaaChecked
import Derived.OpenShut
namespace Go.Proofs.Ytcimcldmkaggnaa
set_option linter.unusedVariables false
open Go.RowKit

theorem below_drewN {B : Nat} {a w : World} (h : Below B a w) (n : Nat) : Below B a (w.drewN n) := ⟨h.os, h.tape, h.output, h.size, h.block⟩
theorem below_then {w w1 w2 : World} (h : Below w.heap.size w w1) (k : Below w1.heap.size w1 w2) : Below w.heap.size w w2 := h.trans (k.mono h.size)
theorem ret_int {k : IntKind} {a b : Int} (h : a = b) : Ending.returned (.int k a) = .returned (.int k b) := by rw [h]
theorem ret_bool {a b : Bool} (h : a = b) : Ending.returned (.bool a) = .returned (.bool b) := by rw [h]
theorem info5 : (Try.prog.info? 5).map (fun i => (i.zero, i.size, i.bytes)) = some (some (.int .u8 0), 1, 1) := by kernel_rfl
theorem own_base {w : World} {b b' : Nat} {e : TypeId} {size n : Nat} {v : Value} {xs : List Value} (h : w.ownsRow b e size v n xs) (hb : b' ≤ b) : w.ownsRow b' e size v n xs := by
  refine ⟨h.1, ?_⟩
  rcases h.2 with h0 | ⟨g, cap, cur, h1, h2, h3⟩
  · exact .inl h0
  · exact .inr ⟨g, cap, cur, h1, by omega, h3⟩
theorem own_form {w : World} {b : Nat} {e : TypeId} {size n : Nat} {v : Value} {xs : List Value} (h : w.ownsRow b e size v n xs) : ∃ A c, v = .slice A n c ∧ n ≤ c ∧ c ≤ maxLen := by
  rcases h.2 with ⟨rfl, rfl⟩ | ⟨g, cap, cur, rfl, _, _, h4, h5, _⟩
  · exact ⟨none, 0, rfl, by omega, by unfold maxLen; omega⟩
  · exact ⟨_, cap, rfl, h4, h5⟩
theorem own_caps {w : World} {b : Nat} {e : TypeId} {size n c : Nat} {A : Option Addr} {xs : List Value} (h : w.ownsRow b e size (.slice A n c) n xs) : n ≤ c ∧ c ≤ maxLen := by
  obtain ⟨A', c', hv, h1, h2⟩ := own_form h
  injection hv with _ _ hv
  rw [hv]; exact ⟨h1, h2⟩
theorem own_none {w : World} {b : Nat} {e : TypeId} {size n c : Nat} {A : Option Addr} {xs : List Value} (h : w.ownsRow b e size (.slice A n c) n xs) : A = none → c = 0 := by
  intro hA
  rcases h.2 with ⟨h1, _⟩ | ⟨g, cap, cur, h1, _⟩
  · injection h1
  · subst hA; injection h1 with h2; cases h2
theorem own_addr {w : World} {B n c : Nat} {A : Option Addr} {xs : List Value} (h : w.ownsRow B 5 1 (.slice A n c) n xs) (hn : 0 < n) : ∃ g, A = some ⟨g, 0, none⟩ := by
  obtain ⟨g, cap, hv, _⟩ := h.form hn
  injection hv with hv
  exact ⟨g, hv⟩
theorem byte_of {b : Int} (h : (Lit.int .u8 b).wf = true) : ∃ y : UInt8, b = (y.toNat : Int) := by
  obtain ⟨h0, h1⟩ := bounds_u8 h
  exact ⟨UInt8.ofNat b.toNat, by rw [UInt8.toNat_ofNat']; omega⟩
theorem Rd.newm (w : World) (t : TypeId) (xs : List UInt8) (n : Nat) (cs : Array Value) (fr : Nat × Nat) (h : cs.toList = bs xs) (hn : xs.length = n) : Rd (w.alloc (.cells cs t fr)) (w.heap.size + 1) (some ⟨w.heap.size, 0, none⟩) n xs := by
  refine ⟨hn, fun _ => ⟨w.heap.size, 0, rfl, by omega, fun j hj => ?_⟩⟩
  have h1 := World.news_of_block (heap_alloc_new w (.cells cs t fr)) j _ (by rw [h]; exact bs_get xs j hj)
  rw [Nat.zero_add, ← h1]
  unfold Addr.add
  split
  · rename_i h0; subst h0; rfl
  · simp
theorem Rd.new (w : World) (t : TypeId) (xs : List UInt8) (n : Nat) (cs : Array Value) (h : cs.toList = bs xs) (hn : xs.length = n) : Rd (w.alloc (.cells cs t)) (w.heap.size + 1) (some ⟨w.heap.size, 0, none⟩) n xs := Rd.newm w t xs n cs (0, 0) h hn
theorem Rd.mid {w : World} {B b o n i m : Nat} {xs : List UInt8} (h : Rd w B (some ⟨b, o, none⟩) n xs) (hi : i ≤ m) (hm : m ≤ n) : Rd w B (some ⟨b, o + i, none⟩) (m - i) ((xs.take m).drop i) := by
  have hl := h.1
  refine ⟨by rw [List.length_drop, List.length_take]; omega, fun hn => ?_⟩
  obtain ⟨b', o', e, hb, hc⟩ := h.2 (by omega)
  injection e with e
  injection e with e1 e2
  subst e1 e2
  refine ⟨b, o + i, rfl, hb, fun j hj => ?_⟩
  rw [List.length_drop, List.length_take] at hj
  have := hc (i + j) (by omega)
  rw [Nat.add_assoc, this]
  simp
theorem run_mid (w : World) (b o n c : Nat) (l h : Int) (i m : Nat) (hl : l = i) (hh : h = m) (him : i ≤ m) (hmc : m ≤ c) (hic : i < c) :
    (Instr.slice 24 (.slice (some ⟨b, o, none⟩) n c) (some (.int .i64 l)) (some (.int .i64 h)) none).run Try.prog w = .ok (.slice (some ⟨b, o + i, none⟩) (m - i) (c - i)) w := by
  subst hl hh
  rw [run_slice_lh (P := Try.prog) (w := w) 24 _ _ _ (by kernel_rfl) .i64 .i64 _ _ (by omega) (by omega) (by omega)]
  rw [show ((sizeOf (Try.prog.elem 24)).run Try.prog w) = .ok 1 w from by kernel_rfl]
  simp only [Result.andThen, sliced, Int.toNat_natCast]
  rw [if_neg (by omega)]
  simp only [Option.map_some, Addr.add]
  split
  · rename_i h0; simp at h0; subst h0; rfl
  · simp
theorem run_head (w : World) (b o n c : Nat) (h : Int) (m : Nat) (hh : h = m) (hmc : m ≤ c) :
    (Instr.slice 24 (.slice (some ⟨b, o, none⟩) n c) none (some (.int .i64 h)) none).run Try.prog w = .ok (.slice (some ⟨b, o, none⟩) m c) w := by
  subst hh
  rw [run_slice_h (P := Try.prog) (w := w) 24 _ _ _ (by kernel_rfl) .i64 _ (by omega) (by omega)]
  rw [show ((sizeOf (Try.prog.elem 24)).run Try.prog w) = .ok 1 w from by kernel_rfl]
  simp only [Result.andThen, sliced, Int.toNat_natCast]
  by_cases h0 : c = 0
  · rw [if_pos h0]; simp
  · rw [if_neg h0]; simp [Addr.add]
end Go.Proofs.Ytcimcldmkaggnaa
