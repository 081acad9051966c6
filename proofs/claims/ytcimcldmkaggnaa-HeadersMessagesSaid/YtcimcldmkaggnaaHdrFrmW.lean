/- The program's reader of frames, walked. -/
import Derived.Test.YtcimcldmkaggnaaHdrPlain
import Derived.Test.YtcimcldmkaggnaaVarLaws
import Derived.Deep.QuietTactic
import Derived.BigQuiet
namespace Go.Proofs.Ytcimcldmkaggnaa
set_option linter.unusedVariables false
set_option linter.unusedSimpArgs false
open Go.RowKit
open Hd Va

theorem run_headK (K : IntKind) (w : World) (A : Option Addr) (n c k : Nat) (hk : k ≤ c) : (Instr.slice 24 (.slice A n c) none (some (.int K (k : Nat))) none).run Try.prog w = .ok (.slice A k c) w := by
  rw [run_slice_h (P := Try.prog) (w := w) 24 _ _ _ (by kernel_rfl) K _ (by omega) (by omega)]
  rw [show ((sizeOf (Try.prog.elem 24)).run Try.prog w) = .ok 1 w from by kernel_rfl]
  simp only [Result.andThen, sliced, Int.toNat_natCast]
  by_cases h0 : c = 0
  · rw [if_pos h0]; simp
  · rw [if_neg h0]; cases A <;> simp [Addr.add]
theorem run_tailK (K : IntKind) (w : World) (A : Option Addr) (n c k : Nat) (hk : k ≤ n) : (Instr.slice 24 (.slice A n c) (some (.int K (k : Nat))) none none).run Try.prog w = .ok (.slice (if c = k then A else A.map (·.add k)) (n - k) (c - k)) w := by
  rw [run_slice_l (P := Try.prog) (w := w) 24 _ _ _ (by kernel_rfl) K _ (by omega) (by omega)]
  rw [show ((sizeOf (Try.prog.elem 24)).run Try.prog w) = .ok 1 w from by kernel_rfl]
  simp only [Result.andThen, sliced, Int.toNat_natCast, Nat.mul_one]
/-- a tail, whatever its address is -/
theorem tail_exists (K : IntKind) (w : World) (B : Nat) (A : Option Addr) (n c k : Nat) (xs : List UInt8) (hR : Rd w B A n xs) (hk : k ≤ n) (hc : n ≤ c) :
    ∃ A2, (∀ w2, (Instr.slice 24 (.slice A n c) (some (.int K (k : Nat))) none none).run Try.prog w2 = .ok (.slice A2 (n - k) (c - k)) w2) ∧ Rd w B A2 (n - k) (xs.drop k) :=
  ⟨_, fun w2 => run_tailK K w2 A n c k hk, hR.tail_ hk hc⟩
theorem first_eq (b : List UInt8) : first b = match get b with
  | none => none
  | some (k, i) => match get (b.drop i) with
    | none => none
    | some (n, j) => if n ≤ (b.drop (i + j)).length then some (k, (b.drop (i + j)).take n, (b.drop (i + j)).drop n) else none := rfl
theorem getV_some {xs : List UInt8} {v n : Nat} (h : get xs = some (v, n)) : getV xs = v ∧ getN xs = n ∧ getE xs = 0 := by
  unfold getV getN getE; rw [h]; exact ⟨rfl, rfl, rfl⟩
theorem getV_none {xs : List UInt8} (h : get xs = none) : getV xs = 0 ∧ getN xs = 0 ∧ getE xs = 30 := by
  unfold getV getN getE; rw [h]; exact ⟨rfl, rfl, rfl⟩
def FrmEnds (xs : List UInt8) (B c : Nat) (w : World) (e : Ending) (w' : World) : Prop :=
  (∃ q, w' = w.drewN q) ∧ match first xs with
    | none => e = .returned (.tuple #[.int .u64 0, .slice none 0 0, .slice none 0 0, .bool false])
    | some (k, x, r) => ∃ A1 c1 A2 c2, e = .returned (.tuple #[.int .u64 (k : Nat), .slice A1 x.length c1, .slice A2 r.length c2, .bool true]) ∧ Rd w' B A1 x.length x ∧ Rd w' B A2 r.length r ∧ x.length ≤ c1 ∧ c1 ≤ c ∧ r.length ≤ c2 ∧ c2 ≤ c
set_option maxRecDepth 100000 in
set_option maxHeartbeats 1600000 in
theorem frame_any (A : Option Addr) (n c : Nat) (xs : List UInt8) (w : World) (B : Nat) (hR : Rd w B A n xs) (hB : B ≤ w.heap.size) (hc : n ≤ c) (hm : c ≤ maxLen) :
    Calls Try.prog 47 #[.slice A n c] w (FrmEnds xs B c w) := by
  have HFE := Lib.hid (first_eq xs)
  have HG := Lib.hid (get_any A n c xs w (hR.more hB) hc hm)
  cases hg : get xs with
  | none =>
    have HF := Lib.hid (show first xs = none by rw [HFE.out, hg])
    obtain ⟨g1, g2, g3⟩ := getV_none hg
    have G1 := Lib.hid g1; have G2 := Lib.hid g2; have G3 := Lib.hid g3
    clear hR hc hm hg g1 g2 g3 HFE
    go_enter Try.func47, Try.ntmps47
    go_wp2_with (go_at_call 26; refine HG.out.mono ?_; rintro e w1 ⟨h1, rfl⟩; obtain rfl := h1.form; clear h1; rw [G1.out, G2.out, G3.out])
    refine bodyPost_ret (v := .tuple #[.int .u64 0, .slice none 0 0, .slice none 0 0, .bool false]) (by simp [results, Try.results47, go_sem]) rfl ⟨⟨0, rfl⟩, by rw [HF.out]⟩
  | some p =>
    obtain ⟨k, i⟩ := p
    obtain ⟨hi1, hi8, hin, hk62, -, -, -⟩ := get_some hg
    obtain ⟨g1, g2, g3⟩ := getV_some hg
    have hl := hR.1
    rw [hl] at hin
    obtain ⟨A1, hs1, hr1⟩ := tail_exists .i64 w B A n c i xs hR hin hc
    have HG2 := Lib.hid (fun w' (e : w' = w) => e ▸ get_any A1 (n - i) (c - i) (xs.drop i) w (hr1.more hB) (by omega) (by omega))
    have hn63 : n ≤ 9223372036854775807 := by unfold maxLen at hm; omega
    cases hg2 : get (xs.drop i) with
    | none =>
      have HF := Lib.hid (show first xs = none by rw [HFE.out, hg]; simp only [hg2])
      obtain ⟨q1, q2, q3⟩ := getV_none hg2
      have hs2 := fun w2 => run_tailK .i64 w2 A n c i hin
      obtain ⟨A2, hA2⟩ : ∃ A2, A2 = (if c = i then A else A.map (·.add i)) := ⟨_, rfl⟩
      have G1 := Lib.hid g1; have G2 := Lib.hid g2; have G3 := Lib.hid g3
      have Q1 := Lib.hid q1; have Q2 := Lib.hid q2; have Q3 := Lib.hid q3
      clear hR hc hm hg hg2 g1 g2 g3 q1 q2 q3 HFE hl hr1 hs2 hA2
      go_enter Try.func47, Try.ntmps47
      go_wp2_with fail
      refine HG.out.mono ?_
      rintro e w1 ⟨h1, rfl⟩
      obtain rfl := h1.form
      clear h1
      rw [G1.out, G2.out, G3.out]
      go_wp2_with fail
      refine (HG2.out _ rfl).mono ?_
      rintro e w1 ⟨h1, rfl⟩
      obtain rfl := h1.form
      clear h1
      rw [Q1.out, Q2.out, Q3.out]
      go_wp2_with fail
      refine bodyPost_ret (v := .tuple #[.int .u64 0, .slice none 0 0, .slice none 0 0, .bool false]) (by simp [results, Try.results47, go_sem]) rfl ⟨⟨0, rfl⟩, by rw [HF.out]⟩
    | some p =>
      obtain ⟨m, j⟩ := p
      obtain ⟨hj1, hj8, hjn, hm62, -, -, -⟩ := get_some hg2
      obtain ⟨q1, q2, q3⟩ := getV_some hg2
      rw [List.length_drop, hl] at hjn
      obtain ⟨A2, hs2, hr2⟩ := tail_exists .i64 w B A n c (i + j) xs hR (by omega) hc
      have hcast : ((i + j : Nat) : Int) = (i : Int) + (j : Int) := by omega
      rw [hcast] at hs2
      have hdl : (xs.drop (i + j)).length = n - (i + j) := by rw [List.length_drop, hl]
      by_cases hmn : m ≤ n - (i + j)
      · have HF := Lib.hid (show first xs = some (k, (xs.drop (i + j)).take m, (xs.drop (i + j)).drop m) by rw [HFE.out, hg]; simp only [hg2]; rw [if_pos (by rw [hdl]; exact hmn)])
        obtain ⟨A3, hs3, hr3⟩ := tail_exists .u64 w B A2 (n - (i + j)) (c - (i + j)) m (xs.drop (i + j)) hr2 hmn (by omega)
        have hr4 := hr2.head_ hmn
        have hs4 := fun w2 => run_headK .u64 w2 A2 (n - (i + j)) (c - (i + j)) m (by omega)
        have G1 := Lib.hid g1; have G2 := Lib.hid g2; have G3 := Lib.hid g3
        have Q1 := Lib.hid q1; have Q2 := Lib.hid q2; have Q3 := Lib.hid q3
        have HR3 := Lib.hid hr3; have HR4 := Lib.hid hr4
        have hgm : (((n - (i + j) : Nat) : Int) < (m : Int)) = False := eq_false (by omega)
        clear hR hg hg2 g1 g2 g3 q1 q2 q3 HFE hl hr1 hr2 hr3 hr4 hdl hcast
        have HCM := Lib.hid (And.intro hc hm); clear hc hm
        generalize hN : n - (i + j) = N at *
        generalize hC : c - (i + j) = C at *
        have hwN : IntKind.u64.wrap (N : Int) = (N : Int) := by rw [IntKind.wrap_u64]; omega
        have HN := Lib.hid hN; have HC := Lib.hid hC; clear hN hC
        go_enter Try.func47, Try.ntmps47
        go_wp2_with fail
        refine HG.out.mono ?_
        rintro e w1 ⟨h1, rfl⟩
        obtain rfl := h1.form
        clear h1
        rw [G1.out, G2.out, G3.out]
        go_wp2_with fail
        refine (HG2.out _ rfl).mono ?_
        rintro e w1 ⟨h1, rfl⟩
        obtain rfl := h1.form
        clear h1
        rw [Q1.out, Q2.out, Q3.out]
        go_wp2_with fail
        go_quiet (fail)
        go_wp2_with fail
        have l1 := HR4.out.1
        have l2 := HR3.out.1
        have l3 := HN.out; have l4 := HC.out; have l5 := HCM.out.1
        refine bodyPost_ret (v := .tuple #[.int .u64 (k : Nat), .slice A2 m C, .slice A3 (N - m) (C - m), .bool true]) (by simp [results, Try.results47, go_sem]) rfl ⟨⟨nq, rfl⟩, ?_⟩
        rw [HF.out]
        refine ⟨A2, C, A3, C - m, by rw [l1, l2], ?_, ?_, by omega, by omega, by omega, by omega⟩
        · rw [l1]; exact HR4.out
        · rw [l2]; exact HR3.out
      · have HF := Lib.hid (show first xs = none by rw [HFE.out, hg]; simp only [hg2]; rw [if_neg (by rw [hdl]; exact hmn)])
        have G1 := Lib.hid g1; have G2 := Lib.hid g2; have G3 := Lib.hid g3
        have Q1 := Lib.hid q1; have Q2 := Lib.hid q2; have Q3 := Lib.hid q3
        have hgm : (((n - (i + j) : Nat) : Int) < (m : Int)) := by omega
        clear hR hc hm hg hg2 g1 g2 g3 q1 q2 q3 HFE hl hr1 hr2 hdl hcast
        generalize hN : n - (i + j) = N at *
        generalize hC : c - (i + j) = C at *
        have hwN : IntKind.u64.wrap (N : Int) = (N : Int) := by rw [IntKind.wrap_u64]; omega
        clear hN hC
        go_enter Try.func47, Try.ntmps47
        go_wp2_with fail
        refine HG.out.mono ?_
        rintro e w1 ⟨h1, rfl⟩
        obtain rfl := h1.form
        clear h1
        rw [G1.out, G2.out, G3.out]
        go_wp2_with fail
        refine (HG2.out _ rfl).mono ?_
        rintro e w1 ⟨h1, rfl⟩
        obtain rfl := h1.form
        clear h1
        rw [Q1.out, Q2.out, Q3.out]
        go_wp2_with fail
        refine bodyPost_ret (v := .tuple #[.int .u64 0, .slice none 0 0, .slice none 0 0, .bool false]) (by simp [results, Try.results47, go_sem]) rfl ⟨⟨0, rfl⟩, by rw [HF.out]⟩
end Go.Proofs.Ytcimcldmkaggnaa
