/- The walk of the law VarintShort. -/
import Derived.Test.YtcimcldmkaggnaaVarLaws
import Derived.Test.YtcimcldmkaggnaaVarMore
namespace Go.Proofs.Ytcimcldmkaggnaa
set_option linter.unusedVariables false
open Go.RowKit
open Va

theorem got_none {xs : List UInt8} (h : get xs = none) : getV xs = 0 ∧ getN xs = 0 ∧ getE xs = 30 := by
  unfold getV getN getE
  rw [h]; exact ⟨rfl, rfl, rfl⟩
theorem got_some {xs : List UInt8} {v n : Nat} (h : get xs = some (v, n)) : getV xs = (v : Nat) ∧ getN xs = (n : Nat) ∧ getE xs = 0 := by
  unfold getV getN getE
  rw [h]; exact ⟨rfl, rfl, rfl⟩

set_option maxRecDepth 100000 in
set_option maxHeartbeats 1600000 in
theorem walk_VarintShort (A : Option Addr) (n c : Nat) (xs : List UInt8) (k : Int) (w : World) (hs : SliceIn w A n c xs) (wk : (Lit.int .i64 k).wf = true) :
    Calls Try.prog 8 #[.slice A n c, .int .i64 k] w fun e w' => e = .returned (.bool true) ∧ Below w.heap.size w w' := by
  obtain ⟨hk0, hk1⟩ := bounds_i64 wk
  obtain ⟨hr, hc, hm, hnone⟩ := hs
  clear wk
  have hnm : n ≤ 9223372036854775807 := by unfold maxLen at hm; omega
  have HR := Lib.hid hr; clear hr hnone
  have HC := Lib.hid (And.intro hc hm); clear hc hm
  rcases hg : get xs with _ | ⟨v, m⟩
  · obtain ⟨g1, g2, g3⟩ := got_none hg
    have hlt : n < 8 := by have := get_none_short hg; have := HR.out.1; omega
    have G1 := Lib.hid g1; have G2 := Lib.hid g2; have G3 := Lib.hid g3
    clear g1 g2 g3 hg
    go_enter Try.func8, Try.ntmps8
    go_wp2_with fail
    refine (awake03_any _).mono ?_
    rintro e w1 ⟨rfl, hb1⟩
    have HR1 := Lib.hid (HR.out.after hb1); have HB1 := Lib.hid hb1; clear hb1
    go_wp2_with fail
    refine (get_any A n c xs _ HR1.out HC.out.1 HC.out.2).mono ?_
    rintro e w2 ⟨h2, rfl⟩
    obtain rfl := h2.form
    clear h2
    rw [G1.out, G2.out, G3.out]
    go_wp2_with fail
    go_ret
    exact ⟨rfl, HB1.out⟩
  · obtain ⟨g1, g2, g3⟩ := got_some hg
    obtain ⟨p1, p2, p3, p4, p5, p6, p7⟩ := get_some hg
    obtain ⟨q1, q2, q3⟩ := got_some p7
    have hl := HR.out.1
    rw [hl] at p3
    obtain ⟨V, hV⟩ : ∃ V : Int, V = (v : Nat) := ⟨_, rfl⟩
    have hV0 : 0 ≤ V := by omega
    have hV1 : V ≤ 4611686018427387903 := by omega
    have hVV : V ≤ 18446744073709551615 := by omega
    have hsV : size V.toNat = size v := by rw [hV]; rfl
    rw [← hV] at g1 q1
    have S1 := Lib.hid (fun w => size_any V hV0 hVV w)
    have hsz : size V.toNat ≤ m := by rw [hsV]; exact p5
    generalize size V.toNat = s at S1 hsz
    have G1 := Lib.hid g1; have G2 := Lib.hid g2; have G3 := Lib.hid g3
    have Q1 := Lib.hid q1; have Q2 := Lib.hid q2; have Q3 := Lib.hid q3
    have P6 := Lib.hid p6
    have hV3 : ¬ (4611686018427387903 < V) := by omega
    obtain ⟨b, o, rfl, -, -⟩ := HR.out.2 (by omega)
    have HS2 := Lib.hid (fun w => run_head w b o n c (m : Nat) m rfl (by have := HC.out.1; omega))
    clear g1 g2 g3 q1 q2 q3 p6 p7 p4 hV1 hVV hsV hg hl hV p5
    have hm0 : (0 : Int) < (m : Nat) := by omega
    have hcn := HC.out.1
    have k1 : (((m : Nat) : Int) < 1) = False := eq_false (by omega)
    have k2 : ((8 : Int) < ((m : Nat) : Int)) = False := eq_false (by omega)
    have k3 : (((n : Nat) : Int) < ((m : Nat) : Int)) = False := eq_false (by omega)
    have k4 : ((4611686018427387903 : Int) < V) = False := eq_false (by omega)
    have P3 := Lib.hid p3; clear p2 hV3
    by_cases hk : k < 0
    · have e : -((k + 1).tmod (m : Nat)) = (-(k + 1)) % (m : Nat) := by rw [← Int.neg_tmod, Int.tmod_eq_emod_of_nonneg (by omega)]
      have e1 := Int.emod_nonneg (-(k + 1)) (show ((m : Nat) : Int) ≠ 0 by omega)
      have e2 := Int.emod_lt_of_pos (-(k + 1)) hm0
      obtain ⟨r, hr⟩ : ∃ r, r = -((k + 1).tmod (m : Nat)) := ⟨_, rfl⟩
      have r1 : 0 ≤ -((k + 1).tmod (m : Nat)) := by omega
      have r2 : -((k + 1).tmod (m : Nat)) ≤ (c : Nat) := by omega
      have r3 : (-((k + 1).tmod (m : Nat))).toNat < m := by omega
      have R3 := Lib.hid r3
      clear e e1 e2 hr r r3 hm0 hcn p3
      go_enter Try.func8, Try.ntmps8
      go_wp2_with fail
      refine (awake03_any _).mono ?_
      rintro e w1 ⟨rfl, hb1⟩
      have HR1 := Lib.hid (HR.out.after hb1); have HB1 := Lib.hid hb1; clear hb1
      go_wp2_with fail
      refine (get_any _ n c xs _ HR1.out HC.out.1 HC.out.2).mono ?_
      rintro e w2 ⟨h2, rfl⟩
      obtain rfl := h2.form
      clear h2
      rw [G1.out, G2.out, G3.out]
      go_wp2_with fail
      obtain ⟨u1, u2, u3⟩ := got_none (P6.out _ R3.out)
      refine (get_any _ (-((k + 1).tmod (m : Nat))).toNat c (xs.take (-((k + 1).tmod (m : Nat))).toNat) _ (HR1.out.head_ (by have := R3.out; have := P3.out; omega)) (by have := R3.out; have := P3.out; have := HC.out.1; omega) HC.out.2).mono ?_
      rintro e w3 ⟨h3, rfl⟩
      obtain rfl := h3.form
      clear h3
      rw [u1, u2, u3]
      clear u1 u2 u3 r1 r2
      have hsl := HS2.out
      go_wp2_with fail
      refine (get_any _ m c _ _ (HR1.out.head_ P3.out) (by have := HC.out.1; have := P3.out; omega) HC.out.2).mono ?_
      rintro e w4 ⟨h4, rfl⟩
      obtain rfl := h4.form
      clear h4
      rw [Q1.out, Q2.out, Q3.out]
      go_wp2_with fail
      refine (S1.out _).mono ?_
      rintro e w5 ⟨rfl, hb5⟩
      have HB5 := Lib.hid (below_then HB1.out hb5); clear hb5
      go_wp2_with fail
      go_ret
      exact ⟨rfl, HB5.out⟩
    · have e1 := Int.emod_nonneg k (show ((m : Nat) : Int) ≠ 0 by omega)
      have e2 := Int.emod_lt_of_pos k hm0
      have r1 : 0 ≤ k % (m : Nat) := e1
      have r2 : k % (m : Nat) ≤ (c : Nat) := by omega
      have r3 : (k % (m : Nat)).toNat < m := by omega
      have R3 := Lib.hid r3
      clear e1 e2 r3 hm0 hcn p3
      go_enter Try.func8, Try.ntmps8
      go_wp2_with fail
      refine (awake03_any _).mono ?_
      rintro e w1 ⟨rfl, hb1⟩
      have HR1 := Lib.hid (HR.out.after hb1); have HB1 := Lib.hid hb1; clear hb1
      go_wp2_with fail
      refine (get_any _ n c xs _ HR1.out HC.out.1 HC.out.2).mono ?_
      rintro e w2 ⟨h2, rfl⟩
      obtain rfl := h2.form
      clear h2
      rw [G1.out, G2.out, G3.out]
      go_wp2_with fail
      obtain ⟨u1, u2, u3⟩ := got_none (P6.out _ R3.out)
      refine (get_any _ (k % (m : Nat)).toNat c (xs.take (k % (m : Nat)).toNat) _ (HR1.out.head_ (by have := R3.out; have := P3.out; omega)) (by have := R3.out; have := P3.out; have := HC.out.1; omega) HC.out.2).mono ?_
      rintro e w3 ⟨h3, rfl⟩
      obtain rfl := h3.form
      clear h3
      rw [u1, u2, u3]
      clear u1 u2 u3 r1 r2
      have hsl := HS2.out
      go_wp2_with fail
      refine (get_any _ m c _ _ (HR1.out.head_ P3.out) (by have := HC.out.1; have := P3.out; omega) HC.out.2).mono ?_
      rintro e w4 ⟨h4, rfl⟩
      obtain rfl := h4.form
      clear h4
      rw [Q1.out, Q2.out, Q3.out]
      go_wp2_with fail
      refine (S1.out _).mono ?_
      rintro e w5 ⟨rfl, hb5⟩
      have HB5 := Lib.hid (below_then HB1.out hb5); clear hb5
      go_wp2_with fail
      go_ret
      exact ⟨rfl, HB5.out⟩
end Go.Proofs.Ytcimcldmkaggnaa
