/- The reference's reader of a value and of a header, walked. -/
import Derived.Test.YtcimcldmkaggnaaHdrRefRdW
import Derived.Test.YtcimcldmkaggnaaHdrHeadW
import Derived.Test.YtcimcldmkaggnaaHdrTab34
namespace Go.Proofs.Ytcimcldmkaggnaa
set_option linter.unusedVariables false
set_option linter.unusedSimpArgs false
open Go.RowKit
open Hd

set_option maxRecDepth 100000 in
set_option maxHeartbeats 1600000 in
theorem refValue (A : Option Addr) (n c : Nat) (xs : List UInt8) (w : World) (B : Nat) (hR : Rd w B A n xs) (hc : n ≤ c) (hn : n ≤ 9223372036854775807) :
    Calls Try.prog 61 #[.slice A n c] w (TknEnds (value xs) B c w) := by
  cases xs with
  | nil =>
    have hn0 : n = 0 := by have := hR.1; simpa using this.symm
    subst hn0
    clear hR
    go_enter Try.func61, Try.ntmps61
    go_wp2_with fail
    go_ret3
    exact tkn_none (q := 0) rfl
  | cons x r =>
    have hl := hR.1
    have hn1 : 0 < n := by rw [← hl]; simp
    obtain ⟨b, o, rfl, hb, hcs⟩ := hR.2 hn1
    have c0 := hcs 0 (by simp)
    rw [Nat.add_zero] at c0
    rw [show (x :: r)[0] = x from rfl] at c0
    have hxl : x.toNat < 256 := x.toNat_lt
    have hn0 : ((n : Int) == 0) = false := beq_eq_false_iff_ne.2 (by omega)
    have HN := Lib.hid (refTaken_7 (some ⟨b, o, none⟩) n c (x :: r) w B hR hc hn)
    clear hR hcs hl
    by_cases hx : x.toNat < 128
    · rw [show value (x :: r) = taken 7 (x :: r) from if_pos hx]
      generalize taken 7 (x :: r) = oo at *
      have hxi : ((128 : Int) ≤ (x.toNat : Int)) = False := eq_false (by omega)
      clear hx
      cases oo with
      | none =>
        go_enter Try.func61, Try.ntmps61
        go_wp2_with fail
        refine HN.out.mono ?_
        rintro e w1 ⟨hw1, rfl⟩
        have HW1 := Lib.hid hw1
        clear hw1
        go_wp2_with fail
        go_ret3
        exact ⟨HW1.out, rfl⟩
      | some p =>
        obtain ⟨s, r2⟩ := p
        go_enter Try.func61, Try.ntmps61
        go_wp2_with fail
        refine HN.out.mono ?_
        rintro e w1 ⟨hw1, A1, c1, rfl, hr⟩
        have HW1 := Lib.hid hw1; have HR := Lib.hid hr
        clear hw1 hr
        go_wp2_with fail
        go_ret3
        exact ⟨HW1.out, A1, c1, rfl, HR.out⟩
    · have HV := Lib.hid (show value (x :: r) = none from if_neg hx)
      have hxi : ((128 : Int) ≤ (x.toNat : Int)) := by omega
      clear hx
      go_enter Try.func61, Try.ntmps61
      go_wp2_with fail
      go_ret3
      exact tkn_none (q := 0) HV.out

/-- a header told, and the rest -/
def NextEnds (o : Option (H × List UInt8)) (B c : Nat) (w : World) (e : Ending) (w' : World) : Prop :=
  Below w.heap.size w w' ∧ match o with
    | none => ∃ hd : H, e = .returned (.tuple #[.agg #[.string hd.1, .string hd.2], .slice none 0 0, .bool false])
    | some (hd, r) => ∃ A1 c1, e = .returned (.tuple #[.agg #[.string hd.1, .string hd.2], .slice A1 r.length c1, .bool true]) ∧ Rd w' B A1 r.length r ∧ r.length ≤ c1 ∧ c1 ≤ c
theorem res49 (tmps : Array Value) (W : World) (a : Nat) (n v : ByteArray) (A : Option Addr) (m c : Nat) (ok : Bool) (h : Two W a n v) (hp : tmps.getD 2 undef = .pointer (some ⟨a, 0, none⟩)) (h3 : tmps.getD 3 undef = .slice A m c) (h4 : tmps.getD 4 undef = .bool ok) : (results Try.f49 tmps).run Try.prog W = .ok (.tuple #[.agg #[.string n, .string v], .slice A m c, .bool ok]) W := by
  obtain ⟨h0, h1, _, _, _⟩ := h
  have hp' : tmps[2]?.getD undef = .pointer (some ⟨a, 0, none⟩) := by simpa using hp
  have h3' : tmps[3]?.getD undef = .slice A m c := by simpa using h3
  have h4' : tmps[4]?.getD undef = .bool ok := by simpa using h4
  simp [results, Try.results49, go_sem, hp', h3', h4', h0, h1]
/-- two stores into the box of a -/
def put2 (W : World) (a : Nat) (n v : ByteArray) : World := (W.setCell ⟨a, 0, none⟩ (.string n)).setCell ⟨a, 1, none⟩ (.string v)
theorem Two.put2 {W : World} {a : Nat} {n v n2 v2 : ByteArray} (h : Two W a n v) : Two (put2 W a n2 v2) a n2 v2 := (h.store0).store1
theorem below_put2 {w W : World} {a : Nat} (h : Below w.heap.size w W) (ha : w.heap.size = a) (q : Nat) (n v : ByteArray) : Below w.heap.size w (put2 (W.drewN q) a n v) := by
  have h2 : Below w.heap.size w (W.drewN q) := ⟨h.os, h.tape, h.output, h.size, h.block⟩
  exact (h2.setCell (by exact Nat.le_of_eq ha) _).setCell (by exact Nat.le_of_eq ha) _
theorem rd_put2 {W : World} {a B : Nat} {A : Option Addr} {n : Nat} {xs : List UInt8} (h : Rd W B A n xs) (ha : B ≤ a) (s v : ByteArray) : Rd (put2 W a s v) B A n xs := h.keep fun p hp =>
  (World.cell?_setCell_other _ ⟨a, 1, none⟩ p _ (fun e => by rw [← e] at hp; exact absurd hp (by show ¬ a < B; omega))).trans (World.cell?_setCell_other _ ⟨a, 0, none⟩ p _ (fun e => by rw [← e] at hp; exact absurd hp (by show ¬ a < B; omega)))
end Go.Proofs.Ytcimcldmkaggnaa
