/- The reference's reader of numbers and texts, walked. -/
import Derived.Test.YtcimcldmkaggnaaHdrReadW
import Derived.Test.YtcimcldmkaggnaaHdrFrmW
namespace Go.Proofs.Ytcimcldmkaggnaa
set_option linter.unusedVariables false
set_option linter.unusedSimpArgs false
open Go.RowKit
open Hd

/-- a number told, and the rest -/
def CntEnds (o : Option (Nat × List UInt8)) (B c : Nat) (w : World) (e : Ending) (w' : World) : Prop :=
  (∃ q, w' = w.drewN q) ∧ match o with
    | none => e = .returned (.tuple #[.int .i64 0, .slice none 0 0, .bool false])
    | some (v, r) => ∃ A1 c1, e = .returned (.tuple #[.int .i64 (v : Nat), .slice A1 r.length c1, .bool true]) ∧ Rd w' B A1 r.length r ∧ r.length ≤ c1 ∧ c1 ≤ c
theorem cnt_none {o : Option (Nat × List UInt8)} {B c q : Nat} {w : World} (h : o = none) : CntEnds o B c w (.returned (.tuple #[.int .i64 0, .slice none 0 0, .bool false])) (w.drewN q) := by
  subst h; exact ⟨⟨q, rfl⟩, rfl⟩
theorem cnt_some {o : Option (Nat × List UInt8)} {B c q v m c1 : Nat} {z : Int} {w : World} {A1 : Option Addr} {r : List UInt8} (h : o = some (v, r)) (hz : z = (v : Int)) (hr : Rd w B A1 m r) (h1 : m ≤ c1) (h2 : c1 ≤ c) : CntEnds o B c w (.returned (.tuple #[.int .i64 z, .slice A1 m c1, .bool true])) (w.drewN q) := by
  subst h; subst hz
  have hl := hr.1
  subst hl
  exact ⟨⟨q, rfl⟩, A1, c1, rfl, hr, h1, h2⟩

set_option maxRecDepth 100000 in
set_option maxHeartbeats 1600000 in
theorem refCount_3 (A : Option Addr) (n c : Nat) (xs : List UInt8) (w : World) (B : Nat) (hR : Rd w B A n xs) (hc : n ≤ c) (hn : n ≤ 9223372036854775807) :
    Calls Try.prog 59 #[.slice A n c, .int .i64 3] w (CntEnds (count 3 xs) B c w) := by
  cases xs with
  | nil =>
    have hn0 : n = 0 := by have := hR.1; simpa using this.symm
    subst hn0
    clear hR
    go_enter Try.func59, Try.ntmps59
    go_wp2_with fail
    go_ret3
    exact cnt_none (q := 0) rfl
  | cons x r =>
    have hl := hR.1
    have hn1 : 0 < n := by rw [← hl]; simp
    have hrl : r.length = n - 1 := by rw [← hl]; simp
    obtain ⟨b, o, rfl, hb, hcs⟩ := hR.2 hn1
    have c0 := hcs 0 (by simp)
    rw [Nat.add_zero] at c0
    rw [show (x :: r)[0] = x from rfl] at c0
    have hxl : x.toNat < 256 := x.toNat_lt
    have HC := Lib.hid (count_cons 3 x r)
    have hn0 : ((n : Int) == 0) = false := beq_eq_false_iff_ne.2 (by omega)
    obtain ⟨A1, hs1, hr1⟩ := tail_exists .i64 w B (some ⟨b, o, none⟩) n c 1 (x :: r) hR (by omega) hc
    have hs1 : ∀ w2, (Instr.slice 24 (.slice (some ⟨b, o, none⟩) n c) (some (.int .i64 1)) none none).run Try.prog w2 = .ok (.slice A1 (n - 1) (c - 1)) w2 := hs1
    have HR := Lib.hid hR; have HR1 := Lib.hid hr1; have HCS := Lib.hid hcs
    clear hR hr1 hcs hl
    by_cases hx : x.toNat % 8 < 7
    · have HV := Lib.hid (show count 3 (x :: r) = some (x.toNat % 8, r) from HC.out.trans (if_pos hx))
      have hxi : (x.toNat : Int) % 8 = ((x.toNat % 8 : Nat) : Int) := by omega
      have hxm : ((x.toNat % 8 : Nat) : Int) < 7 := by omega
      generalize x.toNat % 8 = v at *
      clear HC hx
      go_enter Try.func59, Try.ntmps59
      go_wp2_with fail
      go_quiet (fail)
      go_wp2_with fail
      go_ret3
      exact cnt_some HV.out (by first | rfl | exact hxi | omega) HR1.out (by omega) (by omega)
    · have HV := Lib.hid (show count 3 (x :: r) = cnt0 7 r from HC.out.trans (if_neg hx))
      have hxi : (x.toNat : Int) % 8 = 7 := by have := Nat.mod_lt x.toNat (show 0 < 8 by decide); omega
      clear HC hx
      go_enter Try.func59, Try.ntmps59
      go_wp2_with fail
      go_loopw [8, 9, 10] (fun s8 s9 s10 wr => wr = w ∧ ((s8 = .int .i64 7 ∧ s9 = .int .i64 1 ∧ s10 = .int .i64 1) ∨ (∃ (y : UInt8) (r2 : List UInt8), r = y :: r2 ∧ 128 ≤ y.toNat ∧ s8 = .int .i64 ((7 + y.toNat % 128 : Nat) : Int) ∧ s9 = .int .i64 128 ∧ s10 = .int .i64 2) ∨ (count 3 (x :: r) = none ∧ ∃ n3 : Nat, n3 ≤ 100000 ∧ s8 = .int .i64 (n3 : Nat) ∧ s9 = .int .i64 16384 ∧ s10 = .int .i64 3))) (fun _ _ s10 _ => 3 - (intOf s10).toNat)
      case atStart => exact ⟨by trivial, .inl ⟨by first | rfl | exact congrArg (Value.int .i64) hxi, rfl, rfl⟩⟩
      case round =>
        obtain ⟨rfl, hst⟩ := hrel
        rcases hst with ⟨rfl, rfl, rfl⟩ | ⟨y, r2, hr2, hy, rfl, rfl, rfl⟩ | ⟨hno, n3, hn3, rfl, rfl, rfl⟩
        · cases r with
          | nil =>
            have hn2 : ((1 : Int) < (n : Int)) = False := eq_false (by simp at hrl; omega)
            have HNO := Lib.hid (show count 3 [x] = none from HV.out)
            clear hrl hs1
            go_wp2_with fail
            go_ret3
            exact cnt_none (q := 0) HNO.out
          | cons y r2 =>
            have hn2 : ((1 : Int) < (n : Int)) := by simp at hrl; omega
            have c1 := HCS.out 1 (by simp)
            rw [show (x :: y :: r2)[1] = y from rfl] at c1
            have hyl : y.toNat < 256 := y.toNat_lt
            have hym : (y.toNat : Int) % 128 = ((y.toNat % 128 : Nat) : Int) := by omega
            have hyb : y.toNat % 128 < 128 := Nat.mod_lt _ (by omega)
            obtain ⟨A2, hs2, hr2⟩ := tail_exists .i64 wr B (some ⟨b, o, none⟩) n c 2 (x :: y :: r2) HR.out (by omega) hc
            have hs2 : ∀ w2, (Instr.slice 24 (.slice (some ⟨b, o, none⟩) n c) (some (.int .i64 2)) none none).run Try.prog w2 = .ok (.slice A2 (n - 2) (c - 2)) w2 := hs2
            have HR2 := Lib.hid hr2
            clear hr2 hrl hs1
            by_cases hy : y.toNat < 128
            · have hyi : ((y.toNat : Int) < 128) := by omega
              have HVV := Lib.hid (show count 3 (x :: y :: r2) = some (7 + y.toNat % 128, r2) from HV.out.trans ((if_pos hy).trans (by rw [Nat.mod_eq_of_lt hy])))
              generalize y.toNat % 128 = y7 at *
              clear hy
              go_wp2_with fail
              go_quiet (fail)
              go_wp2_with fail
              go_ret3
              exact cnt_some HVV.out (by first | rfl | omega) HR2.out (by omega) (by omega)
            · have hyi : ((y.toNat : Int) < 128) = False := eq_false (by omega)
              have HY := Lib.hid (show 128 ≤ y.toNat by omega)
              obtain ⟨y7, hy7⟩ : ∃ y7, y.toNat % 128 = y7 := ⟨_, rfl⟩
              rw [hy7] at hym hyb
              have HY7 := Lib.hid hy7
              clear hy hs2 hy7
              go_wp2_with fail
              go_roundw
              case rel => exact ⟨by trivial, .inr (.inl ⟨y, r2, rfl, HY.out, by rw [HY7.out]; first | rfl | go_num | (congr 1; omega), rfl, rfl⟩)⟩
              case measure => simp [intOf]
        · subst hr2
          have HV0 := Lib.hid (show count 3 (x :: y :: r2) = cnt1 (7 + y.toNat % 128) r2 from HV.out.trans (if_neg (by omega)))
          have hyb : y.toNat % 128 < 128 := Nat.mod_lt _ (by omega)
          generalize y.toNat % 128 = y7 at *
          cases r2 with
          | nil =>
            have hn2 : ((2 : Int) < (n : Int)) = False := eq_false (by simp at hrl; omega)
            have HNO := Lib.hid (show count 3 [x, y] = none from HV0.out)
            clear hrl hs1 hy
            go_wp2_with fail
            go_ret3
            exact cnt_none (q := 0) HNO.out
          | cons z r3 =>
            have hn2 : ((2 : Int) < (n : Int)) := by simp at hrl; omega
            have c2 := HCS.out 2 (by simp)
            rw [show (x :: y :: z :: r3)[2] = z from rfl] at c2
            have hzl : z.toNat < 256 := z.toNat_lt
            have hzm : (z.toNat : Int) % 128 = ((z.toNat % 128 : Nat) : Int) := by omega
            have hzb : z.toNat % 128 < 128 := Nat.mod_lt _ (by omega)
            obtain ⟨A3, hs3, hr3⟩ := tail_exists .i64 wr B (some ⟨b, o, none⟩) n c 3 (x :: y :: z :: r3) HR.out (by omega) hc
            have hs3 : ∀ w2, (Instr.slice 24 (.slice (some ⟨b, o, none⟩) n c) (some (.int .i64 3)) none none).run Try.prog w2 = .ok (.slice A3 (n - 3) (c - 3)) w2 := hs3
            have HR3 := Lib.hid hr3
            clear hr3 hrl hs1 hy
            by_cases hz : z.toNat < 128
            · have hzi : ((z.toNat : Int) < 128) := by omega
              have HVV := Lib.hid (show count 3 (x :: y :: z :: r3) = some (7 + y7 + z.toNat % 128 * 128, r3) from HV0.out.trans ((if_pos hz).trans (by rw [Nat.mod_eq_of_lt hz])))
              generalize z.toNat % 128 = z7 at *
              clear hz
              go_wp2_with fail
              go_quiet (fail)
              go_wp2_with fail
              go_ret3
              exact cnt_some HVV.out (by first | rfl | omega) HR3.out (by omega) (by omega)
            · have hzi : ((z.toNat : Int) < 128) = False := eq_false (by omega)
              have HNO := Lib.hid (show count 3 (x :: y :: z :: r3) = none from HV0.out.trans (if_neg hz))
              generalize z.toNat % 128 = z7 at *
              clear hz hs3
              go_wp2_with fail
              go_roundw
              case rel => exact ⟨by trivial, .inr (.inr ⟨HNO.out, 7 + y7 + z7 * 128, by omega, by go_num, rfl, rfl⟩)⟩
              case measure => simp [intOf]
        · have HNO := Lib.hid hno
          clear hno hs1
          go_wp2_with fail
          go_ret3
          exact cnt_none (q := 0) HNO.out

set_option maxRecDepth 100000 in
set_option maxHeartbeats 1600000 in
theorem refCount_4 (A : Option Addr) (n c : Nat) (xs : List UInt8) (w : World) (B : Nat) (hR : Rd w B A n xs) (hc : n ≤ c) (hn : n ≤ 9223372036854775807) :
    Calls Try.prog 59 #[.slice A n c, .int .i64 4] w (CntEnds (count 4 xs) B c w) := by
  cases xs with
  | nil =>
    have hn0 : n = 0 := by have := hR.1; simpa using this.symm
    subst hn0
    clear hR
    go_enter Try.func59, Try.ntmps59
    go_wp2_with fail
    go_ret3
    exact cnt_none (q := 0) rfl
  | cons x r =>
    have hl := hR.1
    have hn1 : 0 < n := by rw [← hl]; simp
    have hrl : r.length = n - 1 := by rw [← hl]; simp
    obtain ⟨b, o, rfl, hb, hcs⟩ := hR.2 hn1
    have c0 := hcs 0 (by simp)
    rw [Nat.add_zero] at c0
    rw [show (x :: r)[0] = x from rfl] at c0
    have hxl : x.toNat < 256 := x.toNat_lt
    have HC := Lib.hid (count_cons 4 x r)
    have hn0 : ((n : Int) == 0) = false := beq_eq_false_iff_ne.2 (by omega)
    obtain ⟨A1, hs1, hr1⟩ := tail_exists .i64 w B (some ⟨b, o, none⟩) n c 1 (x :: r) hR (by omega) hc
    have hs1 : ∀ w2, (Instr.slice 24 (.slice (some ⟨b, o, none⟩) n c) (some (.int .i64 1)) none none).run Try.prog w2 = .ok (.slice A1 (n - 1) (c - 1)) w2 := hs1
    have HR := Lib.hid hR; have HR1 := Lib.hid hr1; have HCS := Lib.hid hcs
    clear hR hr1 hcs hl
    by_cases hx : x.toNat % 16 < 15
    · have HV := Lib.hid (show count 4 (x :: r) = some (x.toNat % 16, r) from HC.out.trans (if_pos hx))
      have hxi : (x.toNat : Int) % 16 = ((x.toNat % 16 : Nat) : Int) := by omega
      have hxm : ((x.toNat % 16 : Nat) : Int) < 15 := by omega
      generalize x.toNat % 16 = v at *
      clear HC hx
      go_enter Try.func59, Try.ntmps59
      go_wp2_with fail
      go_quiet (fail)
      go_wp2_with fail
      go_ret3
      exact cnt_some HV.out (by first | rfl | exact hxi | omega) HR1.out (by omega) (by omega)
    · have HV := Lib.hid (show count 4 (x :: r) = cnt0 15 r from HC.out.trans (if_neg hx))
      have hxi : (x.toNat : Int) % 16 = 15 := by have := Nat.mod_lt x.toNat (show 0 < 16 by decide); omega
      clear HC hx
      go_enter Try.func59, Try.ntmps59
      go_wp2_with fail
      go_loopw [8, 9, 10] (fun s8 s9 s10 wr => wr = w ∧ ((s8 = .int .i64 15 ∧ s9 = .int .i64 1 ∧ s10 = .int .i64 1) ∨ (∃ (y : UInt8) (r2 : List UInt8), r = y :: r2 ∧ 128 ≤ y.toNat ∧ s8 = .int .i64 ((15 + y.toNat % 128 : Nat) : Int) ∧ s9 = .int .i64 128 ∧ s10 = .int .i64 2) ∨ (count 4 (x :: r) = none ∧ ∃ n3 : Nat, n3 ≤ 100000 ∧ s8 = .int .i64 (n3 : Nat) ∧ s9 = .int .i64 16384 ∧ s10 = .int .i64 3))) (fun _ _ s10 _ => 3 - (intOf s10).toNat)
      case atStart => exact ⟨by trivial, .inl ⟨by first | rfl | exact congrArg (Value.int .i64) hxi, rfl, rfl⟩⟩
      case round =>
        obtain ⟨rfl, hst⟩ := hrel
        rcases hst with ⟨rfl, rfl, rfl⟩ | ⟨y, r2, hr2, hy, rfl, rfl, rfl⟩ | ⟨hno, n3, hn3, rfl, rfl, rfl⟩
        · cases r with
          | nil =>
            have hn2 : ((1 : Int) < (n : Int)) = False := eq_false (by simp at hrl; omega)
            have HNO := Lib.hid (show count 4 [x] = none from HV.out)
            clear hrl hs1
            go_wp2_with fail
            go_ret3
            exact cnt_none (q := 0) HNO.out
          | cons y r2 =>
            have hn2 : ((1 : Int) < (n : Int)) := by simp at hrl; omega
            have c1 := HCS.out 1 (by simp)
            rw [show (x :: y :: r2)[1] = y from rfl] at c1
            have hyl : y.toNat < 256 := y.toNat_lt
            have hym : (y.toNat : Int) % 128 = ((y.toNat % 128 : Nat) : Int) := by omega
            have hyb : y.toNat % 128 < 128 := Nat.mod_lt _ (by omega)
            obtain ⟨A2, hs2, hr2⟩ := tail_exists .i64 wr B (some ⟨b, o, none⟩) n c 2 (x :: y :: r2) HR.out (by omega) hc
            have hs2 : ∀ w2, (Instr.slice 24 (.slice (some ⟨b, o, none⟩) n c) (some (.int .i64 2)) none none).run Try.prog w2 = .ok (.slice A2 (n - 2) (c - 2)) w2 := hs2
            have HR2 := Lib.hid hr2
            clear hr2 hrl hs1
            by_cases hy : y.toNat < 128
            · have hyi : ((y.toNat : Int) < 128) := by omega
              have HVV := Lib.hid (show count 4 (x :: y :: r2) = some (15 + y.toNat % 128, r2) from HV.out.trans ((if_pos hy).trans (by rw [Nat.mod_eq_of_lt hy])))
              generalize y.toNat % 128 = y7 at *
              clear hy
              go_wp2_with fail
              go_quiet (fail)
              go_wp2_with fail
              go_ret3
              exact cnt_some HVV.out (by first | rfl | omega) HR2.out (by omega) (by omega)
            · have hyi : ((y.toNat : Int) < 128) = False := eq_false (by omega)
              have HY := Lib.hid (show 128 ≤ y.toNat by omega)
              obtain ⟨y7, hy7⟩ : ∃ y7, y.toNat % 128 = y7 := ⟨_, rfl⟩
              rw [hy7] at hym hyb
              have HY7 := Lib.hid hy7
              clear hy hs2 hy7
              go_wp2_with fail
              go_roundw
              case rel => exact ⟨by trivial, .inr (.inl ⟨y, r2, rfl, HY.out, by rw [HY7.out]; first | rfl | go_num | (congr 1; omega), rfl, rfl⟩)⟩
              case measure => simp [intOf]
        · subst hr2
          have HV0 := Lib.hid (show count 4 (x :: y :: r2) = cnt1 (15 + y.toNat % 128) r2 from HV.out.trans (if_neg (by omega)))
          have hyb : y.toNat % 128 < 128 := Nat.mod_lt _ (by omega)
          generalize y.toNat % 128 = y7 at *
          cases r2 with
          | nil =>
            have hn2 : ((2 : Int) < (n : Int)) = False := eq_false (by simp at hrl; omega)
            have HNO := Lib.hid (show count 4 [x, y] = none from HV0.out)
            clear hrl hs1 hy
            go_wp2_with fail
            go_ret3
            exact cnt_none (q := 0) HNO.out
          | cons z r3 =>
            have hn2 : ((2 : Int) < (n : Int)) := by simp at hrl; omega
            have c2 := HCS.out 2 (by simp)
            rw [show (x :: y :: z :: r3)[2] = z from rfl] at c2
            have hzl : z.toNat < 256 := z.toNat_lt
            have hzm : (z.toNat : Int) % 128 = ((z.toNat % 128 : Nat) : Int) := by omega
            have hzb : z.toNat % 128 < 128 := Nat.mod_lt _ (by omega)
            obtain ⟨A3, hs3, hr3⟩ := tail_exists .i64 wr B (some ⟨b, o, none⟩) n c 3 (x :: y :: z :: r3) HR.out (by omega) hc
            have hs3 : ∀ w2, (Instr.slice 24 (.slice (some ⟨b, o, none⟩) n c) (some (.int .i64 3)) none none).run Try.prog w2 = .ok (.slice A3 (n - 3) (c - 3)) w2 := hs3
            have HR3 := Lib.hid hr3
            clear hr3 hrl hs1 hy
            by_cases hz : z.toNat < 128
            · have hzi : ((z.toNat : Int) < 128) := by omega
              have HVV := Lib.hid (show count 4 (x :: y :: z :: r3) = some (15 + y7 + z.toNat % 128 * 128, r3) from HV0.out.trans ((if_pos hz).trans (by rw [Nat.mod_eq_of_lt hz])))
              generalize z.toNat % 128 = z7 at *
              clear hz
              go_wp2_with fail
              go_quiet (fail)
              go_wp2_with fail
              go_ret3
              exact cnt_some HVV.out (by first | rfl | omega) HR3.out (by omega) (by omega)
            · have hzi : ((z.toNat : Int) < 128) = False := eq_false (by omega)
              have HNO := Lib.hid (show count 4 (x :: y :: z :: r3) = none from HV0.out.trans (if_neg hz))
              generalize z.toNat % 128 = z7 at *
              clear hz hs3
              go_wp2_with fail
              go_roundw
              case rel => exact ⟨by trivial, .inr (.inr ⟨HNO.out, 15 + y7 + z7 * 128, by omega, by go_num, rfl, rfl⟩)⟩
              case measure => simp [intOf]
        · have HNO := Lib.hid hno
          clear hno hs1
          go_wp2_with fail
          go_ret3
          exact cnt_none (q := 0) HNO.out

set_option maxRecDepth 100000 in
set_option maxHeartbeats 1600000 in
theorem refCount_6 (A : Option Addr) (n c : Nat) (xs : List UInt8) (w : World) (B : Nat) (hR : Rd w B A n xs) (hc : n ≤ c) (hn : n ≤ 9223372036854775807) :
    Calls Try.prog 59 #[.slice A n c, .int .i64 6] w (CntEnds (count 6 xs) B c w) := by
  cases xs with
  | nil =>
    have hn0 : n = 0 := by have := hR.1; simpa using this.symm
    subst hn0
    clear hR
    go_enter Try.func59, Try.ntmps59
    go_wp2_with fail
    go_ret3
    exact cnt_none (q := 0) rfl
  | cons x r =>
    have hl := hR.1
    have hn1 : 0 < n := by rw [← hl]; simp
    have hrl : r.length = n - 1 := by rw [← hl]; simp
    obtain ⟨b, o, rfl, hb, hcs⟩ := hR.2 hn1
    have c0 := hcs 0 (by simp)
    rw [Nat.add_zero] at c0
    rw [show (x :: r)[0] = x from rfl] at c0
    have hxl : x.toNat < 256 := x.toNat_lt
    have HC := Lib.hid (count_cons 6 x r)
    have hn0 : ((n : Int) == 0) = false := beq_eq_false_iff_ne.2 (by omega)
    obtain ⟨A1, hs1, hr1⟩ := tail_exists .i64 w B (some ⟨b, o, none⟩) n c 1 (x :: r) hR (by omega) hc
    have hs1 : ∀ w2, (Instr.slice 24 (.slice (some ⟨b, o, none⟩) n c) (some (.int .i64 1)) none none).run Try.prog w2 = .ok (.slice A1 (n - 1) (c - 1)) w2 := hs1
    have HR := Lib.hid hR; have HR1 := Lib.hid hr1; have HCS := Lib.hid hcs
    clear hR hr1 hcs hl
    by_cases hx : x.toNat % 64 < 63
    · have HV := Lib.hid (show count 6 (x :: r) = some (x.toNat % 64, r) from HC.out.trans (if_pos hx))
      have hxi : (x.toNat : Int) % 64 = ((x.toNat % 64 : Nat) : Int) := by omega
      have hxm : ((x.toNat % 64 : Nat) : Int) < 63 := by omega
      generalize x.toNat % 64 = v at *
      clear HC hx
      go_enter Try.func59, Try.ntmps59
      go_wp2_with fail
      go_quiet (fail)
      go_wp2_with fail
      go_ret3
      exact cnt_some HV.out (by first | rfl | exact hxi | omega) HR1.out (by omega) (by omega)
    · have HV := Lib.hid (show count 6 (x :: r) = cnt0 63 r from HC.out.trans (if_neg hx))
      have hxi : (x.toNat : Int) % 64 = 63 := by have := Nat.mod_lt x.toNat (show 0 < 64 by decide); omega
      clear HC hx
      go_enter Try.func59, Try.ntmps59
      go_wp2_with fail
      go_loopw [8, 9, 10] (fun s8 s9 s10 wr => wr = w ∧ ((s8 = .int .i64 63 ∧ s9 = .int .i64 1 ∧ s10 = .int .i64 1) ∨ (∃ (y : UInt8) (r2 : List UInt8), r = y :: r2 ∧ 128 ≤ y.toNat ∧ s8 = .int .i64 ((63 + y.toNat % 128 : Nat) : Int) ∧ s9 = .int .i64 128 ∧ s10 = .int .i64 2) ∨ (count 6 (x :: r) = none ∧ ∃ n3 : Nat, n3 ≤ 100000 ∧ s8 = .int .i64 (n3 : Nat) ∧ s9 = .int .i64 16384 ∧ s10 = .int .i64 3))) (fun _ _ s10 _ => 3 - (intOf s10).toNat)
      case atStart => exact ⟨by trivial, .inl ⟨by first | rfl | exact congrArg (Value.int .i64) hxi, rfl, rfl⟩⟩
      case round =>
        obtain ⟨rfl, hst⟩ := hrel
        rcases hst with ⟨rfl, rfl, rfl⟩ | ⟨y, r2, hr2, hy, rfl, rfl, rfl⟩ | ⟨hno, n3, hn3, rfl, rfl, rfl⟩
        · cases r with
          | nil =>
            have hn2 : ((1 : Int) < (n : Int)) = False := eq_false (by simp at hrl; omega)
            have HNO := Lib.hid (show count 6 [x] = none from HV.out)
            clear hrl hs1
            go_wp2_with fail
            go_ret3
            exact cnt_none (q := 0) HNO.out
          | cons y r2 =>
            have hn2 : ((1 : Int) < (n : Int)) := by simp at hrl; omega
            have c1 := HCS.out 1 (by simp)
            rw [show (x :: y :: r2)[1] = y from rfl] at c1
            have hyl : y.toNat < 256 := y.toNat_lt
            have hym : (y.toNat : Int) % 128 = ((y.toNat % 128 : Nat) : Int) := by omega
            have hyb : y.toNat % 128 < 128 := Nat.mod_lt _ (by omega)
            obtain ⟨A2, hs2, hr2⟩ := tail_exists .i64 wr B (some ⟨b, o, none⟩) n c 2 (x :: y :: r2) HR.out (by omega) hc
            have hs2 : ∀ w2, (Instr.slice 24 (.slice (some ⟨b, o, none⟩) n c) (some (.int .i64 2)) none none).run Try.prog w2 = .ok (.slice A2 (n - 2) (c - 2)) w2 := hs2
            have HR2 := Lib.hid hr2
            clear hr2 hrl hs1
            by_cases hy : y.toNat < 128
            · have hyi : ((y.toNat : Int) < 128) := by omega
              have HVV := Lib.hid (show count 6 (x :: y :: r2) = some (63 + y.toNat % 128, r2) from HV.out.trans ((if_pos hy).trans (by rw [Nat.mod_eq_of_lt hy])))
              generalize y.toNat % 128 = y7 at *
              clear hy
              go_wp2_with fail
              go_quiet (fail)
              go_wp2_with fail
              go_ret3
              exact cnt_some HVV.out (by first | rfl | omega) HR2.out (by omega) (by omega)
            · have hyi : ((y.toNat : Int) < 128) = False := eq_false (by omega)
              have HY := Lib.hid (show 128 ≤ y.toNat by omega)
              obtain ⟨y7, hy7⟩ : ∃ y7, y.toNat % 128 = y7 := ⟨_, rfl⟩
              rw [hy7] at hym hyb
              have HY7 := Lib.hid hy7
              clear hy hs2 hy7
              go_wp2_with fail
              go_roundw
              case rel => exact ⟨by trivial, .inr (.inl ⟨y, r2, rfl, HY.out, by rw [HY7.out]; first | rfl | go_num | (congr 1; omega), rfl, rfl⟩)⟩
              case measure => simp [intOf]
        · subst hr2
          have HV0 := Lib.hid (show count 6 (x :: y :: r2) = cnt1 (63 + y.toNat % 128) r2 from HV.out.trans (if_neg (by omega)))
          have hyb : y.toNat % 128 < 128 := Nat.mod_lt _ (by omega)
          generalize y.toNat % 128 = y7 at *
          cases r2 with
          | nil =>
            have hn2 : ((2 : Int) < (n : Int)) = False := eq_false (by simp at hrl; omega)
            have HNO := Lib.hid (show count 6 [x, y] = none from HV0.out)
            clear hrl hs1 hy
            go_wp2_with fail
            go_ret3
            exact cnt_none (q := 0) HNO.out
          | cons z r3 =>
            have hn2 : ((2 : Int) < (n : Int)) := by simp at hrl; omega
            have c2 := HCS.out 2 (by simp)
            rw [show (x :: y :: z :: r3)[2] = z from rfl] at c2
            have hzl : z.toNat < 256 := z.toNat_lt
            have hzm : (z.toNat : Int) % 128 = ((z.toNat % 128 : Nat) : Int) := by omega
            have hzb : z.toNat % 128 < 128 := Nat.mod_lt _ (by omega)
            obtain ⟨A3, hs3, hr3⟩ := tail_exists .i64 wr B (some ⟨b, o, none⟩) n c 3 (x :: y :: z :: r3) HR.out (by omega) hc
            have hs3 : ∀ w2, (Instr.slice 24 (.slice (some ⟨b, o, none⟩) n c) (some (.int .i64 3)) none none).run Try.prog w2 = .ok (.slice A3 (n - 3) (c - 3)) w2 := hs3
            have HR3 := Lib.hid hr3
            clear hr3 hrl hs1 hy
            by_cases hz : z.toNat < 128
            · have hzi : ((z.toNat : Int) < 128) := by omega
              have HVV := Lib.hid (show count 6 (x :: y :: z :: r3) = some (63 + y7 + z.toNat % 128 * 128, r3) from HV0.out.trans ((if_pos hz).trans (by rw [Nat.mod_eq_of_lt hz])))
              generalize z.toNat % 128 = z7 at *
              clear hz
              go_wp2_with fail
              go_quiet (fail)
              go_wp2_with fail
              go_ret3
              exact cnt_some HVV.out (by first | rfl | omega) HR3.out (by omega) (by omega)
            · have hzi : ((z.toNat : Int) < 128) = False := eq_false (by omega)
              have HNO := Lib.hid (show count 6 (x :: y :: z :: r3) = none from HV0.out.trans (if_neg hz))
              generalize z.toNat % 128 = z7 at *
              clear hz hs3
              go_wp2_with fail
              go_roundw
              case rel => exact ⟨by trivial, .inr (.inr ⟨HNO.out, 63 + y7 + z7 * 128, by omega, by go_num, rfl, rfl⟩)⟩
              case measure => simp [intOf]
        · have HNO := Lib.hid hno
          clear hno hs1
          go_wp2_with fail
          go_ret3
          exact cnt_none (q := 0) HNO.out

set_option maxRecDepth 100000 in
set_option maxHeartbeats 1600000 in
theorem refCount_7 (A : Option Addr) (n c : Nat) (xs : List UInt8) (w : World) (B : Nat) (hR : Rd w B A n xs) (hc : n ≤ c) (hn : n ≤ 9223372036854775807) :
    Calls Try.prog 59 #[.slice A n c, .int .i64 7] w (CntEnds (count 7 xs) B c w) := by
  cases xs with
  | nil =>
    have hn0 : n = 0 := by have := hR.1; simpa using this.symm
    subst hn0
    clear hR
    go_enter Try.func59, Try.ntmps59
    go_wp2_with fail
    go_ret3
    exact cnt_none (q := 0) rfl
  | cons x r =>
    have hl := hR.1
    have hn1 : 0 < n := by rw [← hl]; simp
    have hrl : r.length = n - 1 := by rw [← hl]; simp
    obtain ⟨b, o, rfl, hb, hcs⟩ := hR.2 hn1
    have c0 := hcs 0 (by simp)
    rw [Nat.add_zero] at c0
    rw [show (x :: r)[0] = x from rfl] at c0
    have hxl : x.toNat < 256 := x.toNat_lt
    have HC := Lib.hid (count_cons 7 x r)
    have hn0 : ((n : Int) == 0) = false := beq_eq_false_iff_ne.2 (by omega)
    obtain ⟨A1, hs1, hr1⟩ := tail_exists .i64 w B (some ⟨b, o, none⟩) n c 1 (x :: r) hR (by omega) hc
    have hs1 : ∀ w2, (Instr.slice 24 (.slice (some ⟨b, o, none⟩) n c) (some (.int .i64 1)) none none).run Try.prog w2 = .ok (.slice A1 (n - 1) (c - 1)) w2 := hs1
    have HR := Lib.hid hR; have HR1 := Lib.hid hr1; have HCS := Lib.hid hcs
    clear hR hr1 hcs hl
    by_cases hx : x.toNat % 128 < 127
    · have HV := Lib.hid (show count 7 (x :: r) = some (x.toNat % 128, r) from HC.out.trans (if_pos hx))
      have hxi : (x.toNat : Int) % 128 = ((x.toNat % 128 : Nat) : Int) := by omega
      have hxm : ((x.toNat % 128 : Nat) : Int) < 127 := by omega
      generalize x.toNat % 128 = v at *
      clear HC hx
      go_enter Try.func59, Try.ntmps59
      go_wp2_with fail
      go_quiet (fail)
      go_wp2_with fail
      go_ret3
      exact cnt_some HV.out (by first | rfl | exact hxi | omega) HR1.out (by omega) (by omega)
    · have HV := Lib.hid (show count 7 (x :: r) = cnt0 127 r from HC.out.trans (if_neg hx))
      have hxi : (x.toNat : Int) % 128 = 127 := by have := Nat.mod_lt x.toNat (show 0 < 128 by decide); omega
      clear HC hx
      go_enter Try.func59, Try.ntmps59
      go_wp2_with fail
      go_loopw [8, 9, 10] (fun s8 s9 s10 wr => wr = w ∧ ((s8 = .int .i64 127 ∧ s9 = .int .i64 1 ∧ s10 = .int .i64 1) ∨ (∃ (y : UInt8) (r2 : List UInt8), r = y :: r2 ∧ 128 ≤ y.toNat ∧ s8 = .int .i64 ((127 + y.toNat % 128 : Nat) : Int) ∧ s9 = .int .i64 128 ∧ s10 = .int .i64 2) ∨ (count 7 (x :: r) = none ∧ ∃ n3 : Nat, n3 ≤ 100000 ∧ s8 = .int .i64 (n3 : Nat) ∧ s9 = .int .i64 16384 ∧ s10 = .int .i64 3))) (fun _ _ s10 _ => 3 - (intOf s10).toNat)
      case atStart => exact ⟨by trivial, .inl ⟨by first | rfl | exact congrArg (Value.int .i64) hxi, rfl, rfl⟩⟩
      case round =>
        obtain ⟨rfl, hst⟩ := hrel
        rcases hst with ⟨rfl, rfl, rfl⟩ | ⟨y, r2, hr2, hy, rfl, rfl, rfl⟩ | ⟨hno, n3, hn3, rfl, rfl, rfl⟩
        · cases r with
          | nil =>
            have hn2 : ((1 : Int) < (n : Int)) = False := eq_false (by simp at hrl; omega)
            have HNO := Lib.hid (show count 7 [x] = none from HV.out)
            clear hrl hs1
            go_wp2_with fail
            go_ret3
            exact cnt_none (q := 0) HNO.out
          | cons y r2 =>
            have hn2 : ((1 : Int) < (n : Int)) := by simp at hrl; omega
            have c1 := HCS.out 1 (by simp)
            rw [show (x :: y :: r2)[1] = y from rfl] at c1
            have hyl : y.toNat < 256 := y.toNat_lt
            have hym : (y.toNat : Int) % 128 = ((y.toNat % 128 : Nat) : Int) := by omega
            have hyb : y.toNat % 128 < 128 := Nat.mod_lt _ (by omega)
            obtain ⟨A2, hs2, hr2⟩ := tail_exists .i64 wr B (some ⟨b, o, none⟩) n c 2 (x :: y :: r2) HR.out (by omega) hc
            have hs2 : ∀ w2, (Instr.slice 24 (.slice (some ⟨b, o, none⟩) n c) (some (.int .i64 2)) none none).run Try.prog w2 = .ok (.slice A2 (n - 2) (c - 2)) w2 := hs2
            have HR2 := Lib.hid hr2
            clear hr2 hrl hs1
            by_cases hy : y.toNat < 128
            · have hyi : ((y.toNat : Int) < 128) := by omega
              have HVV := Lib.hid (show count 7 (x :: y :: r2) = some (127 + y.toNat % 128, r2) from HV.out.trans ((if_pos hy).trans (by rw [Nat.mod_eq_of_lt hy])))
              generalize y.toNat % 128 = y7 at *
              clear hy
              go_wp2_with fail
              go_quiet (fail)
              go_wp2_with fail
              go_ret3
              exact cnt_some HVV.out (by first | rfl | omega) HR2.out (by omega) (by omega)
            · have hyi : ((y.toNat : Int) < 128) = False := eq_false (by omega)
              have HY := Lib.hid (show 128 ≤ y.toNat by omega)
              obtain ⟨y7, hy7⟩ : ∃ y7, y.toNat % 128 = y7 := ⟨_, rfl⟩
              rw [hy7] at hym hyb
              have HY7 := Lib.hid hy7
              clear hy hs2 hy7
              go_wp2_with fail
              go_roundw
              case rel => exact ⟨by trivial, .inr (.inl ⟨y, r2, rfl, HY.out, by rw [HY7.out]; first | rfl | go_num | (congr 1; omega), rfl, rfl⟩)⟩
              case measure => simp [intOf]
        · subst hr2
          have HV0 := Lib.hid (show count 7 (x :: y :: r2) = cnt1 (127 + y.toNat % 128) r2 from HV.out.trans (if_neg (by omega)))
          have hyb : y.toNat % 128 < 128 := Nat.mod_lt _ (by omega)
          generalize y.toNat % 128 = y7 at *
          cases r2 with
          | nil =>
            have hn2 : ((2 : Int) < (n : Int)) = False := eq_false (by simp at hrl; omega)
            have HNO := Lib.hid (show count 7 [x, y] = none from HV0.out)
            clear hrl hs1 hy
            go_wp2_with fail
            go_ret3
            exact cnt_none (q := 0) HNO.out
          | cons z r3 =>
            have hn2 : ((2 : Int) < (n : Int)) := by simp at hrl; omega
            have c2 := HCS.out 2 (by simp)
            rw [show (x :: y :: z :: r3)[2] = z from rfl] at c2
            have hzl : z.toNat < 256 := z.toNat_lt
            have hzm : (z.toNat : Int) % 128 = ((z.toNat % 128 : Nat) : Int) := by omega
            have hzb : z.toNat % 128 < 128 := Nat.mod_lt _ (by omega)
            obtain ⟨A3, hs3, hr3⟩ := tail_exists .i64 wr B (some ⟨b, o, none⟩) n c 3 (x :: y :: z :: r3) HR.out (by omega) hc
            have hs3 : ∀ w2, (Instr.slice 24 (.slice (some ⟨b, o, none⟩) n c) (some (.int .i64 3)) none none).run Try.prog w2 = .ok (.slice A3 (n - 3) (c - 3)) w2 := hs3
            have HR3 := Lib.hid hr3
            clear hr3 hrl hs1 hy
            by_cases hz : z.toNat < 128
            · have hzi : ((z.toNat : Int) < 128) := by omega
              have HVV := Lib.hid (show count 7 (x :: y :: z :: r3) = some (127 + y7 + z.toNat % 128 * 128, r3) from HV0.out.trans ((if_pos hz).trans (by rw [Nat.mod_eq_of_lt hz])))
              generalize z.toNat % 128 = z7 at *
              clear hz
              go_wp2_with fail
              go_quiet (fail)
              go_wp2_with fail
              go_ret3
              exact cnt_some HVV.out (by first | rfl | omega) HR3.out (by omega) (by omega)
            · have hzi : ((z.toNat : Int) < 128) = False := eq_false (by omega)
              have HNO := Lib.hid (show count 7 (x :: y :: z :: r3) = none from HV0.out.trans (if_neg hz))
              generalize z.toNat % 128 = z7 at *
              clear hz hs3
              go_wp2_with fail
              go_roundw
              case rel => exact ⟨by trivial, .inr (.inr ⟨HNO.out, 127 + y7 + z7 * 128, by omega, by go_num, rfl, rfl⟩)⟩
              case measure => simp [intOf]
        · have HNO := Lib.hid hno
          clear hno hs1
          go_wp2_with fail
          go_ret3
          exact cnt_none (q := 0) HNO.out

/-- a text told, and the rest -/
def TknEnds (o : Option (List UInt8 × List UInt8)) (B c : Nat) (w : World) (e : Ending) (w' : World) : Prop :=
  (∃ q, w' = w.drewN q) ∧ match o with
    | none => e = .returned (.tuple #[.string ⟨#[]⟩, .slice none 0 0, .bool false])
    | some (s, r) => ∃ A1 c1, e = .returned (.tuple #[.string (sl s), .slice A1 r.length c1, .bool true]) ∧ Rd w' B A1 r.length r ∧ r.length ≤ c1 ∧ c1 ≤ c
theorem tkn_none {o : Option (List UInt8 × List UInt8)} {B c q : Nat} {w : World} (h : o = none) : TknEnds o B c w (.returned (.tuple #[.string ⟨#[]⟩, .slice none 0 0, .bool false])) (w.drewN q) := by
  subst h; exact ⟨⟨q, rfl⟩, rfl⟩
theorem tkn_some {o : Option (List UInt8 × List UInt8)} {B c m c1 : Nat} {w w1 : World} {A1 : Option Addr} {s r : List UInt8} {S : ByteArray} (hw : ∃ q, w1 = w.drewN q) (h : o = some (s, r)) (hS : S = sl s) (hr : Rd w1 B A1 m r) (h1 : m ≤ c1) (h2 : c1 ≤ c) : TknEnds o B c w (.returned (.tuple #[.string S, .slice A1 m c1, .bool true])) w1 := by
  subst h; subst hS
  have hl := hr.1
  subst hl
  exact ⟨hw, A1, c1, rfl, hr, h1, h2⟩

set_option maxRecDepth 100000 in
set_option maxHeartbeats 1600000 in
theorem refTaken_3 (A : Option Addr) (n c : Nat) (xs : List UInt8) (w : World) (B : Nat) (hR : Rd w B A n xs) (hc : n ≤ c) (hn : n ≤ 9223372036854775807) :
    Calls Try.prog 60 #[.slice A n c, .int .i64 3] w (TknEnds (taken 3 xs) B c w) := by
  have HN := Lib.hid (refCount_3 A n c xs w B hR hc hn)
  have HT := Lib.hid (taken_eq 3 xs)
  have hxl := hR.1
  clear hR
  cases hcn : count 3 xs with
  | none =>
    have HC := Lib.hid hcn; clear hcn
    have HV := Lib.hid (show taken 3 xs = none by rw [HT.out, HC.out])
    go_enter Try.func60, Try.ntmps60
    go_wp2_with fail
    refine HN.out.mono ?_
    rintro e w1 ⟨⟨q, rfl⟩, he⟩
    rw [HC.out] at he
    subst he
    go_wp2_with fail
    go_ret3
    exact tkn_none HV.out
  | some p =>
    obtain ⟨v, r⟩ := p
    have hcl := count_le hcn
    have hct := count_lt hcn
    have HC := Lib.hid hcn; clear hcn
    by_cases hv : v ≤ r.length
    · have HV := Lib.hid (show taken 3 xs = some (r.take v, r.drop v) by rw [HT.out, HC.out]; simp only [if_pos hv])
      go_enter Try.func60, Try.ntmps60
      go_wp2_with fail
      refine HN.out.mono ?_
      rintro e w1 ⟨⟨q, hw1⟩, he⟩
      rw [HC.out] at he
      obtain ⟨A1, c1, rfl, hr1, l1, l2⟩ := he
      obtain ⟨m, hm⟩ : ∃ m, r.length = m := ⟨_, rfl⟩
      rw [hm] at hr1 l1 hv hct ⊢
      have HW1 := Lib.hid hw1
      have hvm : ((m : Int) < (v : Int)) = False := eq_false (by omega)
      obtain ⟨A2, hs2, hr2⟩ := tail_exists .i64 w1 B A1 m c1 v r hr1 hv l1
      have hs3 := fun w2 => run_headK .i64 w2 A1 m c1 v (by omega)
      have hcv : ∀ w2 : World, (∀ p : Addr, w2.cell? p = w1.cell? p) → (convert 24 9 (.slice A1 v c1)).run Try.prog w2 = .ok (.string ⟨(r.take v).toArray⟩) w2 := fun w2 h2 => ((hr1.head_ hv).keep fun p _ => h2 p).convert (P := Try.prog) c1 24 5 9 Try.underlying24 Try.underlying5 Try.underlying9
      have hcv2 : ∀ j : Nat, (convert 24 9 (.slice A1 v c1)).run Try.prog (w1.drewN j) = .ok (.string ⟨(r.take v).toArray⟩) (w1.drewN j) := fun j => hcv _ fun _ => rfl
      have HR2 := Lib.hid hr2
      have HM := Lib.hid hm
      have HSS := Lib.hid (show (⟨(r.take v).toArray⟩ : ByteArray) = sl (r.take v) from rfl)
      generalize (⟨(r.take v).toArray⟩ : ByteArray) = S at hcv hcv2 HSS
      clear hcv hr1 hw1
      go_wp2_with fail
      go_quiet (fail)
      go_wp2_with fail
      go_ret3
      refine tkn_some ⟨_, by rw [HW1.out, World.drewN_drewN]⟩ HV.out HSS.out (Rd.drewN HR2.out _) (by omega) (by omega)
    · have HV := Lib.hid (show taken 3 xs = none by rw [HT.out, HC.out]; simp only [if_neg hv])
      go_enter Try.func60, Try.ntmps60
      go_wp2_with fail
      refine HN.out.mono ?_
      rintro e w1 ⟨⟨q, rfl⟩, he⟩
      rw [HC.out] at he
      obtain ⟨A1, c1, rfl, hr1, l1, l2⟩ := he
      obtain ⟨m, hm⟩ : ∃ m, r.length = m := ⟨_, rfl⟩
      rw [hm] at hr1 l1 hv hct ⊢
      have hvm : ((m : Int) < (v : Int)) := by omega
      clear hr1
      go_wp2_with fail
      go_ret3
      exact tkn_none HV.out

set_option maxRecDepth 100000 in
set_option maxHeartbeats 1600000 in
theorem refTaken_7 (A : Option Addr) (n c : Nat) (xs : List UInt8) (w : World) (B : Nat) (hR : Rd w B A n xs) (hc : n ≤ c) (hn : n ≤ 9223372036854775807) :
    Calls Try.prog 60 #[.slice A n c, .int .i64 7] w (TknEnds (taken 7 xs) B c w) := by
  have HN := Lib.hid (refCount_7 A n c xs w B hR hc hn)
  have HT := Lib.hid (taken_eq 7 xs)
  have hxl := hR.1
  clear hR
  cases hcn : count 7 xs with
  | none =>
    have HC := Lib.hid hcn; clear hcn
    have HV := Lib.hid (show taken 7 xs = none by rw [HT.out, HC.out])
    go_enter Try.func60, Try.ntmps60
    go_wp2_with fail
    refine HN.out.mono ?_
    rintro e w1 ⟨⟨q, rfl⟩, he⟩
    rw [HC.out] at he
    subst he
    go_wp2_with fail
    go_ret3
    exact tkn_none HV.out
  | some p =>
    obtain ⟨v, r⟩ := p
    have hcl := count_le hcn
    have hct := count_lt hcn
    have HC := Lib.hid hcn; clear hcn
    by_cases hv : v ≤ r.length
    · have HV := Lib.hid (show taken 7 xs = some (r.take v, r.drop v) by rw [HT.out, HC.out]; simp only [if_pos hv])
      go_enter Try.func60, Try.ntmps60
      go_wp2_with fail
      refine HN.out.mono ?_
      rintro e w1 ⟨⟨q, hw1⟩, he⟩
      rw [HC.out] at he
      obtain ⟨A1, c1, rfl, hr1, l1, l2⟩ := he
      obtain ⟨m, hm⟩ : ∃ m, r.length = m := ⟨_, rfl⟩
      rw [hm] at hr1 l1 hv hct ⊢
      have HW1 := Lib.hid hw1
      have hvm : ((m : Int) < (v : Int)) = False := eq_false (by omega)
      obtain ⟨A2, hs2, hr2⟩ := tail_exists .i64 w1 B A1 m c1 v r hr1 hv l1
      have hs3 := fun w2 => run_headK .i64 w2 A1 m c1 v (by omega)
      have hcv : ∀ w2 : World, (∀ p : Addr, w2.cell? p = w1.cell? p) → (convert 24 9 (.slice A1 v c1)).run Try.prog w2 = .ok (.string ⟨(r.take v).toArray⟩) w2 := fun w2 h2 => ((hr1.head_ hv).keep fun p _ => h2 p).convert (P := Try.prog) c1 24 5 9 Try.underlying24 Try.underlying5 Try.underlying9
      have hcv2 : ∀ j : Nat, (convert 24 9 (.slice A1 v c1)).run Try.prog (w1.drewN j) = .ok (.string ⟨(r.take v).toArray⟩) (w1.drewN j) := fun j => hcv _ fun _ => rfl
      have HR2 := Lib.hid hr2
      have HM := Lib.hid hm
      have HSS := Lib.hid (show (⟨(r.take v).toArray⟩ : ByteArray) = sl (r.take v) from rfl)
      generalize (⟨(r.take v).toArray⟩ : ByteArray) = S at hcv hcv2 HSS
      clear hcv hr1 hw1
      go_wp2_with fail
      go_quiet (fail)
      go_wp2_with fail
      go_ret3
      refine tkn_some ⟨_, by rw [HW1.out, World.drewN_drewN]⟩ HV.out HSS.out (Rd.drewN HR2.out _) (by omega) (by omega)
    · have HV := Lib.hid (show taken 7 xs = none by rw [HT.out, HC.out]; simp only [if_neg hv])
      go_enter Try.func60, Try.ntmps60
      go_wp2_with fail
      refine HN.out.mono ?_
      rintro e w1 ⟨⟨q, rfl⟩, he⟩
      rw [HC.out] at he
      obtain ⟨A1, c1, rfl, hr1, l1, l2⟩ := he
      obtain ⟨m, hm⟩ : ∃ m, r.length = m := ⟨_, rfl⟩
      rw [hm] at hr1 l1 hv hct ⊢
      have hvm : ((m : Int) < (v : Int)) := by omega
      clear hr1
      go_wp2_with fail
      go_ret3
      exact tkn_none HV.out
end Go.Proofs.Ytcimcldmkaggnaa
