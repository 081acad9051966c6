/- The walk of the law SealSums. -/
import Derived.Test.YtecomgojaggpbaaSealTurnsW
import Derived.Deep.RegionHeld3
namespace Go.Proofs.Ytecomgojaggpbaa
set_option linter.unusedVariables false
open Go.RowKit
open Crc Pn

def xor3 (xs ys zs : List UInt8) : List UInt8 := List.zipWith (· ^^^ ·) (List.zipWith (· ^^^ ·) xs ys) zs
theorem xor3_take (xs ys zs : List UInt8) (k : Nat) (h1 : k < xs.length) (h2 : k < ys.length) (h3 : k < zs.length) :
    (xor3 xs ys zs).take (k + 1) = (xor3 xs ys zs).take k ++ [xs[k] ^^^ ys[k] ^^^ zs[k]] := by
  rw [List.take_succ_eq_append_getElem (by unfold xor3; simp; omega)]
  simp [xor3]
theorem xor3_length (xs ys zs : List UInt8) (h1 : xs.length = ys.length) (h2 : xs.length = zs.length) : (xor3 xs ys zs).length = xs.length := by unfold xor3; simp; omega
/-- the three cells that a round reads -/
def Three (b1 o1 b2 o2 b3 o3 k : Nat) (x y z : UInt8) (w' : World) : Prop :=
  w'.cell? ⟨b1, o1 + k, none⟩ = some (.int .u8 (x.toNat : Int)) ∧ w'.cell? ⟨b2, o2 + k, none⟩ = some (.int .u8 (y.toNat : Int)) ∧ w'.cell? ⟨b3, o3 + k, none⟩ = some (.int .u8 (z.toNat : Int))

set_option maxRecDepth 100000 in
set_option maxHeartbeats 6400000 in
theorem walk_SealSums (A : Option Addr) (n c : Nat) (xs : List UInt8) (B : Option Addr) (m d : Nat) (ys : List UInt8) (C : Option Addr) (l f : Nat) (zs : List UInt8) (p b : Int) (w : World) (hs1 : SliceIn w A n c xs) (hs2 : SliceIn w B m d ys) (hs3 : SliceIn w C l f zs) (wp : (Lit.int .i64 p).wf = true) (wb : (Lit.int .u8 b).wf = true) :
    Calls Try.prog 13 #[.slice A n c, .slice B m d, .slice C l f, .int .i64 p, .int .u8 b] w fun e w' => e = .returned (.bool true) ∧ Below w.heap.size w w' := by
  obtain ⟨hp0, hp1⟩ := bounds_i64 wp
  obtain ⟨y, rfl⟩ := byte_of wb
  obtain ⟨hr1, hc1, hm1, hn1⟩ := hs1
  obtain ⟨hr2, hc2, hm2, hn2⟩ := hs2
  obtain ⟨hr3, hc3, hm3, hn3⟩ := hs3
  have k1 : n ≤ 9223372036854775807 := by unfold maxLen at hm1; omega
  have k2 : m ≤ 9223372036854775807 := by unfold maxLen at hm2; omega
  have k3 : l ≤ 9223372036854775807 := by unfold maxLen at hm3; omega
  clear hn1 hn2 hn3 wp wb
  by_cases c0 : 2000 < n
  · clear hr1 hr2 hr3
    go_enter Try.func13, Try.ntmps13
    go_wp2_with (go_at_call 23; refine (awake06_any _).mono ?_; rintro e w1 ⟨rfl, hb1⟩)
    go_ret
    exact ⟨rfl, hb1⟩
  by_cases c1 : n = m
  rotate_left 1
  · have e1 : ((n : Int) == (m : Int)) = false := by simp; omega
    have e2 : ((n : Int) != (m : Int)) = true := by rw [bne_iff_ne]; omega
    clear hr1 hr2 hr3
    go_enter Try.func13, Try.ntmps13
    go_wp2_with (go_at_call 23; refine (awake06_any _).mono ?_; rintro e w1 ⟨rfl, hb1⟩)
    go_ret
    exact ⟨rfl, hb1⟩
  subst c1
  by_cases c2 : n = l
  rotate_left 1
  · have e1 : ((n : Int) == (l : Int)) = false := by simp; omega
    have e2 : ((n : Int) != (l : Int)) = true := by rw [bne_iff_ne]; omega
    clear hr1 hr2 hr3
    go_enter Try.func13, Try.ntmps13
    go_wp2_with (go_at_call 23; refine (awake06_any _).mono ?_; rintro e w1 ⟨rfl, hb1⟩)
    go_ret
    exact ⟨rfl, hb1⟩
  subst c2
  by_cases c3 : n = 0
  · subst c3
    clear hr1 hr2 hr3
    go_enter Try.func13, Try.ntmps13
    go_wp2_with (go_at_call 23; refine (awake06_any _).mono ?_; rintro e w1 ⟨rfl, hb1⟩)
    go_ret
    exact ⟨rfl, hb1⟩
  have hn0 : ((n : Int) == 0) = false := by simp; omega
  have hnpos : 0 < n := by omega
  have lx := hr1.1
  have ly := hr2.1
  have lz := hr3.1
  obtain ⟨P, hP, hPp⟩ : ∃ P : Int, 0 ≤ P ∧ (p < 0 ∧ P = -(p + 1) ∨ 0 ≤ p ∧ P = p) := by
    by_cases h : p < 0
    · exact ⟨-(p + 1), by omega, .inl ⟨h, rfl⟩⟩
    · exact ⟨p, by omega, .inr ⟨by omega, rfl⟩⟩
  obtain ⟨i, hi⟩ : ∃ i : Nat, P % (n : Int) = (i : Int) := ⟨_, (Int.toNat_of_nonneg (Int.emod_nonneg _ (by omega))).symm⟩
  have hik : i < n := by have := Int.emod_lt_of_pos P (b := (n : Int)) (by omega); omega
  have hil : i < xs.length := by omega
  obtain ⟨i0, hi0, hz0, hz1, hz2⟩ := info_parts info5
  have hxb := xor_byte (xs[i]'hil) y
  have hx3 := sum_xor3 xs ys zs (by omega) (by omega)
  have hx3 : sum (xor3 xs ys zs) = sum xs ^^^ sum ys ^^^ sum zs := hx3
  have hsd : y ≠ 0 → sum (xs.set i (xs[i]'hil ^^^ y)) ≠ sum xs := fun hy h => xor_ne _ _ hy (sum_set xs i _ hil h)
  have l1 := sum_lt xs
  have l2 := sum_lt ys
  have l3 := sum_lt zs
  have HX3 := Lib.hid hx3; have HSD := Lib.hid hsd; have LX := Lib.hid lx; have LY := Lib.hid ly; have LZ := Lib.hid lz
  have HL := Lib.hid (xor3_length xs ys zs (by omega) (by omega))
  obtain ⟨b1, o1, rfl, hbl1, hce1⟩ := hr1.at_ hnpos
  obtain ⟨b2, o2, rfl, hbl2, hce2⟩ := hr2.at_ hnpos
  obtain ⟨b3, o3, rfl, hbl3, hce3⟩ := hr3.at_ hnpos
  have HX := Lib.hid hr1; have HY := Lib.hid hr2; have HZ := Lib.hid hr3; have HC1 := Lib.hid hce1; have HC2 := Lib.hid hce2; have HC3 := Lib.hid hce3
  clear hr1 hr2 hr3 hx3 hsd lx ly lz hce1 hce2 hce3
  have hip : p < 0 ∧ -((p + 1).tmod (n : Int)) = (i : Int) ∨ 0 ≤ p ∧ p % (n : Int) = (i : Int) := by
    rcases hPp with ⟨hneg, rfl⟩ | ⟨hpos, rfl⟩
    · exact .inl ⟨hneg, by rw [← hi, ← Int.neg_tmod, Int.tmod_eq_emod_of_nonneg (by omega)]⟩
    · exact .inr ⟨hpos, hi⟩
  clear hPp hi hP
  rcases hip with ⟨hneg, hi⟩ | ⟨hpos, hi⟩
  · skip
    go_enter Try.func13, Try.ntmps13
    go_wp2_with fail
    refine (awake06_any _).mono ?_
    rintro e w2 ⟨rfl, hb1⟩
    have HX2 := Lib.hid (HX.out.after hb1)
    have HB2 := Lib.hid hb1; clear hb1
    go_wp2_with (at_builtin; refine wpList_append_any _ rfl (.tmp 48) (.tmp 49) 33 rfl w2.heap.size 5 i0 (.int .u8 0) Try.underlying33 hi0 hz0 hz1 hz2 rfl (.slice (some ⟨w2.heap.size, 0, none⟩) 0 0) 0 [] rfl ?u1 w2.heap.size (some ⟨b1, o1, none⟩) n c xs rfl ?u2 ?u3 ?u4 ?_)
    case u1 => exact World.ownsRow_lit w2 #[] 0 (Nat.le_refl _) (by unfold maxLen; omega) rfl
    case u2 => exact HX2.out.alloc (Nat.le_refl _) _
    case u3 => omega
    case u4 => simp
    intro A3 c3' w3 ho3 hg3 ha3
    have hb3 : Below w2.heap.size w2 w3 := ((Below.refl _ w2).alloc (Nat.le_refl _) _).grown hg3 (by simp) (fun k hk => by have h1 : w2.heap.size = k := Option.some.inj hk; omega)
    have HB3 := Lib.hid (below_then HB2.out hb3)
    have ho3' : w3.ownsRow w2.heap.size 5 1 (.slice A3 n c3') n (bs xs) := by simpa using ho3
    clear hg3 ha3 hb3 ho3
    obtain ⟨g, rfl⟩ := own_addr ho3' hnpos
    have hcell := ho3'.cellAt i (by omega)
    rw [bs_get xs i hil] at hcell
    have hfz := ho3'.frozenAt i
    have hgb : w2.heap.size ≤ g := (ho3'.lt g rfl).1
    obtain ⟨hc1', hc2'⟩ := own_caps ho3'
    have hst : ∀ v : UInt8, (w3.setCell ⟨g, i, none⟩ (.int .u8 (v.toNat : Int))).ownsRow w2.heap.size 5 1 (.slice (some ⟨g, 0, none⟩) n c3') n (bs (xs.set i v)) := fun v => by
      have h := ho3'.stored i (.int .u8 (v.toNat : Int))
      have e : bs (xs.set i v) = (bs xs).set i (.int .u8 (v.toNat : Int)) := by simp [bs, List.map_set]
      rw [e]
      exact h.1
    have HST := Lib.hid (hst (xs[i]'hil ^^^ y))
    clear hst ho3'
    have hw4 : Below w.heap.size w (w3.setCell ⟨g, i, none⟩ (.int .u8 ((xs[i]'hil ^^^ y).toNat : Int))) := HB3.out.setCell (by have := HB2.out.size; exact Nat.le_trans this hgb) _
    have HW4 := Lib.hid hw4; clear hw4
    go_wp2_with fail
    clear hcell hfz hxb
    rw [UInt8.toNat_xor] at HST HW4
    generalize w3.setCell ⟨g, i, none⟩ (.int .u8 (((xs[i]'hil).toNat ^^^ y.toNat : Nat) : Int)) = w4 at *
    have hS : ∀ k (hk1 : k < xs.length) (hk2 : k < ys.length) (hk3 : k < zs.length) (w' : World), Below w4.heap.size w4 w' → Three b1 o1 b2 o2 b3 o3 k xs[k] ys[k] zs[k] w' := fun k hk1 hk2 hk3 w' hb => by
      have hb' := below_then HW4.out hb
      exact ⟨by rw [hb'.cell (p := ⟨b1, o1 + k, none⟩) hbl1]; exact HC1.out k hk1, by rw [hb'.cell (p := ⟨b2, o2 + k, none⟩) hbl2]; exact HC2.out k hk2, by rw [hb'.cell (p := ⟨b3, o3 + k, none⟩) hbl3]; exact HC3.out k hk3⟩
    have HS := Lib.hid hS; clear hS
    go_loopw [13, 14] (fun v i wr => ∃ (k : Nat) (A' : Option Addr) (c' : Nat), k ≤ n ∧ i = .int .i64 k ∧ v = .slice A' k c' ∧ wr.ownsRow w4.heap.size 5 1 (.slice A' k c') k (bs ((xor3 xs ys zs).take k)) ∧ Below w4.heap.size w4 wr) (fun _ i _ => n - (intOf i).toNat)
    case atStart => exact ⟨0, none, 0, by omega, rfl, rfl, World.ownsRow_nil _ _ _ _, Below.refl _ _⟩
    case round =>
      obtain ⟨k, A', c', hk, rfl, rfl, ho, hb⟩ := hrel
      have HO := Lib.hid ho; have HB := Lib.hid hb; clear ho hb
      by_cases hkn : k < n
      · have q1 : k < xs.length := by rw [LX.out]; exact hkn
        have q2 : k < ys.length := by rw [LY.out]; exact hkn
        have q3 : k < zs.length := by rw [LZ.out]; exact hkn
        have hx1 := xor_byte xs[k] ys[k]
        have hx2 := xor_byte (xs[k] ^^^ ys[k]) zs[k]
        have HN := Lib.hid (xor3_take xs ys zs k q1 q2 q3)
        have HSk := Lib.hid (HS.out k q1 q2 q3)
        generalize xs[k] ^^^ ys[k] ^^^ zs[k] = t at *
        generalize xs[k] ^^^ ys[k] = t2 at *
        generalize xs[k] = x at *
        generalize ys[k] = y' at *
        generalize zs[k] = z at *
        have hkn' : (k : Int) < (n : Int) := by omega
        go_wp2_with fail
        refine wp_region_held_drew (S := Three b1 o1 b2 o2 b3 o3 k x y' z) (by kernel_rfl) (HSk.out _ HB.out.drew) (fun hHeld => ?_)
        refine wpAnyH_take (i := 0) (oi := ?ou0) (v := ?vu0) ?eu0 ?au0 ?bu0 ?cu0 ?hu0 (Or.inl ⟨?gu0, ?yu0⟩) hHeld ?ru0
        case eu0 => simp only [List.getElem?_toArray, List.getElem?_cons_zero]; rfl
        case au0 => kernel_rfl
        case bu0 => kernel_rfl
        case cu0 => kernel_rfl
        case gu0 => rfl
        case yu0 => (intro w' hSw; obtain ⟨m1, m2, m3⟩ := hSw; first | (go_simp; done) | (go_simp; with_reducible rfl))
        case hu0 => exact fun _ _ _ h => h
        case' ru0 => try simp only [Act.put, List.setIfInBounds_toArray, List.set_cons_zero, List.set_cons_succ]
        refine wpAnyH_take (i := 1) (oi := ?ou1) (v := ?vu1) ?eu1 ?au1 ?bu1 ?cu1 ?hu1 (Or.inl ⟨?gu1, ?yu1⟩) hHeld ?ru1
        case eu1 => simp only [List.getElem?_toArray, List.getElem?_cons_zero, List.getElem?_cons_succ]; rfl
        case au1 => kernel_rfl
        case bu1 => kernel_rfl
        case cu1 => kernel_rfl
        case gu1 => rfl
        case yu1 => (intro w' hSw; obtain ⟨m1, m2, m3⟩ := hSw; first | (go_simp; done) | (go_simp; with_reducible rfl))
        case hu1 => exact fun _ _ _ h => h
        case' ru1 => try simp only [Act.put, List.setIfInBounds_toArray, List.set_cons_zero, List.set_cons_succ]
        refine wpAnyH_take (i := 2) (oi := ?ou2) (v := ?vu2) ?eu2 ?au2 ?bu2 ?cu2 ?hu2 (Or.inl ⟨?gu2, ?yu2⟩) hHeld ?ru2
        case eu2 => simp only [List.getElem?_toArray, List.getElem?_cons_zero, List.getElem?_cons_succ]; rfl
        case au2 => kernel_rfl
        case bu2 => kernel_rfl
        case cu2 => kernel_rfl
        case gu2 => rfl
        case yu2 => (intro w' hSw; obtain ⟨m1, m2, m3⟩ := hSw; first | (go_simp; done) | (go_simp; with_reducible rfl))
        case hu2 => exact fun _ _ _ h => h
        case' ru2 => try simp only [Act.put, List.setIfInBounds_toArray, List.set_cons_zero, List.set_cons_succ]
        refine wpAnyH_take (i := 3) (oi := ?ou3) (v := ?vu3) ?eu3 ?au3 ?bu3 ?cu3 ?hu3 (Or.inl ⟨?gu3, ?yu3⟩) hHeld ?ru3
        case eu3 => simp only [List.getElem?_toArray, List.getElem?_cons_zero, List.getElem?_cons_succ]; rfl
        case au3 => kernel_rfl
        case bu3 => kernel_rfl
        case cu3 => kernel_rfl
        case gu3 => rfl
        case yu3 => (intro w' hSw; obtain ⟨m1, m2, m3⟩ := hSw; first | (go_simp; done) | (go_simp; with_reducible rfl))
        case hu3 => exact fun _ _ _ h => h
        case' ru3 => try simp only [Act.put, List.setIfInBounds_toArray, List.set_cons_zero, List.set_cons_succ]
        refine wpAnyH_take (i := 4) (oi := ?ou4) (v := ?vu4) ?eu4 ?au4 ?bu4 ?cu4 ?hu4 (Or.inl ⟨?gu4, ?yu4⟩) hHeld ?ru4
        case eu4 => simp only [List.getElem?_toArray, List.getElem?_cons_zero, List.getElem?_cons_succ]; rfl
        case au4 => kernel_rfl
        case bu4 => kernel_rfl
        case cu4 => kernel_rfl
        case gu4 => rfl
        case yu4 => (intro w' hSw; obtain ⟨m1, m2, m3⟩ := hSw; first | (go_simp; done) | (go_simp; with_reducible rfl))
        case hu4 => exact fun _ _ _ h => h
        case' ru4 => try simp only [Act.put, List.setIfInBounds_toArray, List.set_cons_zero, List.set_cons_succ]
        refine wpAnyH_take (i := 5) (oi := ?ou5) (v := ?vu5) ?eu5 ?au5 ?bu5 ?cu5 ?hu5 (Or.inl ⟨?gu5, ?yu5⟩) hHeld ?ru5
        case eu5 => simp only [List.getElem?_toArray, List.getElem?_cons_zero, List.getElem?_cons_succ]; rfl
        case au5 => kernel_rfl
        case bu5 => kernel_rfl
        case cu5 => kernel_rfl
        case gu5 => rfl
        case yu5 => (intro w' hSw; obtain ⟨m1, m2, m3⟩ := hSw; first | (go_simp; done) | (go_simp; with_reducible rfl))
        case hu5 => exact fun _ _ _ h => h
        case' ru5 => try simp only [Act.put, List.setIfInBounds_toArray, List.set_cons_zero, List.set_cons_succ]
        refine wpAnyH_take (i := 6) (oi := ?ou6) (v := ?vu6) ?eu6 ?au6 ?bu6 ?cu6 ?hu6 (Or.inl ⟨?gu6, ?yu6⟩) hHeld ?ru6
        case eu6 => simp only [List.getElem?_toArray, List.getElem?_cons_zero, List.getElem?_cons_succ]; rfl
        case au6 => kernel_rfl
        case bu6 => kernel_rfl
        case cu6 => kernel_rfl
        case gu6 => rfl
        case yu6 => (intro w' hSw; obtain ⟨m1, m2, m3⟩ := hSw; first | (go_simp; done) | (go_simp; with_reducible rfl))
        case hu6 => exact fun _ _ _ h => h
        case' ru6 => try simp only [Act.put, List.setIfInBounds_toArray, List.set_cons_zero, List.set_cons_succ]
        refine wpAnyH_take (i := 7) (oi := ?ou7) (v := ?vu7) ?eu7 ?au7 ?bu7 ?cu7 ?hu7 (Or.inl ⟨?gu7, ?yu7⟩) hHeld ?ru7
        case eu7 => simp only [List.getElem?_toArray, List.getElem?_cons_zero, List.getElem?_cons_succ]; rfl
        case au7 => kernel_rfl
        case bu7 => kernel_rfl
        case cu7 => kernel_rfl
        case gu7 => rfl
        case yu7 => (intro w' hSw; obtain ⟨m1, m2, m3⟩ := hSw; first | (go_simp; done) | (go_simp; with_reducible rfl))
        case hu7 => exact fun _ _ _ h => h
        case' ru7 => try simp only [Act.put, List.setIfInBounds_toArray, List.set_cons_zero, List.set_cons_succ]
        refine wpAnyH_take (i := 8) (oi := ?ou8) (v := ?vu8) ?eu8 ?au8 ?bu8 ?cu8 ?hu8 (Or.inl ⟨?gu8, ?yu8⟩) hHeld ?ru8
        case eu8 => simp only [List.getElem?_toArray, List.getElem?_cons_zero, List.getElem?_cons_succ]; rfl
        case au8 => kernel_rfl
        case bu8 => kernel_rfl
        case cu8 => kernel_rfl
        case gu8 => rfl
        case yu8 => (intro w' hSw; obtain ⟨m1, m2, m3⟩ := hSw; first | (go_simp; done) | (go_simp; with_reducible rfl))
        case hu8 => exact fun _ _ _ h => h
        case' ru8 => try simp only [Act.put, List.setIfInBounds_toArray, List.set_cons_zero, List.set_cons_succ]
        refine wpAnyH_take (i := 9) (oi := ?ou9) (v := ?vu9) ?eu9 ?au9 ?bu9 ?cu9 ?hu9 (Or.inl ⟨?gu9, ?yu9⟩) hHeld ?ru9
        case eu9 => simp only [List.getElem?_toArray, List.getElem?_cons_zero, List.getElem?_cons_succ]; rfl
        case au9 => kernel_rfl
        case bu9 => kernel_rfl
        case cu9 => kernel_rfl
        case gu9 => rfl
        case yu9 => (intro w' hSw; obtain ⟨m1, m2, m3⟩ := hSw; first | (go_simp; done) | (go_simp; with_reducible rfl))
        case hu9 => exact fun _ _ _ h => h
        case' ru9 => try simp only [Act.put, List.setIfInBounds_toArray, List.set_cons_zero, List.set_cons_succ]
        refine wpAnyH_take (i := 10) (oi := ?ou10) (v := ?vu10) ?eu10 ?au10 ?bu10 ?cu10 ?hu10 (Or.inl ⟨?gu10, ?yu10⟩) hHeld ?ru10
        case eu10 => simp only [List.getElem?_toArray, List.getElem?_cons_zero, List.getElem?_cons_succ]; rfl
        case au10 => kernel_rfl
        case bu10 => kernel_rfl
        case cu10 => kernel_rfl
        case gu10 => rfl
        case yu10 => (intro w' hSw; obtain ⟨m1, m2, m3⟩ := hSw; first | (go_simp; done) | (go_simp; with_reducible rfl))
        case hu10 => exact fun _ _ _ h => h
        case' ru10 => try simp only [Act.put, List.setIfInBounds_toArray, List.set_cons_zero, List.set_cons_succ]
        refine wpAnyH_take (i := 11) (oi := ?ou11) (v := ?vu11) ?eu11 ?au11 ?bu11 ?cu11 ?hu11 (Or.inl ⟨?gu11, ?yu11⟩) hHeld ?ru11
        case eu11 => simp only [List.getElem?_toArray, List.getElem?_cons_zero, List.getElem?_cons_succ]; rfl
        case au11 => kernel_rfl
        case bu11 => kernel_rfl
        case cu11 => kernel_rfl
        case gu11 => rfl
        case yu11 => (intro w' hSw; obtain ⟨m1, m2, m3⟩ := hSw; first | (go_simp; done) | (go_simp; with_reducible rfl))
        case hu11 => exact fun _ _ _ h => h
        case' ru11 => try simp only [Act.put, List.setIfInBounds_toArray, List.set_cons_zero, List.set_cons_succ]
        refine wpAnyH_take (i := 12) (oi := ?ou12) (v := ?vu12) ?eu12 ?au12 ?bu12 ?cu12 ?hu12 (Or.inl ⟨?gu12, ?yu12⟩) hHeld ?ru12
        case eu12 => simp only [List.getElem?_toArray, List.getElem?_cons_zero, List.getElem?_cons_succ]; rfl
        case au12 => kernel_rfl
        case bu12 => kernel_rfl
        case cu12 => kernel_rfl
        case gu12 => rfl
        case yu12 => (intro w' hSw; obtain ⟨m1, m2, m3⟩ := hSw; first | (go_simp; done) | (go_simp; with_reducible rfl))
        case hu12 => exact fun _ _ _ h => h
        case' ru12 => try simp only [Act.put, List.setIfInBounds_toArray, List.set_cons_zero, List.set_cons_succ]
        refine wpAnyH_take (i := 13) (oi := ?ou13) (v := ?vu13) ?eu13 ?au13 ?bu13 ?cu13 ?hu13 (Or.inl ⟨?gu13, ?yu13⟩) hHeld ?ru13
        case eu13 => simp only [List.getElem?_toArray, List.getElem?_cons_zero, List.getElem?_cons_succ]; rfl
        case au13 => kernel_rfl
        case bu13 => kernel_rfl
        case cu13 => kernel_rfl
        case gu13 => rfl
        case yu13 => (intro w' hSw; obtain ⟨m1, m2, m3⟩ := hSw; first | (go_simp; done) | (go_simp; with_reducible rfl))
        case hu13 => exact fun _ _ _ h => h
        case' ru13 => try simp only [Act.put, List.setIfInBounds_toArray, List.set_cons_zero, List.set_cons_succ]
        refine wpAnyH_take (i := 14) (oi := ?ou14) (v := ?vu14) ?eu14 ?au14 ?bu14 ?cu14 ?hu14 (Or.inl ⟨?gu14, ?yu14⟩) hHeld ?ru14
        case eu14 => simp only [List.getElem?_toArray, List.getElem?_cons_zero, List.getElem?_cons_succ]; rfl
        case au14 => kernel_rfl
        case bu14 => kernel_rfl
        case cu14 => kernel_rfl
        case gu14 => rfl
        case yu14 => (intro w' hSw; obtain ⟨m1, m2, m3⟩ := hSw; first | (go_simp; done) | (go_simp; with_reducible rfl))
        case hu14 => exact fun _ _ _ h => h
        case' ru14 => try simp only [Act.put, List.setIfInBounds_toArray, List.set_cons_zero, List.set_cons_succ]
        refine wpAnyH_ready (rs := [15]) (by kernel_rfl) (by simp) ?_
        refine (AllReadyH.cons (o := ?ou15) ?eu15 (fun K hK => ?su15) AllReadyH.nil)
        case eu15 => simp only [List.getElem?_toArray, List.getElem?_cons_zero, List.getElem?_cons_succ]; rfl
        go_simp
        refine hK.out _ _ (HSk.out _ (HB.out.alloc HB.out.size _).drew) (fun hHeld => ?_)
        clear hK K
        try simp only [Act.put, List.setIfInBounds_toArray, List.set_cons_zero, List.set_cons_succ]
        refine wpAnyH_ready (rs := [16]) (by kernel_rfl) (by simp) ?_
        refine (AllReadyH.cons (o := ?ou16) ?eu16 (fun K hK => ?su16) AllReadyH.nil)
        case eu16 => simp only [List.getElem?_toArray, List.getElem?_cons_zero, List.getElem?_cons_succ]; rfl
        rw [if_pos (by rfl)]
        refine wp_append_any _ (.tmp 66) (.tmp 81) 33 rfl w4.heap.size 5 i0 (.int .u8 0) Try.underlying33 hi0 hz0 hz1 hz2 rfl (.slice A' k c') k ((xor3 xs ys zs).take k) rfl ?u5 (wr.heap.size + 1) (some ⟨wr.heap.size, 0, none⟩) 1 1 [t] rfl ?u6 ?u7 ?u8 ?_
        case u5 => exact HO.out.alloc _
        case u6 => exact Rd.new wr 5 _ _ _ rfl rfl
        case u7 => omega
        case u8 => have := HB.out.size; simp; omega
        intro A5 c5' w5 ho5 hg5 ha5
        have hb5 : Below w4.heap.size w4 w5 := (HB.out.alloc HB.out.size _).drew.grown hg5 (by have := HB.out.size; simp; omega) (fun k' hk' => (HO.out.lt k' hk').1)
        rw [← HN.out] at ho5
        have HO5 := Lib.hid ho5; have HB5 := Lib.hid hb5; clear ho5 hg5 ha5 hb5
        refine hK.out _ _ (HSk.out _ HB5.out) (fun hHeld => ?_)
        clear hK K
        try simp only [Act.put, List.setIfInBounds_toArray, List.set_cons_zero, List.set_cons_succ]
        refine wpAnyH_take (i := 17) (oi := ?ou17) (v := ?vu17) ?eu17 ?au17 ?bu17 ?cu17 ?hu17 (Or.inl ⟨?gu17, ?yu17⟩) hHeld ?ru17
        case eu17 => simp only [List.getElem?_toArray, List.getElem?_cons_zero, List.getElem?_cons_succ]; rfl
        case au17 => kernel_rfl
        case bu17 => kernel_rfl
        case cu17 => kernel_rfl
        case gu17 => rfl
        case yu17 => (intro w' hSw; (try dsimp only at hSw); first | (go_simp; done) | (go_simp; with_reducible rfl))
        case hu17 => exact fun _ _ _ h => h
        case' ru17 => try simp only [Act.put, List.setIfInBounds_toArray, List.set_cons_zero, List.set_cons_succ]
        refine wpAnyH_done (by kernel_rfl) ?_ _
        clear hHeld
        go_wp2_with fail
        go_roundw
        case rel => exact ⟨k + 1, A5, c5', by omega, by go_num, rfl, HO5.out, HB5.out⟩
        case measure => simp [intOf]; omega
      · have hkn' : k = n := by omega
        have hfull : (xor3 xs ys zs).take k = xor3 xs ys zs := List.take_of_length_le (by rw [HL.out, LX.out, hkn']; omega)
        rw [hfull] at HO
        subst hkn'
        clear hfull
        have HBw := Lib.hid (below_then HW4.out HB.out)
        have hD : Rd wr wr.heap.size (some ⟨g, 0, none⟩) k (xs.set i (xs[i]'hil ^^^ y)) := (Rd.of_own HST.out rfl).after HB.out
        have hXr : Rd wr wr.heap.size A' k (xor3 xs ys zs) := Rd.of_own HO.out rfl
        have HD := Lib.hid hD; have HXr := Lib.hid hXr
        have HX6 := Lib.hid ((HX.out.below HBw.out).more HBw.out.size)
        have HY6 := Lib.hid ((HY.out.below HBw.out).more HBw.out.size)
        have HZ6 := Lib.hid ((HZ.out.below HBw.out).more HBw.out.size)
        clear hD hXr HO HST
        have hxo1 := u32_xor_nat (sum xs) (sum ys) l1 l2
        have hxo2 := u32_xor_nat (sum xs ^^^ sum ys) (sum zs) (Nat.xor_lt_two_pow (n := 32) l1 l2) l3
        rw [← HX3.out] at hxo2
        have SX := Lib.hid (fun A c w => sum_any A k c (xor3 xs ys zs) w)
        have SA := Lib.hid (fun A c w => sum_any A k c xs w)
        have SB := Lib.hid (fun A c w => sum_any A k c ys w)
        have SC := Lib.hid (fun A c w => sum_any A k c zs w)
        have SD := Lib.hid (fun A c w => sum_any A k c (xs.set i (xs[i]'hil ^^^ y)) w)
        have hdd : y = 0 ∧ sum (xs.set i (xs[i]'hil ^^^ y)) = sum xs ∨ y ≠ 0 ∧ sum (xs.set i (xs[i]'hil ^^^ y)) ≠ sum xs := by
          by_cases hy : y = 0
          · exact .inl ⟨hy, by rw [hy]; simp⟩
          · exact .inr ⟨hy, HSD.out hy⟩
        generalize xs.set i (xs[i]'hil ^^^ y) = ds at *
        clear HSD HX3
        generalize sum xs ^^^ sum ys = sab at *
        generalize sum (xor3 xs ys zs) = sx at *
        generalize sum ds = sd at *
        generalize sum xs = sa at *
        generalize sum ys = sb at *
        generalize sum zs = sc at *
        rcases hdd with ⟨rfl, rfl⟩ | ⟨hy, hds⟩
        · skip
          go_wp2_with fail
          refine (SD.out _ _ _ HD.out (by omega)).mono ?_
          rintro e w6 ⟨rfl, hb6⟩
          have HB6 := Lib.hid (below_then HBw.out hb6)
          have HX7 := Lib.hid (HX6.out.after hb6); have HY7 := Lib.hid (HY6.out.after hb6); have HZ7 := Lib.hid (HZ6.out.after hb6); have HX7r := Lib.hid (HXr.out.after hb6)
          clear hb6
          go_wp2_with fail
          refine (SA.out _ _ _ HX7.out (by omega)).mono ?_
          rintro e w7 ⟨rfl, hb7⟩
          have HB7 := Lib.hid (below_then HB6.out hb7)
          have HX8 := Lib.hid (HX7.out.after hb7); have HY8 := Lib.hid (HY7.out.after hb7); have HZ8 := Lib.hid (HZ7.out.after hb7); have HX8r := Lib.hid (HX7r.out.after hb7)
          clear hb7
          go_wp2_with fail
          refine (SX.out _ _ _ HX8r.out (by omega)).mono ?_
          rintro e w8 ⟨rfl, hb8⟩
          have HB8 := Lib.hid (below_then HB7.out hb8)
          have HX9 := Lib.hid (HX8.out.after hb8); have HY9 := Lib.hid (HY8.out.after hb8); have HZ9 := Lib.hid (HZ8.out.after hb8)
          clear hb8
          go_wp2_with fail
          refine (SA.out _ _ _ HX9.out (by omega)).mono ?_
          rintro e w9 ⟨rfl, hb9⟩
          have HB9 := Lib.hid (below_then HB8.out hb9)
          have HY10 := Lib.hid (HY9.out.after hb9); have HZ10 := Lib.hid (HZ9.out.after hb9)
          clear hb9
          go_wp2_with fail
          refine (SB.out _ _ _ HY10.out (by omega)).mono ?_
          rintro e w10 ⟨rfl, hb10⟩
          have HB10 := Lib.hid (below_then HB9.out hb10)
          have HZ11 := Lib.hid (HZ10.out.after hb10)
          clear hb10
          go_wp2_with fail
          refine (SC.out _ _ _ HZ11.out (by omega)).mono ?_
          rintro e w11 ⟨rfl, hb11⟩
          have HB11 := Lib.hid (below_then HB10.out hb11)
          clear hb11
          go_wp2_with fail
          go_ret
          exact ⟨rfl, HB11.out⟩
        · have e1 : ((sd : Int) == (sa : Int)) = false := by simp; omega
          have hyt : ¬ y.toNat = 0 := fun h => hy (UInt8.toNat_inj.1 h)
          have e2 : ((y.toNat : Int) == 0) = false := by simp; omega
          go_wp2_with fail
          refine (SD.out _ _ _ HD.out (by omega)).mono ?_
          rintro e w6 ⟨rfl, hb6⟩
          have HB6 := Lib.hid (below_then HBw.out hb6)
          have HX7 := Lib.hid (HX6.out.after hb6); have HY7 := Lib.hid (HY6.out.after hb6); have HZ7 := Lib.hid (HZ6.out.after hb6); have HX7r := Lib.hid (HXr.out.after hb6)
          clear hb6
          go_wp2_with fail
          refine (SA.out _ _ _ HX7.out (by omega)).mono ?_
          rintro e w7 ⟨rfl, hb7⟩
          have HB7 := Lib.hid (below_then HB6.out hb7)
          have HX8 := Lib.hid (HX7.out.after hb7); have HY8 := Lib.hid (HY7.out.after hb7); have HZ8 := Lib.hid (HZ7.out.after hb7); have HX8r := Lib.hid (HX7r.out.after hb7)
          clear hb7
          go_wp2_with fail
          refine (SX.out _ _ _ HX8r.out (by omega)).mono ?_
          rintro e w8 ⟨rfl, hb8⟩
          have HB8 := Lib.hid (below_then HB7.out hb8)
          have HX9 := Lib.hid (HX8.out.after hb8); have HY9 := Lib.hid (HY8.out.after hb8); have HZ9 := Lib.hid (HZ8.out.after hb8)
          clear hb8
          go_wp2_with fail
          refine (SA.out _ _ _ HX9.out (by omega)).mono ?_
          rintro e w9 ⟨rfl, hb9⟩
          have HB9 := Lib.hid (below_then HB8.out hb9)
          have HY10 := Lib.hid (HY9.out.after hb9); have HZ10 := Lib.hid (HZ9.out.after hb9)
          clear hb9
          go_wp2_with fail
          refine (SB.out _ _ _ HY10.out (by omega)).mono ?_
          rintro e w10 ⟨rfl, hb10⟩
          have HB10 := Lib.hid (below_then HB9.out hb10)
          have HZ11 := Lib.hid (HZ10.out.after hb10)
          clear hb10
          go_wp2_with fail
          refine (SC.out _ _ _ HZ11.out (by omega)).mono ?_
          rintro e w11 ⟨rfl, hb11⟩
          have HB11 := Lib.hid (below_then HB10.out hb11)
          clear hb11
          go_wp2_with fail
          go_ret
          exact ⟨rfl, HB11.out⟩
  · skip
    go_enter Try.func13, Try.ntmps13
    go_wp2_with fail
    refine (awake06_any _).mono ?_
    rintro e w2 ⟨rfl, hb1⟩
    have HX2 := Lib.hid (HX.out.after hb1)
    have HB2 := Lib.hid hb1; clear hb1
    go_wp2_with (at_builtin; refine wpList_append_any _ rfl (.tmp 48) (.tmp 49) 33 rfl w2.heap.size 5 i0 (.int .u8 0) Try.underlying33 hi0 hz0 hz1 hz2 rfl (.slice (some ⟨w2.heap.size, 0, none⟩) 0 0) 0 [] rfl ?v1 w2.heap.size (some ⟨b1, o1, none⟩) n c xs rfl ?v2 ?v3 ?v4 ?_)
    case v1 => exact World.ownsRow_lit w2 #[] 0 (Nat.le_refl _) (by unfold maxLen; omega) rfl
    case v2 => exact HX2.out.alloc (Nat.le_refl _) _
    case v3 => omega
    case v4 => simp
    intro A3 c3' w3 ho3 hg3 ha3
    have hb3 : Below w2.heap.size w2 w3 := ((Below.refl _ w2).alloc (Nat.le_refl _) _).grown hg3 (by simp) (fun k hk => by have h1 : w2.heap.size = k := Option.some.inj hk; omega)
    have HB3 := Lib.hid (below_then HB2.out hb3)
    have ho3' : w3.ownsRow w2.heap.size 5 1 (.slice A3 n c3') n (bs xs) := by simpa using ho3
    clear hg3 ha3 hb3 ho3
    obtain ⟨g, rfl⟩ := own_addr ho3' hnpos
    have hcell := ho3'.cellAt i (by omega)
    rw [bs_get xs i hil] at hcell
    have hfz := ho3'.frozenAt i
    have hgb : w2.heap.size ≤ g := (ho3'.lt g rfl).1
    obtain ⟨hc1', hc2'⟩ := own_caps ho3'
    have hst : ∀ v : UInt8, (w3.setCell ⟨g, i, none⟩ (.int .u8 (v.toNat : Int))).ownsRow w2.heap.size 5 1 (.slice (some ⟨g, 0, none⟩) n c3') n (bs (xs.set i v)) := fun v => by
      have h := ho3'.stored i (.int .u8 (v.toNat : Int))
      have e : bs (xs.set i v) = (bs xs).set i (.int .u8 (v.toNat : Int)) := by simp [bs, List.map_set]
      rw [e]
      exact h.1
    have HST := Lib.hid (hst (xs[i]'hil ^^^ y))
    clear hst ho3'
    have hw4 : Below w.heap.size w (w3.setCell ⟨g, i, none⟩ (.int .u8 ((xs[i]'hil ^^^ y).toNat : Int))) := HB3.out.setCell (by have := HB2.out.size; exact Nat.le_trans this hgb) _
    have HW4 := Lib.hid hw4; clear hw4
    go_wp2_with fail
    clear hcell hfz hxb
    rw [UInt8.toNat_xor] at HST HW4
    generalize w3.setCell ⟨g, i, none⟩ (.int .u8 (((xs[i]'hil).toNat ^^^ y.toNat : Nat) : Int)) = w4 at *
    have hS : ∀ k (hk1 : k < xs.length) (hk2 : k < ys.length) (hk3 : k < zs.length) (w' : World), Below w4.heap.size w4 w' → Three b1 o1 b2 o2 b3 o3 k xs[k] ys[k] zs[k] w' := fun k hk1 hk2 hk3 w' hb => by
      have hb' := below_then HW4.out hb
      exact ⟨by rw [hb'.cell (p := ⟨b1, o1 + k, none⟩) hbl1]; exact HC1.out k hk1, by rw [hb'.cell (p := ⟨b2, o2 + k, none⟩) hbl2]; exact HC2.out k hk2, by rw [hb'.cell (p := ⟨b3, o3 + k, none⟩) hbl3]; exact HC3.out k hk3⟩
    have HS := Lib.hid hS; clear hS
    go_loopw [13, 14] (fun v i wr => ∃ (k : Nat) (A' : Option Addr) (c' : Nat), k ≤ n ∧ i = .int .i64 k ∧ v = .slice A' k c' ∧ wr.ownsRow w4.heap.size 5 1 (.slice A' k c') k (bs ((xor3 xs ys zs).take k)) ∧ Below w4.heap.size w4 wr) (fun _ i _ => n - (intOf i).toNat)
    case atStart => exact ⟨0, none, 0, by omega, rfl, rfl, World.ownsRow_nil _ _ _ _, Below.refl _ _⟩
    case round =>
      obtain ⟨k, A', c', hk, rfl, rfl, ho, hb⟩ := hrel
      have HO := Lib.hid ho; have HB := Lib.hid hb; clear ho hb
      by_cases hkn : k < n
      · have q1 : k < xs.length := by rw [LX.out]; exact hkn
        have q2 : k < ys.length := by rw [LY.out]; exact hkn
        have q3 : k < zs.length := by rw [LZ.out]; exact hkn
        have hx1 := xor_byte xs[k] ys[k]
        have hx2 := xor_byte (xs[k] ^^^ ys[k]) zs[k]
        have HN := Lib.hid (xor3_take xs ys zs k q1 q2 q3)
        have HSk := Lib.hid (HS.out k q1 q2 q3)
        generalize xs[k] ^^^ ys[k] ^^^ zs[k] = t at *
        generalize xs[k] ^^^ ys[k] = t2 at *
        generalize xs[k] = x at *
        generalize ys[k] = y' at *
        generalize zs[k] = z at *
        have hkn' : (k : Int) < (n : Int) := by omega
        go_wp2_with fail
        refine wp_region_held_drew (S := Three b1 o1 b2 o2 b3 o3 k x y' z) (by kernel_rfl) (HSk.out _ HB.out.drew) (fun hHeld => ?_)
        refine wpAnyH_take (i := 0) (oi := ?ov0) (v := ?vv0) ?ev0 ?av0 ?bv0 ?cv0 ?hv0 (Or.inl ⟨?gv0, ?yv0⟩) hHeld ?rv0
        case ev0 => simp only [List.getElem?_toArray, List.getElem?_cons_zero]; rfl
        case av0 => kernel_rfl
        case bv0 => kernel_rfl
        case cv0 => kernel_rfl
        case gv0 => rfl
        case yv0 => (intro w' hSw; obtain ⟨m1, m2, m3⟩ := hSw; first | (go_simp; done) | (go_simp; with_reducible rfl))
        case hv0 => exact fun _ _ _ h => h
        case' rv0 => try simp only [Act.put, List.setIfInBounds_toArray, List.set_cons_zero, List.set_cons_succ]
        refine wpAnyH_take (i := 1) (oi := ?ov1) (v := ?vv1) ?ev1 ?av1 ?bv1 ?cv1 ?hv1 (Or.inl ⟨?gv1, ?yv1⟩) hHeld ?rv1
        case ev1 => simp only [List.getElem?_toArray, List.getElem?_cons_zero, List.getElem?_cons_succ]; rfl
        case av1 => kernel_rfl
        case bv1 => kernel_rfl
        case cv1 => kernel_rfl
        case gv1 => rfl
        case yv1 => (intro w' hSw; obtain ⟨m1, m2, m3⟩ := hSw; first | (go_simp; done) | (go_simp; with_reducible rfl))
        case hv1 => exact fun _ _ _ h => h
        case' rv1 => try simp only [Act.put, List.setIfInBounds_toArray, List.set_cons_zero, List.set_cons_succ]
        refine wpAnyH_take (i := 2) (oi := ?ov2) (v := ?vv2) ?ev2 ?av2 ?bv2 ?cv2 ?hv2 (Or.inl ⟨?gv2, ?yv2⟩) hHeld ?rv2
        case ev2 => simp only [List.getElem?_toArray, List.getElem?_cons_zero, List.getElem?_cons_succ]; rfl
        case av2 => kernel_rfl
        case bv2 => kernel_rfl
        case cv2 => kernel_rfl
        case gv2 => rfl
        case yv2 => (intro w' hSw; obtain ⟨m1, m2, m3⟩ := hSw; first | (go_simp; done) | (go_simp; with_reducible rfl))
        case hv2 => exact fun _ _ _ h => h
        case' rv2 => try simp only [Act.put, List.setIfInBounds_toArray, List.set_cons_zero, List.set_cons_succ]
        refine wpAnyH_take (i := 3) (oi := ?ov3) (v := ?vv3) ?ev3 ?av3 ?bv3 ?cv3 ?hv3 (Or.inl ⟨?gv3, ?yv3⟩) hHeld ?rv3
        case ev3 => simp only [List.getElem?_toArray, List.getElem?_cons_zero, List.getElem?_cons_succ]; rfl
        case av3 => kernel_rfl
        case bv3 => kernel_rfl
        case cv3 => kernel_rfl
        case gv3 => rfl
        case yv3 => (intro w' hSw; obtain ⟨m1, m2, m3⟩ := hSw; first | (go_simp; done) | (go_simp; with_reducible rfl))
        case hv3 => exact fun _ _ _ h => h
        case' rv3 => try simp only [Act.put, List.setIfInBounds_toArray, List.set_cons_zero, List.set_cons_succ]
        refine wpAnyH_take (i := 4) (oi := ?ov4) (v := ?vv4) ?ev4 ?av4 ?bv4 ?cv4 ?hv4 (Or.inl ⟨?gv4, ?yv4⟩) hHeld ?rv4
        case ev4 => simp only [List.getElem?_toArray, List.getElem?_cons_zero, List.getElem?_cons_succ]; rfl
        case av4 => kernel_rfl
        case bv4 => kernel_rfl
        case cv4 => kernel_rfl
        case gv4 => rfl
        case yv4 => (intro w' hSw; obtain ⟨m1, m2, m3⟩ := hSw; first | (go_simp; done) | (go_simp; with_reducible rfl))
        case hv4 => exact fun _ _ _ h => h
        case' rv4 => try simp only [Act.put, List.setIfInBounds_toArray, List.set_cons_zero, List.set_cons_succ]
        refine wpAnyH_take (i := 5) (oi := ?ov5) (v := ?vv5) ?ev5 ?av5 ?bv5 ?cv5 ?hv5 (Or.inl ⟨?gv5, ?yv5⟩) hHeld ?rv5
        case ev5 => simp only [List.getElem?_toArray, List.getElem?_cons_zero, List.getElem?_cons_succ]; rfl
        case av5 => kernel_rfl
        case bv5 => kernel_rfl
        case cv5 => kernel_rfl
        case gv5 => rfl
        case yv5 => (intro w' hSw; obtain ⟨m1, m2, m3⟩ := hSw; first | (go_simp; done) | (go_simp; with_reducible rfl))
        case hv5 => exact fun _ _ _ h => h
        case' rv5 => try simp only [Act.put, List.setIfInBounds_toArray, List.set_cons_zero, List.set_cons_succ]
        refine wpAnyH_take (i := 6) (oi := ?ov6) (v := ?vv6) ?ev6 ?av6 ?bv6 ?cv6 ?hv6 (Or.inl ⟨?gv6, ?yv6⟩) hHeld ?rv6
        case ev6 => simp only [List.getElem?_toArray, List.getElem?_cons_zero, List.getElem?_cons_succ]; rfl
        case av6 => kernel_rfl
        case bv6 => kernel_rfl
        case cv6 => kernel_rfl
        case gv6 => rfl
        case yv6 => (intro w' hSw; obtain ⟨m1, m2, m3⟩ := hSw; first | (go_simp; done) | (go_simp; with_reducible rfl))
        case hv6 => exact fun _ _ _ h => h
        case' rv6 => try simp only [Act.put, List.setIfInBounds_toArray, List.set_cons_zero, List.set_cons_succ]
        refine wpAnyH_take (i := 7) (oi := ?ov7) (v := ?vv7) ?ev7 ?av7 ?bv7 ?cv7 ?hv7 (Or.inl ⟨?gv7, ?yv7⟩) hHeld ?rv7
        case ev7 => simp only [List.getElem?_toArray, List.getElem?_cons_zero, List.getElem?_cons_succ]; rfl
        case av7 => kernel_rfl
        case bv7 => kernel_rfl
        case cv7 => kernel_rfl
        case gv7 => rfl
        case yv7 => (intro w' hSw; obtain ⟨m1, m2, m3⟩ := hSw; first | (go_simp; done) | (go_simp; with_reducible rfl))
        case hv7 => exact fun _ _ _ h => h
        case' rv7 => try simp only [Act.put, List.setIfInBounds_toArray, List.set_cons_zero, List.set_cons_succ]
        refine wpAnyH_take (i := 8) (oi := ?ov8) (v := ?vv8) ?ev8 ?av8 ?bv8 ?cv8 ?hv8 (Or.inl ⟨?gv8, ?yv8⟩) hHeld ?rv8
        case ev8 => simp only [List.getElem?_toArray, List.getElem?_cons_zero, List.getElem?_cons_succ]; rfl
        case av8 => kernel_rfl
        case bv8 => kernel_rfl
        case cv8 => kernel_rfl
        case gv8 => rfl
        case yv8 => (intro w' hSw; obtain ⟨m1, m2, m3⟩ := hSw; first | (go_simp; done) | (go_simp; with_reducible rfl))
        case hv8 => exact fun _ _ _ h => h
        case' rv8 => try simp only [Act.put, List.setIfInBounds_toArray, List.set_cons_zero, List.set_cons_succ]
        refine wpAnyH_take (i := 9) (oi := ?ov9) (v := ?vv9) ?ev9 ?av9 ?bv9 ?cv9 ?hv9 (Or.inl ⟨?gv9, ?yv9⟩) hHeld ?rv9
        case ev9 => simp only [List.getElem?_toArray, List.getElem?_cons_zero, List.getElem?_cons_succ]; rfl
        case av9 => kernel_rfl
        case bv9 => kernel_rfl
        case cv9 => kernel_rfl
        case gv9 => rfl
        case yv9 => (intro w' hSw; obtain ⟨m1, m2, m3⟩ := hSw; first | (go_simp; done) | (go_simp; with_reducible rfl))
        case hv9 => exact fun _ _ _ h => h
        case' rv9 => try simp only [Act.put, List.setIfInBounds_toArray, List.set_cons_zero, List.set_cons_succ]
        refine wpAnyH_take (i := 10) (oi := ?ov10) (v := ?vv10) ?ev10 ?av10 ?bv10 ?cv10 ?hv10 (Or.inl ⟨?gv10, ?yv10⟩) hHeld ?rv10
        case ev10 => simp only [List.getElem?_toArray, List.getElem?_cons_zero, List.getElem?_cons_succ]; rfl
        case av10 => kernel_rfl
        case bv10 => kernel_rfl
        case cv10 => kernel_rfl
        case gv10 => rfl
        case yv10 => (intro w' hSw; obtain ⟨m1, m2, m3⟩ := hSw; first | (go_simp; done) | (go_simp; with_reducible rfl))
        case hv10 => exact fun _ _ _ h => h
        case' rv10 => try simp only [Act.put, List.setIfInBounds_toArray, List.set_cons_zero, List.set_cons_succ]
        refine wpAnyH_take (i := 11) (oi := ?ov11) (v := ?vv11) ?ev11 ?av11 ?bv11 ?cv11 ?hv11 (Or.inl ⟨?gv11, ?yv11⟩) hHeld ?rv11
        case ev11 => simp only [List.getElem?_toArray, List.getElem?_cons_zero, List.getElem?_cons_succ]; rfl
        case av11 => kernel_rfl
        case bv11 => kernel_rfl
        case cv11 => kernel_rfl
        case gv11 => rfl
        case yv11 => (intro w' hSw; obtain ⟨m1, m2, m3⟩ := hSw; first | (go_simp; done) | (go_simp; with_reducible rfl))
        case hv11 => exact fun _ _ _ h => h
        case' rv11 => try simp only [Act.put, List.setIfInBounds_toArray, List.set_cons_zero, List.set_cons_succ]
        refine wpAnyH_take (i := 12) (oi := ?ov12) (v := ?vv12) ?ev12 ?av12 ?bv12 ?cv12 ?hv12 (Or.inl ⟨?gv12, ?yv12⟩) hHeld ?rv12
        case ev12 => simp only [List.getElem?_toArray, List.getElem?_cons_zero, List.getElem?_cons_succ]; rfl
        case av12 => kernel_rfl
        case bv12 => kernel_rfl
        case cv12 => kernel_rfl
        case gv12 => rfl
        case yv12 => (intro w' hSw; obtain ⟨m1, m2, m3⟩ := hSw; first | (go_simp; done) | (go_simp; with_reducible rfl))
        case hv12 => exact fun _ _ _ h => h
        case' rv12 => try simp only [Act.put, List.setIfInBounds_toArray, List.set_cons_zero, List.set_cons_succ]
        refine wpAnyH_take (i := 13) (oi := ?ov13) (v := ?vv13) ?ev13 ?av13 ?bv13 ?cv13 ?hv13 (Or.inl ⟨?gv13, ?yv13⟩) hHeld ?rv13
        case ev13 => simp only [List.getElem?_toArray, List.getElem?_cons_zero, List.getElem?_cons_succ]; rfl
        case av13 => kernel_rfl
        case bv13 => kernel_rfl
        case cv13 => kernel_rfl
        case gv13 => rfl
        case yv13 => (intro w' hSw; obtain ⟨m1, m2, m3⟩ := hSw; first | (go_simp; done) | (go_simp; with_reducible rfl))
        case hv13 => exact fun _ _ _ h => h
        case' rv13 => try simp only [Act.put, List.setIfInBounds_toArray, List.set_cons_zero, List.set_cons_succ]
        refine wpAnyH_take (i := 14) (oi := ?ov14) (v := ?vv14) ?ev14 ?av14 ?bv14 ?cv14 ?hv14 (Or.inl ⟨?gv14, ?yv14⟩) hHeld ?rv14
        case ev14 => simp only [List.getElem?_toArray, List.getElem?_cons_zero, List.getElem?_cons_succ]; rfl
        case av14 => kernel_rfl
        case bv14 => kernel_rfl
        case cv14 => kernel_rfl
        case gv14 => rfl
        case yv14 => (intro w' hSw; obtain ⟨m1, m2, m3⟩ := hSw; first | (go_simp; done) | (go_simp; with_reducible rfl))
        case hv14 => exact fun _ _ _ h => h
        case' rv14 => try simp only [Act.put, List.setIfInBounds_toArray, List.set_cons_zero, List.set_cons_succ]
        refine wpAnyH_ready (rs := [15]) (by kernel_rfl) (by simp) ?_
        refine (AllReadyH.cons (o := ?ov15) ?ev15 (fun K hK => ?sv15) AllReadyH.nil)
        case ev15 => simp only [List.getElem?_toArray, List.getElem?_cons_zero, List.getElem?_cons_succ]; rfl
        go_simp
        refine hK.out _ _ (HSk.out _ (HB.out.alloc HB.out.size _).drew) (fun hHeld => ?_)
        clear hK K
        try simp only [Act.put, List.setIfInBounds_toArray, List.set_cons_zero, List.set_cons_succ]
        refine wpAnyH_ready (rs := [16]) (by kernel_rfl) (by simp) ?_
        refine (AllReadyH.cons (o := ?ov16) ?ev16 (fun K hK => ?sv16) AllReadyH.nil)
        case ev16 => simp only [List.getElem?_toArray, List.getElem?_cons_zero, List.getElem?_cons_succ]; rfl
        rw [if_pos (by rfl)]
        refine wp_append_any _ (.tmp 66) (.tmp 81) 33 rfl w4.heap.size 5 i0 (.int .u8 0) Try.underlying33 hi0 hz0 hz1 hz2 rfl (.slice A' k c') k ((xor3 xs ys zs).take k) rfl ?v5 (wr.heap.size + 1) (some ⟨wr.heap.size, 0, none⟩) 1 1 [t] rfl ?v6 ?v7 ?v8 ?_
        case v5 => exact HO.out.alloc _
        case v6 => exact Rd.new wr 5 _ _ _ rfl rfl
        case v7 => omega
        case v8 => have := HB.out.size; simp; omega
        intro A5 c5' w5 ho5 hg5 ha5
        have hb5 : Below w4.heap.size w4 w5 := (HB.out.alloc HB.out.size _).drew.grown hg5 (by have := HB.out.size; simp; omega) (fun k' hk' => (HO.out.lt k' hk').1)
        rw [← HN.out] at ho5
        have HO5 := Lib.hid ho5; have HB5 := Lib.hid hb5; clear ho5 hg5 ha5 hb5
        refine hK.out _ _ (HSk.out _ HB5.out) (fun hHeld => ?_)
        clear hK K
        try simp only [Act.put, List.setIfInBounds_toArray, List.set_cons_zero, List.set_cons_succ]
        refine wpAnyH_take (i := 17) (oi := ?ov17) (v := ?vv17) ?ev17 ?av17 ?bv17 ?cv17 ?hv17 (Or.inl ⟨?gv17, ?yv17⟩) hHeld ?rv17
        case ev17 => simp only [List.getElem?_toArray, List.getElem?_cons_zero, List.getElem?_cons_succ]; rfl
        case av17 => kernel_rfl
        case bv17 => kernel_rfl
        case cv17 => kernel_rfl
        case gv17 => rfl
        case yv17 => (intro w' hSw; (try dsimp only at hSw); first | (go_simp; done) | (go_simp; with_reducible rfl))
        case hv17 => exact fun _ _ _ h => h
        case' rv17 => try simp only [Act.put, List.setIfInBounds_toArray, List.set_cons_zero, List.set_cons_succ]
        refine wpAnyH_done (by kernel_rfl) ?_ _
        clear hHeld
        go_wp2_with fail
        go_roundw
        case rel => exact ⟨k + 1, A5, c5', by omega, by go_num, rfl, HO5.out, HB5.out⟩
        case measure => simp [intOf]; omega
      · have hkn' : k = n := by omega
        have hfull : (xor3 xs ys zs).take k = xor3 xs ys zs := List.take_of_length_le (by rw [HL.out, LX.out, hkn']; omega)
        rw [hfull] at HO
        subst hkn'
        clear hfull
        have HBw := Lib.hid (below_then HW4.out HB.out)
        have hD : Rd wr wr.heap.size (some ⟨g, 0, none⟩) k (xs.set i (xs[i]'hil ^^^ y)) := (Rd.of_own HST.out rfl).after HB.out
        have hXr : Rd wr wr.heap.size A' k (xor3 xs ys zs) := Rd.of_own HO.out rfl
        have HD := Lib.hid hD; have HXr := Lib.hid hXr
        have HX6 := Lib.hid ((HX.out.below HBw.out).more HBw.out.size)
        have HY6 := Lib.hid ((HY.out.below HBw.out).more HBw.out.size)
        have HZ6 := Lib.hid ((HZ.out.below HBw.out).more HBw.out.size)
        clear hD hXr HO HST
        have hxo1 := u32_xor_nat (sum xs) (sum ys) l1 l2
        have hxo2 := u32_xor_nat (sum xs ^^^ sum ys) (sum zs) (Nat.xor_lt_two_pow (n := 32) l1 l2) l3
        rw [← HX3.out] at hxo2
        have SX := Lib.hid (fun A c w => sum_any A k c (xor3 xs ys zs) w)
        have SA := Lib.hid (fun A c w => sum_any A k c xs w)
        have SB := Lib.hid (fun A c w => sum_any A k c ys w)
        have SC := Lib.hid (fun A c w => sum_any A k c zs w)
        have SD := Lib.hid (fun A c w => sum_any A k c (xs.set i (xs[i]'hil ^^^ y)) w)
        have hdd : y = 0 ∧ sum (xs.set i (xs[i]'hil ^^^ y)) = sum xs ∨ y ≠ 0 ∧ sum (xs.set i (xs[i]'hil ^^^ y)) ≠ sum xs := by
          by_cases hy : y = 0
          · exact .inl ⟨hy, by rw [hy]; simp⟩
          · exact .inr ⟨hy, HSD.out hy⟩
        generalize xs.set i (xs[i]'hil ^^^ y) = ds at *
        clear HSD HX3
        generalize sum xs ^^^ sum ys = sab at *
        generalize sum (xor3 xs ys zs) = sx at *
        generalize sum ds = sd at *
        generalize sum xs = sa at *
        generalize sum ys = sb at *
        generalize sum zs = sc at *
        rcases hdd with ⟨rfl, rfl⟩ | ⟨hy, hds⟩
        · skip
          go_wp2_with fail
          refine (SD.out _ _ _ HD.out (by omega)).mono ?_
          rintro e w6 ⟨rfl, hb6⟩
          have HB6 := Lib.hid (below_then HBw.out hb6)
          have HX7 := Lib.hid (HX6.out.after hb6); have HY7 := Lib.hid (HY6.out.after hb6); have HZ7 := Lib.hid (HZ6.out.after hb6); have HX7r := Lib.hid (HXr.out.after hb6)
          clear hb6
          go_wp2_with fail
          refine (SA.out _ _ _ HX7.out (by omega)).mono ?_
          rintro e w7 ⟨rfl, hb7⟩
          have HB7 := Lib.hid (below_then HB6.out hb7)
          have HX8 := Lib.hid (HX7.out.after hb7); have HY8 := Lib.hid (HY7.out.after hb7); have HZ8 := Lib.hid (HZ7.out.after hb7); have HX8r := Lib.hid (HX7r.out.after hb7)
          clear hb7
          go_wp2_with fail
          refine (SX.out _ _ _ HX8r.out (by omega)).mono ?_
          rintro e w8 ⟨rfl, hb8⟩
          have HB8 := Lib.hid (below_then HB7.out hb8)
          have HX9 := Lib.hid (HX8.out.after hb8); have HY9 := Lib.hid (HY8.out.after hb8); have HZ9 := Lib.hid (HZ8.out.after hb8)
          clear hb8
          go_wp2_with fail
          refine (SA.out _ _ _ HX9.out (by omega)).mono ?_
          rintro e w9 ⟨rfl, hb9⟩
          have HB9 := Lib.hid (below_then HB8.out hb9)
          have HY10 := Lib.hid (HY9.out.after hb9); have HZ10 := Lib.hid (HZ9.out.after hb9)
          clear hb9
          go_wp2_with fail
          refine (SB.out _ _ _ HY10.out (by omega)).mono ?_
          rintro e w10 ⟨rfl, hb10⟩
          have HB10 := Lib.hid (below_then HB9.out hb10)
          have HZ11 := Lib.hid (HZ10.out.after hb10)
          clear hb10
          go_wp2_with fail
          refine (SC.out _ _ _ HZ11.out (by omega)).mono ?_
          rintro e w11 ⟨rfl, hb11⟩
          have HB11 := Lib.hid (below_then HB10.out hb11)
          clear hb11
          go_wp2_with fail
          go_ret
          exact ⟨rfl, HB11.out⟩
        · have e1 : ((sd : Int) == (sa : Int)) = false := by simp; omega
          have hyt : ¬ y.toNat = 0 := fun h => hy (UInt8.toNat_inj.1 h)
          have e2 : ((y.toNat : Int) == 0) = false := by simp; omega
          go_wp2_with fail
          refine (SD.out _ _ _ HD.out (by omega)).mono ?_
          rintro e w6 ⟨rfl, hb6⟩
          have HB6 := Lib.hid (below_then HBw.out hb6)
          have HX7 := Lib.hid (HX6.out.after hb6); have HY7 := Lib.hid (HY6.out.after hb6); have HZ7 := Lib.hid (HZ6.out.after hb6); have HX7r := Lib.hid (HXr.out.after hb6)
          clear hb6
          go_wp2_with fail
          refine (SA.out _ _ _ HX7.out (by omega)).mono ?_
          rintro e w7 ⟨rfl, hb7⟩
          have HB7 := Lib.hid (below_then HB6.out hb7)
          have HX8 := Lib.hid (HX7.out.after hb7); have HY8 := Lib.hid (HY7.out.after hb7); have HZ8 := Lib.hid (HZ7.out.after hb7); have HX8r := Lib.hid (HX7r.out.after hb7)
          clear hb7
          go_wp2_with fail
          refine (SX.out _ _ _ HX8r.out (by omega)).mono ?_
          rintro e w8 ⟨rfl, hb8⟩
          have HB8 := Lib.hid (below_then HB7.out hb8)
          have HX9 := Lib.hid (HX8.out.after hb8); have HY9 := Lib.hid (HY8.out.after hb8); have HZ9 := Lib.hid (HZ8.out.after hb8)
          clear hb8
          go_wp2_with fail
          refine (SA.out _ _ _ HX9.out (by omega)).mono ?_
          rintro e w9 ⟨rfl, hb9⟩
          have HB9 := Lib.hid (below_then HB8.out hb9)
          have HY10 := Lib.hid (HY9.out.after hb9); have HZ10 := Lib.hid (HZ9.out.after hb9)
          clear hb9
          go_wp2_with fail
          refine (SB.out _ _ _ HY10.out (by omega)).mono ?_
          rintro e w10 ⟨rfl, hb10⟩
          have HB10 := Lib.hid (below_then HB9.out hb10)
          have HZ11 := Lib.hid (HZ10.out.after hb10)
          clear hb10
          go_wp2_with fail
          refine (SC.out _ _ _ HZ11.out (by omega)).mono ?_
          rintro e w11 ⟨rfl, hb11⟩
          have HB11 := Lib.hid (below_then HB10.out hb11)
          clear hb11
          go_wp2_with fail
          go_ret
          exact ⟨rfl, HB11.out⟩
end Go.Proofs.Ytecomgojaggpbaa
