/- The walk of the reference's Open: two regions are taken in an order of their own. -/
import Derived.Test.YtecomgojaggpbaaOpenWalks
import Derived.BigQuiet
import Derived.Deep.RegionHeld3
namespace Go.Proofs.Ytecomgojaggpbaa
set_option linter.unusedVariables false
open Go.RowKit
open Crc Pn

theorem run_head (w : World) (b o n c : Nat) (h : Int) (m : Nat) (hh : h = m) (hmc : m ≤ c) :
    (Instr.slice 33 (.slice (some ⟨b, o, none⟩) n c) none (some (.int .i64 h)) none).run Try.prog w = .ok (.slice (some ⟨b, o, none⟩) m c) w := by
  subst hh
  rw [run_slice_h (P := Try.prog) (w := w) 33 _ _ _ (by kernel_rfl) .i64 _ (by omega) (by omega)]
  rw [show ((sizeOf (Try.prog.elem 33)).run Try.prog w) = .ok 1 w from by kernel_rfl]
  simp only [Result.andThen, sliced, Int.toNat_natCast]
  by_cases h0 : c = 0
  · rw [if_pos h0]; simp
  · rw [if_neg h0]; simp [Addr.add]

set_option maxRecDepth 100000 in
set_option maxHeartbeats 1000000 in
theorem refOpen_any (nx : Int) (A : Option Addr) (n c : Nat) (xs : List UInt8) (w : World) (hx : 0 ≤ nx) (hx' : nx ≤ 18446744073709551615)
    (hr : Rd w w.heap.size A n xs) (hn : n ≤ 140737488355000) (hc : n ≤ c) (hc' : c ≤ maxLen) (hA : A = none → c = 0) :
    Calls Try.prog 29 #[.slice A n c, .int .u64 nx] w (OpenEnds xs nx w) := by
  have HR := Lib.hid hr; clear hr
  have hcm : c ≤ 9223372036854775807 := by unfold maxLen at hc'; omega
  have hxl := HR.out.1
  by_cases c1 : n < 1
  · have hp : openOf xs nx = none := by unfold openOf; rw [if_pos (.inl (by omega))]
    have HP := Lib.hid hp; clear hp hxl
    go_enter Try.func29, Try.ntmps29
    go_wp2_with fail
    go_ret3
    exact ⟨Below.refl _ _, .inl ⟨HP.out, rfl⟩⟩
  by_cases c2 : 1200 < n
  · have hp : openOf xs nx = none := by unfold openOf; rw [if_pos (.inr (.inl (by omega)))]
    have HP := Lib.hid hp; clear hp hxl
    go_enter Try.func29, Try.ntmps29
    go_wp2_with fail
    go_ret3
    exact ⟨Below.refl _ _, .inl ⟨HP.out, rfl⟩⟩
  obtain ⟨b, o, rfl, hbl, hcell⟩ := HR.out.at_ (by omega)
  have hc0 := hcell 0 (by omega)
  rw [Nat.add_zero] at hc0
  have HCE := Lib.hid hcell; clear hcell
  have hg0 : xs.getD 0 0 = xs[0]'(by omega) := by rw [List.getD_eq_getElem?_getD, List.getElem?_eq_getElem (by omega)]; rfl
  obtain ⟨x, hx0⟩ : ∃ x, (xs.getD 0 0).toNat = x := ⟨_, rfl⟩
  rw [← hg0, hx0] at hc0
  have hn0 : (0 : Int) < (n : Int) := by omega
  by_cases c3 : x < 64
  · have hp : openOf xs nx = none := by unfold openOf; rw [if_pos (.inr (.inr (.inl (by omega))))]
    have HP := Lib.hid hp; clear hp hxl hg0 hx0
    go_enter Try.func29, Try.ntmps29
    go_wp2_with fail
    go_ret3
    exact ⟨Below.refl _ _, .inl ⟨HP.out, rfl⟩⟩
  by_cases c4 : 67 < x
  · have hp : openOf xs nx = none := by unfold openOf; rw [if_pos (.inr (.inr (.inr (by omega))))]
    have HP := Lib.hid hp; clear hp hxl hg0 hx0
    go_enter Try.func29, Try.ntmps29
    go_wp2_with fail
    go_ret3
    exact ⟨Below.refl _ _, .inl ⟨HP.out, rfl⟩⟩
  obtain ⟨s, rfl⟩ : ∃ s, x = 63 + s := ⟨x - 63, by omega⟩
  have e63 : (63 : Int) + (s : Int) - 63 = (s : Int) := by omega
  by_cases c5 : n < s + 6
  · have hp : openOf xs nx = none := by
      unfold openOf
      by_cases h7 : n < 7
      · rw [if_pos (.inl (by omega))]
      · rw [if_neg (by omega), if_pos (.inl (by omega))]
    have HP := Lib.hid hp; clear hp hxl hg0 hx0
    have hd5 : decide ((n : Int) - 4 < 2 + (s : Int)) = true := decide_eq_true (by omega)
    have hwr : IntKind.i64.wrap (2 + (s : Int)) = 2 + (s : Int) := IntWalk.i64_in _ (by omega)
    go_enter Try.func29, Try.ntmps29
    go_wp2_with fail
    go_quiet (fail)
    go_wp2_with fail
    go_ret3
    exact ⟨below_drewN (Below.refl _ _) _, .inl ⟨HP.out, rfl⟩⟩
  have hop : openOf xs nx = if sealed (xs.take (n - 4)) ≠ xs then none else some (wholeOf (partOf ((xs.drop 1).take s)) (s : Int) (lim nx), (xs.take (n - 4)).drop (1 + s)) := by
    unfold openOf
    rw [if_neg (by omega), hx0, hxl, show 63 + s - 63 = s from by omega]
    by_cases h : sealed (xs.take (n - 4)) ≠ xs
    · rw [if_pos (.inr h), if_pos h]
    · rw [if_neg (by intro h2; rcases h2 with h2 | h2; omega; exact h h2), if_neg h]
  have HOP := Lib.hid hop; clear hop hg0 hx0 hxl
  have hd5 : decide ((n : Int) - 4 < 2 + (s : Int)) = false := decide_eq_false (by omega)
  have hwr : IntKind.i64.wrap (2 + (s : Int)) = 2 + (s : Int) := IntWalk.i64_in _ (by omega)
  go_enter Try.func29, Try.ntmps29
  go_wp2_with fail
  have hsl := fun w2 => run_head w2 b o n c ((n : Int) - 4) (n - 4) (by omega) (by omega)
  have kb : ∀ w', Below w.heap.size w w' → (convert 33 9 (.slice (some ⟨b, o, none⟩) n c)).run Try.prog w' = .ok (.string ⟨xs.toArray⟩) w' := fun w' h => (HR.out.below h).convert (P := Try.prog) c 33 5 9 Try.underlying33 Try.underlying5 Try.underlying9
  have KB := Lib.hid kb; clear kb
  have hS0 := KB.out w.drew (Below.refl _ w).drew
  refine wp_region_held_drew (S := fun w' => (convert 33 9 (.slice (some ⟨b, o, none⟩) n c)).run Try.prog w' = .ok (.string ⟨xs.toArray⟩) w') (by kernel_rfl) hS0 (fun hHeld => ?_)
  refine wpAnyH_take (i := 0) (oi := ?o0) (v := ?v0) ?e0 ?a0 ?b0 ?c0 ?h0 (Or.inl ⟨?g0, ?y0⟩) hHeld ?r0
  case e0 => simp only [List.getElem?_toArray, List.getElem?_cons_zero]; rfl
  case a0 => kernel_rfl
  case b0 => kernel_rfl
  case c0 => kernel_rfl
  case g0 => rfl
  case y0 => (intro w' hSw; (try dsimp only at hSw); first | (go_simp; done) | (go_simp; with_reducible rfl))
  case h0 => exact fun _ _ _ h => h
  case' r0 => simp only [Act.put, List.setIfInBounds_toArray, List.set_cons_zero, List.set_cons_succ]
  refine wpAnyH_take (i := 1) (oi := ?o1) (v := ?v1) ?e1 ?a1 ?b1 ?c1 ?h1 (Or.inl ⟨?g1, ?y1⟩) hHeld ?r1
  case e1 => simp only [List.getElem?_toArray, List.getElem?_cons_zero, List.getElem?_cons_succ]; rfl
  case a1 => kernel_rfl
  case b1 => kernel_rfl
  case c1 => kernel_rfl
  case g1 => rfl
  case y1 => (intro w' hSw; (try dsimp only at hSw); first | (go_simp; done) | (go_simp; with_reducible rfl))
  case h1 => exact fun _ _ _ h => h
  case' r1 => simp only [Act.put, List.setIfInBounds_toArray, List.set_cons_zero, List.set_cons_succ]
  refine wpAnyH_take (i := 2) (oi := ?o2) (v := ?v2) ?e2 ?a2 ?b2 ?c2 ?h2 (Or.inl ⟨?g2, ?y2⟩) hHeld ?r2
  case e2 => simp only [List.getElem?_toArray, List.getElem?_cons_zero, List.getElem?_cons_succ]; rfl
  case a2 => kernel_rfl
  case b2 => kernel_rfl
  case c2 => kernel_rfl
  case g2 => rfl
  case y2 => (intro w' hSw; (try dsimp only at hSw); first | (go_simp; done) | (go_simp; with_reducible rfl))
  case h2 => exact fun _ _ _ h => h
  case' r2 => simp only [Act.put, List.setIfInBounds_toArray, List.set_cons_zero, List.set_cons_succ]
  refine wpAnyH_take (i := 3) (oi := ?o3) (v := ?v3) ?e3 ?a3 ?b3 ?c3 ?h3 (Or.inl ⟨?g3, ?y3⟩) hHeld ?r3
  case e3 => simp only [List.getElem?_toArray, List.getElem?_cons_zero, List.getElem?_cons_succ]; rfl
  case a3 => kernel_rfl
  case b3 => kernel_rfl
  case c3 => kernel_rfl
  case g3 => rfl
  case y3 => (intro w' hSw; (try dsimp only at hSw); first | (go_simp; done) | (go_simp; with_reducible rfl))
  case h3 => exact fun _ _ _ h => h
  case' r3 => simp only [Act.put, List.setIfInBounds_toArray, List.set_cons_zero, List.set_cons_succ]
  refine wpAnyH_take (i := 4) (oi := ?o4) (v := ?v4) ?e4 ?a4 ?b4 ?c4 ?h4 (Or.inl ⟨?g4, ?y4⟩) hHeld ?r4
  case e4 => simp only [List.getElem?_toArray, List.getElem?_cons_zero, List.getElem?_cons_succ]; rfl
  case a4 => kernel_rfl
  case b4 => kernel_rfl
  case c4 => kernel_rfl
  case g4 => rfl
  case y4 => (intro w' hSw; (try dsimp only at hSw); first | (go_simp; done) | (go_simp; with_reducible rfl))
  case h4 => exact fun _ _ _ h => h
  case' r4 => simp only [Act.put, List.setIfInBounds_toArray, List.set_cons_zero, List.set_cons_succ]
  refine wpAnyH_take (i := 5) (oi := ?o5) (v := ?v5) ?e5 ?a5 ?b5 ?c5 ?h5 (Or.inl ⟨?g5, ?y5⟩) hHeld ?r5
  case e5 => simp only [List.getElem?_toArray, List.getElem?_cons_zero, List.getElem?_cons_succ]; rfl
  case a5 => kernel_rfl
  case b5 => kernel_rfl
  case c5 => kernel_rfl
  case g5 => rfl
  case y5 => (intro w' hSw; (try dsimp only at hSw); first | (go_simp; done) | (go_simp; with_reducible rfl))
  case h5 => exact fun _ _ _ h => h
  case' r5 => simp only [Act.put, List.setIfInBounds_toArray, List.set_cons_zero, List.set_cons_succ]
  refine wpAnyH_take (i := 6) (oi := ?o6) (v := ?v6) ?e6 ?a6 ?b6 ?c6 ?h6 (Or.inl ⟨?g6, ?y6⟩) hHeld ?r6
  case e6 => simp only [List.getElem?_toArray, List.getElem?_cons_zero, List.getElem?_cons_succ]; rfl
  case a6 => kernel_rfl
  case b6 => kernel_rfl
  case c6 => kernel_rfl
  case g6 => rfl
  case y6 => (intro w' hSw; (try dsimp only at hSw); first | (go_simp; done) | (go_simp; with_reducible rfl))
  case h6 => exact fun _ _ _ h => h
  case' r6 => simp only [Act.put, List.setIfInBounds_toArray, List.set_cons_zero, List.set_cons_succ]
  refine wpAnyH_take (i := 7) (oi := ?o7) (v := ?v7) ?e7 ?a7 ?b7 ?c7 ?h7 (Or.inl ⟨?g7, ?y7⟩) hHeld ?r7
  case e7 => simp only [List.getElem?_toArray, List.getElem?_cons_zero, List.getElem?_cons_succ]; rfl
  case a7 => kernel_rfl
  case b7 => kernel_rfl
  case c7 => kernel_rfl
  case g7 => rfl
  case y7 => (intro w' hSw; (try dsimp only at hSw); first | (go_simp; done) | (go_simp; with_reducible rfl))
  case h7 => exact fun _ _ _ h => h
  case' r7 => simp only [Act.put, List.setIfInBounds_toArray, List.set_cons_zero, List.set_cons_succ]
  refine wpAnyH_take (i := 10) (oi := ?o10) (v := ?v10) ?e10 ?a10 ?b10 ?c10 ?h10 (Or.inl ⟨?g10, ?y10⟩) hHeld ?r10
  case e10 => simp only [List.getElem?_toArray, List.getElem?_cons_zero, List.getElem?_cons_succ]; rfl
  case a10 => kernel_rfl
  case b10 => kernel_rfl
  case c10 => kernel_rfl
  case g10 => rfl
  case y10 => (intro w' hSw; (try dsimp only at hSw); first | (go_simp; done) | (go_simp; with_reducible rfl))
  case h10 => exact fun _ _ _ h => h
  case' r10 => simp only [Act.put, List.setIfInBounds_toArray, List.set_cons_zero, List.set_cons_succ]
  refine wpAnyH_take (i := 11) (oi := ?o11) (v := ?v11) ?e11 ?a11 ?b11 ?c11 ?h11 (Or.inl ⟨?g11, ?y11⟩) hHeld ?r11
  case e11 => simp only [List.getElem?_toArray, List.getElem?_cons_zero, List.getElem?_cons_succ]; rfl
  case a11 => kernel_rfl
  case b11 => kernel_rfl
  case c11 => kernel_rfl
  case g11 => rfl
  case y11 => (intro w' hSw; (try dsimp only at hSw); first | (go_simp; done) | (go_simp; with_reducible rfl))
  case h11 => exact fun _ _ _ h => h
  case' r11 => simp only [Act.put, List.setIfInBounds_toArray, List.set_cons_zero, List.set_cons_succ]
  refine wpAnyH_ready (rs := [8]) (by kernel_rfl) (by simp) ?_
  refine AllReadyH.cons (o := ?o8) ?e8 (fun K hK => ?s8) AllReadyH.nil
  case e8 => simp only [List.getElem?_toArray, List.getElem?_cons_zero, List.getElem?_cons_succ]; rfl
  go_simp
  refine (refSummed_any (some ⟨b, o, none⟩) (n - 4) c (xs.take (n - 4)) _ (by exact HR.out.head_ (by omega)) (by omega) (by omega) hc' (fun h => by cases h)).mono ?_
  rintro e w2 ⟨A2, c2', rfl, hown2, hb2⟩
  have hS2 := KB.out w2 ((Below.refl _ w).drew.trans hb2)
  have k47 := (Rd.of_own hown2 rfl).convert (P := Try.prog) c2' 33 5 9 Try.underlying33 Try.underlying5 Try.underlying9
  have HB2 := Lib.hid hb2; clear hb2 hown2
  refine hK.out _ _ hS2 (fun hHeld => ?_)
  clear hK K
  try simp only [Act.put, List.setIfInBounds_toArray, List.set_cons_zero, List.set_cons_succ]
  refine wpAnyH_ready (rs := [9]) (by kernel_rfl) (by simp) ?_
  refine AllReadyH.cons (o := ?o9) ?e9 (fun K hK => ?s9) AllReadyH.nil
  case e9 => simp only [List.getElem?_toArray, List.getElem?_cons_zero, List.getElem?_cons_succ]; rfl
  go_simp

  refine hK.out _ _ hS2 (fun hHeld => ?_)
  clear hK K
  try simp only [Act.put, List.setIfInBounds_toArray, List.set_cons_zero, List.set_cons_succ]
  refine wpAnyH_take (i := 12) (oi := ?o12) (v := ?v12) ?e12 ?a12 ?b12 ?c12 ?h12 (Or.inl ⟨?g12, ?y12⟩) hHeld ?r12
  case e12 => simp only [List.getElem?_toArray, List.getElem?_cons_zero, List.getElem?_cons_succ]; rfl
  case a12 => kernel_rfl
  case b12 => kernel_rfl
  case c12 => kernel_rfl
  case g12 => rfl
  case y12 => (intro w' hSw; (try dsimp only at hSw); first | (go_simp; done) | (go_simp; with_reducible rfl))
  case h12 => exact fun _ _ _ h => h
  case' r12 => simp only [Act.put, List.setIfInBounds_toArray, List.set_cons_zero, List.set_cons_succ]
  refine wpAnyH_take (i := 13) (oi := ?o13) (v := ?v13) ?e13 ?a13 ?b13 ?c13 ?h13 (Or.inl ⟨?g13, ?y13⟩) hHeld ?r13
  case e13 => simp only [List.getElem?_toArray, List.getElem?_cons_zero, List.getElem?_cons_succ]; rfl
  case a13 => kernel_rfl
  case b13 => kernel_rfl
  case c13 => kernel_rfl
  case g13 => rfl
  case y13 => (intro w' hSw; (try dsimp only at hSw); first | (go_simp; done) | (go_simp; with_reducible rfl))
  case h13 => exact fun _ _ _ h => h
  case' r13 => simp only [Act.put, List.setIfInBounds_toArray, List.set_cons_zero, List.set_cons_succ]
  refine wpAnyH_done (by kernel_rfl) ?_ _
  clear k47 hS2 hHeld
  by_cases c6 : sealed (xs.take (n - 4)) = xs
  · have C6 := Lib.hid c6
    have hp : openOf xs nx = some (wholeOf (partOf ((xs.drop 1).take s)) (s : Int) (lim nx), (xs.take (n - 4)).drop (1 + s)) := by
      rw [HOP.out, if_neg (fun h => h c6)]
    have HP := Lib.hid hp; clear hp c6 HOP
    have HB2 := Lib.hid ((Below.refl _ w).drew.trans HB2.out)
    obtain ⟨i0, hi0, hz0, hz1, hz2⟩ := info_parts info5
    go_wp2_with fail
    · exfalso
      rename_i hh
      simp at hh
      exact hh C6.out
    clear C6
    go_loop [9, 10] (fun v i => ∃ k : Nat, k ≤ s ∧ i = .int .i64 (1 + (k : Int)) ∧ v = .int .u64 (partOf ((xs.drop 1).take k) : Nat)) (fun _ i => s + 1 - (intOf i).toNat)
    case atStart => exact ⟨0, by omega, rfl, rfl⟩
    case round =>
      obtain ⟨k, hk, rfl, rfl⟩ := hrel
      by_cases hks : k < s
      · have hl : 1 + k < xs.length := by have := HR.out.1; omega
        have hck := HCE.out (1 + k) hl
        rw [← HB2.out.cell (p := ⟨b, o + (1 + k), none⟩) hbl] at hck
        have hnext : partOf ((xs.drop 1).take (k + 1)) = partOf ((xs.drop 1).take k) * 256 + (xs[1 + k]'hl).toNat := by
          rw [List.take_succ_eq_append_getElem (by rw [List.length_drop]; omega), partOf_snoc]
          simp [Nat.add_comm]
        have hpl := partOf_lt3 ((xs.drop 1).take k) (by rw [List.length_take]; omega)
        have hxl := (xs[1 + k]'hl).toNat_lt
        have HN := Lib.hid hnext; clear hnext
        generalize partOf ((xs.drop 1).take k) = v at *
        generalize (xs[1 + k]'hl).toNat = y at *
        go_wp2_with fail
        go_round
        case rel => exact ⟨k + 1, by omega, by go_num, by rw [HN.out]; go_num⟩
        case measure => simp [intOf]; omega
      · obtain rfl : k = s := by omega
        have hvl := partOf_lt4 ((xs.drop 1).take k) (by rw [List.length_take]; omega)
        have HRT := Lib.hid (((HR.out.below HB2.out).mid (i := 1 + k) (m := n - 4) (by omega) (by omega)).more HB2.out.size)
        generalize partOf ((xs.drop 1).take k) = v at *
        generalize hys : (xs.take (n - 4)).drop (1 + k) = ys at *
        clear hys
        have HW := Lib.hid (fun w2 => refWhole_any v k nx (by omega) (by omega) (by omega) (by omega) hx hx' w2)
        go_wp2_with fail
        have hsl2 := fun w2 => run_mid w2 b o n c (1 + (k : Int)) ((n : Int) - 4) (1 + k) (n - 4) (by omega) (by omega) (by omega) (by omega) (by omega)
        have hwr2 : IntKind.i64.wrap (1 + (k : Int)) = 1 + (k : Int) := IntWalk.i64_in _ (by omega)
        refine wp_region_held_drew (S := fun _ => True) (by kernel_rfl) trivial (fun hHeld => ?_)
        refine wpAnyH_take (i := 0) (oi := ?oq0) (v := ?vq0) ?eq0 ?aq0 ?bq0 ?cq0 ?hq0 (Or.inl ⟨?gq0, ?yq0⟩) hHeld ?rq0
        case eq0 => simp only [List.getElem?_toArray, List.getElem?_cons_zero]; rfl
        case aq0 => kernel_rfl
        case bq0 => kernel_rfl
        case cq0 => kernel_rfl
        case gq0 => rfl
        case yq0 => (intro w' hSw; (try dsimp only at hSw); first | (go_simp; done) | (go_simp; with_reducible rfl))
        case hq0 => exact fun _ _ _ h => h
        case' rq0 => try simp only [Act.put, List.setIfInBounds_toArray, List.set_cons_zero, List.set_cons_succ]
        refine wpAnyH_take (i := 1) (oi := ?oq1) (v := ?vq1) ?eq1 ?aq1 ?bq1 ?cq1 ?hq1 (Or.inl ⟨?gq1, ?yq1⟩) hHeld ?rq1
        case eq1 => simp only [List.getElem?_toArray, List.getElem?_cons_zero, List.getElem?_cons_succ]; rfl
        case aq1 => kernel_rfl
        case bq1 => kernel_rfl
        case cq1 => kernel_rfl
        case gq1 => rfl
        case yq1 => (intro w' hSw; (try dsimp only at hSw); first | (go_simp; done) | (go_simp; with_reducible rfl))
        case hq1 => exact fun _ _ _ h => h
        case' rq1 => try simp only [Act.put, List.setIfInBounds_toArray, List.set_cons_zero, List.set_cons_succ]
        refine wpAnyH_take (i := 2) (oi := ?oq2) (v := ?vq2) ?eq2 ?aq2 ?bq2 ?cq2 ?hq2 (Or.inl ⟨?gq2, ?yq2⟩) hHeld ?rq2
        case eq2 => simp only [List.getElem?_toArray, List.getElem?_cons_zero, List.getElem?_cons_succ]; rfl
        case aq2 => kernel_rfl
        case bq2 => kernel_rfl
        case cq2 => kernel_rfl
        case gq2 => rfl
        case yq2 => (intro w' hSw; (try dsimp only at hSw); first | (go_simp; done) | (go_simp; with_reducible rfl))
        case hq2 => exact fun _ _ _ h => h
        case' rq2 => try simp only [Act.put, List.setIfInBounds_toArray, List.set_cons_zero, List.set_cons_succ]
        refine wpAnyH_take (i := 5) (oi := ?oq5) (v := ?vq5) ?eq5 ?aq5 ?bq5 ?cq5 ?hq5 (Or.inl ⟨?gq5, ?yq5⟩) hHeld ?rq5
        case eq5 => simp only [List.getElem?_toArray, List.getElem?_cons_zero, List.getElem?_cons_succ]; rfl
        case aq5 => kernel_rfl
        case bq5 => kernel_rfl
        case cq5 => kernel_rfl
        case gq5 => rfl
        case yq5 => (intro w' hSw; (try dsimp only at hSw); first | (go_simp; done) | (go_simp; with_reducible rfl))
        case hq5 => exact fun _ _ _ h => h
        case' rq5 => try simp only [Act.put, List.setIfInBounds_toArray, List.set_cons_zero, List.set_cons_succ]
        refine wpAnyH_take (i := 6) (oi := ?oq6) (v := ?vq6) ?eq6 ?aq6 ?bq6 ?cq6 ?hq6 (Or.inl ⟨?gq6, ?yq6⟩) hHeld ?rq6
        case eq6 => simp only [List.getElem?_toArray, List.getElem?_cons_zero, List.getElem?_cons_succ]; rfl
        case aq6 => kernel_rfl
        case bq6 => kernel_rfl
        case cq6 => kernel_rfl
        case gq6 => rfl
        case yq6 => (intro w' hSw; (try dsimp only at hSw); first | (go_simp; done) | (go_simp; with_reducible rfl))
        case hq6 => exact fun _ _ _ h => h
        case' rq6 => try simp only [Act.put, List.setIfInBounds_toArray, List.set_cons_zero, List.set_cons_succ]
        refine wpAnyH_take (i := 7) (oi := ?oq7) (v := ?vq7) ?eq7 ?aq7 ?bq7 ?cq7 ?hq7 (Or.inl ⟨?gq7, ?yq7⟩) hHeld ?rq7
        case eq7 => simp only [List.getElem?_toArray, List.getElem?_cons_zero, List.getElem?_cons_succ]; rfl
        case aq7 => kernel_rfl
        case bq7 => kernel_rfl
        case cq7 => kernel_rfl
        case gq7 => rfl
        case yq7 => (intro w' hSw; (try dsimp only at hSw); first | (go_simp; done) | (go_simp; with_reducible rfl))
        case hq7 => exact fun _ _ _ h => h
        case' rq7 => try simp only [Act.put, List.setIfInBounds_toArray, List.set_cons_zero, List.set_cons_succ]
        refine wpAnyH_take (i := 8) (oi := ?oq8) (v := ?vq8) ?eq8 ?aq8 ?bq8 ?cq8 ?hq8 (Or.inl ⟨?gq8, ?yq8⟩) hHeld ?rq8
        case eq8 => simp only [List.getElem?_toArray, List.getElem?_cons_zero, List.getElem?_cons_succ]; rfl
        case aq8 => kernel_rfl
        case bq8 => kernel_rfl
        case cq8 => kernel_rfl
        case gq8 => rfl
        case yq8 => (intro w' hSw; (try dsimp only at hSw); first | (go_simp; done) | (go_simp; with_reducible rfl))
        case hq8 => exact fun _ _ _ h => h
        case' rq8 => try simp only [Act.put, List.setIfInBounds_toArray, List.set_cons_zero, List.set_cons_succ]
        refine wpAnyH_take (i := 9) (oi := ?oq9) (v := ?vq9) ?eq9 ?aq9 ?bq9 ?cq9 ?hq9 (Or.inl ⟨?gq9, ?yq9⟩) hHeld ?rq9
        case eq9 => simp only [List.getElem?_toArray, List.getElem?_cons_zero, List.getElem?_cons_succ]; rfl
        case aq9 => kernel_rfl
        case bq9 => kernel_rfl
        case cq9 => kernel_rfl
        case gq9 => rfl
        case yq9 => (intro w' hSw; (try dsimp only at hSw); first | (go_simp; done) | (go_simp; with_reducible rfl))
        case hq9 => exact fun _ _ _ h => h
        case' rq9 => try simp only [Act.put, List.setIfInBounds_toArray, List.set_cons_zero, List.set_cons_succ]
        refine wpAnyH_ready (rs := [3, 4]) (by kernel_rfl) (by simp) ?_
        refine (AllReadyH.cons (o := ?oq3) ?eq3 (fun K hK => ?sq3) (AllReadyH.cons (o := ?oq4) ?eq4 (fun K hK => ?sq4) AllReadyH.nil))
        case eq3 => simp only [List.getElem?_toArray, List.getElem?_cons_zero, List.getElem?_cons_succ]; rfl
        case eq4 => simp only [List.getElem?_toArray, List.getElem?_cons_zero, List.getElem?_cons_succ]; rfl
        case sq3 =>
          go_simp
          refine (HW.out _).mono ?_
          rintro e w5 ⟨rfl, rfl⟩
          refine hK.out _ _ trivial (fun hHeld => ?_)
          clear hK K
          try simp only [Act.put, List.setIfInBounds_toArray, List.set_cons_zero, List.set_cons_succ]
          refine wpAnyH_ready (rs := [4]) (by kernel_rfl) (by simp) ?_
          refine (AllReadyH.cons (o := ?or4) ?er4 (fun K hK => ?sr4) AllReadyH.nil)
          case er4 => simp only [List.getElem?_toArray, List.getElem?_cons_zero, List.getElem?_cons_succ]; rfl
          go_simp
          refine hK.out _ _ trivial (fun hHeld => ?_)
          clear hK K
          try simp only [Act.put, List.setIfInBounds_toArray, List.set_cons_zero, List.set_cons_succ]
          refine wpAnyH_ready (rs := [10]) (by kernel_rfl) (by simp) ?_
          refine (AllReadyH.cons (o := ?os10) ?es10 (fun K hK => ?ss10) AllReadyH.nil)
          case es10 => simp only [List.getElem?_toArray, List.getElem?_cons_zero, List.getElem?_cons_succ]; rfl
          rw [if_pos (by rfl)]
          refine wp_append_any _ (.tmp 70) (.tmp 75) 33 rfl w.heap.size 5 i0 (.int .u8 0) Try.underlying33 hi0 hz0 hz1 hz2 rfl (.slice (some ⟨w2.heap.size, 0, none⟩) 0 0) 0 [] rfl ?xs1 w2.heap.size (some ⟨b, o + (1 + k), none⟩) (n - 4 - (1 + k)) _ ys rfl ?xs2 ?xs3 ?xs4 ?_
          case xs1 => exact World.ownsRow_lit w2.drew #[] 0 (by exact HB2.out.size) (by unfold maxLen; omega) rfl
          case xs2 => exact HRT.out.alloc (Nat.le_refl _) _
          case xs3 => omega
          case xs4 => have := HB2.out.size; simp; omega
          intro A4 c4' w4 hown4 hg4 hat4
          have hb4 : Below w.heap.size w w4 := ((HB2.out.drew.alloc HB2.out.size _)).grown hg4 (by have := HB2.out.size; simp; omega) (fun k' hk' => by have h1 : w2.heap.size = k' := Option.some.inj hk'; rw [← h1]; exact HB2.out.size)
          have HB4 := Lib.hid hb4; have HO4 := Lib.hid hown4; clear hb4 hown4 hg4 hat4
          refine hK.out _ _ trivial (fun hHeld => ?_)
          clear hK K
          try simp only [Act.put, List.setIfInBounds_toArray, List.set_cons_zero, List.set_cons_succ]
          refine wpAnyH_take (i := 11) (oi := ?os11) (v := ?vs11) ?es11 ?as11 ?bs11 ?cs11 ?hs11 (Or.inl ⟨?gs11, ?ys11⟩) hHeld ?rs11
          case es11 => simp only [List.getElem?_toArray, List.getElem?_cons_zero, List.getElem?_cons_succ]; rfl
          case as11 => kernel_rfl
          case bs11 => kernel_rfl
          case cs11 => kernel_rfl
          case gs11 => rfl
          case ys11 => (intro w' hSw; (try dsimp only at hSw); first | (go_simp; done) | (go_simp; with_reducible rfl))
          case hs11 => exact fun _ _ _ h => h
          case' rs11 => try simp only [Act.put, List.setIfInBounds_toArray, List.set_cons_zero, List.set_cons_succ]
          refine wpAnyH_take (i := 12) (oi := ?os12) (v := ?vs12) ?es12 ?as12 ?bs12 ?cs12 ?hs12 (Or.inl ⟨?gs12, ?ys12⟩) hHeld ?rs12
          case es12 => simp only [List.getElem?_toArray, List.getElem?_cons_zero, List.getElem?_cons_succ]; rfl
          case as12 => kernel_rfl
          case bs12 => kernel_rfl
          case cs12 => kernel_rfl
          case gs12 => rfl
          case ys12 => (intro w' hSw; (try dsimp only at hSw); first | (go_simp; done) | (go_simp; with_reducible rfl))
          case hs12 => exact fun _ _ _ h => h
          case' rs12 => try simp only [Act.put, List.setIfInBounds_toArray, List.set_cons_zero, List.set_cons_succ]
          refine wpAnyH_take (i := 13) (oi := ?os13) (v := ?vs13) ?es13 ?as13 ?bs13 ?cs13 ?hs13 (Or.inl ⟨?gs13, ?ys13⟩) hHeld ?rs13
          case es13 => simp only [List.getElem?_toArray, List.getElem?_cons_zero, List.getElem?_cons_succ]; rfl
          case as13 => kernel_rfl
          case bs13 => kernel_rfl
          case cs13 => kernel_rfl
          case gs13 => rfl
          case ys13 => (intro w' hSw; (try dsimp only at hSw); first | (go_simp; done) | (go_simp; with_reducible rfl))
          case hs13 => exact fun _ _ _ h => h
          case' rs13 => try simp only [Act.put, List.setIfInBounds_toArray, List.set_cons_zero, List.set_cons_succ]
          refine wpAnyH_done (by kernel_rfl) ?_ _
          go_wp2_with fail
          go_ret3
          have hl : ys.length = n - 4 - (1 + k) := HRT.out.1
          refine ⟨HB4.out, .inr ⟨_, ys, A4, c4', HP.out, by rw [hl]; rfl, ?_⟩⟩
          rw [hl]
          simpa using HO4.out
        case sq4 =>
          go_simp
          refine hK.out _ _ trivial (fun hHeld => ?_)
          clear hK K
          try simp only [Act.put, List.setIfInBounds_toArray, List.set_cons_zero, List.set_cons_succ]
          refine wpAnyH_ready (rs := [3]) (by kernel_rfl) (by simp) ?_
          refine (AllReadyH.cons (o := ?ot3) ?et3 (fun K hK => ?st3) AllReadyH.nil)
          case et3 => simp only [List.getElem?_toArray, List.getElem?_cons_zero, List.getElem?_cons_succ]; rfl
          go_simp
          refine (HW.out _).mono ?_
          rintro e w5 ⟨rfl, rfl⟩
          refine hK.out _ _ trivial (fun hHeld => ?_)
          clear hK K
          try simp only [Act.put, List.setIfInBounds_toArray, List.set_cons_zero, List.set_cons_succ]
          refine wpAnyH_ready (rs := [10]) (by kernel_rfl) (by simp) ?_
          refine (AllReadyH.cons (o := ?ou10) ?eu10 (fun K hK => ?su10) AllReadyH.nil)
          case eu10 => simp only [List.getElem?_toArray, List.getElem?_cons_zero, List.getElem?_cons_succ]; rfl
          rw [if_pos (by rfl)]
          refine wp_append_any _ (.tmp 70) (.tmp 75) 33 rfl w.heap.size 5 i0 (.int .u8 0) Try.underlying33 hi0 hz0 hz1 hz2 rfl (.slice (some ⟨w2.heap.size, 0, none⟩) 0 0) 0 [] rfl ?xu1 w2.heap.size (some ⟨b, o + (1 + k), none⟩) (n - 4 - (1 + k)) _ ys rfl ?xu2 ?xu3 ?xu4 ?_
          case xu1 => exact World.ownsRow_lit w2.drew #[] 0 (by exact HB2.out.size) (by unfold maxLen; omega) rfl
          case xu2 => exact HRT.out.alloc (Nat.le_refl _) _
          case xu3 => omega
          case xu4 => have := HB2.out.size; simp; omega
          intro A4 c4' w4 hown4 hg4 hat4
          have hb4 : Below w.heap.size w w4 := ((HB2.out.drew.alloc HB2.out.size _)).grown hg4 (by have := HB2.out.size; simp; omega) (fun k' hk' => by have h1 : w2.heap.size = k' := Option.some.inj hk'; rw [← h1]; exact HB2.out.size)
          have HB4 := Lib.hid hb4; have HO4 := Lib.hid hown4; clear hb4 hown4 hg4 hat4
          refine hK.out _ _ trivial (fun hHeld => ?_)
          clear hK K
          try simp only [Act.put, List.setIfInBounds_toArray, List.set_cons_zero, List.set_cons_succ]
          refine wpAnyH_take (i := 11) (oi := ?ou11) (v := ?vu11) ?eu11 ?au11 ?bu11 ?cu11 ?hu11 (Or.inl ⟨?gu11, ?yu11⟩) hHeld ?ru11
          case eu11 => simp only [List.getElem?_toArray, List.getElem?_cons_zero, List.getElem?_cons_succ]; rfl
          case au11 => kernel_rfl
          case bu11 => kernel_rfl
          case cu11 => kernel_rfl
          case gu11 => rfl
          case yu11 => (intro w' hSw; (try dsimp only at hSw); first | (go_simp; done) | (go_simp; with_reducible rfl))
          case hu11 => exact fun _ _ _ h => h
          case' ru11 => try simp only [Act.put, List.setIfInBounds_toArray, List.set_cons_zero, List.set_cons_succ]
          refine wpAnyH_take (i := 12) (oi := ?ou12) (v := ?vu12) ?eu12 ?au12 ?bu12 ?cu12 ?hu12 (Or.inl ⟨?gu12, ?yu12⟩) hHeld ?ru12
          case eu12 => simp only [List.getElem?_toArray, List.getElem?_cons_zero, List.getElem?_cons_succ]; rfl
          case au12 => kernel_rfl
          case bu12 => kernel_rfl
          case cu12 => kernel_rfl
          case gu12 => rfl
          case yu12 => (intro w' hSw; (try dsimp only at hSw); first | (go_simp; done) | (go_simp; with_reducible rfl))
          case hu12 => exact fun _ _ _ h => h
          case' ru12 => try simp only [Act.put, List.setIfInBounds_toArray, List.set_cons_zero, List.set_cons_succ]
          refine wpAnyH_take (i := 13) (oi := ?ou13) (v := ?vu13) ?eu13 ?au13 ?bu13 ?cu13 ?hu13 (Or.inl ⟨?gu13, ?yu13⟩) hHeld ?ru13
          case eu13 => simp only [List.getElem?_toArray, List.getElem?_cons_zero, List.getElem?_cons_succ]; rfl
          case au13 => kernel_rfl
          case bu13 => kernel_rfl
          case cu13 => kernel_rfl
          case gu13 => rfl
          case yu13 => (intro w' hSw; (try dsimp only at hSw); first | (go_simp; done) | (go_simp; with_reducible rfl))
          case hu13 => exact fun _ _ _ h => h
          case' ru13 => try simp only [Act.put, List.setIfInBounds_toArray, List.set_cons_zero, List.set_cons_succ]
          refine wpAnyH_done (by kernel_rfl) ?_ _
          go_wp2_with fail
          go_ret3
          have hl : ys.length = n - 4 - (1 + k) := HRT.out.1
          refine ⟨HB4.out, .inr ⟨_, ys, A4, c4', HP.out, by rw [hl]; rfl, ?_⟩⟩
          rw [hl]
          simpa using HO4.out
  · have C6 := Lib.hid c6
    have hp : openOf xs nx = none := by rw [HOP.out, if_pos c6]
    have HP := Lib.hid hp; clear hp c6 HOP
    go_wp2_with fail
    · go_ret3
      exact ⟨(Below.refl _ w).drew.trans HB2.out, .inl ⟨HP.out, rfl⟩⟩
    · exfalso
      have hh := ‹(!(_ : Bool)) = false›
      simp at hh
      exact C6.out hh
end Go.Proofs.Ytecomgojaggpbaa
