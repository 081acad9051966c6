/- The walk of the law HeadersJoin. -/
import Derived.Test.YtcimcldmkaggnaaHeadersBackW
import Derived.Deep.RegionHeld3
namespace Go.Proofs.Ytcimcldmkaggnaa
set_option linter.unusedVariables false
set_option linter.unusedSimpArgs false
open Go.RowKit
open Hd Va

theorem run_append_of_nil2 {P : Program} (w : World) (base size : Nat) (t ty e : TypeId) (i : TypeInfo) (ht : P.underlying t = some (.slice e)) (hi : P.info? e = some i)
    (v : Value) (n : Nat) (xs : List Value) (hown : w.ownsRow base e size v n xs) (c : Nat) : (Builtin.append_ #[t, t] ty #[v, .slice none 0 c]).run P w = .ok v w := by
  rcases hown.2 with ⟨rfl, rfl⟩ | ⟨g, cap, cur, rfl, _, _, hnc, _⟩
  · simp [Builtin.append_, run_underlying ht, sizeOf, typeInfo, hi, Builtin.lenOf, Builtin.firstCells]
  · simp [Builtin.append_, run_underlying ht, sizeOf, typeInfo, hi, Builtin.lenOf, Builtin.firstCells, hnc, storeCells]
theorem cellsOf_one (hs : List H) : ∀ u ∈ cellsOf hs, u.oneCell' = true := by
  intro u hu
  unfold cellsOf at hu
  rw [List.mem_flatMap] at hu
  obtain ⟨h, _, hu⟩ := hu
  simp at hu
  rcases hu with rfl | rfl <;> rfl
theorem HRd.news {w : World} {B n : Nat} {b o : Nat} {hs : List H} (h : HRd w B (some ⟨b, o, none⟩) n hs) (hn : 0 < n) : ∀ j u, (cellsOf hs)[j]? = some u → w.cell? ((⟨b, o, none⟩ : Addr).add j) = some u := by
  intro j u hu
  have hj : j < (cellsOf hs).length := (List.getElem?_eq_some_iff.1 hu).1
  rw [cellsOf_length] at hj
  obtain ⟨b', o', e, _, hc⟩ := h.2 hn
  injection e with e
  injection e with e1 e2
  subst e1 e2
  have hi : j / 2 < hs.length := by omega
  obtain ⟨c0, c1⟩ := hc (j / 2) hi
  obtain ⟨e0, e1⟩ := cellsOf_two hs (j / 2) hi
  rw [Lib.add_plain2]
  by_cases hm : j % 2 = 0
  · have hj2 : j / 2 * 2 = j := by omega
    rw [hj2] at c0 e0
    rw [c0, ← hu, e0]
  · have hj2 : j / 2 * 2 + 1 = j := by omega
    have c1' : w.cell? ⟨b, o + j, none⟩ = some (.string (hs[j / 2]).2) := by rw [← c1]; congr 2; omega
    rw [hj2] at e1
    rw [c1', ← hu, e1]
theorem wpList_append_hds {w : World} {ops : Array Oper} {rest : List Oper} {o : Oper} {a : Act} {Q : Exit → Act → World → Prop} (hgd : o.guard = none) (s x : Operand)
    (ho : o.op = .call { callee := .builtin .append, args := #[s, x], argTypes := #[23, 23] }) (base : Nat) (v : Value) (n : Nat) (xs : List H) (hs : a.eval s = v) (hown : w.ownsRow base 53 2 v n (cellsOf xs))
    (B : Nat) (A : Option Addr) (m c : Nat) (news : List H) (hx : a.eval x = .slice A m c) (hr : HRd w B A m news) (hbytes : (n + m) * 32 ≤ 140737488355328) (hbase : base ≤ w.heap.size)
    (h : ∀ A' c' w', w'.ownsRow base 53 2 (.slice A' (n + m) c') (n + m) (cellsOf (xs ++ news)) → w.grownBy w' v.ownBlock → wpList Try.prog ops Q rest (a.put o.dst (.slice A' (n + m) c')) w') : wpList Try.prog ops Q (o :: rest) a w := by
  obtain ⟨i0, hi0, hz0, hz1, hz2⟩ := info_parts info53
  have key : ∃ v' w', (Builtin.append_ #[23, 23] o.type #[v, .slice A m c]).run Try.prog w = .ok v' w' ∧ w'.ownsRow base 53 2 v' (n + m) (cellsOf (xs ++ news)) ∧ w.grownBy w' v.ownBlock := by
    rcases Nat.eq_zero_or_pos m with hm | hm
    · subst hm
      have hn0 : news = [] := List.eq_nil_of_length_eq_zero hr.1
      subst hn0
      rcases A with _ | ad
      · exact ⟨v, w, run_append_of_nil2 w base 2 23 o.type 53 i0 Try.underlying23 hi0 v n _ hown c, by simpa using hown, World.grownBy.refl w _⟩
      · obtain ⟨v', w', hrun, h2, h3, _⟩ := run_append_own_at (P := Try.prog) w base 23 o.type 53 i0 _ 2 32 Try.underlying23 hi0 hz0 hz1 hz2 rfl (by decide) v n (cellsOf xs) hown ad 0 c [] rfl (fun j u hu => by simp at hu) (fun u hu => by simp at hu) (by unfold maxLen; omega) (by omega) hbase
        exact ⟨v', w', hrun, by simpa using h2, h3⟩
    · obtain ⟨b, o2, rfl, _, _⟩ := hr.2 hm
      obtain ⟨v', w', hrun, h2, h3, _⟩ := run_append_own_at (P := Try.prog) w base 23 o.type 53 i0 _ 2 32 Try.underlying23 hi0 hz0 hz1 hz2 rfl (by decide) v n (cellsOf xs) hown ⟨b, o2, none⟩ m c (cellsOf news) (by rw [cellsOf_length, hr.1]) (hr.news hm) (cellsOf_one _) (by unfold maxLen; omega) hbytes hbase
      exact ⟨v', w', hrun, by rw [cellsOf_append]; exact h2, h3⟩
  obtain ⟨v', w', hrun, h2, h3⟩ := key
  refine wpList_plain hgd fun _ hK => ?_
  unfold Oper.wp execOp
  simp only [ho, resolve, invoke, builtin, Sem.run_bind, Sem.run_pure, Result.andThen_ok, List.map_toArray, List.map_cons, List.map_nil, hs, hx, hrun]
  obtain ⟨A', c', rfl, -⟩ := own_form h2
  exact hK _ _ (h A' c' w' h2 h3)

set_option maxRecDepth 100000 in
set_option maxHeartbeats 3200000 in
theorem walk_HeadersJoin (A : Option Addr) (n c : Nat) (l : List H) (B : Option Addr) (n2 d : Nat) (m : List H) (w : World) (hh : HdrsIn w A n c l) (hh2 : HdrsIn w B n2 d m) :
    Calls Try.prog 13 #[.slice A n c, .slice B n2 d] w fun e w' => e = .returned (.bool true) ∧ Below w.heap.size w w' := by
  obtain ⟨hr, hnc, hcm, -⟩ := hh
  obtain ⟨hr2, hnd, hdm, -⟩ := hh2
  have hn63 : n ≤ 9223372036854775807 := by unfold maxLen at hcm; omega
  have hm63 : n2 ≤ 9223372036854775807 := by unfold maxLen at hdm; omega
  obtain ⟨i0, hi0, hz0, hz1, hz2⟩ := info_parts info5
  clear hnc hcm hnd hdm
  have HR := Lib.hid hr; have HS := Lib.hid hr2; clear hr hr2
  cases hf1 : fewV l with
  | false =>
    have HF1 := Lib.hid hf1; clear hf1
    go_enter Try.func13, Try.ntmps13
    go_wp2_with fail
    refine (awake20_any w).mono ?_
    rintro e w1 ⟨rfl, hb1⟩
    have HR1 := Lib.hid (HR.out.after hb1); have HB1 := Lib.hid hb1; clear hb1
    go_wp2_with fail
    refine (few_any A n c l w1 HR1.out hn63).mono ?_
    rintro e w2 ⟨rfl, rfl⟩
    rw [HF1.out]
    go_wp2_with fail
    go_ret
    exact ⟨rfl, HB1.out⟩
  | true =>
    have HF1 := Lib.hid hf1; clear hf1
    cases hf2 : fewV m with
    | false =>
      have HF2 := Lib.hid hf2; clear hf2
      go_enter Try.func13, Try.ntmps13
      go_wp2_with fail
      refine (awake20_any w).mono ?_
      rintro e w1 ⟨rfl, hb1⟩
      have HR1 := Lib.hid (HR.out.after hb1); have HS1 := Lib.hid (HS.out.after hb1); have HB1 := Lib.hid hb1; clear hb1
      go_wp2_with fail
      refine (few_any A n c l w1 HR1.out hn63).mono ?_
      rintro e w2 ⟨rfl, rfl⟩
      rw [HF1.out]
      go_wp2_with fail
      refine (few_any B n2 d m w1 HS1.out hm63).mono ?_
      rintro e w2 ⟨rfl, rfl⟩
      rw [HF2.out]
      go_wp2_with fail
      go_ret
      exact ⟨rfl, HB1.out⟩
    | true =>
      have HF2 := Lib.hid hf2; clear hf2
      cases hg1 : good l with
      | false =>
        have HG1 := Lib.hid hg1; clear hg1
        cases hg2 : good m with
        | false =>
          have HG2 := Lib.hid hg2; clear hg2
          go_enter Try.func13, Try.ntmps13
          go_wp2_with fail
          refine (awake20_any w).mono ?_
          rintro e w1 ⟨rfl, hb1⟩
          have HR1 := Lib.hid (HR.out.after hb1); have HS1 := Lib.hid (HS.out.after hb1); have HB1 := Lib.hid hb1; clear hb1
          go_wp2_with fail
          refine (few_any A n c l w1 HR1.out hn63).mono ?_
          rintro e w2 ⟨rfl, rfl⟩
          rw [HF1.out]
          go_wp2_with fail
          refine (few_any B n2 d m w1 HS1.out hm63).mono ?_
          rintro e w2 ⟨rfl, rfl⟩
          rw [HF2.out]
          go_wp2_with fail
          refine (encode_bad A n c l w1 HR1.out hn63 HG1.out).mono ?_
          rintro e w3 ⟨rfl, hb3⟩
          have HS3 := Lib.hid (HS1.out.after hb3); have HB3 := Lib.hid (below_then HB1.out hb3); clear hb3
          go_wp2_with fail
          refine (encode_bad B n2 d m w3 HS3.out hm63 HG2.out).mono ?_
          rintro e w4 ⟨rfl, hb4⟩
          have HB4 := Lib.hid (below_then HB3.out hb4); clear hb4
          go_wp2_with fail
          go_ret
          exact ⟨rfl, HB4.out⟩
        | true =>
          have HG2 := Lib.hid hg2; clear hg2
          go_enter Try.func13, Try.ntmps13
          go_wp2_with fail
          refine (awake20_any w).mono ?_
          rintro e w1 ⟨rfl, hb1⟩
          have HR1 := Lib.hid (HR.out.after hb1); have HS1 := Lib.hid (HS.out.after hb1); have HB1 := Lib.hid hb1; clear hb1
          go_wp2_with fail
          refine (few_any A n c l w1 HR1.out hn63).mono ?_
          rintro e w2 ⟨rfl, rfl⟩
          rw [HF1.out]
          go_wp2_with fail
          refine (few_any B n2 d m w1 HS1.out hm63).mono ?_
          rintro e w2 ⟨rfl, rfl⟩
          rw [HF2.out]
          go_wp2_with fail
          refine (encode_bad A n c l w1 HR1.out hn63 HG1.out).mono ?_
          rintro e w3 ⟨rfl, hb3⟩
          have HS3 := Lib.hid (HS1.out.after hb3); have HB3 := Lib.hid (below_then HB1.out hb3); clear hb3
          go_wp2_with fail
          refine (encode_good B n2 d m w3 HS3.out hm63 HG2.out).mono ?_
          rintro e w4 ⟨A4, c4, rfl, -, hb4⟩
          have HB4 := Lib.hid (below_then HB3.out hb4); clear hb4
          go_wp2_with fail
          go_ret
          exact ⟨rfl, HB4.out⟩
      | true =>
        have HG1 := Lib.hid hg1
        have HEL := Lib.hid (enc_length l hg1)
        cases hg2 : good m with
        | false =>
          have HG2 := Lib.hid hg2; clear hg2 hg1
          go_enter Try.func13, Try.ntmps13
          go_wp2_with fail
          refine (awake20_any w).mono ?_
          rintro e w1 ⟨rfl, hb1⟩
          have HR1 := Lib.hid (HR.out.after hb1); have HS1 := Lib.hid (HS.out.after hb1); have HB1 := Lib.hid hb1; clear hb1
          go_wp2_with fail
          refine (few_any A n c l w1 HR1.out hn63).mono ?_
          rintro e w2 ⟨rfl, rfl⟩
          rw [HF1.out]
          go_wp2_with fail
          refine (few_any B n2 d m w1 HS1.out hm63).mono ?_
          rintro e w2 ⟨rfl, rfl⟩
          rw [HF2.out]
          go_wp2_with fail
          refine (encode_good A n c l w1 HR1.out hn63 HG1.out).mono ?_
          rintro e w3 ⟨A3, c3, rfl, -, hb3⟩
          have HS3 := Lib.hid (HS1.out.after hb3); have HB3 := Lib.hid (below_then HB1.out hb3); clear hb3
          go_wp2_with fail
          refine (encode_bad B n2 d m w3 HS3.out hm63 HG2.out).mono ?_
          rintro e w4 ⟨rfl, hb4⟩
          have HB4 := Lib.hid (below_then HB3.out hb4); clear hb4
          go_wp2_with fail
          go_ret
          exact ⟨rfl, HB4.out⟩
        | true =>
          have HG2 := Lib.hid hg2
          have HEM := Lib.hid (enc_length m hg2)
          have HDJ := Lib.hid (dec_join l m (good_sizes hg1) (good_sizes hg2))
          have HGA := Lib.hid (good_append l m hg1 hg2)
          clear hg1 hg2
          have hn50 : n ≤ 50 := by have h1 := (few_fits HF1.out).1; have h2 := HR.out.1; omega
          have hm50 : n2 ≤ 50 := by have h1 := (few_fits HF2.out).1; have h2 := HS.out.1; omega
          have HLL := Lib.hid HR.out.1
          have HLM := Lib.hid HS.out.1
          obtain ⟨LN, hN⟩ : ∃ LN, (enc m).length = LN := ⟨_, rfl⟩
          obtain ⟨LK, hK⟩ : ∃ LK, (enc l).length = LK := ⟨_, rfl⟩
          have HN := Lib.hid hN; have HK := Lib.hid hK; clear hN hK
          have hK2 : 2 ≤ LK ∧ LK ≤ 12122 := by rw [← HK.out]; exact HEL.out
          have hN2 : 2 ≤ LN ∧ LN ≤ 12122 := by rw [← HN.out]; exact HEM.out
          have hN2a : (2 : Int) ≤ (LN : Int) := by omega
          have hN2b : decide (LN < 2) = false := decide_eq_false (by omega)
          have hNt := tail_exists .i64
          by_cases h20 : n + n2 ≤ 20
          · have hg20 : ((20 : Int) < (n : Int) + (n2 : Int)) = False := eq_false (by omega)
            have HDN := Lib.hid (show dec (enc l ++ (enc m).drop 2) = some (l ++ m) by rw [HDJ.out, HGA.out, HLL.out, HLM.out, decide_eq_true h20]; rfl)
            clear HDJ HGA hNt
            go_enter Try.func13, Try.ntmps13
            go_wp2_with fail
            refine (awake20_any w).mono ?_
            rintro e w1 ⟨rfl, hb1⟩
            have HR1 := Lib.hid (HR.out.after hb1); have HS1 := Lib.hid (HS.out.after hb1); have HB1 := Lib.hid hb1; clear hb1
            go_wp2_with fail
            refine (few_any A n c l w1 HR1.out hn63).mono ?_
            rintro e w2 ⟨rfl, rfl⟩
            rw [HF1.out]
            go_wp2_with fail
            refine (few_any B n2 d m w1 HS1.out hm63).mono ?_
            rintro e w2 ⟨rfl, rfl⟩
            rw [HF2.out]
            go_wp2_with fail
            refine (encode_good A n c l w1 HR1.out hn63 HG1.out).mono ?_
            rintro e w3 ⟨A3, c3, rfl, hy3, hb3⟩
            rw [HK.out] at hy3 ⊢
            have HR3 := Lib.hid (HR1.out.after hb3); have HS3 := Lib.hid (HS1.out.after hb3); have HY3 := Lib.hid hy3; have HB3 := Lib.hid (below_then HB1.out hb3); clear hb3 hy3
            go_wp2_with fail
            refine (encode_good B n2 d m w3 HS3.out hm63 HG2.out).mono ?_
            rintro e w4 ⟨A4, c4, rfl, hy4, hb4⟩
            rw [HN.out] at hy4 ⊢
            have HR4 := Lib.hid (HR3.out.after hb4); have HS4 := Lib.hid (HS3.out.after hb4); have HY4 := Lib.hid (HY3.out.after hb4); have HB4 := Lib.hid (below_then HB3.out hb4); clear hb4
            have HRA := Lib.hid HY4.out.rd
            obtain ⟨A9, hsl, hrb⟩ := tail_exists .i64 w4 w4.heap.size A4 LN c4 2 (enc m) hy4.rd hN2.1 hy4.cap
            have hsl : ∀ w2, (Instr.slice 24 (.slice A4 LN c4) (some (.int .i64 2)) none none).run Try.prog w2 = .ok (.slice A9 (LN - 2) (c4 - 2)) w2 := hsl
            have HRB := Lib.hid hrb
            clear hrb hy4 HR HS HR1 HS1 HB1 HR3 HS3 HY3 HB3
            go_upto_region 8 with fail
            refine wp_region_held_drew (S := fun _ => True) (by kernel_rfl) trivial (fun hHeld => ?_)
            refine wpAnyH_take (i := 1) (oi := ?ojbt1) (v := ?vjbt1) ?ejbt1 ?ajbt1 ?bjbt1 ?cjbt1 ?hjbt1 (Or.inl ⟨?gjbt1, ?yjbt1⟩) trivial ?rjbt1
            case ejbt1 => simp only [List.getElem?_toArray, List.getElem?_cons_zero, List.getElem?_cons_succ]; rfl
            case ajbt1 => kernel_rfl
            case bjbt1 => kernel_rfl
            case cjbt1 => kernel_rfl
            case gjbt1 => rfl
            case yjbt1 => (intro w' hSw; (try dsimp only at hSw); first | (go_simp; done) | (go_simp; with_reducible rfl))
            case hjbt1 => exact fun _ _ _ h => h
            case' rjbt1 => try simp only [Act.put, List.setIfInBounds_toArray, List.set_cons_zero, List.set_cons_succ]
            refine wpAnyH_take (i := 3) (oi := ?ojbt3) (v := ?vjbt3) ?ejbt3 ?ajbt3 ?bjbt3 ?cjbt3 ?hjbt3 (Or.inl ⟨?gjbt3, ?yjbt3⟩) trivial ?rjbt3
            case ejbt3 => simp only [List.getElem?_toArray, List.getElem?_cons_zero, List.getElem?_cons_succ]; rfl
            case ajbt3 => kernel_rfl
            case bjbt3 => kernel_rfl
            case cjbt3 => kernel_rfl
            case gjbt3 => rfl
            case yjbt3 => (intro w' hSw; (try dsimp only at hSw); first | (go_simp; done) | (go_simp; with_reducible rfl))
            case hjbt3 => exact fun _ _ _ h => h
            case' rjbt3 => try simp only [Act.put, List.setIfInBounds_toArray, List.set_cons_zero, List.set_cons_succ]
            refine wpAnyH_take (i := 4) (oi := ?ojbt4) (v := ?vjbt4) ?ejbt4 ?ajbt4 ?bjbt4 ?cjbt4 ?hjbt4 (Or.inl ⟨?gjbt4, ?yjbt4⟩) trivial ?rjbt4
            case ejbt4 => simp only [List.getElem?_toArray, List.getElem?_cons_zero, List.getElem?_cons_succ]; rfl
            case ajbt4 => kernel_rfl
            case bjbt4 => kernel_rfl
            case cjbt4 => kernel_rfl
            case gjbt4 => rfl
            case yjbt4 => (intro w' hSw; (try dsimp only at hSw); first | (go_simp; done) | (go_simp; with_reducible rfl))
            case hjbt4 => exact fun _ _ _ h => h
            case' rjbt4 => try simp only [Act.put, List.setIfInBounds_toArray, List.set_cons_zero, List.set_cons_succ]
            refine wpAnyH_ready (rs := [0]) (by kernel_rfl) (by simp) ?_
            refine (AllReadyH.cons (o := ?ojba0) ?ejba0 (fun K hK => ?sjba0) AllReadyH.nil)
            case ejba0 => simp only [List.getElem?_toArray, List.getElem?_cons_zero]; rfl
            go_simp
            refine hK.out _ _ trivial (fun hHeld => ?_)
            clear hK K
            try simp only [Act.put, List.setIfInBounds_toArray, List.set_cons_zero, List.set_cons_succ]
            refine wpAnyH_ready (rs := [2]) (by kernel_rfl) (by simp) ?_
            refine (AllReadyH.cons (o := ?ojbb2) ?ejbb2 (fun K hK => ?sjbb2) AllReadyH.nil)
            case ejbb2 => simp only [List.getElem?_toArray, List.getElem?_cons_zero, List.getElem?_cons_succ]; rfl
            rw [if_pos (by rfl)]
            refine wp_append_any _ (.tmp 54) (.tmp 55) 24 rfl w4.heap.size 5 i0 (.int .u8 0) Try.underlying24 hi0 hz0 hz1 hz2 rfl (.slice (some ⟨w4.heap.size, 0, none⟩) 0 0) 0 [] rfl ?jbq1 w4.heap.size A3 LK c3 (enc l) rfl ?jbq2 ?jbq3 ?jbq4 ?_
            case jbq1 => exact World.ownsRow_lit w4.drew #[] 0 (Nat.le_refl _) (by unfold maxLen; omega) rfl
            case jbq2 => exact (HRA.out : Rd w4.drew w4.heap.size A3 LK (enc l)).alloc (Nat.le_refl _) _
            case jbq3 => omega
            case jbq4 => simp
            intro A7 c7 w7 hown7 hg7 hat7
            have hb7 : Below w4.heap.size w4 w7 := (((Below.refl w4.heap.size w4).drew).alloc (Nat.le_refl _) _).grown hg7 (by simp) (fun k hk => by have h1 : w4.heap.size = k := Option.some.inj hk; omega)
            have HO7 := Lib.hid hown7; have HB7 := Lib.hid hb7; clear hown7 hg7 hat7 hb7
            refine hK.out _ _ trivial (fun hHeld => ?_)
            clear hK K
            try simp only [Act.put, List.setIfInBounds_toArray, List.set_cons_zero, List.set_cons_succ]
            refine wpAnyH_ready (rs := [5]) (by kernel_rfl) (by simp) ?_
            refine (AllReadyH.cons (o := ?ojbc5) ?ejbc5 (fun K hK => ?sjbc5) AllReadyH.nil)
            case ejbc5 => simp only [List.getElem?_toArray, List.getElem?_cons_zero, List.getElem?_cons_succ]; rfl
            rw [if_pos (by rfl)]
            refine wp_append_any _ (.tmp 56) (.tmp 58) 24 rfl w4.heap.size 5 i0 (.int .u8 0) Try.underlying24 hi0 hz0 hz1 hz2 rfl (.slice A7 (0 + LK) c7) (0 + LK) ([] ++ enc l) rfl ?jbr1 w4.heap.size A9 (LN - 2) (c4 - 2) ((enc m).drop 2) rfl ?jbr2 ?jbr3 ?jbr4 ?_
            case jbr1 => exact HO7.out
            case jbr2 => exact HRB.out.below HB7.out
            case jbr3 => omega
            case jbr4 => exact HB7.out.size
            intro A8 c8 w8 hown8 hg8 hat8
            have hb8 : Below w4.heap.size w4 w8 := HB7.out.grown hg8 HB7.out.size (fun j hj => (HO7.out.lt j hj).1)
            have hy8 : Byt w8 (.slice A8 (LK + (LN - 2)) c8) (enc l ++ (enc m).drop 2) := by
              have hl : (enc l ++ (enc m).drop 2).length = LK + (LN - 2) := by rw [List.length_append, List.length_drop, HK.out, HN.out]
              rw [Nat.zero_add, ← hl] at hown8
              rw [← hl]
              exact Byt.of_own hown8
            have HY8 := Lib.hid hy8; have HB8 := Lib.hid hb8; clear hown8 hg8 hat8 hb8 hy8
            refine hK.out _ _ trivial (fun hHeld => ?_)
            clear hK K
            try simp only [Act.put, List.setIfInBounds_toArray, List.set_cons_zero, List.set_cons_succ]
            refine wpAnyH_ready (rs := [6]) (by kernel_rfl) (by simp) ?_
            refine (AllReadyH.cons (o := ?ojbd6) ?ejbd6 (fun K hK => ?sjbd6) AllReadyH.nil)
            case ejbd6 => simp only [List.getElem?_toArray, List.getElem?_cons_zero, List.getElem?_cons_succ]; rfl
            go_simp
            (with_reducible refine (decode_got A8 (LK + (LN - 2)) c8 (enc l ++ (enc m).drop 2) w8 HY8.out (by omega) (l ++ m) HDN.out).mono ?_)
            rintro e w9 ⟨A10, c10, rfl, hv9, hb9⟩
            have HV9 := Lib.hid hv9; have HB9 := Lib.hid hb9; clear hv9 hb9
            refine hK.out _ _ trivial (fun hHeld => ?_)
            clear hK K
            try simp only [Act.put, List.setIfInBounds_toArray, List.set_cons_zero, List.set_cons_succ]
            refine wpAnyH_take (i := 7) (oi := ?ojbu7) (v := ?vjbu7) ?ejbu7 ?ajbu7 ?bjbu7 ?cjbu7 ?hjbu7 (Or.inl ⟨?gjbu7, ?yjbu7⟩) trivial ?rjbu7
            case ejbu7 => simp only [List.getElem?_toArray, List.getElem?_cons_zero, List.getElem?_cons_succ]; rfl
            case ajbu7 => kernel_rfl
            case bjbu7 => kernel_rfl
            case cjbu7 => kernel_rfl
            case gjbu7 => rfl
            case yjbu7 => (intro w' hSw; (try dsimp only at hSw); first | (go_simp; done) | (go_simp; with_reducible rfl))
            case hjbu7 => exact fun _ _ _ h => h
            case' rjbu7 => try simp only [Act.put, List.setIfInBounds_toArray, List.set_cons_zero, List.set_cons_succ]
            refine wpAnyH_take (i := 8) (oi := ?ojbu8) (v := ?vjbu8) ?ejbu8 ?ajbu8 ?bjbu8 ?cjbu8 ?hjbu8 (Or.inl ⟨?gjbu8, ?yjbu8⟩) trivial ?rjbu8
            case ejbu8 => simp only [List.getElem?_toArray, List.getElem?_cons_zero, List.getElem?_cons_succ]; rfl
            case ajbu8 => kernel_rfl
            case bjbu8 => kernel_rfl
            case cjbu8 => kernel_rfl
            case gjbu8 => rfl
            case yjbu8 => (intro w' hSw; (try dsimp only at hSw); first | (go_simp; done) | (go_simp; with_reducible rfl))
            case hjbu8 => exact fun _ _ _ h => h
            case' rjbu8 => try simp only [Act.put, List.setIfInBounds_toArray, List.set_cons_zero, List.set_cons_succ]
            refine wpAnyH_take (i := 9) (oi := ?ojbu9) (v := ?vjbu9) ?ejbu9 ?ajbu9 ?bjbu9 ?cjbu9 ?hjbu9 (Or.inl ⟨?gjbu9, ?yjbu9⟩) trivial ?rjbu9
            case ejbu9 => simp only [List.getElem?_toArray, List.getElem?_cons_zero, List.getElem?_cons_succ]; rfl
            case ajbu9 => kernel_rfl
            case bjbu9 => kernel_rfl
            case cjbu9 => kernel_rfl
            case gjbu9 => rfl
            case yjbu9 => (intro w' hSw; (try dsimp only at hSw); first | (go_simp; done) | (go_simp; with_reducible rfl))
            case hjbu9 => exact fun _ _ _ h => h
            case' rjbu9 => try simp only [Act.put, List.setIfInBounds_toArray, List.set_cons_zero, List.set_cons_succ]
            refine wpAnyH_ready (rs := [10]) (by kernel_rfl) (by simp) ?_
            refine (AllReadyH.cons (o := ?ojbe010) ?ejbe010 (fun K hK => ?sjbe010) AllReadyH.nil)
            case ejbe010 => simp only [List.getElem?_toArray, List.getElem?_cons_zero, List.getElem?_cons_succ]; rfl
            go_simp
            refine hK.out _ _ trivial (fun hHeld => ?_)
            clear hK K
            try simp only [Act.put, List.setIfInBounds_toArray, List.set_cons_zero, List.set_cons_succ]
            refine wpAnyH_ready (rs := [11]) (by kernel_rfl) (by simp) ?_
            refine (AllReadyH.cons (o := ?ojbe111) ?ejbe111 (fun K hK => ?sjbe111) AllReadyH.nil)
            case ejbe111 => simp only [List.getElem?_toArray, List.getElem?_cons_zero, List.getElem?_cons_succ]; rfl
            go_simp
            refine hK.out _ _ trivial (fun hHeld => ?_)
            clear hK K
            try simp only [Act.put, List.setIfInBounds_toArray, List.set_cons_zero, List.set_cons_succ]
            refine wpAnyH_done (by kernel_rfl) ?_ _
            have hb49 := below_then HB8.out HB9.out
            have HR9 := Lib.hid (HR4.out.after hb49); have HS9 := Lib.hid (HS4.out.after hb49)
            have HBB := Lib.hid (HB4.out.trans (hb49.mono HB4.out.size))
            have hlm : (l ++ m).length = n + n2 := by rw [List.length_append, HLL.out, HLM.out]
            have hv9 := HV9.out
            rw [hlm] at hv9
            rw [show l.length + m.length = n + n2 by rw [HLL.out, HLM.out]]
            have HV := Lib.hid hv9; have HLMM := Lib.hid hlm
            clear hb49 hlm hv9 HV9 HB8 HB9 HO7 HB7 HY8 HRA HRB HY4 HR4 HS4 HB4 hsl
            go_wp2_with (at_builtin; refine wpList_append_hds rfl (.tmp 75) (.tmp 76) rfl w9.heap.size (.slice (some ⟨w9.heap.size, 0, none⟩) 0 0) 0 [] rfl ?p1 w9.heap.size A n c l rfl ?p2 ?p3 ?p4 ?_)
            case p1 => exact World.ownsRow_lit w9 #[] 0 (Nat.le_refl _) (by unfold maxLen; omega) rfl
            case p2 => exact HR9.out.alloc (Nat.le_refl _) _
            case p3 => omega
            case p4 => simp
            intro A11 c11 w11 hown11 hg11
            have hb11 : Below w9.heap.size w9 w11 := ((Below.refl _ w9).alloc (Nat.le_refl _) _).grown hg11 (by simp) (fun k hk => by have h1 : w9.heap.size = k := Option.some.inj hk; omega)
            have HO11 := Lib.hid hown11; have HB11 := Lib.hid hb11; clear hown11 hg11 hb11
            go_wp2_with (at_builtin; refine wpList_append_hds rfl (.tmp 77) (.tmp 78) rfl w9.heap.size (.slice A11 n c11) n l rfl ?p5 w9.heap.size B n2 d m rfl ?p6 ?p7 ?p8 ?_)
            case p5 => simpa using HO11.out
            case p6 => exact HS9.out.below HB11.out
            case p7 => omega
            case p8 => exact HB11.out.size
            intro A12 c12 w12 hown12 hg12
            have hb12 : Below w9.heap.size w9 w12 := HB11.out.grown hg12 HB11.out.size (fun j hj => ((by simpa using HO11.out : w11.ownsRow w9.heap.size 53 2 (.slice A11 n c11) n (cellsOf l)).lt j hj).1)
            have hr12 : HRd w12 w12.heap.size A12 (n + n2) (l ++ m) := HRd.of_own hown12 HLMM.out
            have HR12 := Lib.hid hr12; have HB12 := Lib.hid hb12; clear hown12 hg12 hr12 hb12
            go_wp2_with fail
            refine (same_hds A10 (n + n2) c10 (l ++ m) A12 (n + n2) c12 (l ++ m) w12 (HV.out.after HB12.out) HR12.out (by omega)).mono ?_
            rintro e w13 ⟨rfl, hb13⟩
            rw [decide_eq_true rfl]
            have HB13 := Lib.hid hb13; clear hb13
            go_wp2_with fail
            go_ret
            exact ⟨rfl, (HBB.out.trans (HB12.out.mono HBB.out.size)).trans (HB13.out.mono (by have := HBB.out.size; have := HB12.out.size; omega))⟩
          · have hg20 : ((20 : Int) < (n : Int) + (n2 : Int)) := by omega
            have HDN := Lib.hid (show dec (enc l ++ (enc m).drop 2) = none by rw [HDJ.out, HGA.out, HLL.out, HLM.out, decide_eq_false h20]; rfl)
            clear HDJ HGA hNt
            go_enter Try.func13, Try.ntmps13
            go_wp2_with fail
            refine (awake20_any w).mono ?_
            rintro e w1 ⟨rfl, hb1⟩
            have HR1 := Lib.hid (HR.out.after hb1); have HS1 := Lib.hid (HS.out.after hb1); have HB1 := Lib.hid hb1; clear hb1
            go_wp2_with fail
            refine (few_any A n c l w1 HR1.out hn63).mono ?_
            rintro e w2 ⟨rfl, rfl⟩
            rw [HF1.out]
            go_wp2_with fail
            refine (few_any B n2 d m w1 HS1.out hm63).mono ?_
            rintro e w2 ⟨rfl, rfl⟩
            rw [HF2.out]
            go_wp2_with fail
            refine (encode_good A n c l w1 HR1.out hn63 HG1.out).mono ?_
            rintro e w3 ⟨A3, c3, rfl, hy3, hb3⟩
            rw [HK.out] at hy3 ⊢
            have HS3 := Lib.hid (HS1.out.after hb3); have HY3 := Lib.hid hy3; have HB3 := Lib.hid (below_then HB1.out hb3); clear hb3 hy3
            go_wp2_with fail
            refine (encode_good B n2 d m w3 HS3.out hm63 HG2.out).mono ?_
            rintro e w4 ⟨A4, c4, rfl, hy4, hb4⟩
            rw [HN.out] at hy4 ⊢
            have HY4 := Lib.hid (HY3.out.after hb4); have HB4 := Lib.hid (below_then HB3.out hb4); clear hb4
            have HRA := Lib.hid HY4.out.rd
            obtain ⟨A9, hsl, hrb⟩ := tail_exists .i64 w4 w4.heap.size A4 LN c4 2 (enc m) hy4.rd hN2.1 hy4.cap
            have hsl : ∀ w2, (Instr.slice 24 (.slice A4 LN c4) (some (.int .i64 2)) none none).run Try.prog w2 = .ok (.slice A9 (LN - 2) (c4 - 2)) w2 := hsl
            have HRB := Lib.hid hrb
            clear hrb hy4 HR HS HR1 HS1 HB1 HS3 HY3 HB3
            go_upto_region 8 with fail
            refine wp_region_held_drew (S := fun _ => True) (by kernel_rfl) trivial (fun hHeld => ?_)
            refine wpAnyH_take (i := 1) (oi := ?ojat1) (v := ?vjat1) ?ejat1 ?ajat1 ?bjat1 ?cjat1 ?hjat1 (Or.inl ⟨?gjat1, ?yjat1⟩) trivial ?rjat1
            case ejat1 => simp only [List.getElem?_toArray, List.getElem?_cons_zero, List.getElem?_cons_succ]; rfl
            case ajat1 => kernel_rfl
            case bjat1 => kernel_rfl
            case cjat1 => kernel_rfl
            case gjat1 => rfl
            case yjat1 => (intro w' hSw; (try dsimp only at hSw); first | (go_simp; done) | (go_simp; with_reducible rfl))
            case hjat1 => exact fun _ _ _ h => h
            case' rjat1 => try simp only [Act.put, List.setIfInBounds_toArray, List.set_cons_zero, List.set_cons_succ]
            refine wpAnyH_take (i := 3) (oi := ?ojat3) (v := ?vjat3) ?ejat3 ?ajat3 ?bjat3 ?cjat3 ?hjat3 (Or.inl ⟨?gjat3, ?yjat3⟩) trivial ?rjat3
            case ejat3 => simp only [List.getElem?_toArray, List.getElem?_cons_zero, List.getElem?_cons_succ]; rfl
            case ajat3 => kernel_rfl
            case bjat3 => kernel_rfl
            case cjat3 => kernel_rfl
            case gjat3 => rfl
            case yjat3 => (intro w' hSw; (try dsimp only at hSw); first | (go_simp; done) | (go_simp; with_reducible rfl))
            case hjat3 => exact fun _ _ _ h => h
            case' rjat3 => try simp only [Act.put, List.setIfInBounds_toArray, List.set_cons_zero, List.set_cons_succ]
            refine wpAnyH_take (i := 4) (oi := ?ojat4) (v := ?vjat4) ?ejat4 ?ajat4 ?bjat4 ?cjat4 ?hjat4 (Or.inl ⟨?gjat4, ?yjat4⟩) trivial ?rjat4
            case ejat4 => simp only [List.getElem?_toArray, List.getElem?_cons_zero, List.getElem?_cons_succ]; rfl
            case ajat4 => kernel_rfl
            case bjat4 => kernel_rfl
            case cjat4 => kernel_rfl
            case gjat4 => rfl
            case yjat4 => (intro w' hSw; (try dsimp only at hSw); first | (go_simp; done) | (go_simp; with_reducible rfl))
            case hjat4 => exact fun _ _ _ h => h
            case' rjat4 => try simp only [Act.put, List.setIfInBounds_toArray, List.set_cons_zero, List.set_cons_succ]
            refine wpAnyH_ready (rs := [0]) (by kernel_rfl) (by simp) ?_
            refine (AllReadyH.cons (o := ?ojaa0) ?ejaa0 (fun K hK => ?sjaa0) AllReadyH.nil)
            case ejaa0 => simp only [List.getElem?_toArray, List.getElem?_cons_zero]; rfl
            go_simp
            refine hK.out _ _ trivial (fun hHeld => ?_)
            clear hK K
            try simp only [Act.put, List.setIfInBounds_toArray, List.set_cons_zero, List.set_cons_succ]
            refine wpAnyH_ready (rs := [2]) (by kernel_rfl) (by simp) ?_
            refine (AllReadyH.cons (o := ?ojab2) ?ejab2 (fun K hK => ?sjab2) AllReadyH.nil)
            case ejab2 => simp only [List.getElem?_toArray, List.getElem?_cons_zero, List.getElem?_cons_succ]; rfl
            rw [if_pos (by rfl)]
            refine wp_append_any _ (.tmp 54) (.tmp 55) 24 rfl w4.heap.size 5 i0 (.int .u8 0) Try.underlying24 hi0 hz0 hz1 hz2 rfl (.slice (some ⟨w4.heap.size, 0, none⟩) 0 0) 0 [] rfl ?jaq1 w4.heap.size A3 LK c3 (enc l) rfl ?jaq2 ?jaq3 ?jaq4 ?_
            case jaq1 => exact World.ownsRow_lit w4.drew #[] 0 (Nat.le_refl _) (by unfold maxLen; omega) rfl
            case jaq2 => exact (HRA.out : Rd w4.drew w4.heap.size A3 LK (enc l)).alloc (Nat.le_refl _) _
            case jaq3 => omega
            case jaq4 => simp
            intro A7 c7 w7 hown7 hg7 hat7
            have hb7 : Below w4.heap.size w4 w7 := (((Below.refl w4.heap.size w4).drew).alloc (Nat.le_refl _) _).grown hg7 (by simp) (fun k hk => by have h1 : w4.heap.size = k := Option.some.inj hk; omega)
            have HO7 := Lib.hid hown7; have HB7 := Lib.hid hb7; clear hown7 hg7 hat7 hb7
            refine hK.out _ _ trivial (fun hHeld => ?_)
            clear hK K
            try simp only [Act.put, List.setIfInBounds_toArray, List.set_cons_zero, List.set_cons_succ]
            refine wpAnyH_ready (rs := [5]) (by kernel_rfl) (by simp) ?_
            refine (AllReadyH.cons (o := ?ojac5) ?ejac5 (fun K hK => ?sjac5) AllReadyH.nil)
            case ejac5 => simp only [List.getElem?_toArray, List.getElem?_cons_zero, List.getElem?_cons_succ]; rfl
            rw [if_pos (by rfl)]
            refine wp_append_any _ (.tmp 56) (.tmp 58) 24 rfl w4.heap.size 5 i0 (.int .u8 0) Try.underlying24 hi0 hz0 hz1 hz2 rfl (.slice A7 (0 + LK) c7) (0 + LK) ([] ++ enc l) rfl ?jar1 w4.heap.size A9 (LN - 2) (c4 - 2) ((enc m).drop 2) rfl ?jar2 ?jar3 ?jar4 ?_
            case jar1 => exact HO7.out
            case jar2 => exact HRB.out.below HB7.out
            case jar3 => omega
            case jar4 => exact HB7.out.size
            intro A8 c8 w8 hown8 hg8 hat8
            have hb8 : Below w4.heap.size w4 w8 := HB7.out.grown hg8 HB7.out.size (fun j hj => (HO7.out.lt j hj).1)
            have hy8 : Byt w8 (.slice A8 (LK + (LN - 2)) c8) (enc l ++ (enc m).drop 2) := by
              have hl : (enc l ++ (enc m).drop 2).length = LK + (LN - 2) := by rw [List.length_append, List.length_drop, HK.out, HN.out]
              rw [Nat.zero_add, ← hl] at hown8
              rw [← hl]
              exact Byt.of_own hown8
            have HY8 := Lib.hid hy8; have HB8 := Lib.hid hb8; clear hown8 hg8 hat8 hb8 hy8
            refine hK.out _ _ trivial (fun hHeld => ?_)
            clear hK K
            try simp only [Act.put, List.setIfInBounds_toArray, List.set_cons_zero, List.set_cons_succ]
            refine wpAnyH_ready (rs := [6]) (by kernel_rfl) (by simp) ?_
            refine (AllReadyH.cons (o := ?ojad6) ?ejad6 (fun K hK => ?sjad6) AllReadyH.nil)
            case ejad6 => simp only [List.getElem?_toArray, List.getElem?_cons_zero, List.getElem?_cons_succ]; rfl
            go_simp
            (with_reducible refine (decode_no A8 (LK + (LN - 2)) c8 (enc l ++ (enc m).drop 2) w8 HY8.out (by omega) HDN.out).mono ?_)
            rintro e w9 ⟨rfl, hb9⟩
            have HB9 := Lib.hid hb9; clear hb9
            refine hK.out _ _ trivial (fun hHeld => ?_)
            clear hK K
            try simp only [Act.put, List.setIfInBounds_toArray, List.set_cons_zero, List.set_cons_succ]
            refine wpAnyH_take (i := 7) (oi := ?ojau7) (v := ?vjau7) ?ejau7 ?ajau7 ?bjau7 ?cjau7 ?hjau7 (Or.inl ⟨?gjau7, ?yjau7⟩) trivial ?rjau7
            case ejau7 => simp only [List.getElem?_toArray, List.getElem?_cons_zero, List.getElem?_cons_succ]; rfl
            case ajau7 => kernel_rfl
            case bjau7 => kernel_rfl
            case cjau7 => kernel_rfl
            case gjau7 => rfl
            case yjau7 => (intro w' hSw; (try dsimp only at hSw); first | (go_simp; done) | (go_simp; with_reducible rfl))
            case hjau7 => exact fun _ _ _ h => h
            case' rjau7 => try simp only [Act.put, List.setIfInBounds_toArray, List.set_cons_zero, List.set_cons_succ]
            refine wpAnyH_take (i := 8) (oi := ?ojau8) (v := ?vjau8) ?ejau8 ?ajau8 ?bjau8 ?cjau8 ?hjau8 (Or.inl ⟨?gjau8, ?yjau8⟩) trivial ?rjau8
            case ejau8 => simp only [List.getElem?_toArray, List.getElem?_cons_zero, List.getElem?_cons_succ]; rfl
            case ajau8 => kernel_rfl
            case bjau8 => kernel_rfl
            case cjau8 => kernel_rfl
            case gjau8 => rfl
            case yjau8 => (intro w' hSw; (try dsimp only at hSw); first | (go_simp; done) | (go_simp; with_reducible rfl))
            case hjau8 => exact fun _ _ _ h => h
            case' rjau8 => try simp only [Act.put, List.setIfInBounds_toArray, List.set_cons_zero, List.set_cons_succ]
            refine wpAnyH_take (i := 9) (oi := ?ojau9) (v := ?vjau9) ?ejau9 ?ajau9 ?bjau9 ?cjau9 ?hjau9 (Or.inl ⟨?gjau9, ?yjau9⟩) trivial ?rjau9
            case ejau9 => simp only [List.getElem?_toArray, List.getElem?_cons_zero, List.getElem?_cons_succ]; rfl
            case ajau9 => kernel_rfl
            case bjau9 => kernel_rfl
            case cjau9 => kernel_rfl
            case gjau9 => rfl
            case yjau9 => (intro w' hSw; (try dsimp only at hSw); first | (go_simp; done) | (go_simp; with_reducible rfl))
            case hjau9 => exact fun _ _ _ h => h
            case' rjau9 => try simp only [Act.put, List.setIfInBounds_toArray, List.set_cons_zero, List.set_cons_succ]
            refine wpAnyH_ready (rs := [10]) (by kernel_rfl) (by simp) ?_
            refine (AllReadyH.cons (o := ?ojae010) ?ejae010 (fun K hK => ?sjae010) AllReadyH.nil)
            case ejae010 => simp only [List.getElem?_toArray, List.getElem?_cons_zero, List.getElem?_cons_succ]; rfl
            go_simp
            refine hK.out _ _ trivial (fun hHeld => ?_)
            clear hK K
            try simp only [Act.put, List.setIfInBounds_toArray, List.set_cons_zero, List.set_cons_succ]
            refine wpAnyH_ready (rs := [11]) (by kernel_rfl) (by simp) ?_
            refine (AllReadyH.cons (o := ?ojae111) ?ejae111 (fun K hK => ?sjae111) AllReadyH.nil)
            case ejae111 => simp only [List.getElem?_toArray, List.getElem?_cons_zero, List.getElem?_cons_succ]; rfl
            go_simp
            refine hK.out _ _ trivial (fun hHeld => ?_)
            clear hK K
            try simp only [Act.put, List.setIfInBounds_toArray, List.set_cons_zero, List.set_cons_succ]
            refine wpAnyH_done (by kernel_rfl) ?_ _
            go_wp2_with fail
            go_ret
            exact ⟨rfl, HB4.out.trans ((below_then HB8.out HB9.out).mono HB4.out.size)⟩
end Go.Proofs.Ytcimcldmkaggnaa
