/- The walk of the law HeadersParts. -/
import Derived.Test.YtcimcldmkaggnaaHeadersBackW
import Derived.Test.YtcimcldmkaggnaaHdrParts
import Derived.Test.YtcimcldmkaggnaaHdrU16
import Derived.Test.YtcimcldmkaggnaaGrow
import Derived.Deep.RegionHeld3
import Derived.Deep.DeepCutAuto
import Derived.Deep.CutBlock
import Derived.Deep.LoopGhost
namespace Go.Proofs.Ytcimcldmkaggnaa
set_option linter.unusedVariables false
set_option linter.unusedSimpArgs false
open Go.RowKit
open Hd Va

theorem run_min2 (x y : Int) (k : Int) (h : (if y < x then y else x) = k) (w : World) : (Builtin.min_ #[3, 3] 3 #[.int .i64 x, .int .i64 y]).run Try.prog w = .ok (.int .i64 k) w := by
  subst h
  simp [Builtin.min_, Builtin.min2]

set_option maxRecDepth 100000 in
set_option maxHeartbeats 3200000 in
theorem walk_HeadersParts (A : Option Addr) (n c : Nat) (hs : List H) (B : Option Addr) (m d : Nat) (body : List UInt8) (C : Option Addr) (q cq : Nat) (cuts : List Nat) (kind : Int) (w : World) (hh : HdrsIn w A n c hs) (hb : SliceIn w B m d body) (hcu : U16sIn w C q cq cuts) (wk : (Lit.int .u8 kind).wf = true) :
    Calls Try.prog 7 #[.slice A n c, .slice B m d, .slice C q cq, .int .u8 kind] w fun e w' => e = .returned (.bool true) ∧ Below w.heap.size w w' := by
  obtain ⟨y, rfl⟩ := byte_of wk
  obtain ⟨hr, hnc, hcm, -⟩ := hh
  obtain ⟨hrb, hmd, hdm, -⟩ := hb
  obtain ⟨hql, hqc, hqm, hqs⟩ := hcu
  obtain ⟨i0, hi0, hz0, hz1, hz2⟩ := info_parts info5
  have hn63 : n ≤ 9223372036854775807 := by unfold maxLen at hcm; omega
  have hm63 : m ≤ 9223372036854775807 := by unfold maxLen at hdm; omega
  have hq63 : q ≤ 9223372036854775807 := by unfold maxLen at hqm; omega
  have HR := Lib.hid hr; have HY := Lib.hid hrb; have HMD := Lib.hid (And.intro hmd hdm); have HQS := Lib.hid hqs; have HQL := Lib.hid hql
  clear hr hrb hnc hcm hmd hdm hql hqc hqm hqs wk
  cases hfew : fewV hs with
  | false =>
    have HFW := Lib.hid hfew; clear hfew
    go_enter Try.func7, Try.ntmps7
    go_wp2_with fail
    refine (awake20_any w).mono ?_
    rintro e w1 ⟨rfl, hb1⟩
    have HR1 := Lib.hid (HR.out.after hb1); have HB1 := Lib.hid hb1; clear hb1
    go_wp2_with fail
    refine (few_any A n c hs w1 HR1.out hn63).mono ?_
    rintro e w2 ⟨rfl, rfl⟩
    rw [HFW.out]
    go_wp2_with fail
    go_ret
    exact ⟨rfl, HB1.out⟩
  | true =>
    have HFW := Lib.hid hfew; clear hfew
    by_cases hm3 : m ≤ 500
    · have hg3 : ((500 : Int) < (m : Int)) = False := eq_false (by omega)
      cases hgd : good hs with
      | false =>
        have HGD := Lib.hid hgd; clear hgd
        go_enter Try.func7, Try.ntmps7
        go_wp2_with fail
        refine (awake20_any w).mono ?_
        rintro e w1 ⟨rfl, hb1⟩
        have HR1 := Lib.hid (HR.out.after hb1); have HB1 := Lib.hid hb1; clear hb1
        go_wp2_with fail
        refine (few_any A n c hs w1 HR1.out hn63).mono ?_
        rintro e w2 ⟨rfl, rfl⟩
        rw [HFW.out]
        go_wp2_with fail
        refine (message_bad A n c hs none 0 0 [] w1 HR1.out hn63 (byt_nil w1) rfl (by omega) HGD.out).mono ?_
        rintro e w3 ⟨rfl, hb3⟩
        have HB3 := Lib.hid hb3; clear hb3
        go_wp2_with fail
        go_ret
        exact ⟨rfl, below_then HB1.out HB3.out⟩
      | true =>
        have HML := Lib.hid (msg_length hs [] hgd (by simp))
        have HMP := Lib.hid (msg_pos hs [] hgd)
        have HGD := Lib.hid hgd; clear hgd
        have HHL := Lib.hid HR.out.1
        have hyl : y.toNat < 256 := y.toNat_lt
        have hym : y.toNat % 50 < 50 := Nat.mod_lt _ (by omega)
        obtain ⟨ky, hky⟩ : ∃ ky, y.toNat % 50 = ky := ⟨_, rfl⟩
        have hkyi : (y.toNat : Int) % 50 = (ky : Int) := by omega
        rw [hky] at hym
        clear hky
        go_enter Try.func7, Try.ntmps7
        go_wp2_with fail
        refine (awake20_any w).mono ?_
        rintro e w1 ⟨rfl, hb1⟩
        have HR1 := Lib.hid (HR.out.after hb1); have HY1 := Lib.hid (HY.out.after hb1); have HB1 := Lib.hid hb1; clear hb1
        go_wp2_with fail
        refine (few_any A n c hs w1 HR1.out hn63).mono ?_
        rintro e w2 ⟨rfl, rfl⟩
        rw [HFW.out]
        go_wp2_with fail
        refine (message_good A n c hs none 0 0 [] w1 HR1.out hn63 (byt_nil w1) rfl (by omega) HGD.out).mono ?_
        rintro e w3 ⟨A3, c3, rfl, hf3, hy3, hb3⟩
        have hg3 := Gr.of_fresh hf3 HMP.out
        obtain ⟨Bs, hBs⟩ : ∃ Bs, w1.heap.size = Bs := ⟨_, rfl⟩
        have HBE := Lib.hid hBs
        rw [hBs] at hg3 hb3
        have hr1 := HR1.out; have hy1 := HY1.out
        rw [hBs] at hr1 hy1
        have HR3 := Lib.hid (hr1.below hb3); have HY3 := Lib.hid (hy1.below hb3); have HG3 := Lib.hid hg3; have HB3 := Lib.hid hb3
        have HBS := Lib.hid (show Bs ≤ w3.heap.size by have := hb3.size; omega)
        have HQ3 := Lib.hid (fun (h : 0 < q) => HQS.out h)
        clear hf3 hy3 hg3 hb3 hBs hr1 hy1
        obtain ⟨M, hM⟩ : ∃ M, msg hs [] = M := ⟨_, rfl⟩
        have HM := Lib.hid (show M = frm 1 (enc hs) by rw [← hM]; exact msg_nil hs)
        rw [hM] at HG3 HML ⊢
        clear hM HMP
        go_upto_block 0 with fail
        go_cut [10, 12] (fun s10 s12 wc => ∃ (X rest P T : List UInt8) (A5 : Option Addr) (c5 : Nat) (A6 : Option Addr) (r c6 : Nat), s10 = .slice A5 X.length c5 ∧ s12 = .slice A6 r c6 ∧ Gr wc Bs (.slice A5 X.length c5) X ∧ Rd wc Bs A6 r rest ∧ r ≤ c6 ∧ c6 ≤ maxLen ∧ X = M ++ T ∧ Pre T P ∧ P ++ rest = body ∧ X.length ≤ 21000 ∧ Below Bs w3 wc)
        case first =>
          go_wp2_with fail
          go_loopg [10, 12, 13] 10 (fun gh s10 s12 s13 wr => ∃ (i : Nat) (X rest P T : List UInt8) (A5 : Option Addr) (c5 : Nat) (A6 : Option Addr) (r c6 : Nat), i + gh = 10 ∧ i ≤ q ∧ s13 = .int .i64 (i : Nat) ∧ s10 = .slice A5 X.length c5 ∧ s12 = .slice A6 r c6 ∧ Gr wr Bs (.slice A5 X.length c5) X ∧ Rd wr Bs A6 r rest ∧ r ≤ c6 ∧ c6 ≤ maxLen ∧ X = M ++ T ∧ Pre T P ∧ P ++ rest = body ∧ X.length ≤ 20000 + 100 * i ∧ Below Bs w3 wr)
          case atStart => exact ⟨0, M, body, [], [], A3, c3, B, m, d, by omega, by omega, rfl, rfl, rfl, HG3.out, HY3.out, HMD.out.1, HMD.out.2, by simp, pre_nil, by simp, by have := HML.out; omega, Below.refl _ _⟩
          case round =>
            obtain ⟨i, X, rest, P, T, A5, c5, A6, r, c6, hig, hiq, rfl, rfl, rfl, hgx, hrx, hrc, hcm6, hxt, hpre, hprb, hxl, hbx⟩ := hrel
            have HGX := Lib.hid hgx; have HRX := Lib.hid hrx; have HRC := Lib.hid (And.intro hrc hcm6); have HXT := Lib.hid hxt; have HPRE := Lib.hid hpre; have HPRB := Lib.hid hprb; have HBX := Lib.hid hbx
            have hr500 : r ≤ 500 := by
              have h1 := congrArg List.length HPRB.out
              rw [List.length_append, HRX.out.1, HY.out.1] at h1
              omega
            clear hgx hrx hrc hcm6 hxt hpre hprb hbx
            by_cases hit : i < q ∧ i < 10
            · obtain ⟨hiq1, hi10⟩ := hit
              have hiq2 : (i : Int) < (q : Int) := by omega
              have hi102 : (i : Int) < 10 := by omega
              obtain ⟨bq, oq, rfl, hbq, hcsq⟩ := HQ3.out (by omega)
              obtain ⟨hcz, hz6⟩ := hcsq i (by rw [HQL.out]; omega)
              have hbw : bq < Bs := by have := HB1.out.size; have := HBE.out; omega
              have hcz3 : wr.cell? ⟨bq, oq + i, none⟩ = some (.int .u16 ((cuts[i]'(by rw [HQL.out]; omega) : Nat) : Int)) := ((HBX.out.cell (p := ⟨bq, oq + i, none⟩) hbw).trans ((HB3.out.cell (p := ⟨bq, oq + i, none⟩) hbw).trans (HB1.out.cell (p := ⟨bq, oq + i, none⟩) hbq))).trans hcz
              generalize cuts[i]'(by rw [HQL.out]; omega) = z at *
              obtain ⟨k, hk⟩ : ∃ k, min (z % 60) r = k := ⟨_, rfl⟩
              have hk60 : k ≤ 59 := by omega
              have hkr : k ≤ r := by omega
              have hmin := run_min2 ((z : Int) % 60) (r : Int) (k : Int) (by split <;> omega)
              have hsl := fun w2 => run_headK .i64 w2 A6 r c6 k (by have := HRC.out.1; omega)
              obtain ⟨A9, hst, hr9⟩ := tail_exists .i64 wr Bs A6 r c6 k rest HRX.out hkr HRC.out.1
              have HR9 := Lib.hid hr9
              have HKK := Lib.hid hk
              clear hcsq hcz hk hr9
              go_upto_region 12 with fail
              refine wp_region_held_drew (S := fun _ => True) (by kernel_rfl) trivial (fun hHeld => ?_)
              refine wpAnyH_take (i := 0) (oi := ?ojat0) (v := ?vjat0) ?ejat0 ?ajat0 ?bjat0 ?cjat0 ?hjat0 (Or.inl ⟨?gjat0, ?yjat0⟩) trivial ?rjat0
              case ejat0 => simp only [List.getElem?_toArray, List.getElem?_cons_zero]; rfl
              case ajat0 => kernel_rfl
              case bjat0 => kernel_rfl
              case cjat0 => kernel_rfl
              case gjat0 => rfl
              case yjat0 => (intro w' hSw; (try dsimp only at hSw); first | (go_simp; done) | (go_simp; with_reducible rfl))
              case hjat0 => exact fun _ _ _ h => h
              case' rjat0 => try simp only [Act.put, List.setIfInBounds_toArray, List.set_cons_zero, List.set_cons_succ]
              refine wpAnyH_take (i := 1) (oi := ?ojat1) (v := ?vjat1) ?ejat1 ?ajat1 ?bjat1 ?cjat1 ?hjat1 (Or.inl ⟨?gjat1, ?yjat1⟩) trivial ?rjat1
              case ejat1 => simp only [List.getElem?_toArray, List.getElem?_cons_zero, List.getElem?_cons_succ]; rfl
              case ajat1 => kernel_rfl
              case bjat1 => kernel_rfl
              case cjat1 => kernel_rfl
              case gjat1 => rfl
              case yjat1 => (intro w' hSw; (try dsimp only at hSw); first | (go_simp; done) | (go_simp; with_reducible rfl))
              case hjat1 => exact fun _ _ _ h => h
              case' rjat1 => try simp only [Act.put, List.setIfInBounds_toArray, List.set_cons_zero, List.set_cons_succ]
              refine wpAnyH_take (i := 2) (oi := ?ojat2) (v := ?vjat2) ?ejat2 ?ajat2 ?bjat2 ?cjat2 ?hjat2 (Or.inl ⟨?gjat2, ?yjat2⟩) trivial ?rjat2
              case ejat2 => simp only [List.getElem?_toArray, List.getElem?_cons_zero, List.getElem?_cons_succ]; rfl
              case ajat2 => kernel_rfl
              case bjat2 => kernel_rfl
              case cjat2 => kernel_rfl
              case gjat2 => rfl
              case yjat2 => (intro w' hSw; (try dsimp only at hSw); first | (go_simp; done) | (go_simp; with_reducible rfl))
              case hjat2 => exact fun _ _ _ h => h
              case' rjat2 => try simp only [Act.put, List.setIfInBounds_toArray, List.set_cons_zero, List.set_cons_succ]
              refine wpAnyH_take (i := 5) (oi := ?ojat5) (v := ?vjat5) ?ejat5 ?ajat5 ?bjat5 ?cjat5 ?hjat5 (Or.inl ⟨?gjat5, ?yjat5⟩) trivial ?rjat5
              case ejat5 => simp only [List.getElem?_toArray, List.getElem?_cons_zero, List.getElem?_cons_succ]; rfl
              case ajat5 => kernel_rfl
              case bjat5 => kernel_rfl
              case cjat5 => kernel_rfl
              case gjat5 => rfl
              case yjat5 => (intro w' hSw; (try dsimp only at hSw); first | (go_simp; done) | (go_simp; with_reducible rfl))
              case hjat5 => exact fun _ _ _ h => h
              case' rjat5 => try simp only [Act.put, List.setIfInBounds_toArray, List.set_cons_zero, List.set_cons_succ]
              refine wpAnyH_take (i := 6) (oi := ?ojat6) (v := ?vjat6) ?ejat6 ?ajat6 ?bjat6 ?cjat6 ?hjat6 (Or.inl ⟨?gjat6, ?yjat6⟩) trivial ?rjat6
              case ejat6 => simp only [List.getElem?_toArray, List.getElem?_cons_zero, List.getElem?_cons_succ]; rfl
              case ajat6 => kernel_rfl
              case bjat6 => kernel_rfl
              case cjat6 => kernel_rfl
              case gjat6 => rfl
              case yjat6 => (intro w' hSw; (try dsimp only at hSw); first | (go_simp; done) | (go_simp; with_reducible rfl))
              case hjat6 => exact fun _ _ _ h => h
              case' rjat6 => try simp only [Act.put, List.setIfInBounds_toArray, List.set_cons_zero, List.set_cons_succ]
              refine wpAnyH_take (i := 7) (oi := ?ojat7) (v := ?vjat7) ?ejat7 ?ajat7 ?bjat7 ?cjat7 ?hjat7 (Or.inl ⟨?gjat7, ?yjat7⟩) trivial ?rjat7
              case ejat7 => simp only [List.getElem?_toArray, List.getElem?_cons_zero, List.getElem?_cons_succ]; rfl
              case ajat7 => kernel_rfl
              case bjat7 => kernel_rfl
              case cjat7 => kernel_rfl
              case gjat7 => rfl
              case yjat7 => (intro w' hSw; (try dsimp only at hSw); first | (go_simp; done) | (go_simp; with_reducible rfl))
              case hjat7 => exact fun _ _ _ h => h
              case' rjat7 => try simp only [Act.put, List.setIfInBounds_toArray, List.set_cons_zero, List.set_cons_succ]
              refine wpAnyH_ready (rs := [3]) (by kernel_rfl) (by simp) ?_
              refine (AllReadyH.cons (o := ?ojaa3) ?ejaa3 (fun K hK => ?sjaa3) AllReadyH.nil)
              case ejaa3 => simp only [List.getElem?_toArray, List.getElem?_cons_zero, List.getElem?_cons_succ]; rfl
              go_simp
              refine hK.out _ _ trivial (fun hHeld => ?_)
              clear hK K
              try simp only [Act.put, List.setIfInBounds_toArray, List.set_cons_zero, List.set_cons_succ]
              refine wpAnyH_ready (rs := [4]) (by kernel_rfl) (by simp) ?_
              refine (AllReadyH.cons (o := ?ojab4) ?ejab4 (fun K hK => ?sjab4) AllReadyH.nil)
              case ejab4 => simp only [List.getElem?_toArray, List.getElem?_cons_zero, List.getElem?_cons_succ]; rfl
              rw [if_pos (by rfl)]
              refine wp_append_gr _ (.tmp 58) (.tmp 61) 24 rfl Bs 5 i0 (.int .u8 0) Try.underlying24 hi0 hz0 hz1 hz2 rfl (.slice A5 X.length c5) X rfl ?jaq1 (wr.heap.size + 1) (some ⟨wr.heap.size, 0, none⟩) 2 2 [0, UInt8.ofNat k] rfl ?jaq2 ?jaq3 ?jaq4 ?_
              case jaq1 => exact HGX.out.drew.alloc _
              case jaq2 => exact Rd.new wr.drew 5 [0, UInt8.ofNat k] 2 _ (by rw [show IntKind.u8.wrap (k : Int) = (k : Int) by rw [IntKind.wrap_u8]; omega, bs, List.map_cons, List.map_cons, u8_of k (by omega)]; rfl) rfl
              case jaq3 => omega
              case jaq4 => have := HBX.out.size; have := HBS.out; simp; omega
              intro A7 c7 w7 hg7 hb7
              have hb7' : Below Bs wr w7 := ((Below.refl Bs wr).drew.alloc (by have := HBX.out.size; have := HBS.out; show Bs ≤ wr.heap.size; omega) _).trans hb7
              have hX1 : (X ++ [0, UInt8.ofNat k]).length = X.length + 2 := by simp
              have HX1 := Lib.hid hX1
              generalize hXe : X ++ [0, UInt8.ofNat k] = X1 at *
              have HXE := Lib.hid hXe; have HG7 := Lib.hid hg7; have HB7 := Lib.hid hb7'; clear hg7 hb7 hb7' hXe hX1
              refine hK.out _ _ trivial (fun hHeld => ?_)
              clear hK K
              try simp only [Act.put, List.setIfInBounds_toArray, List.set_cons_zero, List.set_cons_succ]
              refine wpAnyH_ready (rs := [8]) (by kernel_rfl) (by simp) ?_
              refine (AllReadyH.cons (o := ?ojac8) ?ejac8 (fun K hK => ?sjac8) AllReadyH.nil)
              case ejac8 => simp only [List.getElem?_toArray, List.getElem?_cons_zero, List.getElem?_cons_succ]; rfl
              rw [if_pos (by rfl)]
              refine wp_append_gr _ (.tmp 62) (.tmp 65) 24 rfl Bs 5 i0 (.int .u8 0) Try.underlying24 hi0 hz0 hz1 hz2 rfl (.slice A7 X1.length c7) X1 rfl ?jar1 Bs A6 k c6 (rest.take k) rfl ?jar2 ?jar3 ?jar4 ?_
              case jar1 => exact HG7.out
              case jar2 => exact (HRX.out.below HB7.out).head_ (by omega)
              case jar3 => have := HX1.out; omega
              case jar4 => have := HBX.out.size; have := HB7.out.size; have := HBS.out; omega
              intro A8 c8 w8 hg8 hb8
              have hX2 : (X1 ++ rest.take k).length = X.length + 2 + k := by rw [List.length_append, HX1.out, List.length_take, HRX.out.1]; omega
              have HX2 := Lib.hid hX2
              generalize hXf : X1 ++ rest.take k = X2 at *
              have HXF := Lib.hid hXf; have HG8 := Lib.hid hg8; have HB8 := Lib.hid (HB7.out.trans hb8); clear hg8 hb8 hXf hX2
              refine hK.out _ _ trivial (fun hHeld => ?_)
              clear hK K
              try simp only [Act.put, List.setIfInBounds_toArray, List.set_cons_zero, List.set_cons_succ]
              refine wpAnyH_ready (rs := [9]) (by kernel_rfl) (by simp) ?_
              refine (AllReadyH.cons (o := ?ojae9) ?ejae9 (fun K hK => ?sjae9) AllReadyH.nil)
              case ejae9 => simp only [List.getElem?_toArray, List.getElem?_cons_zero, List.getElem?_cons_succ]; rfl
              go_simp
              refine hK.out _ _ trivial (fun hHeld => ?_)
              clear hK K
              try simp only [Act.put, List.setIfInBounds_toArray, List.set_cons_zero, List.set_cons_succ]
              refine wpAnyH_done (by kernel_rfl) ?_ _
              clear hmin hsl
              obtain ⟨kk, hkk⟩ : ∃ kk, 10 + ky = kk := ⟨_, rfl⟩
              have hkki : (10 : Int) + (ky : Int) = (kk : Int) := by omega
              have hkk60 : kk < 60 := by omega
              have HKY := Lib.hid hkk; clear hkk
              go_wp2_with (at_builtin; refine wpList_append_gr _ rfl (.tmp 70) (.tmp 74) 24 rfl Bs 5 i0 (.int .u8 0) Try.underlying24 hi0 hz0 hz1 hz2 rfl (.slice A8 X2.length c8) X2 rfl ?p1 (w8.heap.size + 1) (some ⟨w8.heap.size, 0, none⟩) 3 3 [UInt8.ofNat kk, 1, 7] rfl ?p2 ?p3 ?p4 ?_)
              case p1 => exact HG8.out.alloc _
              case p2 => exact Rd.new w8 5 [UInt8.ofNat kk, 1, 7] 3 _ (by show [Value.int .u8 _, Value.int .u8 1, Value.int .u8 7] = [Value.int .u8 _, Value.int .u8 1, Value.int .u8 7]; rw [u8_of kk (by omega)]) rfl
              case p3 => have := HX2.out; omega
              case p4 => have := HB8.out.size; have := HBX.out.size; have := HBS.out; simp; omega
              intro A10 c10 w10 hg10 hb10
              have hX3 : (X2 ++ [UInt8.ofNat kk, 1, 7]).length = X.length + 5 + k := by rw [List.length_append, HX2.out]; simp; omega
              have HX3 := Lib.hid hX3
              have hX3s : X2.length + 3 = (X2 ++ [UInt8.ofNat kk, 1, 7]).length := by simp
              have HX3S := Lib.hid hX3s
              clear hX3s
              generalize hXg : X2 ++ [UInt8.ofNat kk, 1, 7] = X3 at *
              have HXG := Lib.hid hXg; have HG10 := Lib.hid hg10
              have HB10 := Lib.hid (HBX.out.trans (HB8.out.trans (((Below.refl Bs w8).alloc (by have := HB8.out.size; have := HBX.out.size; have := HBS.out; omega) _).trans hb10)))
              have HB9 := Lib.hid (HB8.out.trans (((Below.refl Bs w8).alloc (by have := HB8.out.size; have := HBX.out.size; have := HBS.out; omega) _).trans hb10))
              clear hg10 hb10 hXg hX3
              go_wp2_with fail
              go_roundg (9 - i)
              case measure => omega
              case rel =>
                refine ⟨i + 1, X3, rest.drop k, P ++ rest.take k, T ++ [0, UInt8.ofNat (rest.take k).length] ++ rest.take k ++ [UInt8.ofNat (10 + ky), 1, 7], A10, c10, A9, r - k, c6 - k, by omega, by omega, by go_num, by rw [HX3S.out], rfl, HX3S.out ▸ HG10.out, HR9.out.below HB9.out, by have := HRC.out.1; omega, by have := HRC.out.2; omega, ?_, pre_other (pre_chunk HPRE.out (by rw [List.length_take]; omega)) ky (by omega), ?_, by have := HX3.out; omega, HB10.out⟩
                · have hlk : (rest.take k).length = k := by rw [List.length_take, HRX.out.1]; omega
                  rw [← HXG.out, ← HXF.out, ← HXE.out, HXT.out, hlk, HKY.out]
                  simp only [List.append_assoc]
                · rw [List.append_assoc, List.take_append_drop]; exact HPRB.out
            · by_cases hiq1 : i < q
              · have hiq2 : (i : Int) < (q : Int) := by omega
                have hi102 : ((i : Int) < 10) = False := eq_false (by omega)
                go_wp2_with fail
                go_meet
                exact ⟨X, rest, P, T, A5, c5, A6, r, c6, rfl, rfl, HGX.out, HRX.out, HRC.out.1, HRC.out.2, HXT.out, HPRE.out, HPRB.out, by omega, HBX.out⟩
              · have hiq2 : ((i : Int) < (q : Int)) = False := eq_false (by omega)
                go_wp2_with fail
                go_meet
                exact ⟨X, rest, P, T, A5, c5, A6, r, c6, rfl, rfl, HGX.out, HRX.out, HRC.out.1, HRC.out.2, HXT.out, HPRE.out, HPRB.out, by omega, HBX.out⟩
        case rest =>
          obtain ⟨X0, rest0, P0, T0, A50, c50, A60, r0, c60, rfl, rfl, hgx0, hrx0, hrc0, hcm60, hxt0, hpre0, hprb0, hxl0, hbx0⟩ := hcut
          have HG0 := Lib.hid hgx0; have HR0 := Lib.hid hrx0; have HC0 := Lib.hid (And.intro hrc0 hcm60); have HT0 := Lib.hid hxt0; have HE0 := Lib.hid hpre0; have HP0 := Lib.hid hprb0; have HB0 := Lib.hid hbx0
          have hr0500 : r0 ≤ 500 := by
            have h1 := congrArg List.length HP0.out
            rw [List.length_append, HR0.out.1, HY.out.1] at h1
            omega
          clear hgx0 hrx0 hrc0 hcm60 hxt0 hpre0 hprb0 hbx0 hg3
          go_wp2_with fail
          go_loopg [10, 12] r0 (fun gh s10 s12 wr => ∃ (X rest P T : List UInt8) (A5 : Option Addr) (c5 : Nat) (A6 : Option Addr) (r c6 : Nat), r = gh ∧ s10 = .slice A5 X.length c5 ∧ s12 = .slice A6 r c6 ∧ Gr wr Bs (.slice A5 X.length c5) X ∧ Rd wr Bs A6 r rest ∧ r ≤ c6 ∧ c6 ≤ maxLen ∧ X = M ++ T ∧ Pre T P ∧ P ++ rest = body ∧ X.length + 70 * r ≤ 60000 ∧ Below Bs w3 wr)
          case atStart => exact ⟨X0, rest0, P0, T0, A50, c50, A60, r0, c60, rfl, rfl, rfl, HG0.out, HR0.out, HC0.out.1, HC0.out.2, HT0.out, HE0.out, HP0.out, by omega, HB0.out⟩
          case round =>
            obtain ⟨X, rest, P, T, A5, c5, A6, r, c6, rfl, rfl, rfl, hgx, hrx, hrc, hcm6, hxt, hpre, hprb, hxl, hbx⟩ := hrel
            have HGX := Lib.hid hgx; have HRX := Lib.hid hrx; have HRC := Lib.hid (And.intro hrc hcm6); have HXT := Lib.hid hxt; have HPRE := Lib.hid hpre; have HPRB := Lib.hid hprb; have HBX := Lib.hid hbx
            clear hgx hrx hrc hcm6 hxt hpre hprb hbx HG0 HR0 HC0 HT0 HE0 HP0 HB0
            by_cases hr0 : r = 0
            · subst hr0
              obtain rfl : rest = [] := List.eq_nil_of_length_eq_zero HRX.out.1
              have HPB := Lib.hid (show P = body by have := HPRB.out; rwa [List.append_nil] at this)
              have HPP := Lib.hid (show parse X = (hs, body, 0) by rw [HXT.out, HM.out]; exact parse_parts hs T body HGD.out (HPB.out ▸ HPRE.out))
              go_wp2_with fail
              refine (parse_gotB A5 X.length c5 X wr HGX.out.byt (by omega) hs body 0 HPP.out).mono ?_
              rintro e w11 ⟨A11, c11, A12, c12, rfl, hv11, hy11, hb11⟩
              rw [HHL.out] at hv11 ⊢
              have hbs : Bs ≤ wr.heap.size := by have := HBX.out.size; have := HBS.out; omega
              have hbr11 := HBX.out.trans (hb11.mono hbs)
              have hyb : Byt w11 (.slice B m d) body := by
                have hl := HY.out.1
                have hr := ((HY3.out.below hbr11).more (B' := w11.heap.size) (by have := hb11.size; omega))
                exact ⟨B, d, by rw [hl], by rw [hl]; exact hr, by rw [hl]; exact HMD.out.1, HMD.out.2⟩
              have HR11 := Lib.hid ((HR3.out.below hbr11).more (B' := w11.heap.size) (by have := hb11.size; omega))
              have HV11 := Lib.hid hv11; have HY11 := Lib.hid hy11; have HYB := Lib.hid hyb
              have HBF := Lib.hid (HB1.out.trans ((HB3.out.trans hbr11).mono (by have := HB1.out.size; have := HBE.out; omega)))
              clear hv11 hy11 hyb hb11 hbr11
              go_wp2_with fail
              refine (same_hds A11 n c11 hs A n c hs w11 HV11.out HR11.out hn63).mono ?_
              rintro e w12 ⟨rfl, hb12⟩
              rw [decide_eq_true rfl]
              have hk1 := (HYB.out.after hb12).convert
              have hk2 := (HY11.out.after hb12).convert
              have HB12 := Lib.hid hb12; clear hb12
              go_wp2_with fail
              go_ret
              exact ⟨rfl, below_then HBF.out HB12.out⟩
            · have hr1 : (0 : Int) < (r : Int) := by omega
              have hr2 : 0 < r := by omega
              obtain ⟨k, hk⟩ : ∃ k, min 60 r = k := ⟨_, rfl⟩
              have hk60 : k ≤ 60 := by omega
              have hkr : k ≤ r := by omega
              have hk1 : 1 ≤ k := by omega
              have hmin := run_min2 60 (r : Int) (k : Int) (by split <;> omega)
              have hsl := fun w2 => run_headK .i64 w2 A6 r c6 k (by have := HRC.out.1; omega)
              obtain ⟨A9, hst, hr9⟩ := tail_exists .i64 wr Bs A6 r c6 k rest HRX.out hkr HRC.out.1
              have HR9 := Lib.hid hr9
              have hr500 : r ≤ 500 := by
                have h1 := congrArg List.length HPRB.out
                rw [List.length_append, HRX.out.1, HY.out.1] at h1
                omega
              clear hk hr9
              go_upto_region 17 with fail
              refine wp_region_held_drew (S := fun _ => True) (by kernel_rfl) trivial (fun hHeld => ?_)
              refine wpAnyH_take (i := 0) (oi := ?ojbt0) (v := ?vjbt0) ?ejbt0 ?ajbt0 ?bjbt0 ?cjbt0 ?hjbt0 (Or.inl ⟨?gjbt0, ?yjbt0⟩) trivial ?rjbt0
              case ejbt0 => simp only [List.getElem?_toArray, List.getElem?_cons_zero]; rfl
              case ajbt0 => kernel_rfl
              case bjbt0 => kernel_rfl
              case cjbt0 => kernel_rfl
              case gjbt0 => rfl
              case yjbt0 => (intro w' hSw; (try dsimp only at hSw); first | (go_simp; done) | (go_simp; with_reducible rfl))
              case hjbt0 => exact fun _ _ _ h => h
              case' rjbt0 => try simp only [Act.put, List.setIfInBounds_toArray, List.set_cons_zero, List.set_cons_succ]
              refine wpAnyH_take (i := 1) (oi := ?ojbt1) (v := ?vjbt1) ?ejbt1 ?ajbt1 ?bjbt1 ?cjbt1 ?hjbt1 (Or.inl ⟨?gjbt1, ?yjbt1⟩) trivial ?rjbt1
              case ejbt1 => simp only [List.getElem?_toArray, List.getElem?_cons_zero, List.getElem?_cons_succ]; rfl
              case ajbt1 => kernel_rfl
              case bjbt1 => kernel_rfl
              case cjbt1 => kernel_rfl
              case gjbt1 => rfl
              case yjbt1 => (intro w' hSw; (try dsimp only at hSw); first | (go_simp; done) | (go_simp; with_reducible rfl))
              case hjbt1 => exact fun _ _ _ h => h
              case' rjbt1 => try simp only [Act.put, List.setIfInBounds_toArray, List.set_cons_zero, List.set_cons_succ]
              refine wpAnyH_take (i := 2) (oi := ?ojbt2) (v := ?vjbt2) ?ejbt2 ?ajbt2 ?bjbt2 ?cjbt2 ?hjbt2 (Or.inl ⟨?gjbt2, ?yjbt2⟩) trivial ?rjbt2
              case ejbt2 => simp only [List.getElem?_toArray, List.getElem?_cons_zero, List.getElem?_cons_succ]; rfl
              case ajbt2 => kernel_rfl
              case bjbt2 => kernel_rfl
              case cjbt2 => kernel_rfl
              case gjbt2 => rfl
              case yjbt2 => (intro w' hSw; (try dsimp only at hSw); first | (go_simp; done) | (go_simp; with_reducible rfl))
              case hjbt2 => exact fun _ _ _ h => h
              case' rjbt2 => try simp only [Act.put, List.setIfInBounds_toArray, List.set_cons_zero, List.set_cons_succ]
              refine wpAnyH_take (i := 5) (oi := ?ojbt5) (v := ?vjbt5) ?ejbt5 ?ajbt5 ?bjbt5 ?cjbt5 ?hjbt5 (Or.inl ⟨?gjbt5, ?yjbt5⟩) trivial ?rjbt5
              case ejbt5 => simp only [List.getElem?_toArray, List.getElem?_cons_zero, List.getElem?_cons_succ]; rfl
              case ajbt5 => kernel_rfl
              case bjbt5 => kernel_rfl
              case cjbt5 => kernel_rfl
              case gjbt5 => rfl
              case yjbt5 => (intro w' hSw; (try dsimp only at hSw); first | (go_simp; done) | (go_simp; with_reducible rfl))
              case hjbt5 => exact fun _ _ _ h => h
              case' rjbt5 => try simp only [Act.put, List.setIfInBounds_toArray, List.set_cons_zero, List.set_cons_succ]
              refine wpAnyH_take (i := 6) (oi := ?ojbt6) (v := ?vjbt6) ?ejbt6 ?ajbt6 ?bjbt6 ?cjbt6 ?hjbt6 (Or.inl ⟨?gjbt6, ?yjbt6⟩) trivial ?rjbt6
              case ejbt6 => simp only [List.getElem?_toArray, List.getElem?_cons_zero, List.getElem?_cons_succ]; rfl
              case ajbt6 => kernel_rfl
              case bjbt6 => kernel_rfl
              case cjbt6 => kernel_rfl
              case gjbt6 => rfl
              case yjbt6 => (intro w' hSw; (try dsimp only at hSw); first | (go_simp; done) | (go_simp; with_reducible rfl))
              case hjbt6 => exact fun _ _ _ h => h
              case' rjbt6 => try simp only [Act.put, List.setIfInBounds_toArray, List.set_cons_zero, List.set_cons_succ]
              refine wpAnyH_take (i := 7) (oi := ?ojbt7) (v := ?vjbt7) ?ejbt7 ?ajbt7 ?bjbt7 ?cjbt7 ?hjbt7 (Or.inl ⟨?gjbt7, ?yjbt7⟩) trivial ?rjbt7
              case ejbt7 => simp only [List.getElem?_toArray, List.getElem?_cons_zero, List.getElem?_cons_succ]; rfl
              case ajbt7 => kernel_rfl
              case bjbt7 => kernel_rfl
              case cjbt7 => kernel_rfl
              case gjbt7 => rfl
              case yjbt7 => (intro w' hSw; (try dsimp only at hSw); first | (go_simp; done) | (go_simp; with_reducible rfl))
              case hjbt7 => exact fun _ _ _ h => h
              case' rjbt7 => try simp only [Act.put, List.setIfInBounds_toArray, List.set_cons_zero, List.set_cons_succ]
              refine wpAnyH_ready (rs := [3]) (by kernel_rfl) (by simp) ?_
              refine (AllReadyH.cons (o := ?ojba3) ?ejba3 (fun K hK => ?sjba3) AllReadyH.nil)
              case ejba3 => simp only [List.getElem?_toArray, List.getElem?_cons_zero, List.getElem?_cons_succ]; rfl
              go_simp
              refine hK.out _ _ trivial (fun hHeld => ?_)
              clear hK K
              try simp only [Act.put, List.setIfInBounds_toArray, List.set_cons_zero, List.set_cons_succ]
              refine wpAnyH_ready (rs := [4]) (by kernel_rfl) (by simp) ?_
              refine (AllReadyH.cons (o := ?ojbb4) ?ejbb4 (fun K hK => ?sjbb4) AllReadyH.nil)
              case ejbb4 => simp only [List.getElem?_toArray, List.getElem?_cons_zero, List.getElem?_cons_succ]; rfl
              rw [if_pos (by rfl)]
              refine wp_append_gr _ (.tmp 82) (.tmp 85) 24 rfl Bs 5 i0 (.int .u8 0) Try.underlying24 hi0 hz0 hz1 hz2 rfl (.slice A5 X.length c5) X rfl ?jbq1 (wr.heap.size + 1) (some ⟨wr.heap.size, 0, none⟩) 2 2 [0, UInt8.ofNat k] rfl ?jbq2 ?jbq3 ?jbq4 ?_
              case jbq1 => exact HGX.out.drew.alloc _
              case jbq2 => exact Rd.new wr.drew 5 [0, UInt8.ofNat k] 2 _ (by rw [show IntKind.u8.wrap (k : Int) = (k : Int) by rw [IntKind.wrap_u8]; omega, bs, List.map_cons, List.map_cons, u8_of k (by omega)]; rfl) rfl
              case jbq3 => omega
              case jbq4 => have := HBX.out.size; have := HBS.out; simp; omega
              intro A7 c7 w7 hg7 hb7
              have hb7' : Below Bs wr w7 := ((Below.refl Bs wr).drew.alloc (by have := HBX.out.size; have := HBS.out; show Bs ≤ wr.heap.size; omega) _).trans hb7
              have hX1 : (X ++ [0, UInt8.ofNat k]).length = X.length + 2 := by simp
              have HX1 := Lib.hid hX1
              generalize hXe : X ++ [0, UInt8.ofNat k] = X1 at *
              have HXE := Lib.hid hXe; have HG7 := Lib.hid hg7; have HB7 := Lib.hid hb7'; clear hg7 hb7 hb7' hXe hX1
              refine hK.out _ _ trivial (fun hHeld => ?_)
              clear hK K
              try simp only [Act.put, List.setIfInBounds_toArray, List.set_cons_zero, List.set_cons_succ]
              refine wpAnyH_ready (rs := [8]) (by kernel_rfl) (by simp) ?_
              refine (AllReadyH.cons (o := ?ojbc8) ?ejbc8 (fun K hK => ?sjbc8) AllReadyH.nil)
              case ejbc8 => simp only [List.getElem?_toArray, List.getElem?_cons_zero, List.getElem?_cons_succ]; rfl
              rw [if_pos (by rfl)]
              refine wp_append_gr _ (.tmp 86) (.tmp 89) 24 rfl Bs 5 i0 (.int .u8 0) Try.underlying24 hi0 hz0 hz1 hz2 rfl (.slice A7 X1.length c7) X1 rfl ?jbr1 Bs A6 k c6 (rest.take k) rfl ?jbr2 ?jbr3 ?jbr4 ?_
              case jbr1 => exact HG7.out
              case jbr2 => exact (HRX.out.below HB7.out).head_ (by omega)
              case jbr3 => have := HX1.out; omega
              case jbr4 => have := HBX.out.size; have := HB7.out.size; have := HBS.out; omega
              intro A8 c8 w8 hg8 hb8
              have hX2 : (X1 ++ rest.take k).length = X.length + 2 + k := by rw [List.length_append, HX1.out, List.length_take, HRX.out.1]; omega
              have HX2 := Lib.hid hX2
              generalize hXf : X1 ++ rest.take k = X2 at *
              have HXF := Lib.hid hXf; have HG8 := Lib.hid hg8; have HB8 := Lib.hid (HB7.out.trans hb8); clear hg8 hb8 hXf hX2
              refine hK.out _ _ trivial (fun hHeld => ?_)
              clear hK K
              try simp only [Act.put, List.setIfInBounds_toArray, List.set_cons_zero, List.set_cons_succ]
              refine wpAnyH_ready (rs := [9]) (by kernel_rfl) (by simp) ?_
              refine (AllReadyH.cons (o := ?ojbe9) ?ejbe9 (fun K hK => ?sjbe9) AllReadyH.nil)
              case ejbe9 => simp only [List.getElem?_toArray, List.getElem?_cons_zero, List.getElem?_cons_succ]; rfl
              go_simp
              refine hK.out _ _ trivial (fun hHeld => ?_)
              clear hK K
              try simp only [Act.put, List.setIfInBounds_toArray, List.set_cons_zero, List.set_cons_succ]
              refine wpAnyH_done (by kernel_rfl) ?_ _
              clear hmin hsl
              go_wp2_with fail
              go_roundg (r - k)
              case measure => omega
              case rel =>
                refine ⟨X2, rest.drop k, P ++ rest.take k, T ++ [0, UInt8.ofNat (rest.take k).length] ++ rest.take k, A8, c8, A9, r - k, c6 - k, rfl, rfl, rfl, HG8.out, HR9.out.below HB8.out, by have := HRC.out.1; omega, by have := HRC.out.2; omega, ?_, pre_chunk HPRE.out (by rw [List.length_take]; omega), ?_, by have := HX2.out; omega, HBX.out.trans HB8.out⟩
                · have hlk : (rest.take k).length = k := by rw [List.length_take, HRX.out.1]; omega
                  rw [← HXF.out, ← HXE.out, HXT.out, hlk]
                  simp only [List.append_assoc]
                · rw [List.append_assoc, List.take_append_drop]; exact HPRB.out
    · have hg3 : ((500 : Int) < (m : Int)) := by omega
      go_enter Try.func7, Try.ntmps7
      go_wp2_with fail
      refine (awake20_any w).mono ?_
      rintro e w1 ⟨rfl, hb1⟩
      have HR1 := Lib.hid (HR.out.after hb1); have HB1 := Lib.hid hb1; clear hb1
      go_wp2_with fail
      refine (few_any A n c hs w1 HR1.out hn63).mono ?_
      rintro e w2 ⟨rfl, rfl⟩
      rw [HFW.out]
      go_wp2_with fail
      go_ret
      exact ⟨rfl, HB1.out⟩
end Go.Proofs.Ytcimcldmkaggnaa
