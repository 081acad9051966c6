/- The walks of the laws VarintNames and VarintTells, and the short forms the others use. -/
import Derived.Test.YtcimcldmkaggnaaVarGetW
import Derived.Test.YtcimcldmkaggnaaArgs
namespace Go.Proofs.Ytcimcldmkaggnaa
set_option linter.unusedVariables false
open Go.RowKit
open Va

def putL (v : Int) : List UInt8 := if v < 4611686018427387904 then put v.toNat else []
def putE (v : Int) : Int := if v < 4611686018427387904 then 0 else 31
def getV (xs : List UInt8) : Int := match get xs with | none => 0 | some (v, _) => v
def getN (xs : List UInt8) : Int := match get xs with | none => 0 | some (_, n) => n
def getE (xs : List UInt8) : Int := match get xs with | none => 30 | some _ => 0
theorem PutEnds.form {v : Int} {w w' : World} {e : Ending} (h : PutEnds v w e w') :
    Below w.heap.size w w' ∧ ∃ A c, e = .returned (.tuple #[.slice A (putL v).length c, .int .i64 (putE v)]) ∧ Rd w' w'.heap.size A (putL v).length (putL v) ∧ (putL v).length ≤ c ∧ c ≤ maxLen ∧
      w'.ownsRow w.heap.size 5 1 (.slice A (putL v).length c) (putL v).length (bs (putL v)) := by
  obtain ⟨hb, ⟨h1, rfl⟩ | ⟨h1, A, c, rfl, ho⟩⟩ := h
  · have e1 : putL v = [] := if_neg (by omega)
    have e2 : putE v = 31 := if_neg (by omega)
    rw [e1, e2]
    exact ⟨hb, none, 0, rfl, Rd.none_, by simp, by unfold maxLen; omega, World.ownsRow_nil _ _ _ _⟩
  · have e1 : putL v = put v.toNat := if_pos h1
    have e2 : putE v = 0 := if_pos h1
    rw [e1, e2]
    exact ⟨hb, A, c, rfl, Rd.of_own ho rfl, (own_caps ho).1, (own_caps ho).2, ho⟩
theorem GetEnds.form {xs : List UInt8} {e : Ending} (h : GetEnds xs e) : e = .returned (.tuple #[.int .u64 (getV xs), .int .i64 (getN xs), .int .i64 (getE xs)]) := by
  unfold GetEnds at h
  unfold getV getN getE
  split at h <;> rename_i he <;> rw [h, he]
theorem putL_small (v : Int) : (putL v).length ≤ 8 := by
  unfold putL
  split
  · rename_i h
    rw [put_length v.toNat (by omega)]
    unfold size
    repeat' split
    all_goals omega
  · simp

set_option maxRecDepth 100000 in
set_option maxHeartbeats 400000 in
theorem awake03_any (w : World) : Calls Try.prog 16 #[] w fun e w' => e = .returned (.bool true) ∧ Below w.heap.size w w' := by
  have s1 := fun w => put_any 15293 (by omega) (by omega) w
  have hp : putL 15293 = [123, 189] := by decide +kernel
  have he : putE 15293 = 0 := by decide +kernel
  have s3 : ∀ w, Calls Try.prog 28 #[.int .u64 64] w fun e w' => e = .returned (.int .i64 2) ∧ Below w.heap.size w w' := fun w => by
    have h := size_any 64 (by omega) (by omega) w
    rwa [show size (Int.toNat 64) = 2 from by decide +kernel] at h
  have s4 : ∀ w, Calls Try.prog 28 #[.int .u64 4611686018427387904] w fun e w' => e = .returned (.int .i64 0) ∧ Below w.heap.size w w' := fun w => by
    have h := size_any 4611686018427387904 (by omega) (by omega) w
    rwa [show size (Int.toNat 4611686018427387904) = 0 from by decide +kernel] at h
  have S1 := Lib.hid s1; have S3 := Lib.hid s3; have S4 := Lib.hid s4; have HP := Lib.hid hp; have HE := Lib.hid he
  clear s1 s3 s4 hp he
  go_enter Try.func16, Try.ntmps16
  go_wp2_with fail
  refine (S1.out _).mono ?_
  rintro e w1 h1
  obtain ⟨hb1, A1, c1, rfl, hr1, -, -, -⟩ := h1.form
  rw [HP.out] at hr1 ⊢
  rw [HE.out]
  have HR1 := Lib.hid hr1; have HB1 := Lib.hid hb1; clear hr1 hb1 h1
  go_wp2_with fail
  have hg2 := get_any (some ⟨w1.heap.size, 0, none⟩) 2 2 [64, 37] (w1.alloc (.cells #[.int .u8 64, .int .u8 37] 5)) ((Rd.new w1 5 [64, 37] 2 _ rfl rfl).more (by simp)) (by omega) (by unfold maxLen; omega)
  refine hg2.mono ?_
  rintro e w2 ⟨h2, rfl⟩
  obtain rfl := h2.form
  rw [show getV [64, 37] = 37 from by decide +kernel, show getN [64, 37] = 2 from by decide +kernel, show getE [64, 37] = 0 from by decide +kernel]
  clear h2 hg2
  have hr2 := HR1.out.alloc (Nat.le_refl _) (.cells #[.int .u8 64, .int .u8 37] 5)
  have hb2 := HB1.out.alloc HB1.out.size (.cells #[.int .u8 64, .int .u8 37] 5)
  have hsz2 : (w1.alloc (.cells #[.int .u8 64, .int .u8 37] 5)).heap.size = w1.heap.size + 1 := by simp
  generalize w1.alloc (.cells #[.int .u8 64, .int .u8 37] 5) = w2 at *
  have HR2 := Lib.hid (hr2.more (B' := w2.heap.size) (by omega)); have HB2 := Lib.hid hb2; clear hr2 hb2 hsz2
  go_wp2_with fail
  have hg3 := get_any (some ⟨w2.heap.size, 0, none⟩) 2 2 [157, 127] (w2.alloc (.cells #[.int .u8 157, .int .u8 127] 5)) ((Rd.new w2 5 [157, 127] 2 _ rfl rfl).more (by simp)) (by omega) (by unfold maxLen; omega)
  refine hg3.mono ?_
  rintro e w3 ⟨h3, rfl⟩
  obtain rfl := h3.form
  rw [show getV [157, 127] = 0 from by decide +kernel, show getN [157, 127] = 0 from by decide +kernel, show getE [157, 127] = 30 from by decide +kernel]
  clear h3 hg3
  have hr3 := HR2.out.alloc (Nat.le_refl _) (.cells #[.int .u8 157, .int .u8 127] 5)
  have hb3 := HB2.out.alloc HB2.out.size (.cells #[.int .u8 157, .int .u8 127] 5)
  have hsz3 : (w2.alloc (.cells #[.int .u8 157, .int .u8 127] 5)).heap.size = w2.heap.size + 1 := by simp
  generalize w2.alloc (.cells #[.int .u8 157, .int .u8 127] 5) = w3 at *
  have k1 : (convert 24 9 (.slice A1 2 c1)).run Try.prog w3 = .ok (.string ⟨#[123, 189]⟩) w3 := hr3.convert (P := Try.prog) c1 24 5 9 Try.underlying24 Try.underlying5 Try.underlying9
  have HB3 := Lib.hid hb3; clear hr3 hb3 hsz3
  go_wp2_with fail
  refine (S3.out _).mono ?_
  rintro e w4 ⟨rfl, hb4⟩
  have HB4 := Lib.hid (below_then HB3.out hb4); clear hb4
  go_wp2_with fail
  refine (S4.out _).mono ?_
  rintro e w5 ⟨rfl, hb5⟩
  have HB5 := Lib.hid (below_then HB4.out hb5); clear hb5
  go_wp2_with fail
  go_ret
  exact ⟨rfl, HB5.out⟩
theorem walk_VarintNames (w : World) : Calls Try.prog 3 #[] w fun e w' => e = .returned (.bool true) ∧ Below w.heap.size w w' := by
  go_enter Try.func3, Try.ntmps3
  go_wp2_with fail
  refine (awake03_any w).mono ?_
  rintro e w1 ⟨rfl, hb1⟩
  go_wp2_with fail
  go_ret
  exact ⟨rfl, hb1⟩

set_option maxRecDepth 100000 in
set_option maxHeartbeats 1600000 in
theorem walk_VarintTells (v : Int) (A : Option Addr) (n c : Nat) (xs : List UInt8) (w : World) (wv : (Lit.int .u64 v).wf = true) (hs : SliceIn w A n c xs) :
    Calls Try.prog 5 #[.int .u64 v, .slice A n c] w fun e w' => e = .returned (.bool true) ∧ Below w.heap.size w w' := by
  obtain ⟨hv0, hv⟩ := bounds_u64 wv
  obtain ⟨hr, hc, hm, hnone⟩ := hs
  clear wv
  have HR := Lib.hid hr; clear hr hnone
  have HC := Lib.hid (And.intro hc hm); clear hc hm
  have hl := putL_small v
  have S1 := Lib.hid (fun w => size_any v hv0 hv w)
  have S2 := Lib.hid (fun w => refSize_any v hv0 hv w)
  have S3 := Lib.hid (fun w => put_any v hv0 hv w)
  have S4 := Lib.hid (fun w => refPut_any v hv0 hv w)
  clear hv0 hv
  go_enter Try.func5, Try.ntmps5
  go_wp2_with fail
  refine (awake03_any _).mono ?_
  rintro e w1 ⟨rfl, hb1⟩
  have HR1 := Lib.hid (HR.out.after hb1); have HB1 := Lib.hid hb1; clear hb1
  go_wp2_with fail
  refine (S3.out _).mono ?_
  rintro e w2 h2
  obtain ⟨hb2, A2, c2, rfl, hr2, -, -, -⟩ := h2.form
  have HP2 := Lib.hid hr2; have HR2 := Lib.hid (HR1.out.after hb2); have HB2 := Lib.hid (below_then HB1.out hb2); clear hb2 hr2 h2
  go_wp2_with fail
  refine (S4.out _).mono ?_
  rintro e w3 h3
  obtain ⟨hb3, A3, c3, rfl, hr3, -, -, -⟩ := h3.form
  have HQ3 := Lib.hid hr3; have HP3 := Lib.hid (HP2.out.after hb3); have HR3 := Lib.hid (HR2.out.after hb3); have HB3 := Lib.hid (below_then HB2.out hb3); clear hb3 hr3 h3
  go_wp2_with fail
  refine (get_any A n c xs _ HR3.out HC.out.1 HC.out.2).mono ?_
  rintro e w4 ⟨h4, rfl⟩
  obtain rfl := h4.form
  clear h4
  go_wp2_with fail
  refine (refGet_any A n c xs _ HR3.out HC.out.1 HC.out.2).mono ?_
  rintro e w5 ⟨h5, rfl⟩
  obtain rfl := h5.form
  clear h5
  go_wp2_with fail
  refine (S1.out _).mono ?_
  rintro e w6 ⟨rfl, hb6⟩
  have k1 := (HP3.out.after hb6).convert (P := Try.prog) c2 24 5 9 Try.underlying24 Try.underlying5 Try.underlying9
  have k2 := (HQ3.out.after hb6).convert (P := Try.prog) c3 24 5 9 Try.underlying24 Try.underlying5 Try.underlying9
  have HB6 := Lib.hid (below_then HB3.out hb6); clear hb6
  go_wp2_with fail
  refine (S2.out _).mono ?_
  rintro e w7 ⟨rfl, rfl⟩
  go_wp2_with fail
  go_ret
  exact ⟨rfl, HB6.out⟩
end Go.Proofs.Ytcimcldmkaggnaa
