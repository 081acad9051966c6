/- The reference's Put, walked. -/
import Derived.Test.YtcimcldmkaggnaaVarWalks
import Derived.Outline
namespace Go.Proofs.Ytcimcldmkaggnaa
set_option linter.unusedVariables false
open Go.RowKit
open Va

theorem low_take (v n j q : Nat) (h : j + 1 + q = n) : (low v n).take (q + 1) = (low v n).take q ++ [bt v j] := by
  induction n generalizing q with
  | zero => omega
  | succ n ih =>
    cases q with
    | zero =>
      obtain rfl : j = n := by omega
      rfl
    | succ q =>
      show bt v n :: (low v n).take (q + 1) = bt v n :: ((low v n).take q ++ [bt v j])
      rw [ih q (by omega)]
theorem bt_cell (v : Int) (h0 : 0 ≤ v) (j k : Nat) (h : k = 8 * j) : (Value.int .u8 (v / 2 ^ k % 256)) = .int .u8 ((bt v.toNat j).toNat : Int) := by
  subst h
  obtain ⟨n, rfl⟩ := Int.eq_ofNat_of_zero_le h0
  have e2 : (2 : Nat) ^ (8 * j) = 256 ^ j := by rw [Nat.pow_mul]
  have e : ((n : Int) / 2 ^ (8 * j) % 256) = ((n / 2 ^ (8 * j) % 256 : Nat) : Int) := by
    rw [Int.natCast_emod, Int.natCast_ediv, Int.natCast_pow]
    rfl
  rw [e, e2, bt, UInt8.toNat_ofNat', Int.toNat_natCast]

def top (n : Nat) : Nat := if n = 1 then 0 else if n = 2 then 64 else if n = 4 then 128 else 192
theorem size_lt (v : Nat) (h : size v ≠ 0) : v < 4611686018427387904 := by
  unfold size at h
  repeat' split at h
  all_goals omega
theorem put_low (v n : Nat) (hn : n = 1 ∨ n = 2 ∨ n = 4 ∨ n = 8) (h : size v = n) : put v = (low v n).set 0 (UInt8.ofNat ((bt v (n - 1)).toNat + top n)) := by
  unfold size at h
  unfold put
  split at h
  · subst h
    rename_i h1
    rw [if_pos h1]
    have hb : (bt v 0).toNat = v := by rw [bt, UInt8.toNat_ofNat']; omega
    show _ = [UInt8.ofNat ((bt v 0).toNat + 0)]
    rw [hb]; rfl
  · split at h
    · subst h
      rename_i h1 h2
      rw [if_neg h1, if_pos h2]
      have hb : (bt v 1).toNat = v / 256 := by rw [bt, UInt8.toNat_ofNat']; omega
      show _ = [UInt8.ofNat ((bt v 1).toNat + 64), bt v 0]
      rw [hb, Nat.add_comm]; rfl
    · split at h
      · subst h
        rename_i h1 h2 h3
        rw [if_neg h1, if_neg h2, if_pos h3]
        have hb : (bt v 3).toNat = v / 16777216 := by rw [bt, UInt8.toNat_ofNat']; omega
        show _ = UInt8.ofNat ((bt v 3).toNat + 128) :: low v 3
        rw [hb, Nat.add_comm]
      · split at h
        · subst h
          rename_i h1 h2 h3 h4
          rw [if_neg h1, if_neg h2, if_neg h3]
          have hb : (bt v 7).toNat = v / 72057594037927936 := by rw [bt, UInt8.toNat_ofNat']; omega
          show _ = UInt8.ofNat ((bt v 7).toNat + 192) :: low v 7
          rw [hb, Nat.add_comm]
        · omega

set_option maxRecDepth 100000 in
set_option maxHeartbeats 6400000 in
theorem refPut_loop (v : Int) (n : Nat) (hn : n = 1 ∨ n = 2 ∨ n = 4 ∨ n = 8) (hv0 : 0 ≤ v) (hv : v ≤ 18446744073709551615) (hsz : size v.toNat = n) (w : World)
    (HS : Hid (∀ w, Calls Try.prog 29 #[.int .u64 v] w fun e w' => e = .returned (.int .i64 (n : Nat)) ∧ w = w')) : Calls Try.prog 25 #[.int .u64 v] w (PutEnds v w) := by
  obtain ⟨i0, hi0, hz0, hz1, hz2⟩ := info_parts info5
  have hnb : 1 ≤ n ∧ n ≤ 8 := by omega
  have hn0 : ((n : Int) == 0) = false := by simp; omega
  have HN := Lib.hid hn; clear hn
  have HZ := Lib.hid hsz; clear hsz
  go_enter Try.func25, Try.ntmps25
  go_wp2_with fail
  refine (HS.out _).mono ?_
  rintro e w1 ⟨rfl, rfl⟩
  go_wp2_with fail
  go_loopw [5, 6] (fun x i wr => ∃ (j q : Nat) (A' : Option Addr) (c' : Nat), j + q = n ∧ i = .int .i64 ((j : Int) - 1) ∧ x = .slice A' q c' ∧ wr.ownsRow w.heap.size 5 1 (.slice A' q c') q (bs ((low v.toNat n).take q)) ∧ Below w.heap.size w wr) (fun _ i _ => (intOf i + 1).toNat)
  case atStart => exact ⟨n, 0, none, 0, by omega, rfl, rfl, World.ownsRow_nil _ _ _ _, Below.refl _ _⟩
  case round =>
    obtain ⟨j, q, A1, c1', hjq, rfl, rfl, ho, hb⟩ := hrel
    have HO := Lib.hid ho; have HB := Lib.hid hb; clear ho hb
    have hqj : q ≤ 8 := by omega
    by_cases hj : 1 ≤ j
    · have hj8 : j ≤ 8 := by omega
      have HQ := Lib.hid hjq; clear hjq
      go_wp2_with (at_builtin; refine wpList_append_any _ rfl (.tmp 17) (.tmp 24) 24 rfl w.heap.size 5 i0 (.int .u8 0) Try.underlying24 hi0 hz0 hz1 hz2 rfl (.slice A1 q c1') q ((low v.toNat n).take q) rfl ?q1 (wr.heap.size + 1) (some ⟨wr.heap.size, 0, none⟩) 1 1 [bt v.toNat (j - 1)] rfl ?q2 ?q3 ?q4 ?_)
      case q1 => exact HO.out.alloc _
      case q2 => exact Rd.new wr 5 _ _ _ (by rw [bt_cell v hv0 (j - 1) _ rfl]; rfl) rfl
      case q3 => have := HQ.out; omega
      case q4 => have := HB.out.size; simp; omega
      intro A2 c2 w2 hown2 hg2 hat2
      have hb2 : Below w.heap.size w w2 := (HB.out.alloc HB.out.size _).grown hg2 (by have := HB.out.size; simp; omega) (fun k hk => (HO.out.lt k hk).1)
      have HB2 := Lib.hid hb2; clear hb2 hat2 hg2
      rw [← low_take v.toNat n (j - 1) q (by have := HQ.out; omega)] at hown2
      have HO2 := Lib.hid hown2; clear hown2
      go_wp2_with fail
      go_roundw
      case rel => exact ⟨j - 1, q + 1, A2, c2, by have := HQ.out; omega, by congr 1; omega, rfl, HO2.out, HB2.out⟩
      case measure => simp [intOf]; omega
    · have hj0 : j = 0 := by omega
      have hqn : q = n := by omega
      have ho2 := HO.out
      rw [hqn, List.take_of_length_le (by rw [low_length]; omega)] at ho2
      have hll : (low v.toNat n).length = n := low_length _ _
      obtain ⟨g, hg⟩ := own_addr ho2 (by omega)
      subst hg
      have hcell := ho2.cellAt 0 (by omega)
      have hfz := ho2.frozenAt 0
      rw [bs_get (low v.toNat n) 0 (by rw [low_length]; omega)] at hcell
      have hgb : w.heap.size ≤ g := (ho2.lt g rfl).1
      have HO2 := Lib.hid ho2; clear ho2
      have HG := Lib.hid hgb; clear hgb
      obtain rfl := hj0
      obtain ⟨hc1, hc2⟩ := own_caps HO2.out
      clear hn0
      rcases HN.out with h | h | h | h
      all_goals
        have HH := Lib.hid h
        have e0 := Lib.hid (show (low v.toNat n)[0]'(by rw [low_length]; omega) = bt v.toNat (n - 1) from by subst h; rfl)
        rw [e0.out] at hcell
        generalize hbb : bt v.toNat (n - 1) = b0 at hcell
        have HBB := Lib.hid hbb; clear hbb e0
        have hb256 := b0.toNat_lt
        go_wp2_with fail
        go_ret2
        have hlen : (put v.toNat).length = n := by rw [put_low v.toNat n HN.out HZ.out, List.length_set, low_length]
        have hlt := size_lt v.toNat (by rw [HZ.out]; omega)
        refine ⟨?_, .inr ⟨by omega, some ⟨g, 0, none⟩, c1', by rw [hlen, hqn]; rfl, ?_⟩⟩
        · first | exact HB.out | exact HB.out.setCell HG.out _
        · rw [hlen, put_low v.toNat n HN.out HZ.out]
          rw [HBB.out]
          have hst := (HO2.out.stored 0 (.int .u8 (((UInt8.ofNat (b0.toNat + top n)).toNat : Nat) : Int))).1
          subst h
          first
          | (have e : (low v.toNat 1).set 0 (UInt8.ofNat (b0.toNat + top 1)) = low v.toNat 1 := by
              show [UInt8.ofNat (b0.toNat + 0)] = [bt v.toNat 0]
              rw [show bt v.toNat 0 = b0 from HBB.out, Nat.add_zero, UInt8.ofNat_toNat]
             rw [e]
             exact HO2.out)
          | (rw [show ∀ y : UInt8, ∀ l, bs (l.set 0 y) = (bs l).set 0 (.int .u8 (y.toNat : Int)) from fun y l => by simp [bs, List.map_set]]
             rw [UInt8.toNat_ofNat'] at hst ⊢
             exact hst)
theorem refPut_any (v : Int) (hv0 : 0 ≤ v) (hv : v ≤ 18446744073709551615) (w : World) : Calls Try.prog 25 #[.int .u64 v] w (PutEnds v w) := by
  have hsz := fun w => refSize_any v hv0 hv w
  by_cases hz : size v.toNat = 0
  · rw [hz] at hsz
    have HS := Lib.hid hsz; clear hsz
    have hb : 4611686018427387904 ≤ v := by
      rcases size_at v hv0 with h | h | h | h | h <;> omega
    have HB := Lib.hid hb; clear hb hz
    go_enter Try.func25, Try.ntmps25
    go_wp2_with fail
    refine (HS.out _).mono ?_
    rintro e w1 ⟨rfl, rfl⟩
    go_wp2_with fail
    go_ret2
    exact ⟨Below.refl _ _, .inl ⟨HB.out, rfl⟩⟩
  · refine refPut_loop v (size v.toNat) ?_ hv0 hv rfl w (Lib.hid hsz)
    rcases size_at v hv0 with h | h | h | h | h <;> omega
end Go.Proofs.Ytcimcldmkaggnaa
