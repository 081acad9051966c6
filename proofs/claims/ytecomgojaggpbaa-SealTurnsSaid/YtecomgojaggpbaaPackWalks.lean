/- The walks of seal.Pack and of its reference. -/
import Derived.Test.YtecomgojaggpbaaSealWalks
import Derived.Test.YtecomgojaggpbaaPnumNextW
namespace Go.Proofs.Ytecomgojaggpbaa
set_option linter.unusedVariables false
open Go.RowKit
open Crc Pn

/-- a part's byte -/
def bt (p k : Nat) : UInt8 := UInt8.ofNat (p / 256 ^ k)
/-- the first k lowest bytes, highest first -/
def low (p : Nat) : Nat → List UInt8
  | 0 => []
  | k + 1 => bt p k :: low p k
theorem low_length (p k : Nat) : (low p k).length = k := by
  induction k with
  | zero => rfl
  | succ k ih => simp [low, ih]
def hd (s p : Nat) : List UInt8 := UInt8.ofNat (63 + s) :: low p s
theorem hd_length (s p : Nat) : (hd s p).length = 1 + s := by simp [hd, low_length]; omega
/-- the header while it is written from its end -/
def zs (s p k : Nat) : List UInt8 := UInt8.ofNat (63 + s) :: (List.replicate (s - k) 0 ++ low p k)
theorem zs_set (s p k : Nat) (hs : s ≤ 4) (hk : k < s) : (zs s p k).set (s - k) (bt p k) = zs s p (k + 1) := by
  rcases (show s = 1 ∨ s = 2 ∨ s = 3 ∨ s = 4 by omega) with rfl | rfl | rfl | rfl
  · obtain rfl : k = 0 := by omega
    rfl
  · rcases (show k = 0 ∨ k = 1 by omega) with rfl | rfl <;> rfl
  · rcases (show k = 0 ∨ k = 1 ∨ k = 2 by omega) with rfl | rfl | rfl <;> rfl
  · rcases (show k = 0 ∨ k = 1 ∨ k = 2 ∨ k = 3 by omega) with rfl | rfl | rfl | rfl <;> rfl
def pack (a nx : Int) (xs : List UInt8) : Option (List UInt8) :=
  if 4611686018427387903 < a ∨ xs.length = 0 ∨ 1195 < xs.length + (szOf a nx).toNat then none
  else some (sealed (hd (szOf a nx).toNat (cutOf a (szOf a nx)).toNat ++ xs))

def PackEnds (a nx : Int) (xs : List UInt8) (w : World) (e : Ending) (w' : World) : Prop :=
  Below w.heap.size w w' ∧ ((pack a nx xs = none ∧ e = .returned (.tuple #[.slice none 0 0, .int .i64 1])) ∨
    ∃ ys A c, pack a nx xs = some ys ∧ e = .returned (.tuple #[.slice A ys.length c, .int .i64 0]) ∧ w'.ownsRow w.heap.size 5 1 (.slice A ys.length c) ys.length (bs ys))

theorem own_caps {w : World} {b : Nat} {e : TypeId} {size n c : Nat} {A : Option Addr} {xs : List Value} (h : w.ownsRow b e size (.slice A n c) n xs) : n ≤ c ∧ c ≤ maxLen := by
  obtain ⟨A', c', hv, h1, h2⟩ := own_form h
  injection hv with _ _ hv
  rw [hv]; exact ⟨h1, h2⟩
theorem own_none {w : World} {b : Nat} {e : TypeId} {size n c : Nat} {A : Option Addr} {xs : List Value} (h : w.ownsRow b e size (.slice A n c) n xs) : A = none → c = 0 := by
  intro hA
  rcases h.2 with ⟨h1, _⟩ | ⟨g, cap, cur, h1, _⟩
  · injection h1
  · subst hA; injection h1 with h2; cases h2

theorem stored_zs {w : World} {B g s p k cap : Nat} (h : w.ownsRow B 5 1 (.slice (some ⟨g, 0, none⟩) (1 + s) cap) (1 + s) (bs (zs s p k))) (hs : s ≤ 4) (hk : k < s) {v : Int} (hv : v = ((bt p k).toNat : Int)) :
    (w.setCell ⟨g, s - k, none⟩ (.int .u8 v)).ownsRow B 5 1 (.slice (some ⟨g, 0, none⟩) (1 + s) cap) (1 + s) (bs (zs s p (k + 1))) := by
  have h2 := h.stored (s - k) (.int .u8 v)
  rw [hv] at h2 ⊢
  rw [← zs_set s p k hs hk]
  have e : bs ((zs s p k).set (s - k) (bt p k)) = (bs (zs s p k)).set (s - k) (.int .u8 ((bt p k).toNat : Int)) := by simp [bs, List.map_set]
  rw [e]
  exact h2.1
theorem Rd.new (w : World) (t : TypeId) (xs : List UInt8) (n : Nat) (cs : Array Value) (h : cs.toList = bs xs) (hn : xs.length = n) : Rd (w.alloc (.cells cs t)) (w.heap.size + 1) (some ⟨w.heap.size, 0, none⟩) n xs := by
  refine ⟨hn, fun _ => ⟨w.heap.size, 0, rfl, by omega, fun j hj => ?_⟩⟩
  have h1 := World.news_of_block (heap_alloc_new w (.cells cs t)) j _ (by rw [h]; exact bs_get xs j hj)
  rw [Nat.zero_add, ← h1]
  unfold Addr.add
  split
  · rename_i h0; subst h0; rfl
  · simp
theorem hd_take (s p j q : Nat) (hs : s ≤ 4) (hj : j + 1 + q = s) : (hd s p).take (1 + (q + 1)) = (hd s p).take (1 + q) ++ [bt p j] := by
  rcases (show s = 1 ∨ s = 2 ∨ s = 3 ∨ s = 4 by omega) with rfl | rfl | rfl | rfl
  · obtain rfl : q = 0 := by omega
    obtain rfl : j = 0 := by omega
    rfl
  · rcases (show q = 0 ∨ q = 1 by omega) with rfl | rfl
    · obtain rfl : j = 1 := by omega
      rfl
    · obtain rfl : j = 0 := by omega
      rfl
  · rcases (show q = 0 ∨ q = 1 ∨ q = 2 by omega) with rfl | rfl | rfl
    · obtain rfl : j = 2 := by omega
      rfl
    · obtain rfl : j = 1 := by omega
      rfl
    · obtain rfl : j = 0 := by omega
      rfl
  · rcases (show q = 0 ∨ q = 1 ∨ q = 2 ∨ q = 3 by omega) with rfl | rfl | rfl | rfl
    · obtain rfl : j = 3 := by omega
      rfl
    · obtain rfl : j = 2 := by omega
      rfl
    · obtain rfl : j = 1 := by omega
      rfl
    · obtain rfl : j = 0 := by omega
      rfl
theorem made_first (s N : Nat) (hN : 1 + s ≤ N) (v z : Value) : ((madeCells #[z] N).setIfInBounds 0 v).toList.take (1 + s) = v :: List.replicate s z := by
  rw [Array.toList_setIfInBounds, toList_madeCells_one]
  obtain ⟨M, rfl⟩ : ∃ M, N = M + 1 := ⟨N - 1, by omega⟩
  rw [List.replicate_succ, List.set_cons_zero, Nat.add_comm 1 s, List.take_succ_cons, List.take_replicate, Nat.min_eq_left (by omega)]

set_option maxRecDepth 100000 in
set_option maxHeartbeats 3200000 in
theorem pack_any (a nx : Int) (A : Option Addr) (n c : Nat) (xs : List UInt8) (w : World) (ha : 0 ≤ a) (ha' : a ≤ 18446744073709551615) (hx : 0 ≤ nx) (hx' : nx ≤ 18446744073709551615)
    (hr : Rd w w.heap.size A n xs) (hn : n ≤ 140737488355000) (hc : n ≤ c) (hc' : c ≤ maxLen) :
    Calls Try.prog 24 #[.int .u64 a, .int .u64 nx, .slice A n c] w (PackEnds a nx xs w) := by
  have HR := Lib.hid hr; clear hr
  have hsz := fun w => size_any a nx ha ha' hx hx' w
  have hsb : 1 ≤ szOf a nx ∧ szOf a nx ≤ 4 := by unfold szOf; repeat' split; all_goals omega
  obtain ⟨s, hs⟩ : ∃ s : Nat, szOf a nx = (s : Int) := ⟨_, (Int.toNat_of_nonneg (by omega)).symm⟩
  have hxl := HR.out.1
  by_cases c1 : 4611686018427387903 < a
  · have hp : pack a nx xs = none := by unfold pack; rw [if_pos (.inl c1)]
    rw [hs] at hsz hsb
    have HS := Lib.hid hsz; have HP := Lib.hid hp; clear hsz hp hs hxl
    go_enter Try.func24, Try.ntmps24
    go_wp2_with fail
    refine (HS.out _).mono ?_
    rintro e w1 ⟨rfl, hb1⟩
    go_wp2_with fail
    go_ret2
    exact ⟨hb1, .inl ⟨HP.out, rfl⟩⟩
  by_cases c2 : n = 0
  · have hp : pack a nx xs = none := by unfold pack; rw [if_pos (.inr (.inl (by omega)))]
    rw [hs] at hsz hsb
    have HS := Lib.hid hsz; have HP := Lib.hid hp; clear hsz hp hs hxl
    subst c2
    go_enter Try.func24, Try.ntmps24
    go_wp2_with fail
    refine (HS.out _).mono ?_
    rintro e w1 ⟨rfl, hb1⟩
    go_wp2_with fail
    go_ret2
    exact ⟨hb1, .inl ⟨HP.out, rfl⟩⟩
  have c2' : ((n : Int) == 0) = false := by simp; omega
  by_cases c3 : 1195 < n + s
  · have hp : pack a nx xs = none := by unfold pack; rw [if_pos (.inr (.inr (by rw [hs]; simp; omega)))]
    rw [hs] at hsz hsb
    have HS := Lib.hid hsz; have HP := Lib.hid hp; clear hsz hp hs hxl
    go_enter Try.func24, Try.ntmps24
    go_wp2_with fail
    refine (HS.out _).mono ?_
    rintro e w1 ⟨rfl, hb1⟩
    go_wp2_with fail
    go_ret2
    exact ⟨hb1, .inl ⟨HP.out, rfl⟩⟩
  have hp : pack a nx xs = some (sealed (hd s (cutOf a s).toNat ++ xs)) := by
    unfold pack
    rw [if_neg (by rw [hs, Int.toNat_natCast]; omega), hs]
    rfl
  rw [hs] at hsz hsb
  have hcut := fun w => cut_any a s ha ha' (by omega) (by omega) w
  have hcb : 0 ≤ cutOf a s ∧ cutOf a s < 4294967296 := by
    have := cut_lt a s ha; have h2 := win_bd s; omega
  obtain ⟨p, hpp⟩ : ∃ p : Nat, cutOf a s = (p : Int) := ⟨_, (Int.toNat_of_nonneg hcb.1).symm⟩
  rw [hpp] at hcut hcb hp
  rw [Int.toNat_natCast] at hp
  have HS := Lib.hid hsz; have HC := Lib.hid hcut; have HP := Lib.hid hp; clear hsz hcut hp hs hpp
  obtain ⟨i0, hi0, hz0, hz1, hz2⟩ := info_parts info5
  have hmk := fun w => run_make (P := Try.prog) w 33 5 i0 (.int .u8 0) Try.underlying33 hi0 hz0 .i64 .i64 (1 + s) (5 + s + n) (by omega) (by omega) (by rw [hz2]; omega) (by omega)
  have hm0 : (madeCells #[Value.int .u8 0] (5 + s + n))[0]? = some (.int .u8 0) := by
    rw [← Array.getElem?_toList, toList_madeCells_one, List.getElem?_replicate, if_pos (by omega)]
  go_enter Try.func24, Try.ntmps24
  go_wp2_with fail
  refine (HS.out _).mono ?_
  rintro e w1 ⟨rfl, hb1⟩
  have HB1 := Lib.hid hb1; clear hb1
  go_wp2_with fail
  refine (HC.out _).mono ?_
  rintro e w2 ⟨rfl, rfl⟩
  have hown0 : (w1.alloc (.cells ((madeCells #[.int .u8 0] (5 + s + n)).setIfInBounds 0 (.int .u8 (63 + (s : Int)))) 5)).ownsRow w.heap.size 5 1 (.slice (some ⟨w1.heap.size, 0, none⟩) (1 + s) (5 + s + n)) (1 + s) (bs (zs s p 0)) := by
    refine ⟨by rw [bs_length]; simp [zs, low_length]; omega, .inr ⟨w1.heap.size, 5 + s + n, _, rfl, HB1.out.size, heap_alloc_new w1 _, by omega, by unfold maxLen; omega, by simp [size_madeCells], ?_⟩⟩
    rw [Nat.mul_one, made_first s _ (by omega)]
    show _ = Value.int .u8 ((UInt8.ofNat (63 + s)).toNat : Int) :: bs (List.replicate (s - 0) 0 ++ [])
    rw [List.append_nil, Nat.sub_zero, show bs (List.replicate s 0) = List.replicate s (.int .u8 0) from by simp [bs], show ((UInt8.ofNat (63 + s)).toNat : Int) = 63 + (s : Int) from by rw [UInt8.toNat_ofNat']; omega]
  have HO0 := Lib.hid hown0; clear hown0
  go_wp2_with fail
  clear hmk hm0
  go_loopw [47] (fun i wr => ∃ k : Nat, k ≤ s ∧ i = .int .i64 k ∧ wr.ownsRow w.heap.size 5 1 (.slice (some ⟨w1.heap.size, 0, none⟩) (1 + s) (5 + s + n)) (1 + s) (bs (zs s p k)) ∧ Below w.heap.size w wr) (fun i _ => s - (intOf i).toNat)
  case atStart => exact ⟨0, by omega, rfl, HO0.out, HB1.out.alloc HB1.out.size _⟩
  case round =>
    obtain ⟨k, hk, rfl, ho, hb⟩ := hrel
    have HO := Lib.hid ho; have HB := Lib.hid hb; clear ho hb
    by_cases hks : k < s
    · have hcell := HO.out.cellAt (s - k) (by omega)
      have hfz := HO.out.frozenAt (s - k)
      rw [bs_get (zs s p k) (s - k) (by simp [zs, low_length]; omega)] at hcell
      generalize (zs s p k)[s - k]'(by simp [zs, low_length]; omega) = old at *
      rcases (show k = 0 ∨ k = 1 ∨ k = 2 ∨ k = 3 by omega) with rfl | rfl | rfl | rfl
      · simp only [Nat.sub_zero] at hcell hfz
        go_wp2_with fail
        go_roundw
        case rel => exact ⟨1, by omega, rfl, stored_zs HO.out (by omega) hks (by simp [bt]), HB.out.setCell HB1.out.size _⟩
        case measure => simp [intOf]; omega
      · go_wp2_with fail
        go_roundw
        case rel => exact ⟨2, by omega, rfl, stored_zs HO.out (by omega) hks (by simp [bt]), HB.out.setCell HB1.out.size _⟩
        case measure => simp [intOf]; omega
      · go_wp2_with fail
        go_roundw
        case rel => exact ⟨3, by omega, rfl, stored_zs HO.out (by omega) hks (by simp [bt]), HB.out.setCell HB1.out.size _⟩
        case measure => simp [intOf]; omega
      · go_wp2_with fail
        go_roundw
        case rel => exact ⟨4, by omega, rfl, stored_zs HO.out (by omega) hks (by simp [bt]; omega), HB.out.setCell HB1.out.size _⟩
        case measure => simp [intOf]; omega
    · have hks' : k = s := by omega
      rw [hks'] at HO
      have hz : zs s p s = hd s p := by unfold zs hd; rw [Nat.sub_self]; rfl
      rw [hz] at HO
      clear hks' hz
      go_wp2_with (at_builtin; refine wpList_append_any _ rfl (.tmp 61) (.tmp 62) 33 rfl w.heap.size 5 i0 (.int .u8 0) Try.underlying33 hi0 hz0 hz1 hz2 rfl (.slice (some ⟨w1.heap.size, 0, none⟩) (1 + s) (5 + s + n)) (1 + s) (hd s p) rfl ?q1 w.heap.size A n c xs rfl ?q2 ?q3 ?q4 ?_)
      case q1 => exact HO.out
      case q2 => exact HR.out.below HB.out
      case q3 => omega
      case q4 => exact HB.out.size
      intro A2 c2 w2 hown2 hg2 hat2
      have hb2 : Below w.heap.size w w2 := HB.out.grown hg2 HB.out.size (fun k hk => (HO.out.lt k hk).1)
      have HB2 := Lib.hid hb2; clear hb2 hat2 hg2
      have HO2 := Lib.hid hown2; clear hown2
      obtain ⟨hc1, hc2⟩ := own_caps HO2.out
      go_wp2_with fail
      refine (summed_any A2 (1 + s + n) c2 (hd s p ++ xs) w2 (Rd.of_own HO2.out rfl) (by omega) hc1 hc2 (own_none HO2.out)).mono ?_
      rintro e w3 ⟨A3, c3, rfl, hown3, hb3⟩
      have HO3 := Lib.hid hown3; have HB3 := Lib.hid hb3; clear hown3 hb3
      go_wp2_with fail
      go_ret2
      have hl : (sealed (hd s p ++ xs)).length = 1 + s + n + 4 := by
        unfold sealed; rw [List.length_append, List.length_append, hd_length, HR.out.1]; rfl
      exact ⟨below_then HB2.out HB3.out, .inr ⟨_, A3, c3, HP.out, by rw [hl]; rfl, by rw [hl]; exact own_base HO3.out HB2.out.size⟩⟩

set_option maxRecDepth 100000 in
set_option maxHeartbeats 6400000 in
theorem refPack_any (a nx : Int) (A : Option Addr) (n c : Nat) (xs : List UInt8) (w : World) (ha : 0 ≤ a) (ha' : a ≤ 18446744073709551615) (hx : 0 ≤ nx) (hx' : nx ≤ 18446744073709551615)
    (hr : Rd w w.heap.size A n xs) (hn : n ≤ 140737488355000) (hc : n ≤ c) (hc' : c ≤ maxLen) :
    Calls Try.prog 25 #[.int .u64 a, .int .u64 nx, .slice A n c] w (PackEnds a nx xs w) := by
  have HR := Lib.hid hr; clear hr
  have hsz := fun w => refSize_any a nx ha ha' hx hx' w
  have hsb : 1 ≤ szOf a nx ∧ szOf a nx ≤ 4 := by unfold szOf; repeat' split; all_goals omega
  obtain ⟨s, hs⟩ : ∃ s : Nat, szOf a nx = (s : Int) := ⟨_, (Int.toNat_of_nonneg (by omega)).symm⟩
  have hxl := HR.out.1
  by_cases c1 : 4611686018427387903 < a
  · have hp : pack a nx xs = none := by unfold pack; rw [if_pos (.inl c1)]
    rw [hs] at hsz hsb
    have HS := Lib.hid hsz; have HP := Lib.hid hp; clear hsz hp hs hxl
    go_enter Try.func25, Try.ntmps25
    go_wp2_with fail
    refine (HS.out _).mono ?_
    rintro e w1 ⟨rfl, rfl⟩
    go_wp2_with fail
    go_ret2
    exact ⟨Below.refl _ _, .inl ⟨HP.out, rfl⟩⟩
  by_cases c2 : n = 0
  · have hp : pack a nx xs = none := by unfold pack; rw [if_pos (.inr (.inl (by omega)))]
    rw [hs] at hsz hsb
    have HS := Lib.hid hsz; have HP := Lib.hid hp; clear hsz hp hs hxl
    subst c2
    go_enter Try.func25, Try.ntmps25
    go_wp2_with fail
    refine (HS.out _).mono ?_
    rintro e w1 ⟨rfl, rfl⟩
    go_wp2_with fail
    go_ret2
    exact ⟨Below.refl _ _, .inl ⟨HP.out, rfl⟩⟩
  have c2' : ((n : Int) == 0) = false := by simp; omega
  by_cases c3 : 1195 < n + s
  · have hp : pack a nx xs = none := by unfold pack; rw [if_pos (.inr (.inr (by rw [hs]; simp; omega)))]
    rw [hs] at hsz hsb
    have HS := Lib.hid hsz; have HP := Lib.hid hp; clear hsz hp hs hxl
    go_enter Try.func25, Try.ntmps25
    go_wp2_with fail
    refine (HS.out _).mono ?_
    rintro e w1 ⟨rfl, rfl⟩
    go_wp2_with fail
    go_ret2
    exact ⟨Below.refl _ _, .inl ⟨HP.out, rfl⟩⟩
  have hp : pack a nx xs = some (sealed (hd s (cutOf a s).toNat ++ xs)) := by
    unfold pack
    rw [if_neg (by rw [hs, Int.toNat_natCast]; omega), hs]
    rfl
  rw [hs] at hsz hsb
  have hcut := fun w => refCut_any a s ha ha' (by omega) (by omega) w
  have hcb : 0 ≤ cutOf a s ∧ cutOf a s < 4294967296 := by
    have := cut_lt a s ha; have h2 := win_bd s; omega
  obtain ⟨p, hpp⟩ : ∃ p : Nat, cutOf a s = (p : Int) := ⟨_, (Int.toNat_of_nonneg hcb.1).symm⟩
  rw [hpp] at hcut hcb hp
  rw [Int.toNat_natCast] at hp
  have HS := Lib.hid hsz; have HC := Lib.hid hcut; have HP := Lib.hid hp; clear hsz hcut hp hs hpp
  obtain ⟨i0, hi0, hz0, hz1, hz2⟩ := info_parts info5
  go_enter Try.func25, Try.ntmps25
  go_wp2_with fail
  refine (HS.out _).mono ?_
  rintro e w1 ⟨rfl, rfl⟩
  go_wp2_with fail
  refine (HC.out _).mono ?_
  rintro e w2 ⟨rfl, rfl⟩
  go_wp2_with fail
  go_loopw [10, 11] (fun v i wr => ∃ (j q : Nat) (A' : Option Addr) (c' : Nat), j + q = s ∧ i = .int .i64 ((j : Int) - 1) ∧ v = .slice A' (1 + q) c' ∧ wr.ownsRow w.heap.size 5 1 (.slice A' (1 + q) c') (1 + q) (bs ((hd s p).take (1 + q))) ∧ Below w.heap.size w wr) (fun _ i _ => (intOf i + 1).toNat)
  case atStart =>
    refine ⟨s, 0, _, 1, by omega, rfl, rfl, ?_, (Below.refl _ _).alloc (Nat.le_refl _) _⟩
    have h : (w.alloc (.cells #[.int .u8 (63 + (s : Int))] 5)).ownsRow w.heap.size 5 1 (.slice (some ⟨w.heap.size, 0, none⟩) 1 1) 1 [.int .u8 (63 + (s : Int))] := World.ownsRow_lit w _ 1 (Nat.le_refl _) (by unfold maxLen; omega) rfl
    have e : bs ((hd s p).take (1 + 0)) = [.int .u8 (63 + (s : Int))] := by
      show [Value.int .u8 ((UInt8.ofNat (63 + s)).toNat : Int)] = _
      rw [show ((UInt8.ofNat (63 + s)).toNat : Int) = 63 + (s : Int) from by rw [UInt8.toNat_ofNat']; omega]
    rw [e]
    exact h
  case round =>
    obtain ⟨j, q, A1, c1', hjq, rfl, rfl, ho, hb⟩ := hrel
    have HO := Lib.hid ho; have HB := Lib.hid hb; clear ho hb
    rcases (show j = 0 ∨ j = 1 ∨ j = 2 ∨ j = 3 ∨ j = 4 by omega) with rfl | rfl | rfl | rfl | rfl
    · have hqs : q = s := by omega
      have hl : (hd s p).take (1 + q) = hd s p := List.take_of_length_le (by rw [hd_length]; omega)
      rw [hl] at HO
      subst hqs
      clear hl hjq
      go_wp2_with (at_builtin; refine wpList_append_any _ rfl (.tmp 51) (.tmp 52) 33 rfl w.heap.size 5 i0 (.int .u8 0) Try.underlying33 hi0 hz0 hz1 hz2 rfl (.slice A1 (1 + q) c1') (1 + q) (hd q p) rfl ?q1 w.heap.size A n c xs rfl ?q2 ?q3 ?q4 ?_)
      case q1 => exact HO.out
      case q2 => exact HR.out.below HB.out
      case q3 => omega
      case q4 => exact HB.out.size
      intro A2 c2 w2 hown2 hg2 hat2
      have hb2 : Below w.heap.size w w2 := HB.out.grown hg2 HB.out.size (fun k hk => (HO.out.lt k hk).1)
      have HB2 := Lib.hid hb2; clear hb2 hat2 hg2
      have HO2 := Lib.hid hown2; clear hown2
      obtain ⟨hc1, hc2⟩ := own_caps HO2.out
      go_wp2_with fail
      refine (refSummed_any A2 (1 + q + n) c2 (hd q p ++ xs) w2 (Rd.of_own HO2.out rfl) (by omega) hc1 hc2 (own_none HO2.out)).mono ?_
      rintro e w3 ⟨A3, c3, rfl, hown3, hb3⟩
      have HO3 := Lib.hid hown3; have HB3 := Lib.hid hb3; clear hown3 hb3
      go_wp2_with fail
      go_ret2
      have hl : (sealed (hd q p ++ xs)).length = 1 + q + n + 4 := by
        unfold sealed; rw [List.length_append, List.length_append, hd_length, HR.out.1]; rfl
      exact ⟨below_then HB2.out HB3.out, .inr ⟨_, A3, c3, HP.out, by rw [hl]; rfl, by rw [hl]; exact own_base HO3.out HB2.out.size⟩⟩
    · have HQ := Lib.hid hjq; clear hjq
      go_wp2_with (at_builtin; refine wpList_append_any _ rfl (.tmp 42) (.tmp 49) 33 rfl w.heap.size 5 i0 (.int .u8 0) Try.underlying33 hi0 hz0 hz1 hz2 rfl (.slice A1 (1 + q) c1') (1 + q) ((hd s p).take (1 + q)) rfl ?q1 (wr.heap.size + 1) (some ⟨wr.heap.size, 0, none⟩) 1 1 [bt p 0] rfl ?q2 ?q3 ?q4 ?_)
      case q1 => exact HO.out.alloc _
      case q2 => exact Rd.new wr 5 _ _ _ (by first | (simp [bs, bt]; done) | (simp [bs, bt]; omega)) rfl
      case q3 => have := HQ.out; omega
      case q4 => have := HB.out.size; simp; omega
      intro A2 c2 w2 hown2 hg2 hat2
      have hb2 : Below w.heap.size w w2 := (HB.out.alloc HB.out.size _).grown hg2 (by have := HB.out.size; simp; omega) (fun k hk => (HO.out.lt k hk).1)
      have HB2 := Lib.hid hb2; clear hb2 hat2 hg2
      rw [← hd_take s p 0 q (by omega) (by have := HQ.out; omega)] at hown2
      have HO2 := Lib.hid hown2; clear hown2
      go_wp2_with fail
      go_roundw
      case rel => exact ⟨0, q + 1, A2, c2, by have := HQ.out; omega, rfl, by rw [← Nat.add_assoc], by rw [← Nat.add_assoc] at HO2 ⊢; exact HO2.out, HB2.out⟩
      case measure => simp [intOf]
    · have HQ := Lib.hid hjq; clear hjq
      go_wp2_with (at_builtin; refine wpList_append_any _ rfl (.tmp 42) (.tmp 49) 33 rfl w.heap.size 5 i0 (.int .u8 0) Try.underlying33 hi0 hz0 hz1 hz2 rfl (.slice A1 (1 + q) c1') (1 + q) ((hd s p).take (1 + q)) rfl ?q1 (wr.heap.size + 1) (some ⟨wr.heap.size, 0, none⟩) 1 1 [bt p 1] rfl ?q2 ?q3 ?q4 ?_)
      case q1 => exact HO.out.alloc _
      case q2 => exact Rd.new wr 5 _ _ _ (by first | (simp [bs, bt]; done) | (simp [bs, bt]; omega)) rfl
      case q3 => have := HQ.out; omega
      case q4 => have := HB.out.size; simp; omega
      intro A2 c2 w2 hown2 hg2 hat2
      have hb2 : Below w.heap.size w w2 := (HB.out.alloc HB.out.size _).grown hg2 (by have := HB.out.size; simp; omega) (fun k hk => (HO.out.lt k hk).1)
      have HB2 := Lib.hid hb2; clear hb2 hat2 hg2
      rw [← hd_take s p 1 q (by omega) (by have := HQ.out; omega)] at hown2
      have HO2 := Lib.hid hown2; clear hown2
      go_wp2_with fail
      go_roundw
      case rel => exact ⟨1, q + 1, A2, c2, by have := HQ.out; omega, rfl, by rw [← Nat.add_assoc], by rw [← Nat.add_assoc] at HO2 ⊢; exact HO2.out, HB2.out⟩
      case measure => simp [intOf]
    · have HQ := Lib.hid hjq; clear hjq
      go_wp2_with (at_builtin; refine wpList_append_any _ rfl (.tmp 42) (.tmp 49) 33 rfl w.heap.size 5 i0 (.int .u8 0) Try.underlying33 hi0 hz0 hz1 hz2 rfl (.slice A1 (1 + q) c1') (1 + q) ((hd s p).take (1 + q)) rfl ?q1 (wr.heap.size + 1) (some ⟨wr.heap.size, 0, none⟩) 1 1 [bt p 2] rfl ?q2 ?q3 ?q4 ?_)
      case q1 => exact HO.out.alloc _
      case q2 => exact Rd.new wr 5 _ _ _ (by first | (simp [bs, bt]; done) | (simp [bs, bt]; omega)) rfl
      case q3 => have := HQ.out; omega
      case q4 => have := HB.out.size; simp; omega
      intro A2 c2 w2 hown2 hg2 hat2
      have hb2 : Below w.heap.size w w2 := (HB.out.alloc HB.out.size _).grown hg2 (by have := HB.out.size; simp; omega) (fun k hk => (HO.out.lt k hk).1)
      have HB2 := Lib.hid hb2; clear hb2 hat2 hg2
      rw [← hd_take s p 2 q (by omega) (by have := HQ.out; omega)] at hown2
      have HO2 := Lib.hid hown2; clear hown2
      go_wp2_with fail
      go_roundw
      case rel => exact ⟨2, q + 1, A2, c2, by have := HQ.out; omega, rfl, by rw [← Nat.add_assoc], by rw [← Nat.add_assoc] at HO2 ⊢; exact HO2.out, HB2.out⟩
      case measure => simp [intOf]
    · have HQ := Lib.hid hjq; clear hjq
      go_wp2_with (at_builtin; refine wpList_append_any _ rfl (.tmp 42) (.tmp 49) 33 rfl w.heap.size 5 i0 (.int .u8 0) Try.underlying33 hi0 hz0 hz1 hz2 rfl (.slice A1 (1 + q) c1') (1 + q) ((hd s p).take (1 + q)) rfl ?q1 (wr.heap.size + 1) (some ⟨wr.heap.size, 0, none⟩) 1 1 [bt p 3] rfl ?q2 ?q3 ?q4 ?_)
      case q1 => exact HO.out.alloc _
      case q2 => exact Rd.new wr 5 _ _ _ (by first | (simp [bs, bt]; done) | (simp [bs, bt]; omega)) rfl
      case q3 => have := HQ.out; omega
      case q4 => have := HB.out.size; simp; omega
      intro A2 c2 w2 hown2 hg2 hat2
      have hb2 : Below w.heap.size w w2 := (HB.out.alloc HB.out.size _).grown hg2 (by have := HB.out.size; simp; omega) (fun k hk => (HO.out.lt k hk).1)
      have HB2 := Lib.hid hb2; clear hb2 hat2 hg2
      rw [← hd_take s p 3 q (by omega) (by have := HQ.out; omega)] at hown2
      have HO2 := Lib.hid hown2; clear hown2
      go_wp2_with fail
      go_roundw
      case rel => exact ⟨3, q + 1, A2, c2, by have := HQ.out; omega, rfl, by rw [← Nat.add_assoc], by rw [← Nat.add_assoc] at HO2 ⊢; exact HO2.out, HB2.out⟩
      case measure => simp [intOf]
end Go.Proofs.Ytecomgojaggpbaa
