/- What Pack and Open end in, and the walk of the head of the laws on seals. -/
import Derived.Test.YtecomgojaggpbaaRefOpenWalks
import Derived.Lib.SlBytesConst
namespace Go.Proofs.Ytecomgojaggpbaa
set_option linter.unusedVariables false
open Go.RowKit
open Crc Pn

theorem pack5 : pack 5 5 [97] = some [64, 5, 97, 105, 202, 132, 105] := by decide +kernel
theorem open5 : openOf [64, 5, 97, 105, 202, 132, 105] 5 = some (5, [97]) := by decide +kernel
theorem sum9 : sum [49, 50, 51, 52, 53, 54, 55, 56, 57] = 3808858755 := by decide +kernel
theorem open_nil (nx : Int) : openOf [] nx = none := rfl

theorem PackEnds.some_ {a nx : Int} {xs ys : List UInt8} {w w' : World} {e : Ending} (h : PackEnds a nx xs w e w') (hp : pack a nx xs = some ys) :
    Below w.heap.size w w' ∧ ∃ A c, e = .returned (.tuple #[.slice A ys.length c, .int .i64 0]) ∧ w'.ownsRow w.heap.size 5 1 (.slice A ys.length c) ys.length (bs ys) := by
  obtain ⟨hb, h | ⟨zs, A, c, h, he, ho⟩⟩ := h
  · rw [hp] at h; cases h.1
  · rw [hp] at h; obtain rfl := Option.some.inj h; exact ⟨hb, A, c, he, ho⟩
theorem PackEnds.none_ {a nx : Int} {xs : List UInt8} {w w' : World} {e : Ending} (h : PackEnds a nx xs w e w') (hp : pack a nx xs = none) :
    Below w.heap.size w w' ∧ e = .returned (.tuple #[.slice none 0 0, .int .i64 1]) := by
  obtain ⟨hb, h | ⟨zs, A, c, h, he, ho⟩⟩ := h
  · exact ⟨hb, h.2⟩
  · rw [hp] at h; cases h
theorem OpenEnds.some_ {nx m : Int} {xs ys : List UInt8} {w w' : World} {e : Ending} (h : OpenEnds xs nx w e w') (hp : openOf xs nx = some (m, ys)) :
    Below w.heap.size w w' ∧ ∃ A c, e = .returned (.tuple #[.int .u64 m, .slice A ys.length c, .int .i64 0]) ∧ w'.ownsRow w.heap.size 5 1 (.slice A ys.length c) ys.length (bs ys) := by
  obtain ⟨hb, h | ⟨m', zs, A, c, h, he, ho⟩⟩ := h
  · rw [hp] at h; cases h.1
  · rw [hp] at h
    obtain ⟨rfl, rfl⟩ := Prod.mk.inj (Option.some.inj h)
    exact ⟨hb, A, c, he, ho⟩
theorem OpenEnds.none_ {nx : Int} {xs : List UInt8} {w w' : World} {e : Ending} (h : OpenEnds xs nx w e w') (hp : openOf xs nx = none) :
    Below w.heap.size w w' ∧ e = .returned (.tuple #[.int .u64 0, .slice none 0 0, .int .i64 60]) := by
  obtain ⟨hb, h | ⟨m', zs, A, c, h, he, ho⟩⟩ := h
  · exact ⟨hb, h.2⟩
  · rw [hp] at h; cases h

theorem Rd.newm (w : World) (t : TypeId) (xs : List UInt8) (n : Nat) (cs : Array Value) (fr : Nat × Nat) (h : cs.toList = bs xs) (hn : xs.length = n) : Rd (w.alloc (.cells cs t fr)) (w.heap.size + 1) (some ⟨w.heap.size, 0, none⟩) n xs := by
  refine ⟨hn, fun _ => ⟨w.heap.size, 0, rfl, by omega, fun j hj => ?_⟩⟩
  have h1 := World.news_of_block (heap_alloc_new w (.cells cs t fr)) j _ (by rw [h]; exact bs_get xs j hj)
  rw [Nat.zero_add, ← h1]
  unfold Addr.add
  split
  · rename_i h0; subst h0; rfl
  · simp

set_option maxRecDepth 100000 in
set_option maxHeartbeats 1600000 in
theorem awake06_any (w : World) : Calls Try.prog 23 #[] w fun e w' => e = .returned (.bool true) ∧ Below w.heap.size w w' := by
  have kc := fun (w : World) (C : Array Value) (n c : Nat) => Lib.run_convert_bytes_const (P := Try.prog) w 33 5 C n c Try.underlying33 Try.underlying5
  go_enter Try.func23, Try.ntmps23
  go_wp2_with fail
  refine (pack_any 5 5 (some ⟨w.heap.size, 0, none⟩) 1 1 [97] _ (by omega) (by omega) (by omega) (by omega) ((Rd.new w 5 [97] 1 _ rfl rfl).more (by simp)) (by omega) (by omega) (by unfold maxLen; omega)).mono ?_
  rintro e w1 h1
  obtain ⟨hb1, A, c, rfl, ho1⟩ := h1.some_ pack5
  have HB1 := Lib.hid (((Below.refl _ w).alloc (Nat.le_refl _) (.cells #[.int .u8 97] 5)).trans (hb1.mono (by simp)))
  have hr1 := Rd.of_own ho1 rfl
  obtain ⟨hc1, hc2⟩ := own_caps ho1
  have hnone := own_none ho1
  clear hb1 ho1 h1
  go_wp2_with fail
  refine (open_any 5 A 7 c [64, 5, 97, 105, 202, 132, 105] w1 (by omega) (by omega) hr1 (by omega) hc1 hc2 hnone).mono ?_
  rintro e w2 h2
  obtain ⟨hb2, A2, c2, rfl, ho2⟩ := h2.some_ open5
  have HB2 := Lib.hid (below_then HB1.out hb2)
  have hr2 := hr1.after hb2
  have hr3 := Rd.of_own ho2 rfl
  clear hb2 ho2 h2 hr1
  go_wp2_with fail
  refine (open_any 5 none 0 0 [] w2 (by omega) (by omega) Rd.none_ (by omega) (by omega) (by unfold maxLen; omega) (fun _ => rfl)).mono ?_
  rintro e w3 h3
  obtain ⟨hb3, rfl⟩ := h3.none_ (open_nil 5)
  have HB3 := Lib.hid (below_then HB2.out hb3)
  have hr4 := hr2.after hb3
  have hr5 := hr3.after hb3
  clear hb3 h3 hr2 hr3
  go_wp2_with fail
  refine (sum_any _ 9 9 [49, 50, 51, 52, 53, 54, 55, 56, 57] _ ((Rd.newm w3 5 [49, 50, 51, 52, 53, 54, 55, 56, 57] 9 _ _ rfl rfl).more (by simp)) (by omega)).mono ?_
  rw [sum9]
  rintro e w4 ⟨rfl, hb4⟩
  have hb34 : Below w3.heap.size w3 w4 := ((Below.refl _ w3).alloc (Nat.le_refl _) _).trans (hb4.mono (by simp))
  have HB4 := Lib.hid (below_then HB3.out hb34)
  have hr6 := hr4.after hb34
  have hr7 := hr5.after hb34
  clear hb4 hb34 hr4 hr5 kc
  obtain ⟨b, o, rfl, _, hcl⟩ := hr6.at_ (by simp)
  obtain ⟨b2, o2, rfl, _, hcl2⟩ := hr7.at_ (by simp)
  have k0 := hcl 0 (by simp)
  have k1 := hcl 1 (by simp)
  have k2 := hcl 2 (by simp)
  have m0 := hcl2 0 (by simp)
  rw [Nat.add_zero] at k0 m0
  clear hcl hcl2 hr6 hr7 hnone
  simp at k0 k1 k2 m0
  go_wp2_with fail
  go_ret
  exact ⟨rfl, HB4.out⟩
end Go.Proofs.Ytecomgojaggpbaa
