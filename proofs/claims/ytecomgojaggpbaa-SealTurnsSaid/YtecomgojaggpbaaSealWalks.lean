/- The walks of what is summed up, and of bytes.Equal and bytes.Clone. -/
import Derived.Test.YtecomgojaggpbaaSumWalks
namespace Go.Proofs.Ytecomgojaggpbaa
set_option linter.unusedVariables false
open Go.RowKit
open Crc

def tail4 (s : Nat) : List UInt8 := [UInt8.ofNat s, UInt8.ofNat (s / 256), UInt8.ofNat (s / 65536), UInt8.ofNat (s / 16777216)]
def sealed (xs : List UInt8) : List UInt8 := xs ++ tail4 (sum xs)
theorem info5 : (Try.prog.info? 5).map (fun i => (i.zero, i.size, i.bytes)) = some (some (.int .u8 0), 1, 1) := by kernel_rfl

theorem wrap_byte (s : Nat) : IntKind.u8.wrap (s : Int) = ((UInt8.ofNat s).toNat : Int) := by
  simp [IntKind.wrap, IntKind.bits, IntKind.signed]
theorem own_base {w : World} {b b' : Nat} {e : TypeId} {size n : Nat} {v : Value} {xs : List Value} (h : w.ownsRow b e size v n xs) (hb : b' ≤ b) : w.ownsRow b' e size v n xs := by
  refine ⟨h.1, ?_⟩
  rcases h.2 with h0 | ⟨g, cap, cur, h1, h2, h3⟩
  · exact .inl h0
  · exact .inr ⟨g, cap, cur, h1, by omega, h3⟩
theorem own_form {w : World} {b : Nat} {e : TypeId} {size n : Nat} {v : Value} {xs : List Value} (h : w.ownsRow b e size v n xs) : ∃ A c, v = .slice A n c ∧ n ≤ c ∧ c ≤ maxLen := by
  rcases h.2 with ⟨rfl, rfl⟩ | ⟨g, cap, cur, rfl, _, _, h4, h5, _⟩
  · exact ⟨none, 0, rfl, by omega, by unfold maxLen; omega⟩
  · exact ⟨_, cap, rfl, h4, h5⟩

set_option maxRecDepth 100000 in
set_option maxHeartbeats 1600000 in
theorem summed_any (A : Option Addr) (n c : Nat) (xs : List UInt8) (w : World) (hr : Rd w w.heap.size A n xs) (hn : n ≤ 140737488355000) (hc : n ≤ c) (hc' : c ≤ maxLen) (hA : A = none → c = 0) :
    Calls Try.prog 33 #[.slice A n c] w fun e w' => ∃ A' c', e = .returned (.slice A' (n + 4) c') ∧ w'.ownsRow w.heap.size 5 1 (.slice A' (n + 4) c') (n + 4) (bs (sealed xs)) ∧ Below w.heap.size w w' := by
  obtain ⟨i0, hi0, hz0, hz1, hz2⟩ := info_parts info5
  unfold maxLen at hc'
  have HR := Lib.hid hr; clear hr
  have hs := sum_lt xs
  go_enter Try.func33, Try.ntmps33
  go_wp2_with fail
  refine (sum_any A n c xs w HR.out (by omega)).mono ?_
  rintro e w1 ⟨rfl, hb1⟩
  have HB1 := Lib.hid hb1; clear hb1
  have hrd := HR.out.after HB1.out
  have holds : ∀ (o : Obj) (b : Addr), A = some b → ∀ j u, (bs xs)[j]? = some u → (w1.alloc o).cell? (b.add j) = some u := fun o b hb j u hu => by
    exact (hrd.alloc (Nat.le_refl _) o).news hb j u hu
  have HO := Lib.hid holds; clear holds hrd
  have hlen : (bs xs).length = n * 1 := by rw [bs_length, HR.out.1]; omega
  have HL := Lib.hid hlen; clear hlen
  have ht4 : bs (tail4 (sum xs)) = [.int .u8 ((sum xs : Int) % 256), .int .u8 ((sum xs : Int) / 256 % 256), .int .u8 ((sum xs : Int) / 65536 % 256), .int .u8 ((sum xs : Int) / 16777216)] := by
    simp [bs, tail4]
    omega
  have HT := Lib.hid ht4; clear ht4
  have hse : sealed xs = xs ++ tail4 (sum xs) := rfl
  have HSE := Lib.hid hse; clear hse
  generalize hsm : sum xs = s at *
  clear hsm
  go_wp2_with (at_builtin; refine wpList_append_grows _ rfl (.tmp 11) (.tmp 23) 33 rfl 5 i0 (.int .u8 0) 1 1 Try.underlying33 hi0 hz0 hz1 hz2 rfl (by decide) A n n (bs xs) rfl ?q1 HL.out ?q2 ⟨w1.heap.size, 0, none⟩ 4 4 [.int .u8 ((s : Int) % 256), .int .u8 ((s : Int) / 256 % 256), .int .u8 ((s : Int) / 65536 % 256), .int .u8 ((s : Int) / 16777216)] rfl rfl ?q3 ?q4 ?q5 ?q6 ?q7 ?_)
  case q1 => intro h; have := hA h; omega
  case q2 => exact HO.out _
  case q3 => exact World.news_of_block (heap_alloc_new w1 _)
  case q4 => rw [← HT.out]; exact bs_one _
  case q5 => omega
  case q6 => unfold maxLen; omega
  case q7 => omega
  intro v' w2 hown hg
  have hown' : w2.ownsRow w.heap.size 5 1 v' (n + 4) (bs (xs ++ tail4 s)) := by
    rw [bs_append, HT.out]; exact own_base hown (by have := HB1.out.size; simp; omega)
  clear hown
  have hb2 : Below w.heap.size w w2 := ((HB1.out.alloc (by exact HB1.out.size) _).grown hg (by have := HB1.out.size; simp; omega) (fun k hk => by cases hk))
  have HB2 := Lib.hid hb2; clear hb2
  have HOW := Lib.hid hown'; clear hown' hg
  obtain ⟨A', c', hv⟩ : ∃ A' c', v' = .slice A' (n + 4) c' := by
    obtain ⟨A', c', hv, _⟩ := own_form HOW.out
    exact ⟨A', c', hv⟩
  rw [hv] at HOW ⊢
  clear hv
  go_wp2_with fail
  go_ret
  exact ⟨A', c', rfl, by rw [HSE.out]; exact HOW.out, HB2.out⟩

set_option maxRecDepth 100000 in
set_option maxHeartbeats 1600000 in
theorem refSummed_any (A : Option Addr) (n c : Nat) (xs : List UInt8) (w : World) (hr : Rd w w.heap.size A n xs) (hn : n ≤ 140737488355000) (hc : n ≤ c) (hc' : c ≤ maxLen) (hA : A = none → c = 0) :
    Calls Try.prog 34 #[.slice A n c] w fun e w' => ∃ A' c', e = .returned (.slice A' (n + 4) c') ∧ w'.ownsRow w.heap.size 5 1 (.slice A' (n + 4) c') (n + 4) (bs (sealed xs)) ∧ Below w.heap.size w w' := by
  obtain ⟨i0, hi0, hz0, hz1, hz2⟩ := info_parts info5
  have HR := Lib.hid hr; clear hr
  have hs := sum_lt xs
  have ht4 : bs (tail4 (sum xs)) = [.int .u8 ((sum xs : Int) % 256), .int .u8 ((sum xs : Int) / 256 % 256), .int .u8 ((sum xs : Int) / 65536 % 256), .int .u8 ((sum xs : Int) / 16777216)] := by
    simp [bs, tail4]
    omega
  have HT := Lib.hid ht4; clear ht4
  have hse : sealed xs = xs ++ tail4 (sum xs) := rfl
  have HSE := Lib.hid hse; clear hse
  go_enter Try.func34, Try.ntmps34
  go_wp2_with fail
  refine (refSum_any A n c xs w HR.out (by omega)).mono ?_
  rintro e w' ⟨rfl, rfl⟩
  generalize hsm : sum xs = s at *
  clear hsm
  go_wp2_with (at_builtin; refine wpList_append_any _ rfl (.tmp 6) (.tmp 7) 33 rfl w.heap.size 5 i0 (.int .u8 0) Try.underlying33 hi0 hz0 hz1 hz2 rfl (.slice (some ⟨w.heap.size, 0, none⟩) 0 0) 0 [] rfl ?q1 w.heap.size A n c xs rfl ?q2 ?q3 ?q4 ?_)
  case q1 => exact World.ownsRow_lit w #[] 0 (Nat.le_refl _) (by unfold maxLen; omega) rfl
  case q2 => exact HR.out.alloc (Nat.le_refl _) _
  case q3 => omega
  case q4 => simp
  intro A1 c1 w1 hown1 hg1 hat1
  have hb1 : Below w.heap.size w w1 := ((Below.refl _ w).alloc (Nat.le_refl _) _).grown hg1 (by simp) (fun k hk => by simp [Value.ownBlock] at hk; omega)
  have HB1 := Lib.hid hb1; clear hb1
  have HO1 := Lib.hid hown1; clear hown1
  have hat1' : ∀ k, (Value.slice A1 n c1).ownBlock = some k → w.heap.size ≤ k := fun k hk => (HO1.out.lt k hk).1
  have HAT := Lib.hid hat1'; clear hat1' hat1 hg1
  go_wp2_with (at_builtin; refine wpList_append_any _ rfl (.tmp 8) (.tmp 20) 33 rfl w.heap.size 5 i0 (.int .u8 0) Try.underlying33 hi0 hz0 hz1 hz2 rfl (.slice A1 n c1) n xs rfl ?q1 (w1.heap.size + 1) (some ⟨w1.heap.size, 0, none⟩) 4 4 (tail4 s) rfl ?q2 ?q3 ?q4 ?_)
  case q1 => exact HO1.out.alloc _
  case q2 =>
    refine ⟨rfl, fun _ => ⟨w1.heap.size, 0, rfl, by omega, fun j hj => ?_⟩⟩
    have h := World.news_of_block (heap_alloc_new w1 (.cells #[.int .u8 ((s : Int) % 256), .int .u8 ((s : Int) / 256 % 256), .int .u8 ((s : Int) / 65536 % 256), .int .u8 ((s : Int) / 16777216)] 5)) j _ (by
      have := bs_get (tail4 s) j hj
      rw [HT.out] at this
      exact this)
    rw [Nat.zero_add, ← h]
    unfold Addr.add
    split
    · rename_i h0; subst h0; rfl
    · simp
  case q3 => omega
  case q4 => have := HB1.out.size; simp; omega
  intro A2 c2 w2 hown2 hg2 hat2
  have hb2 : Below w.heap.size w w2 := (HB1.out.alloc HB1.out.size _).grown hg2 (by have := HB1.out.size; simp; omega) (fun k hk => HAT.out k hk)
  have HB2 := Lib.hid hb2; clear hb2 hat2 hg2
  have HO2 := Lib.hid hown2; clear hown2
  go_wp2_with fail
  go_ret
  exact ⟨A2, c2, rfl, by rw [HSE.out]; exact HO2.out, HB2.out⟩

set_option maxHeartbeats 1600000 in
theorem equal_any (A B : Option Addr) (n c m d : Nat) (xs ys : List UInt8) (w : World) (b1 b2 : Nat) (h1 : Rd w b1 A n xs) (h2 : Rd w b2 B m ys) :
    Calls Try.prog 36 #[.slice A n c, .slice B m d] w fun e w' => e = .returned (.bool (decide (xs = ys))) ∧ w = w' := by
  have k1 := h1.convert (P := Try.prog) c 33 5 9 Try.underlying33 Try.underlying5 Try.underlying9
  have k2 := h2.convert (P := Try.prog) d 33 5 9 Try.underlying33 Try.underlying5 Try.underlying9
  clear h1 h2
  go_enter Try.func36, Try.ntmps36
  go_wp2
  go_ret
  exact ⟨ret_bool (by rw [Bool.eq_iff_iff]; simp), rfl⟩

set_option maxHeartbeats 1600000 in
theorem clone_any (A : Option Addr) (n c : Nat) (xs : List UInt8) (w : World) (hr : Rd w w.heap.size A n xs) (hn : n ≤ 140737488355000) :
    Calls Try.prog 37 #[.slice A n c] w fun e w' => ∃ A' c', e = .returned (.slice A' n c') ∧ w'.ownsRow w.heap.size 5 1 (.slice A' n c') n (bs xs) ∧ Below w.heap.size w w' := by
  obtain ⟨i0, hi0, hz0, hz1, hz2⟩ := info_parts info5
  have q22 : ∀ (w : World) (a : Option Addr) (n c n' c' : Nat), (binOp .eql 33 (.slice a n c) (.slice none n' c')).run Try.prog w = .ok (.bool a.isNone) w := fun w a n c n' c' => Lib.run_eql_slice_nil w _ _ a n c n' c' Try.underlying33
  have HR := Lib.hid hr; clear hr
  cases A with
  | none =>
    have h0 : n = 0 := by
      rcases Nat.eq_zero_or_pos n with h0 | h0
      · exact h0
      · obtain ⟨b, o, h, _⟩ := HR.out.2 h0; cases h
    subst h0
    have hx : xs = [] := List.eq_nil_of_length_eq_zero HR.out.1
    subst hx
    go_enter Try.func37, Try.ntmps37
    go_wp2
    go_ret
    exact ⟨none, 0, rfl, World.ownsRow_nil _ _ _ _, Below.refl _ _⟩
  | some ad =>
    go_enter Try.func37, Try.ntmps37
    go_wp2_with (at_builtin; refine wpList_append_any _ rfl (.tmp 5) (.tmp 6) 33 rfl w.heap.size 5 i0 (.int .u8 0) Try.underlying33 hi0 hz0 hz1 hz2 rfl (.slice (some ⟨w.heap.size, 0, none⟩) 0 0) 0 [] rfl ?q1 w.heap.size (some ad) n c xs rfl ?q2 ?q3 ?q4 ?_)
    case q1 => exact World.ownsRow_lit w #[] 0 (Nat.le_refl _) (by unfold maxLen; omega) rfl
    case q2 => exact HR.out.alloc (Nat.le_refl _) _
    case q3 => omega
    case q4 => simp
    intro A1 c1 w1 hown1 hg1 hat1
    have hb1 : Below w.heap.size w w1 := ((Below.refl _ w).alloc (Nat.le_refl _) _).grown hg1 (by simp) (fun k hk => by simp [Value.ownBlock] at hk; omega)
    have HB1 := Lib.hid hb1; clear hb1
    have HO1 := Lib.hid hown1; clear hown1 hat1 hg1
    go_wp2_with fail
    go_ret
    exact ⟨A1, c1, rfl, HO1.out, HB1.out⟩
end Go.Proofs.Ytecomgojaggpbaa
