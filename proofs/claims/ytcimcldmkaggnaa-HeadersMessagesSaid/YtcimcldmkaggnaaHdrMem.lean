/- Rows of headers, as the walks read them. -/
import Derived.Test.YtcimcldmkaggnaaKit
namespace Go.Proofs.Ytcimcldmkaggnaa
set_option linter.unusedVariables false
set_option linter.unusedSimpArgs false
open Go.RowKit

/-- a row of headers that can be read: two strings each -/
def HRd (w : World) (B : Nat) (A : Option Addr) (n : Nat) (hs : List (ByteArray × ByteArray)) : Prop :=
  hs.length = n ∧ (0 < n → ∃ b o, A = some ⟨b, o, none⟩ ∧ b < B ∧ ∀ j (h : j < hs.length), w.cell? ⟨b, o + j * 2, none⟩ = some (.string (hs[j]'h).1) ∧ w.cell? ⟨b, o + j * 2 + 1, none⟩ = some (.string (hs[j]'h).2))
theorem HRd.keep {w w' : World} {B n : Nat} {A : Option Addr} {hs : List (ByteArray × ByteArray)} (h : HRd w B A n hs) (hk : ∀ p : Addr, p.block < B → w'.cell? p = w.cell? p) : HRd w' B A n hs :=
  ⟨h.1, fun hn => by
    obtain ⟨b, o, e, hb, hc⟩ := h.2 hn
    exact ⟨b, o, e, hb, fun j hj => ⟨(hk _ hb).trans (hc j hj).1, (hk _ hb).trans (hc j hj).2⟩⟩⟩
theorem HRd.more {w : World} {B B' n : Nat} {A : Option Addr} {hs : List (ByteArray × ByteArray)} (h : HRd w B A n hs) (hB : B ≤ B') : HRd w B' A n hs :=
  ⟨h.1, fun hn => by
    obtain ⟨b, o, e, hb, hc⟩ := h.2 hn
    exact ⟨b, o, e, by omega, hc⟩⟩
theorem HRd.below {w w' : World} {B n : Nat} {A : Option Addr} {hs : List (ByteArray × ByteArray)} (h : HRd w B A n hs) (hb : Below B w w') : HRd w' B A n hs := h.keep fun _ hp => hb.cell hp
theorem HRd.after {w w' : World} {n : Nat} {A : Option Addr} {hs : List (ByteArray × ByteArray)} (h : HRd w w.heap.size A n hs) (hb : Below w.heap.size w w') : HRd w' w'.heap.size A n hs := (h.below hb).more hb.size
theorem HRd.alloc {w : World} {B n : Nat} {A : Option Addr} {hs : List (ByteArray × ByteArray)} (h : HRd w B A n hs) (hB : B ≤ w.heap.size) (o : Obj) : HRd (w.alloc o) B A n hs := h.keep fun p hp => World.cell?_alloc_lt w o p (by omega)
theorem HRd.none_ (w : World) (B : Nat) : HRd w B none 0 [] := ⟨rfl, fun h => absurd h (by omega)⟩
end Go.Proofs.Ytcimcldmkaggnaa
