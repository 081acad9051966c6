/- Bodies in parts, plainly. No program in sight. -/
import Derived.Test.YtcimcldmkaggnaaHdrPlain
namespace Go.Proofs.Ytcimcldmkaggnaa.Hd
set_option linter.unusedVariables false
set_option linter.unusedSimpArgs false
open Va

/-- these frames bear the bytes P, whatever stands behind them -/
def Pre (T P : List UInt8) : Prop := ∀ more, bodies (T ++ more) = (bodies more).map (P ++ ·)
theorem pre_nil : Pre [] [] := fun more => by simp
theorem pre_end {T P : List UInt8} (h : Pre T P) : bodies T = some P := by
  have := h []
  rw [List.append_nil, bodies_nil] at this
  simpa using this
theorem put_small (n : Nat) (h : n < 64) : put n = [UInt8.ofNat n] := by unfold put; rw [if_pos h]
theorem pre_chunk {T P c : List UInt8} (h : Pre T P) (hc : c.length < 64) : Pre (T ++ [0, UInt8.ofNat c.length] ++ c) (P ++ c) := by
  intro more
  have e : [0, UInt8.ofNat c.length] ++ c = frm 0 c := by
    unfold frm
    rw [put_small 0 (by omega), put_small c.length hc]; rfl
  rw [List.append_assoc T, e, List.append_assoc, h, bodies_frm 0 c more (by omega) (by omega) (by omega)]
  cases bodies more <;> simp
theorem pre_other {T P : List UInt8} (h : Pre T P) (k : Nat) (hk : k < 50) : Pre (T ++ [UInt8.ofNat (10 + k), 1, 7]) P := by
  intro more
  have e : [UInt8.ofNat (10 + k), 1, 7] = frm (10 + k) [7] := by
    show _ = put (10 + k) ++ put 1 ++ [7]
    rw [put_small (10 + k) (by omega), put_small 1 (by omega)]; rfl
  rw [List.append_assoc, e, h, bodies_frm (10 + k) [7] more (by omega) (by simp) (by omega)]
  cases bodies more <;> simp
theorem parse_parts (hs : List H) (T body : List UInt8) (hg : good hs = true) (h : Pre T body) : parse (frm 1 (enc hs) ++ T) = (hs, body, 0) := parse_frames hs T body hg (pre_end h)
theorem msg_nil (hs : List H) : msg hs [] = frm 1 (enc hs) := by unfold msg; simp
end Go.Proofs.Ytcimcldmkaggnaa.Hd
