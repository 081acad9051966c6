/- What Check answers, in the plain model's words. -/
import Derived.Test.YtcimcldmkaggnaaHdrCheckW
import Derived.Test.YtcimcldmkaggnaaHdrPlain
namespace Go.Proofs.Ytcimcldmkaggnaa
set_option linter.unusedVariables false
set_option linter.unusedSimpArgs false
open Hd

theorem checkV_good (hs : List H) : checkV hs = if good hs = true then 0 else 200 := by
  have e : ∀ a : List H, a.all Go.Proofs.Ytcimcldmkaggnaa.goodH = a.all Hd.goodH := fun a => rfl
  unfold checkV good
  rw [e]
  simp only [Bool.and_eq_true, decide_eq_true_eq]

end Go.Proofs.Ytcimcldmkaggnaa
