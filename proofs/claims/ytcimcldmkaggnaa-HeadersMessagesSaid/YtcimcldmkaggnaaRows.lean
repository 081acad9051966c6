/-
  No cell of these rows narrows 'for every input' (looked for: loops, veiled, ifaces, maps, wideKeys, modest, calm, conditions, laid).
  DERIVED. THE GIVEN ROWS OF THIS SEAT. 13 by the template 'for every input the law returns true; each argument reads behind the call as it read before'; 0 by the template 'total and deterministic' (their statements: YtcimcldmkaggnaaTotals.lean).
  GIVEN WITH THE SEED: the statements are not yours to turn. If you find one false, say at which input.
  Laid BY PROGRAM, IN A SANDBOX (cutbox-rows.mjs): the forced cells as the released guide's own fill.sh prints them over the translation 23eedf4fdd17a31f… (all of the seat's roots in one cut). By AI agents, Wed Nov 11 2026. No macro, syntax, notation, axiom, sorry.
-/
import Derived.Test.YtcimcldmkaggnaaChecked
import GoSem.Claim
import GoSem.ClaimJoined
import GoSem.ClaimMapViews
import Derived.JoinedTies
import Derived.KernelRfl
namespace Go.Proofs.Ytcimcldmkaggnaa
/- THE CELL 'sum', in the pinned program and in every row, IS THE sha256 OF THE DUMP (.gsa) THAT YtcimcldmkaggnaaProg.lean LOADS. Nothing in Lean hashes anything: it is a label: what it is worth is what the hold of that sum in a sandbox is worth. -/
noncomputable def Try.pinned : Pinned := { name := "ytcimcldmkaggnaa", sum := "23eedf4fdd17a31fae7e5300a8fcc574070d6f8a367455d33c644f098cf029d3", checked := Try.checked }
namespace Rows
def none {H : Type} : Left H := { results := [], args := [] }

/-- 'wigwaglaw03.VarintNames': WHATEVER THE INPUT: true; the input reads as it did. -/
def varintNamesSpec : ChangeSpec := { name := "varintNames", fn := fun _ => fun
  | [] => { results := [.lit (.bool true)], args := [] }
  | _ => none }
def varintNamesRow : OpenClaim := { program := "ytcimcldmkaggnaa", sum := "23eedf4fdd17a31fae7e5300a8fcc574070d6f8a367455d33c644f098cf029d3", func := "wigwag/wigwaglaw03.VarintNames", spec := "varintNames", apart := false }
def VarintNamesSaid : Prop := varintNamesRow.holds Try.pinned (OpenSpec.ofChange varintNamesSpec)

/-- ITS FALSE NEIGHBOUR: 'it returns false'. Refute it at one input. -/
def varintNamesWrong : ChangeSpec := { name := "varintNames", fn := fun _ => fun
  | [] => { results := [.lit (.bool false)], args := [] }
  | _ => none }
def VarintNamesWrongFalsely : Prop := varintNamesRow.holds Try.pinned (OpenSpec.ofChange varintNamesWrong)

/-- 'wigwaglaw20.HeadersBack': WHATEVER THE INPUT: true; the input reads as it did. -/
def headersBackSpec : ChangeSpec := { name := "headersBack", fn := fun _ => fun
  | [d1, d2, d3] => { results := [.lit (.bool true)], args := [d1, d2, d3] }
  | _ => none }
def headersBackRow : OpenClaim := { program := "ytcimcldmkaggnaa", sum := "23eedf4fdd17a31fae7e5300a8fcc574070d6f8a367455d33c644f098cf029d3", func := "wigwag/wigwaglaw20.HeadersBack", spec := "headersBack", inPlace := ["internal/bytealg.MakeNoZero"], unfollowed := true, recurses := true, apart := false }
def HeadersBackSaid : Prop := headersBackRow.holds Try.pinned (OpenSpec.ofChange headersBackSpec)

/-- ITS FALSE NEIGHBOUR: 'it returns false'. Refute it at one input. -/
def headersBackWrong : ChangeSpec := { name := "headersBack", fn := fun _ => fun
  | [d1, d2, d3] => { results := [.lit (.bool false)], args := [d1, d2, d3] }
  | _ => none }
def HeadersBackWrongFalsely : Prop := headersBackRow.holds Try.pinned (OpenSpec.ofChange headersBackWrong)

/-- 'wigwaglaw03.VarintTells': WHATEVER THE INPUT: true; the input reads as it did. -/
def varintTellsSpec : ChangeSpec := { name := "varintTells", fn := fun _ => fun
  | [d1, d2] => { results := [.lit (.bool true)], args := [d1, d2] }
  | _ => none }
def varintTellsRow : OpenClaim := { program := "ytcimcldmkaggnaa", sum := "23eedf4fdd17a31fae7e5300a8fcc574070d6f8a367455d33c644f098cf029d3", func := "wigwag/wigwaglaw03.VarintTells", spec := "varintTells", apart := false }
def VarintTellsSaid : Prop := varintTellsRow.holds Try.pinned (OpenSpec.ofChange varintTellsSpec)

/-- ITS FALSE NEIGHBOUR: 'it returns false'. Refute it at one input. -/
def varintTellsWrong : ChangeSpec := { name := "varintTells", fn := fun _ => fun
  | [d1, d2] => { results := [.lit (.bool false)], args := [d1, d2] }
  | _ => none }
def VarintTellsWrongFalsely : Prop := varintTellsRow.holds Try.pinned (OpenSpec.ofChange varintTellsWrong)

/-- 'wigwaglaw03.VarintBack': WHATEVER THE INPUT: true; the input reads as it did. -/
def varintBackSpec : ChangeSpec := { name := "varintBack", fn := fun _ => fun
  | [d1, d2] => { results := [.lit (.bool true)], args := [d1, d2] }
  | _ => none }
def varintBackRow : OpenClaim := { program := "ytcimcldmkaggnaa", sum := "23eedf4fdd17a31fae7e5300a8fcc574070d6f8a367455d33c644f098cf029d3", func := "wigwag/wigwaglaw03.VarintBack", spec := "varintBack", apart := false }
def VarintBackSaid : Prop := varintBackRow.holds Try.pinned (OpenSpec.ofChange varintBackSpec)

/-- ITS FALSE NEIGHBOUR: 'it returns false'. Refute it at one input. -/
def varintBackWrong : ChangeSpec := { name := "varintBack", fn := fun _ => fun
  | [d1, d2] => { results := [.lit (.bool false)], args := [d1, d2] }
  | _ => none }
def VarintBackWrongFalsely : Prop := varintBackRow.holds Try.pinned (OpenSpec.ofChange varintBackWrong)

/-- 'wigwaglaw20.HeadersParts': WHATEVER THE INPUT: true; the input reads as it did. -/
def headersPartsSpec : ChangeSpec := { name := "headersParts", fn := fun _ => fun
  | [d1, d2, d3, d4] => { results := [.lit (.bool true)], args := [d1, d2, d3, d4] }
  | _ => none }
def headersPartsRow : OpenClaim := { program := "ytcimcldmkaggnaa", sum := "23eedf4fdd17a31fae7e5300a8fcc574070d6f8a367455d33c644f098cf029d3", func := "wigwag/wigwaglaw20.HeadersParts", spec := "headersParts", inPlace := ["internal/bytealg.MakeNoZero"], unfollowed := true, recurses := true, apart := false }
def HeadersPartsSaid : Prop := headersPartsRow.holds Try.pinned (OpenSpec.ofChange headersPartsSpec)

/-- ITS FALSE NEIGHBOUR: 'it returns false'. Refute it at one input. -/
def headersPartsWrong : ChangeSpec := { name := "headersParts", fn := fun _ => fun
  | [d1, d2, d3, d4] => { results := [.lit (.bool false)], args := [d1, d2, d3, d4] }
  | _ => none }
def HeadersPartsWrongFalsely : Prop := headersPartsRow.holds Try.pinned (OpenSpec.ofChange headersPartsWrong)

/-- 'wigwaglaw03.VarintShort': WHATEVER THE INPUT: true; the input reads as it did. -/
def varintShortSpec : ChangeSpec := { name := "varintShort", fn := fun _ => fun
  | [d1, d2] => { results := [.lit (.bool true)], args := [d1, d2] }
  | _ => none }
def varintShortRow : OpenClaim := { program := "ytcimcldmkaggnaa", sum := "23eedf4fdd17a31fae7e5300a8fcc574070d6f8a367455d33c644f098cf029d3", func := "wigwag/wigwaglaw03.VarintShort", spec := "varintShort", apart := false }
def VarintShortSaid : Prop := varintShortRow.holds Try.pinned (OpenSpec.ofChange varintShortSpec)

/-- ITS FALSE NEIGHBOUR: 'it returns false'. Refute it at one input. -/
def varintShortWrong : ChangeSpec := { name := "varintShort", fn := fun _ => fun
  | [d1, d2] => { results := [.lit (.bool false)], args := [d1, d2] }
  | _ => none }
def VarintShortWrongFalsely : Prop := varintShortRow.holds Try.pinned (OpenSpec.ofChange varintShortWrong)

/-- 'wigwaglaw03.VarintRises': WHATEVER THE INPUT: true; the input reads as it did. -/
def varintRisesSpec : ChangeSpec := { name := "varintRises", fn := fun _ => fun
  | [d1, d2] => { results := [.lit (.bool true)], args := [d1, d2] }
  | _ => none }
def varintRisesRow : OpenClaim := { program := "ytcimcldmkaggnaa", sum := "23eedf4fdd17a31fae7e5300a8fcc574070d6f8a367455d33c644f098cf029d3", func := "wigwag/wigwaglaw03.VarintRises", spec := "varintRises", apart := false }
def VarintRisesSaid : Prop := varintRisesRow.holds Try.pinned (OpenSpec.ofChange varintRisesSpec)

/-- ITS FALSE NEIGHBOUR: 'it returns false'. Refute it at one input. -/
def varintRisesWrong : ChangeSpec := { name := "varintRises", fn := fun _ => fun
  | [d1, d2] => { results := [.lit (.bool false)], args := [d1, d2] }
  | _ => none }
def VarintRisesWrongFalsely : Prop := varintRisesRow.holds Try.pinned (OpenSpec.ofChange varintRisesWrong)

/-- 'wigwaglaw03.VarintMany': WHATEVER THE INPUT: true; the input reads as it did. -/
def varintManySpec : ChangeSpec := { name := "varintMany", fn := fun _ => fun
  | [d] => { results := [.lit (.bool true)], args := [d] }
  | _ => none }
def varintManyRow : OpenClaim := { program := "ytcimcldmkaggnaa", sum := "23eedf4fdd17a31fae7e5300a8fcc574070d6f8a367455d33c644f098cf029d3", func := "wigwag/wigwaglaw03.VarintMany", spec := "varintMany", apart := false }
def VarintManySaid : Prop := varintManyRow.holds Try.pinned (OpenSpec.ofChange varintManySpec)

/-- ITS FALSE NEIGHBOUR: 'it returns false'. Refute it at one input. -/
def varintManyWrong : ChangeSpec := { name := "varintMany", fn := fun _ => fun
  | [d] => { results := [.lit (.bool false)], args := [d] }
  | _ => none }
def VarintManyWrongFalsely : Prop := varintManyRow.holds Try.pinned (OpenSpec.ofChange varintManyWrong)

/-- 'wigwaglaw20.HeadersNames': WHATEVER THE INPUT: true; the input reads as it did. -/
def headersNamesSpec : ChangeSpec := { name := "headersNames", fn := fun _ => fun
  | [] => { results := [.lit (.bool true)], args := [] }
  | _ => none }
def headersNamesRow : OpenClaim := { program := "ytcimcldmkaggnaa", sum := "23eedf4fdd17a31fae7e5300a8fcc574070d6f8a367455d33c644f098cf029d3", func := "wigwag/wigwaglaw20.HeadersNames", spec := "headersNames", inPlace := ["internal/bytealg.MakeNoZero"], unfollowed := true, recurses := true, apart := false }
def HeadersNamesSaid : Prop := headersNamesRow.holds Try.pinned (OpenSpec.ofChange headersNamesSpec)

/-- ITS FALSE NEIGHBOUR: 'it returns false'. Refute it at one input. -/
def headersNamesWrong : ChangeSpec := { name := "headersNames", fn := fun _ => fun
  | [] => { results := [.lit (.bool false)], args := [] }
  | _ => none }
def HeadersNamesWrongFalsely : Prop := headersNamesRow.holds Try.pinned (OpenSpec.ofChange headersNamesWrong)

/-- 'wigwaglaw20.HeadersCodes': WHATEVER THE INPUT: true; the input reads as it did. -/
def headersCodesSpec : ChangeSpec := { name := "headersCodes", fn := fun _ => fun
  | [d1, d2] => { results := [.lit (.bool true)], args := [d1, d2] }
  | _ => none }
def headersCodesRow : OpenClaim := { program := "ytcimcldmkaggnaa", sum := "23eedf4fdd17a31fae7e5300a8fcc574070d6f8a367455d33c644f098cf029d3", func := "wigwag/wigwaglaw20.HeadersCodes", spec := "headersCodes", inPlace := ["internal/bytealg.MakeNoZero"], unfollowed := true, recurses := true, apart := false }
def HeadersCodesSaid : Prop := headersCodesRow.holds Try.pinned (OpenSpec.ofChange headersCodesSpec)

/-- ITS FALSE NEIGHBOUR: 'it returns false'. Refute it at one input. -/
def headersCodesWrong : ChangeSpec := { name := "headersCodes", fn := fun _ => fun
  | [d1, d2] => { results := [.lit (.bool false)], args := [d1, d2] }
  | _ => none }
def HeadersCodesWrongFalsely : Prop := headersCodesRow.holds Try.pinned (OpenSpec.ofChange headersCodesWrong)

/-- 'wigwaglaw20.HeadersJoin': WHATEVER THE INPUT: true; the input reads as it did. -/
def headersJoinSpec : ChangeSpec := { name := "headersJoin", fn := fun _ => fun
  | [d1, d2] => { results := [.lit (.bool true)], args := [d1, d2] }
  | _ => none }
def headersJoinRow : OpenClaim := { program := "ytcimcldmkaggnaa", sum := "23eedf4fdd17a31fae7e5300a8fcc574070d6f8a367455d33c644f098cf029d3", func := "wigwag/wigwaglaw20.HeadersJoin", spec := "headersJoin", inPlace := ["internal/bytealg.MakeNoZero"], unfollowed := true, recurses := true, apart := false }
def HeadersJoinSaid : Prop := headersJoinRow.holds Try.pinned (OpenSpec.ofChange headersJoinSpec)

/-- ITS FALSE NEIGHBOUR: 'it returns false'. Refute it at one input. -/
def headersJoinWrong : ChangeSpec := { name := "headersJoin", fn := fun _ => fun
  | [d1, d2] => { results := [.lit (.bool false)], args := [d1, d2] }
  | _ => none }
def HeadersJoinWrongFalsely : Prop := headersJoinRow.holds Try.pinned (OpenSpec.ofChange headersJoinWrong)

/-- 'wigwaglaw20.HeadersLines': WHATEVER THE INPUT: true; the input reads as it did. -/
def headersLinesSpec : ChangeSpec := { name := "headersLines", fn := fun _ => fun
  | [d] => { results := [.lit (.bool true)], args := [d] }
  | _ => none }
def headersLinesRow : OpenClaim := { program := "ytcimcldmkaggnaa", sum := "23eedf4fdd17a31fae7e5300a8fcc574070d6f8a367455d33c644f098cf029d3", func := "wigwag/wigwaglaw20.HeadersLines", spec := "headersLines", inPlace := ["internal/bytealg.MakeNoZero"], unfollowed := true, recurses := true, apart := false }
def HeadersLinesSaid : Prop := headersLinesRow.holds Try.pinned (OpenSpec.ofChange headersLinesSpec)

/-- ITS FALSE NEIGHBOUR: 'it returns false'. Refute it at one input. -/
def headersLinesWrong : ChangeSpec := { name := "headersLines", fn := fun _ => fun
  | [d] => { results := [.lit (.bool false)], args := [d] }
  | _ => none }
def HeadersLinesWrongFalsely : Prop := headersLinesRow.holds Try.pinned (OpenSpec.ofChange headersLinesWrong)

/-- 'wigwaglaw20.HeadersMessages': WHATEVER THE INPUT: true; the input reads as it did. -/
def headersMessagesSpec : ChangeSpec := { name := "headersMessages", fn := fun _ => fun
  | [d1, d2, d3] => { results := [.lit (.bool true)], args := [d1, d2, d3] }
  | _ => none }
def headersMessagesRow : OpenClaim := { program := "ytcimcldmkaggnaa", sum := "23eedf4fdd17a31fae7e5300a8fcc574070d6f8a367455d33c644f098cf029d3", func := "wigwag/wigwaglaw20.HeadersMessages", spec := "headersMessages", inPlace := ["internal/bytealg.MakeNoZero"], unfollowed := true, recurses := true, apart := false }
def HeadersMessagesSaid : Prop := headersMessagesRow.holds Try.pinned (OpenSpec.ofChange headersMessagesSpec)

/-- ITS FALSE NEIGHBOUR: 'it returns false'. Refute it at one input. -/
def headersMessagesWrong : ChangeSpec := { name := "headersMessages", fn := fun _ => fun
  | [d1, d2, d3] => { results := [.lit (.bool false)], args := [d1, d2, d3] }
  | _ => none }
def HeadersMessagesWrongFalsely : Prop := headersMessagesRow.holds Try.pinned (OpenSpec.ofChange headersMessagesWrong)

/- THE SECOND FORM. 'bulk': how many values and letters a reading holds, each counted each time it is reached (what is shared counts as often as it is met; a slice's spare places count too). A statement '..UptoSaid' is the law's where the arguments, and the package variables that the reading takes, are together of bulk at most 1048576: NARROWER than '..Said'. Prove '..Said' where nothing that the law and all that it calls make is longer than what came in: it says more and counts as full. Else prove '..UptoSaid'. A law counts once. -/
mutual
def uptoBulk {H : Type} : DataW H → Nat
  | .lit (.string bytes) => bytes.length + 1
  | .lit _ => 1
  | .nil => 1
  | .ptr d => uptoBulk d + 1
  | .slice elems spare => uptoBulkAll elems + uptoBulkAll spare + 1
  | .agg parts => uptoBulkAll parts + 1
  | .iface _ d => uptoBulk d + 1
  | .map entries => uptoBulkEntries entries + 1
  | .held _ => 1
def uptoBulkAll {H : Type} : List (DataW H) → Nat
  | [] => 0
  | d :: r => uptoBulk d + uptoBulkAll r
def uptoBulkEntries {H : Type} : List (Lit × DataW H) → Nat
  | [] => 0
  | x :: r => uptoBulkEntry x + uptoBulkEntries r
def uptoBulkEntry {H : Type} : Lit × DataW H → Nat
  | (.string bytes, d) => bytes.length + uptoBulk d + 1
  | (_, d) => uptoBulk d + 1
 end
def uptoSmall : (H : Type) → List (DataW H) → Bool := fun _ ds => decide (uptoBulkAll ds ≤ 1048576)
def OpenSpec.upto (s : _root_.Go.ChangeSpec) : _root_.Go.OpenSpec := { _root_.Go.OpenSpec.ofChange s with cond := some uptoSmall }

/-- 'wigwaglaw03.VarintNames', WHERE WHAT IT READS IS OF BULK AT MOST 1048576: true; the input reads as it did. -/
def varintNamesUptoRow : OpenClaim := { program := "ytcimcldmkaggnaa", sum := "23eedf4fdd17a31fae7e5300a8fcc574070d6f8a367455d33c644f098cf029d3", func := "wigwag/wigwaglaw03.VarintNames", spec := "varintNames", apart := false, narrowed := true }
def VarintNamesUptoSaid : Prop := varintNamesUptoRow.holds Try.pinned (OpenSpec.upto varintNamesSpec)

/-- 'wigwaglaw20.HeadersBack', WHERE WHAT IT READS IS OF BULK AT MOST 1048576: true; the input reads as it did. -/
def headersBackUptoRow : OpenClaim := { program := "ytcimcldmkaggnaa", sum := "23eedf4fdd17a31fae7e5300a8fcc574070d6f8a367455d33c644f098cf029d3", func := "wigwag/wigwaglaw20.HeadersBack", spec := "headersBack", inPlace := ["internal/bytealg.MakeNoZero"], unfollowed := true, recurses := true, apart := false, narrowed := true }
def HeadersBackUptoSaid : Prop := headersBackUptoRow.holds Try.pinned (OpenSpec.upto headersBackSpec)

/-- 'wigwaglaw03.VarintTells', WHERE WHAT IT READS IS OF BULK AT MOST 1048576: true; the input reads as it did. -/
def varintTellsUptoRow : OpenClaim := { program := "ytcimcldmkaggnaa", sum := "23eedf4fdd17a31fae7e5300a8fcc574070d6f8a367455d33c644f098cf029d3", func := "wigwag/wigwaglaw03.VarintTells", spec := "varintTells", apart := false, narrowed := true }
def VarintTellsUptoSaid : Prop := varintTellsUptoRow.holds Try.pinned (OpenSpec.upto varintTellsSpec)

/-- 'wigwaglaw03.VarintBack', WHERE WHAT IT READS IS OF BULK AT MOST 1048576: true; the input reads as it did. -/
def varintBackUptoRow : OpenClaim := { program := "ytcimcldmkaggnaa", sum := "23eedf4fdd17a31fae7e5300a8fcc574070d6f8a367455d33c644f098cf029d3", func := "wigwag/wigwaglaw03.VarintBack", spec := "varintBack", apart := false, narrowed := true }
def VarintBackUptoSaid : Prop := varintBackUptoRow.holds Try.pinned (OpenSpec.upto varintBackSpec)

/-- 'wigwaglaw20.HeadersParts', WHERE WHAT IT READS IS OF BULK AT MOST 1048576: true; the input reads as it did. -/
def headersPartsUptoRow : OpenClaim := { program := "ytcimcldmkaggnaa", sum := "23eedf4fdd17a31fae7e5300a8fcc574070d6f8a367455d33c644f098cf029d3", func := "wigwag/wigwaglaw20.HeadersParts", spec := "headersParts", inPlace := ["internal/bytealg.MakeNoZero"], unfollowed := true, recurses := true, apart := false, narrowed := true }
def HeadersPartsUptoSaid : Prop := headersPartsUptoRow.holds Try.pinned (OpenSpec.upto headersPartsSpec)

/-- 'wigwaglaw03.VarintShort', WHERE WHAT IT READS IS OF BULK AT MOST 1048576: true; the input reads as it did. -/
def varintShortUptoRow : OpenClaim := { program := "ytcimcldmkaggnaa", sum := "23eedf4fdd17a31fae7e5300a8fcc574070d6f8a367455d33c644f098cf029d3", func := "wigwag/wigwaglaw03.VarintShort", spec := "varintShort", apart := false, narrowed := true }
def VarintShortUptoSaid : Prop := varintShortUptoRow.holds Try.pinned (OpenSpec.upto varintShortSpec)

/-- 'wigwaglaw03.VarintRises', WHERE WHAT IT READS IS OF BULK AT MOST 1048576: true; the input reads as it did. -/
def varintRisesUptoRow : OpenClaim := { program := "ytcimcldmkaggnaa", sum := "23eedf4fdd17a31fae7e5300a8fcc574070d6f8a367455d33c644f098cf029d3", func := "wigwag/wigwaglaw03.VarintRises", spec := "varintRises", apart := false, narrowed := true }
def VarintRisesUptoSaid : Prop := varintRisesUptoRow.holds Try.pinned (OpenSpec.upto varintRisesSpec)

/-- 'wigwaglaw03.VarintMany', WHERE WHAT IT READS IS OF BULK AT MOST 1048576: true; the input reads as it did. -/
def varintManyUptoRow : OpenClaim := { program := "ytcimcldmkaggnaa", sum := "23eedf4fdd17a31fae7e5300a8fcc574070d6f8a367455d33c644f098cf029d3", func := "wigwag/wigwaglaw03.VarintMany", spec := "varintMany", apart := false, narrowed := true }
def VarintManyUptoSaid : Prop := varintManyUptoRow.holds Try.pinned (OpenSpec.upto varintManySpec)

/-- 'wigwaglaw20.HeadersNames', WHERE WHAT IT READS IS OF BULK AT MOST 1048576: true; the input reads as it did. -/
def headersNamesUptoRow : OpenClaim := { program := "ytcimcldmkaggnaa", sum := "23eedf4fdd17a31fae7e5300a8fcc574070d6f8a367455d33c644f098cf029d3", func := "wigwag/wigwaglaw20.HeadersNames", spec := "headersNames", inPlace := ["internal/bytealg.MakeNoZero"], unfollowed := true, recurses := true, apart := false, narrowed := true }
def HeadersNamesUptoSaid : Prop := headersNamesUptoRow.holds Try.pinned (OpenSpec.upto headersNamesSpec)

/-- 'wigwaglaw20.HeadersCodes', WHERE WHAT IT READS IS OF BULK AT MOST 1048576: true; the input reads as it did. -/
def headersCodesUptoRow : OpenClaim := { program := "ytcimcldmkaggnaa", sum := "23eedf4fdd17a31fae7e5300a8fcc574070d6f8a367455d33c644f098cf029d3", func := "wigwag/wigwaglaw20.HeadersCodes", spec := "headersCodes", inPlace := ["internal/bytealg.MakeNoZero"], unfollowed := true, recurses := true, apart := false, narrowed := true }
def HeadersCodesUptoSaid : Prop := headersCodesUptoRow.holds Try.pinned (OpenSpec.upto headersCodesSpec)

/-- 'wigwaglaw20.HeadersJoin', WHERE WHAT IT READS IS OF BULK AT MOST 1048576: true; the input reads as it did. -/
def headersJoinUptoRow : OpenClaim := { program := "ytcimcldmkaggnaa", sum := "23eedf4fdd17a31fae7e5300a8fcc574070d6f8a367455d33c644f098cf029d3", func := "wigwag/wigwaglaw20.HeadersJoin", spec := "headersJoin", inPlace := ["internal/bytealg.MakeNoZero"], unfollowed := true, recurses := true, apart := false, narrowed := true }
def HeadersJoinUptoSaid : Prop := headersJoinUptoRow.holds Try.pinned (OpenSpec.upto headersJoinSpec)

/-- 'wigwaglaw20.HeadersLines', WHERE WHAT IT READS IS OF BULK AT MOST 1048576: true; the input reads as it did. -/
def headersLinesUptoRow : OpenClaim := { program := "ytcimcldmkaggnaa", sum := "23eedf4fdd17a31fae7e5300a8fcc574070d6f8a367455d33c644f098cf029d3", func := "wigwag/wigwaglaw20.HeadersLines", spec := "headersLines", inPlace := ["internal/bytealg.MakeNoZero"], unfollowed := true, recurses := true, apart := false, narrowed := true }
def HeadersLinesUptoSaid : Prop := headersLinesUptoRow.holds Try.pinned (OpenSpec.upto headersLinesSpec)

/-- 'wigwaglaw20.HeadersMessages', WHERE WHAT IT READS IS OF BULK AT MOST 1048576: true; the input reads as it did. -/
def headersMessagesUptoRow : OpenClaim := { program := "ytcimcldmkaggnaa", sum := "23eedf4fdd17a31fae7e5300a8fcc574070d6f8a367455d33c644f098cf029d3", func := "wigwag/wigwaglaw20.HeadersMessages", spec := "headersMessages", inPlace := ["internal/bytealg.MakeNoZero"], unfollowed := true, recurses := true, apart := false, narrowed := true }
def HeadersMessagesUptoSaid : Prop := headersMessagesUptoRow.holds Try.pinned (OpenSpec.upto headersMessagesSpec)

end Rows
end Go.Proofs.Ytcimcldmkaggnaa
