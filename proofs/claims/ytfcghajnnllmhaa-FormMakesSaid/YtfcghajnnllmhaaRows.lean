/-
  NARROWER THAN 'FOR EVERY INPUT', by the rows' own cells (each row's printed sentence says how): FormRows: loops · FormMakes: loops · FormSames: loops · ValueSizes: loops · ValueRows: loops · ValueAlone: loops · ValueMakes: loops · ValueSames: loops.
  DERIVED. THE GIVEN ROWS OF THIS SEAT. 11 by the template 'for every input the law returns true; each argument reads behind the call as it read before'; 0 by the template 'total and deterministic' (their statements: YtfcghajnnllmhaaTotals.lean).
  GIVEN WITH THE SEED: the statements are not yours to turn. If you find one false, say at which input.
  Laid BY PROGRAM, IN A SANDBOX (cutbox-rows.mjs): the forced cells as the released guide's own fill.sh prints them over the translation 0bd8056028272623… (all of the seat's roots in one cut). By AI agents, Wed Nov 11 2026. No macro, syntax, notation, axiom, sorry.
-/
import Derived.Test.YtfcghajnnllmhaaChecked
import GoSem.Claim
import GoSem.ClaimJoined
import GoSem.ClaimMapViews
import Derived.JoinedTies
import Derived.KernelRfl
namespace Go.Proofs.Ytfcghajnnllmhaa
/- THE CELL 'sum', in the pinned program and in every row, IS THE sha256 OF THE DUMP (.gsa) THAT YtfcghajnnllmhaaProg.lean LOADS. Nothing in Lean hashes anything: it is a label: what it is worth is what the hold of that sum in a sandbox is worth. -/
noncomputable def Try.pinned : Pinned := { name := "ytfcghajnnllmhaa", sum := "0bd8056028272623c031a0e3837204b574fb42beab64ce03785543ac263be019", checked := Try.checked }
namespace Rows
def none {H : Type} : Left H := { results := [], args := [] }

/-- 'passepartoutlaw04.FormLengths': WHATEVER THE INPUT: true; the input reads as it did. -/
def formLengthsSpec : ChangeSpec := { name := "formLengths", fn := fun _ => fun
  | [d] => { results := [.lit (.bool true)], args := [d] }
  | _ => none }
def formLengthsRow : OpenClaim := { program := "ytfcghajnnllmhaa", sum := "0bd8056028272623c031a0e3837204b574fb42beab64ce03785543ac263be019", func := "passepartout/passepartoutlaw04.FormLengths", spec := "formLengths", unfollowed := true, recurses := true, apart := false }
def FormLengthsSaid : Prop := formLengthsRow.holds Try.pinned (OpenSpec.ofChange formLengthsSpec)

/-- ITS FALSE NEIGHBOUR: 'it returns false'. Refute it at one input. -/
def formLengthsWrong : ChangeSpec := { name := "formLengths", fn := fun _ => fun
  | [d] => { results := [.lit (.bool false)], args := [d] }
  | _ => none }
def FormLengthsWrongFalsely : Prop := formLengthsRow.holds Try.pinned (OpenSpec.ofChange formLengthsWrong)

/-- 'passepartoutlaw04.FormRows': WHATEVER THE INPUT: true; the input reads as it did. -/
def formRowsSpec : ChangeSpec := { name := "formRows", fn := fun _ => fun
  | [d] => { results := [.lit (.bool true)], args := [d] }
  | _ => none }
def formRowsRow : OpenClaim := { program := "ytfcghajnnllmhaa", sum := "0bd8056028272623c031a0e3837204b574fb42beab64ce03785543ac263be019", func := "passepartout/passepartoutlaw04.FormRows", spec := "formRows", unfollowed := true, recurses := true, loops := true, apart := false }
def FormRowsSaid : Prop := formRowsRow.holds Try.pinned (OpenSpec.ofChange formRowsSpec)

/-- ITS FALSE NEIGHBOUR: 'it returns false'. Refute it at one input. -/
def formRowsWrong : ChangeSpec := { name := "formRows", fn := fun _ => fun
  | [d] => { results := [.lit (.bool false)], args := [d] }
  | _ => none }
def FormRowsWrongFalsely : Prop := formRowsRow.holds Try.pinned (OpenSpec.ofChange formRowsWrong)

/-- 'passepartoutlaw04.FormDeep': WHATEVER THE INPUT: true; the input reads as it did. -/
def formDeepSpec : ChangeSpec := { name := "formDeep", fn := fun _ => fun
  | [d1, d2] => { results := [.lit (.bool true)], args := [d1, d2] }
  | _ => none }
def formDeepRow : OpenClaim := { program := "ytfcghajnnllmhaa", sum := "0bd8056028272623c031a0e3837204b574fb42beab64ce03785543ac263be019", func := "passepartout/passepartoutlaw04.FormDeep", spec := "formDeep", unfollowed := true, recurses := true, apart := false }
def FormDeepSaid : Prop := formDeepRow.holds Try.pinned (OpenSpec.ofChange formDeepSpec)

/-- ITS FALSE NEIGHBOUR: 'it returns false'. Refute it at one input. -/
def formDeepWrong : ChangeSpec := { name := "formDeep", fn := fun _ => fun
  | [d1, d2] => { results := [.lit (.bool false)], args := [d1, d2] }
  | _ => none }
def FormDeepWrongFalsely : Prop := formDeepRow.holds Try.pinned (OpenSpec.ofChange formDeepWrong)

/-- 'passepartoutlaw04.FormMakes': WHATEVER THE INPUT: true; the input reads as it did. -/
def formMakesSpec : ChangeSpec := { name := "formMakes", fn := fun _ => fun
  | [d1, d2, d3] => { results := [.lit (.bool true)], args := [d1, d2, d3] }
  | _ => none }
def formMakesRow : OpenClaim := { program := "ytfcghajnnllmhaa", sum := "0bd8056028272623c031a0e3837204b574fb42beab64ce03785543ac263be019", func := "passepartout/passepartoutlaw04.FormMakes", spec := "formMakes", unfollowed := true, recurses := true, loops := true, apart := false }
def FormMakesSaid : Prop := formMakesRow.holds Try.pinned (OpenSpec.ofChange formMakesSpec)

/-- ITS FALSE NEIGHBOUR: 'it returns false'. Refute it at one input. -/
def formMakesWrong : ChangeSpec := { name := "formMakes", fn := fun _ => fun
  | [d1, d2, d3] => { results := [.lit (.bool false)], args := [d1, d2, d3] }
  | _ => none }
def FormMakesWrongFalsely : Prop := formMakesRow.holds Try.pinned (OpenSpec.ofChange formMakesWrong)

/-- 'passepartoutlaw04.FormSames': WHATEVER THE INPUT: true; the input reads as it did. -/
def formSamesSpec : ChangeSpec := { name := "formSames", fn := fun _ => fun
  | [d1, d2] => { results := [.lit (.bool true)], args := [d1, d2] }
  | _ => none }
def formSamesRow : OpenClaim := { program := "ytfcghajnnllmhaa", sum := "0bd8056028272623c031a0e3837204b574fb42beab64ce03785543ac263be019", func := "passepartout/passepartoutlaw04.FormSames", spec := "formSames", unfollowed := true, recurses := true, loops := true, apart := false }
def FormSamesSaid : Prop := formSamesRow.holds Try.pinned (OpenSpec.ofChange formSamesSpec)

/-- ITS FALSE NEIGHBOUR: 'it returns false'. Refute it at one input. -/
def formSamesWrong : ChangeSpec := { name := "formSames", fn := fun _ => fun
  | [d1, d2] => { results := [.lit (.bool false)], args := [d1, d2] }
  | _ => none }
def FormSamesWrongFalsely : Prop := formSamesRow.holds Try.pinned (OpenSpec.ofChange formSamesWrong)

/-- 'passepartoutlaw05.ValueSizes': WHATEVER THE INPUT: true; the input reads as it did. -/
def valueSizesSpec : ChangeSpec := { name := "valueSizes", fn := fun _ => fun
  | [d1, d2] => { results := [.lit (.bool true)], args := [d1, d2] }
  | _ => none }
def valueSizesRow : OpenClaim := { program := "ytfcghajnnllmhaa", sum := "0bd8056028272623c031a0e3837204b574fb42beab64ce03785543ac263be019", func := "passepartout/passepartoutlaw05.ValueSizes", spec := "valueSizes", unfollowed := true, recurses := true, loops := true, apart := false }
def ValueSizesSaid : Prop := valueSizesRow.holds Try.pinned (OpenSpec.ofChange valueSizesSpec)

/-- ITS FALSE NEIGHBOUR: 'it returns false'. Refute it at one input. -/
def valueSizesWrong : ChangeSpec := { name := "valueSizes", fn := fun _ => fun
  | [d1, d2] => { results := [.lit (.bool false)], args := [d1, d2] }
  | _ => none }
def ValueSizesWrongFalsely : Prop := valueSizesRow.holds Try.pinned (OpenSpec.ofChange valueSizesWrong)

/-- 'passepartoutlaw05.ValueRows': WHATEVER THE INPUT: true; the input reads as it did. -/
def valueRowsSpec : ChangeSpec := { name := "valueRows", fn := fun _ => fun
  | [d1, d2] => { results := [.lit (.bool true)], args := [d1, d2] }
  | _ => none }
def valueRowsRow : OpenClaim := { program := "ytfcghajnnllmhaa", sum := "0bd8056028272623c031a0e3837204b574fb42beab64ce03785543ac263be019", func := "passepartout/passepartoutlaw05.ValueRows", spec := "valueRows", unfollowed := true, recurses := true, loops := true, apart := false }
def ValueRowsSaid : Prop := valueRowsRow.holds Try.pinned (OpenSpec.ofChange valueRowsSpec)

/-- ITS FALSE NEIGHBOUR: 'it returns false'. Refute it at one input. -/
def valueRowsWrong : ChangeSpec := { name := "valueRows", fn := fun _ => fun
  | [d1, d2] => { results := [.lit (.bool false)], args := [d1, d2] }
  | _ => none }
def ValueRowsWrongFalsely : Prop := valueRowsRow.holds Try.pinned (OpenSpec.ofChange valueRowsWrong)

/-- 'passepartoutlaw05.ValueAlone': WHATEVER THE INPUT: true; the input reads as it did. -/
def valueAloneSpec : ChangeSpec := { name := "valueAlone", fn := fun _ => fun
  | [d1, d2, d3] => { results := [.lit (.bool true)], args := [d1, d2, d3] }
  | _ => none }
def valueAloneRow : OpenClaim := { program := "ytfcghajnnllmhaa", sum := "0bd8056028272623c031a0e3837204b574fb42beab64ce03785543ac263be019", func := "passepartout/passepartoutlaw05.ValueAlone", spec := "valueAlone", unfollowed := true, recurses := true, loops := true, apart := false }
def ValueAloneSaid : Prop := valueAloneRow.holds Try.pinned (OpenSpec.ofChange valueAloneSpec)

/-- ITS FALSE NEIGHBOUR: 'it returns false'. Refute it at one input. -/
def valueAloneWrong : ChangeSpec := { name := "valueAlone", fn := fun _ => fun
  | [d1, d2, d3] => { results := [.lit (.bool false)], args := [d1, d2, d3] }
  | _ => none }
def ValueAloneWrongFalsely : Prop := valueAloneRow.holds Try.pinned (OpenSpec.ofChange valueAloneWrong)

/-- 'passepartoutlaw05.ValueMakes': WHATEVER THE INPUT: true; the input reads as it did. -/
def valueMakesSpec : ChangeSpec := { name := "valueMakes", fn := fun _ => fun
  | [d1, d2, d3] => { results := [.lit (.bool true)], args := [d1, d2, d3] }
  | _ => none }
def valueMakesRow : OpenClaim := { program := "ytfcghajnnllmhaa", sum := "0bd8056028272623c031a0e3837204b574fb42beab64ce03785543ac263be019", func := "passepartout/passepartoutlaw05.ValueMakes", spec := "valueMakes", unfollowed := true, recurses := true, loops := true, apart := false }
def ValueMakesSaid : Prop := valueMakesRow.holds Try.pinned (OpenSpec.ofChange valueMakesSpec)

/-- ITS FALSE NEIGHBOUR: 'it returns false'. Refute it at one input. -/
def valueMakesWrong : ChangeSpec := { name := "valueMakes", fn := fun _ => fun
  | [d1, d2, d3] => { results := [.lit (.bool false)], args := [d1, d2, d3] }
  | _ => none }
def ValueMakesWrongFalsely : Prop := valueMakesRow.holds Try.pinned (OpenSpec.ofChange valueMakesWrong)

/-- 'passepartoutlaw05.ValueNumbers': WHATEVER THE INPUT: true; the input reads as it did. -/
def valueNumbersSpec : ChangeSpec := { name := "valueNumbers", fn := fun _ => fun
  | [d1, d2, d3] => { results := [.lit (.bool true)], args := [d1, d2, d3] }
  | _ => none }
def valueNumbersRow : OpenClaim := { program := "ytfcghajnnllmhaa", sum := "0bd8056028272623c031a0e3837204b574fb42beab64ce03785543ac263be019", func := "passepartout/passepartoutlaw05.ValueNumbers", spec := "valueNumbers", unfollowed := true, recurses := true, apart := false }
def ValueNumbersSaid : Prop := valueNumbersRow.holds Try.pinned (OpenSpec.ofChange valueNumbersSpec)

/-- ITS FALSE NEIGHBOUR: 'it returns false'. Refute it at one input. -/
def valueNumbersWrong : ChangeSpec := { name := "valueNumbers", fn := fun _ => fun
  | [d1, d2, d3] => { results := [.lit (.bool false)], args := [d1, d2, d3] }
  | _ => none }
def ValueNumbersWrongFalsely : Prop := valueNumbersRow.holds Try.pinned (OpenSpec.ofChange valueNumbersWrong)

/-- 'passepartoutlaw05.ValueSames': WHATEVER THE INPUT: true; the input reads as it did. -/
def valueSamesSpec : ChangeSpec := { name := "valueSames", fn := fun _ => fun
  | [d1, d2] => { results := [.lit (.bool true)], args := [d1, d2] }
  | _ => none }
def valueSamesRow : OpenClaim := { program := "ytfcghajnnllmhaa", sum := "0bd8056028272623c031a0e3837204b574fb42beab64ce03785543ac263be019", func := "passepartout/passepartoutlaw05.ValueSames", spec := "valueSames", unfollowed := true, recurses := true, loops := true, apart := false }
def ValueSamesSaid : Prop := valueSamesRow.holds Try.pinned (OpenSpec.ofChange valueSamesSpec)

/-- ITS FALSE NEIGHBOUR: 'it returns false'. Refute it at one input. -/
def valueSamesWrong : ChangeSpec := { name := "valueSames", fn := fun _ => fun
  | [d1, d2] => { results := [.lit (.bool false)], args := [d1, d2] }
  | _ => none }
def ValueSamesWrongFalsely : Prop := valueSamesRow.holds Try.pinned (OpenSpec.ofChange valueSamesWrong)

/- THE SECOND FORM. 'bulk': how many values and letters a reading holds, each counted each time it is reached (what is shared counts as often as it is met; a slice's spare places count too). A statement '..UptoSaid' is the law's where the arguments, and the package variables that the reading takes, are together of bulk at most 1048576: NARROWER than '..Said'. Prove '..Said' where nothing that the law and all that it calls make is longer than what came in: it says more and counts as full. Else prove '..UptoSaid'. A law counts once. -/
mutual
def uptoBulk {H : Type} : DataW H → Nat
  | .lit (.string bytes) => bytes.length + 1
  | .lit _ => 1
  | .nil => 1
  | .ptr d => uptoBulk d + 1
  | .slice elems spare => uptoBulkAll elems + uptoBulkAll spare + 1
  | .agg parts => uptoBulkAll parts + 1
  | .iface _ d => uptoBulk d + 1
  | .map entries => uptoBulkEntries entries + 1
  | .held _ => 1
def uptoBulkAll {H : Type} : List (DataW H) → Nat
  | [] => 0
  | d :: r => uptoBulk d + uptoBulkAll r
def uptoBulkEntries {H : Type} : List (Lit × DataW H) → Nat
  | [] => 0
  | x :: r => uptoBulkEntry x + uptoBulkEntries r
def uptoBulkEntry {H : Type} : Lit × DataW H → Nat
  | (.string bytes, d) => bytes.length + uptoBulk d + 1
  | (_, d) => uptoBulk d + 1
 end
def uptoSmall : (H : Type) → List (DataW H) → Bool := fun _ ds => decide (uptoBulkAll ds ≤ 1048576)
def OpenSpec.upto (s : _root_.Go.ChangeSpec) : _root_.Go.OpenSpec := { _root_.Go.OpenSpec.ofChange s with cond := some uptoSmall }

/-- 'passepartoutlaw04.FormLengths', WHERE WHAT IT READS IS OF BULK AT MOST 1048576: true; the input reads as it did. -/
def formLengthsUptoRow : OpenClaim := { program := "ytfcghajnnllmhaa", sum := "0bd8056028272623c031a0e3837204b574fb42beab64ce03785543ac263be019", func := "passepartout/passepartoutlaw04.FormLengths", spec := "formLengths", unfollowed := true, recurses := true, apart := false, narrowed := true }
def FormLengthsUptoSaid : Prop := formLengthsUptoRow.holds Try.pinned (OpenSpec.upto formLengthsSpec)

/-- 'passepartoutlaw04.FormRows', WHERE WHAT IT READS IS OF BULK AT MOST 1048576: true; the input reads as it did. -/
def formRowsUptoRow : OpenClaim := { program := "ytfcghajnnllmhaa", sum := "0bd8056028272623c031a0e3837204b574fb42beab64ce03785543ac263be019", func := "passepartout/passepartoutlaw04.FormRows", spec := "formRows", unfollowed := true, recurses := true, loops := true, apart := false, narrowed := true }
def FormRowsUptoSaid : Prop := formRowsUptoRow.holds Try.pinned (OpenSpec.upto formRowsSpec)

/-- 'passepartoutlaw04.FormDeep', WHERE WHAT IT READS IS OF BULK AT MOST 1048576: true; the input reads as it did. -/
def formDeepUptoRow : OpenClaim := { program := "ytfcghajnnllmhaa", sum := "0bd8056028272623c031a0e3837204b574fb42beab64ce03785543ac263be019", func := "passepartout/passepartoutlaw04.FormDeep", spec := "formDeep", unfollowed := true, recurses := true, apart := false, narrowed := true }
def FormDeepUptoSaid : Prop := formDeepUptoRow.holds Try.pinned (OpenSpec.upto formDeepSpec)

/-- 'passepartoutlaw04.FormMakes', WHERE WHAT IT READS IS OF BULK AT MOST 1048576: true; the input reads as it did. -/
def formMakesUptoRow : OpenClaim := { program := "ytfcghajnnllmhaa", sum := "0bd8056028272623c031a0e3837204b574fb42beab64ce03785543ac263be019", func := "passepartout/passepartoutlaw04.FormMakes", spec := "formMakes", unfollowed := true, recurses := true, loops := true, apart := false, narrowed := true }
def FormMakesUptoSaid : Prop := formMakesUptoRow.holds Try.pinned (OpenSpec.upto formMakesSpec)

/-- 'passepartoutlaw04.FormSames', WHERE WHAT IT READS IS OF BULK AT MOST 1048576: true; the input reads as it did. -/
def formSamesUptoRow : OpenClaim := { program := "ytfcghajnnllmhaa", sum := "0bd8056028272623c031a0e3837204b574fb42beab64ce03785543ac263be019", func := "passepartout/passepartoutlaw04.FormSames", spec := "formSames", unfollowed := true, recurses := true, loops := true, apart := false, narrowed := true }
def FormSamesUptoSaid : Prop := formSamesUptoRow.holds Try.pinned (OpenSpec.upto formSamesSpec)

/-- 'passepartoutlaw05.ValueSizes', WHERE WHAT IT READS IS OF BULK AT MOST 1048576: true; the input reads as it did. -/
def valueSizesUptoRow : OpenClaim := { program := "ytfcghajnnllmhaa", sum := "0bd8056028272623c031a0e3837204b574fb42beab64ce03785543ac263be019", func := "passepartout/passepartoutlaw05.ValueSizes", spec := "valueSizes", unfollowed := true, recurses := true, loops := true, apart := false, narrowed := true }
def ValueSizesUptoSaid : Prop := valueSizesUptoRow.holds Try.pinned (OpenSpec.upto valueSizesSpec)

/-- 'passepartoutlaw05.ValueRows', WHERE WHAT IT READS IS OF BULK AT MOST 1048576: true; the input reads as it did. -/
def valueRowsUptoRow : OpenClaim := { program := "ytfcghajnnllmhaa", sum := "0bd8056028272623c031a0e3837204b574fb42beab64ce03785543ac263be019", func := "passepartout/passepartoutlaw05.ValueRows", spec := "valueRows", unfollowed := true, recurses := true, loops := true, apart := false, narrowed := true }
def ValueRowsUptoSaid : Prop := valueRowsUptoRow.holds Try.pinned (OpenSpec.upto valueRowsSpec)

/-- 'passepartoutlaw05.ValueAlone', WHERE WHAT IT READS IS OF BULK AT MOST 1048576: true; the input reads as it did. -/
def valueAloneUptoRow : OpenClaim := { program := "ytfcghajnnllmhaa", sum := "0bd8056028272623c031a0e3837204b574fb42beab64ce03785543ac263be019", func := "passepartout/passepartoutlaw05.ValueAlone", spec := "valueAlone", unfollowed := true, recurses := true, loops := true, apart := false, narrowed := true }
def ValueAloneUptoSaid : Prop := valueAloneUptoRow.holds Try.pinned (OpenSpec.upto valueAloneSpec)

/-- 'passepartoutlaw05.ValueMakes', WHERE WHAT IT READS IS OF BULK AT MOST 1048576: true; the input reads as it did. -/
def valueMakesUptoRow : OpenClaim := { program := "ytfcghajnnllmhaa", sum := "0bd8056028272623c031a0e3837204b574fb42beab64ce03785543ac263be019", func := "passepartout/passepartoutlaw05.ValueMakes", spec := "valueMakes", unfollowed := true, recurses := true, loops := true, apart := false, narrowed := true }
def ValueMakesUptoSaid : Prop := valueMakesUptoRow.holds Try.pinned (OpenSpec.upto valueMakesSpec)

/-- 'passepartoutlaw05.ValueNumbers', WHERE WHAT IT READS IS OF BULK AT MOST 1048576: true; the input reads as it did. -/
def valueNumbersUptoRow : OpenClaim := { program := "ytfcghajnnllmhaa", sum := "0bd8056028272623c031a0e3837204b574fb42beab64ce03785543ac263be019", func := "passepartout/passepartoutlaw05.ValueNumbers", spec := "valueNumbers", unfollowed := true, recurses := true, apart := false, narrowed := true }
def ValueNumbersUptoSaid : Prop := valueNumbersUptoRow.holds Try.pinned (OpenSpec.upto valueNumbersSpec)

/-- 'passepartoutlaw05.ValueSames', WHERE WHAT IT READS IS OF BULK AT MOST 1048576: true; the input reads as it did. -/
def valueSamesUptoRow : OpenClaim := { program := "ytfcghajnnllmhaa", sum := "0bd8056028272623c031a0e3837204b574fb42beab64ce03785543ac263be019", func := "passepartout/passepartoutlaw05.ValueSames", spec := "valueSames", unfollowed := true, recurses := true, loops := true, apart := false, narrowed := true }
def ValueSamesUptoSaid : Prop := valueSamesUptoRow.holds Try.pinned (OpenSpec.upto valueSamesSpec)

end Rows
end Go.Proofs.Ytfcghajnnllmhaa
