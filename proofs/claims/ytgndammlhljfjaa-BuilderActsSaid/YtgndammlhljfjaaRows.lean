/-
  No cell of these rows narrows 'for every input' (looked for: loops, veiled, ifaces, maps, wideKeys, modest, calm, conditions, laid).
  DERIVED. THE GIVEN ROWS OF THIS SEAT. 12 by the template 'for every input the law returns true; each argument reads behind the call as it read before'; 0 by the template 'total and deterministic' (their statements: YtgndammlhljfjaaTotals.lean).
  GIVEN WITH THE SEED: the statements are not yours to turn. If you find one false, say at which input.
  Laid BY PROGRAM, IN A SANDBOX (cutbox-rows.mjs): the forced cells as the released guide's own fill.sh prints them over the translation 4589d2e248ac4b35… (all of the seat's roots in one cut). By AI agents, Wed Nov 11 2026. No macro, syntax, notation, axiom, sorry.
-/
import Derived.Test.YtgndammlhljfjaaChecked
import GoSem.Claim
import GoSem.ClaimJoined
import GoSem.ClaimMapViews
import Derived.JoinedTies
import Derived.KernelRfl
namespace Go.Proofs.Ytgndammlhljfjaa
/- THE CELL 'sum', in the pinned program and in every row, IS THE sha256 OF THE DUMP (.gsa) THAT YtgndammlhljfjaaProg.lean LOADS. Nothing in Lean hashes anything: it is a label: what it is worth is what the hold of that sum in a sandbox is worth. -/
noncomputable def Try.pinned : Pinned := { name := "ytgndammlhljfjaa", sum := "4589d2e248ac4b35480921b8dd3e3831915238dd9ef4f65f25abeb856094f3af", checked := Try.checked }
namespace Rows
def none {H : Type} : Left H := { results := [], args := [] }

/-- 'passepartoutlaw01.CursorNumbers': WHATEVER THE INPUT: true; the input reads as it did. -/
def cursorNumbersSpec : ChangeSpec := { name := "cursorNumbers", fn := fun _ => fun
  | [d1, d2] => { results := [.lit (.bool true)], args := [d1, d2] }
  | _ => none }
def cursorNumbersRow : OpenClaim := { program := "ytgndammlhljfjaa", sum := "4589d2e248ac4b35480921b8dd3e3831915238dd9ef4f65f25abeb856094f3af", func := "passepartout/passepartoutlaw01.CursorNumbers", spec := "cursorNumbers", apart := false }
def CursorNumbersSaid : Prop := cursorNumbersRow.holds Try.pinned (OpenSpec.ofChange cursorNumbersSpec)

/-- ITS FALSE NEIGHBOUR: 'it returns false'. Refute it at one input. -/
def cursorNumbersWrong : ChangeSpec := { name := "cursorNumbers", fn := fun _ => fun
  | [d1, d2] => { results := [.lit (.bool false)], args := [d1, d2] }
  | _ => none }
def CursorNumbersWrongFalsely : Prop := cursorNumbersRow.holds Try.pinned (OpenSpec.ofChange cursorNumbersWrong)

/-- 'passepartoutlaw01.CursorActs': WHATEVER THE INPUT: true; the input reads as it did. -/
def cursorActsSpec : ChangeSpec := { name := "cursorActs", fn := fun _ => fun
  | [d1, d2, d3] => { results := [.lit (.bool true)], args := [d1, d2, d3] }
  | _ => none }
def cursorActsRow : OpenClaim := { program := "ytgndammlhljfjaa", sum := "4589d2e248ac4b35480921b8dd3e3831915238dd9ef4f65f25abeb856094f3af", func := "passepartout/passepartoutlaw01.CursorActs", spec := "cursorActs", apart := false }
def CursorActsSaid : Prop := cursorActsRow.holds Try.pinned (OpenSpec.ofChange cursorActsSpec)

/-- ITS FALSE NEIGHBOUR: 'it returns false'. Refute it at one input. -/
def cursorActsWrong : ChangeSpec := { name := "cursorActs", fn := fun _ => fun
  | [d1, d2, d3] => { results := [.lit (.bool false)], args := [d1, d2, d3] }
  | _ => none }
def CursorActsWrongFalsely : Prop := cursorActsRow.holds Try.pinned (OpenSpec.ofChange cursorActsWrong)

/-- 'passepartoutlaw01.CursorNone': WHATEVER THE INPUT: true; the input reads as it did. -/
def cursorNoneSpec : ChangeSpec := { name := "cursorNone", fn := fun _ => fun
  | [d] => { results := [.lit (.bool true)], args := [d] }
  | _ => none }
def cursorNoneRow : OpenClaim := { program := "ytgndammlhljfjaa", sum := "4589d2e248ac4b35480921b8dd3e3831915238dd9ef4f65f25abeb856094f3af", func := "passepartout/passepartoutlaw01.CursorNone", spec := "cursorNone", apart := false }
def CursorNoneSaid : Prop := cursorNoneRow.holds Try.pinned (OpenSpec.ofChange cursorNoneSpec)

/-- ITS FALSE NEIGHBOUR: 'it returns false'. Refute it at one input. -/
def cursorNoneWrong : ChangeSpec := { name := "cursorNone", fn := fun _ => fun
  | [d] => { results := [.lit (.bool false)], args := [d] }
  | _ => none }
def CursorNoneWrongFalsely : Prop := cursorNoneRow.holds Try.pinned (OpenSpec.ofChange cursorNoneWrong)

/-- 'passepartoutlaw01.CursorWhole': WHATEVER THE INPUT: true; the input reads as it did. -/
def cursorWholeSpec : ChangeSpec := { name := "cursorWhole", fn := fun _ => fun
  | [d1, d2] => { results := [.lit (.bool true)], args := [d1, d2] }
  | _ => none }
def cursorWholeRow : OpenClaim := { program := "ytgndammlhljfjaa", sum := "4589d2e248ac4b35480921b8dd3e3831915238dd9ef4f65f25abeb856094f3af", func := "passepartout/passepartoutlaw01.CursorWhole", spec := "cursorWhole", apart := false }
def CursorWholeSaid : Prop := cursorWholeRow.holds Try.pinned (OpenSpec.ofChange cursorWholeSpec)

/-- ITS FALSE NEIGHBOUR: 'it returns false'. Refute it at one input. -/
def cursorWholeWrong : ChangeSpec := { name := "cursorWhole", fn := fun _ => fun
  | [d1, d2] => { results := [.lit (.bool false)], args := [d1, d2] }
  | _ => none }
def CursorWholeWrongFalsely : Prop := cursorWholeRow.holds Try.pinned (OpenSpec.ofChange cursorWholeWrong)

/-- 'passepartoutlaw01.CursorSubs': WHATEVER THE INPUT: true; the input reads as it did. -/
def cursorSubsSpec : ChangeSpec := { name := "cursorSubs", fn := fun _ => fun
  | [d1, d2, d3] => { results := [.lit (.bool true)], args := [d1, d2, d3] }
  | _ => none }
def cursorSubsRow : OpenClaim := { program := "ytgndammlhljfjaa", sum := "4589d2e248ac4b35480921b8dd3e3831915238dd9ef4f65f25abeb856094f3af", func := "passepartout/passepartoutlaw01.CursorSubs", spec := "cursorSubs", apart := false }
def CursorSubsSaid : Prop := cursorSubsRow.holds Try.pinned (OpenSpec.ofChange cursorSubsSpec)

/-- ITS FALSE NEIGHBOUR: 'it returns false'. Refute it at one input. -/
def cursorSubsWrong : ChangeSpec := { name := "cursorSubs", fn := fun _ => fun
  | [d1, d2, d3] => { results := [.lit (.bool false)], args := [d1, d2, d3] }
  | _ => none }
def CursorSubsWrongFalsely : Prop := cursorSubsRow.holds Try.pinned (OpenSpec.ofChange cursorSubsWrong)

/-- 'passepartoutlaw01.CursorBases': WHATEVER THE INPUT: true; the input reads as it did. -/
def cursorBasesSpec : ChangeSpec := { name := "cursorBases", fn := fun _ => fun
  | [d1, d2, d3] => { results := [.lit (.bool true)], args := [d1, d2, d3] }
  | _ => none }
def cursorBasesRow : OpenClaim := { program := "ytgndammlhljfjaa", sum := "4589d2e248ac4b35480921b8dd3e3831915238dd9ef4f65f25abeb856094f3af", func := "passepartout/passepartoutlaw01.CursorBases", spec := "cursorBases", apart := false }
def CursorBasesSaid : Prop := cursorBasesRow.holds Try.pinned (OpenSpec.ofChange cursorBasesSpec)

/-- ITS FALSE NEIGHBOUR: 'it returns false'. Refute it at one input. -/
def cursorBasesWrong : ChangeSpec := { name := "cursorBases", fn := fun _ => fun
  | [d1, d2, d3] => { results := [.lit (.bool false)], args := [d1, d2, d3] }
  | _ => none }
def CursorBasesWrongFalsely : Prop := cursorBasesRow.holds Try.pinned (OpenSpec.ofChange cursorBasesWrong)

/-- 'passepartoutlaw02.BuilderFull': WHATEVER THE INPUT: true; the input reads as it did. -/
def builderFullSpec : ChangeSpec := { name := "builderFull", fn := fun _ => fun
  | [d1, d2] => { results := [.lit (.bool true)], args := [d1, d2] }
  | _ => none }
def builderFullRow : OpenClaim := { program := "ytgndammlhljfjaa", sum := "4589d2e248ac4b35480921b8dd3e3831915238dd9ef4f65f25abeb856094f3af", func := "passepartout/passepartoutlaw02.BuilderFull", spec := "builderFull", apart := false }
def BuilderFullSaid : Prop := builderFullRow.holds Try.pinned (OpenSpec.ofChange builderFullSpec)

/-- ITS FALSE NEIGHBOUR: 'it returns false'. Refute it at one input. -/
def builderFullWrong : ChangeSpec := { name := "builderFull", fn := fun _ => fun
  | [d1, d2] => { results := [.lit (.bool false)], args := [d1, d2] }
  | _ => none }
def BuilderFullWrongFalsely : Prop := builderFullRow.holds Try.pinned (OpenSpec.ofChange builderFullWrong)

/-- 'passepartoutlaw02.BuilderNumbers': WHATEVER THE INPUT: true; the input reads as it did. -/
def builderNumbersSpec : ChangeSpec := { name := "builderNumbers", fn := fun _ => fun
  | [d1, d2] => { results := [.lit (.bool true)], args := [d1, d2] }
  | _ => none }
def builderNumbersRow : OpenClaim := { program := "ytgndammlhljfjaa", sum := "4589d2e248ac4b35480921b8dd3e3831915238dd9ef4f65f25abeb856094f3af", func := "passepartout/passepartoutlaw02.BuilderNumbers", spec := "builderNumbers", apart := false }
def BuilderNumbersSaid : Prop := builderNumbersRow.holds Try.pinned (OpenSpec.ofChange builderNumbersSpec)

/-- ITS FALSE NEIGHBOUR: 'it returns false'. Refute it at one input. -/
def builderNumbersWrong : ChangeSpec := { name := "builderNumbers", fn := fun _ => fun
  | [d1, d2] => { results := [.lit (.bool false)], args := [d1, d2] }
  | _ => none }
def BuilderNumbersWrongFalsely : Prop := builderNumbersRow.holds Try.pinned (OpenSpec.ofChange builderNumbersWrong)

/-- 'passepartoutlaw02.BuilderActs': WHATEVER THE INPUT: true; the input reads as it did. -/
def builderActsSpec : ChangeSpec := { name := "builderActs", fn := fun _ => fun
  | [d1, d2] => { results := [.lit (.bool true)], args := [d1, d2] }
  | _ => none }
def builderActsRow : OpenClaim := { program := "ytgndammlhljfjaa", sum := "4589d2e248ac4b35480921b8dd3e3831915238dd9ef4f65f25abeb856094f3af", func := "passepartout/passepartoutlaw02.BuilderActs", spec := "builderActs", apart := false }
def BuilderActsSaid : Prop := builderActsRow.holds Try.pinned (OpenSpec.ofChange builderActsSpec)

/-- ITS FALSE NEIGHBOUR: 'it returns false'. Refute it at one input. -/
def builderActsWrong : ChangeSpec := { name := "builderActs", fn := fun _ => fun
  | [d1, d2] => { results := [.lit (.bool false)], args := [d1, d2] }
  | _ => none }
def BuilderActsWrongFalsely : Prop := builderActsRow.holds Try.pinned (OpenSpec.ofChange builderActsWrong)

/-- 'passepartoutlaw02.BuilderNone': WHATEVER THE INPUT: true; the input reads as it did. -/
def builderNoneSpec : ChangeSpec := { name := "builderNone", fn := fun _ => fun
  | [d1, d2, d3] => { results := [.lit (.bool true)], args := [d1, d2, d3] }
  | _ => none }
def builderNoneRow : OpenClaim := { program := "ytgndammlhljfjaa", sum := "4589d2e248ac4b35480921b8dd3e3831915238dd9ef4f65f25abeb856094f3af", func := "passepartout/passepartoutlaw02.BuilderNone", spec := "builderNone", apart := false }
def BuilderNoneSaid : Prop := builderNoneRow.holds Try.pinned (OpenSpec.ofChange builderNoneSpec)

/-- ITS FALSE NEIGHBOUR: 'it returns false'. Refute it at one input. -/
def builderNoneWrong : ChangeSpec := { name := "builderNone", fn := fun _ => fun
  | [d1, d2, d3] => { results := [.lit (.bool false)], args := [d1, d2, d3] }
  | _ => none }
def BuilderNoneWrongFalsely : Prop := builderNoneRow.holds Try.pinned (OpenSpec.ofChange builderNoneWrong)

/-- 'passepartoutlaw02.BuilderBack': WHATEVER THE INPUT: true; the input reads as it did. -/
def builderBackSpec : ChangeSpec := { name := "builderBack", fn := fun _ => fun
  | [d] => { results := [.lit (.bool true)], args := [d] }
  | _ => none }
def builderBackRow : OpenClaim := { program := "ytgndammlhljfjaa", sum := "4589d2e248ac4b35480921b8dd3e3831915238dd9ef4f65f25abeb856094f3af", func := "passepartout/passepartoutlaw02.BuilderBack", spec := "builderBack", apart := false }
def BuilderBackSaid : Prop := builderBackRow.holds Try.pinned (OpenSpec.ofChange builderBackSpec)

/-- ITS FALSE NEIGHBOUR: 'it returns false'. Refute it at one input. -/
def builderBackWrong : ChangeSpec := { name := "builderBack", fn := fun _ => fun
  | [d] => { results := [.lit (.bool false)], args := [d] }
  | _ => none }
def BuilderBackWrongFalsely : Prop := builderBackRow.holds Try.pinned (OpenSpec.ofChange builderBackWrong)

/-- 'passepartoutlaw02.BuilderParts': WHATEVER THE INPUT: true; the input reads as it did. -/
def builderPartsSpec : ChangeSpec := { name := "builderParts", fn := fun _ => fun
  | [d1, d2] => { results := [.lit (.bool true)], args := [d1, d2] }
  | _ => none }
def builderPartsRow : OpenClaim := { program := "ytgndammlhljfjaa", sum := "4589d2e248ac4b35480921b8dd3e3831915238dd9ef4f65f25abeb856094f3af", func := "passepartout/passepartoutlaw02.BuilderParts", spec := "builderParts", apart := false }
def BuilderPartsSaid : Prop := builderPartsRow.holds Try.pinned (OpenSpec.ofChange builderPartsSpec)

/-- ITS FALSE NEIGHBOUR: 'it returns false'. Refute it at one input. -/
def builderPartsWrong : ChangeSpec := { name := "builderParts", fn := fun _ => fun
  | [d1, d2] => { results := [.lit (.bool false)], args := [d1, d2] }
  | _ => none }
def BuilderPartsWrongFalsely : Prop := builderPartsRow.holds Try.pinned (OpenSpec.ofChange builderPartsWrong)

/- THE SECOND FORM. 'bulk': how many values and letters a reading holds, each counted each time it is reached (what is shared counts as often as it is met; a slice's spare places count too). A statement '..UptoSaid' is the law's where the arguments, and the package variables that the reading takes, are together of bulk at most 1048576: NARROWER than '..Said'. Prove '..Said' where nothing that the law and all that it calls make is longer than what came in: it says more and counts as full. Else prove '..UptoSaid'. A law counts once. -/
mutual
def uptoBulk {H : Type} : DataW H → Nat
  | .lit (.string bytes) => bytes.length + 1
  | .lit _ => 1
  | .nil => 1
  | .ptr d => uptoBulk d + 1
  | .slice elems spare => uptoBulkAll elems + uptoBulkAll spare + 1
  | .agg parts => uptoBulkAll parts + 1
  | .iface _ d => uptoBulk d + 1
  | .map entries => uptoBulkEntries entries + 1
  | .held _ => 1
def uptoBulkAll {H : Type} : List (DataW H) → Nat
  | [] => 0
  | d :: r => uptoBulk d + uptoBulkAll r
def uptoBulkEntries {H : Type} : List (Lit × DataW H) → Nat
  | [] => 0
  | x :: r => uptoBulkEntry x + uptoBulkEntries r
def uptoBulkEntry {H : Type} : Lit × DataW H → Nat
  | (.string bytes, d) => bytes.length + uptoBulk d + 1
  | (_, d) => uptoBulk d + 1
 end
def uptoSmall : (H : Type) → List (DataW H) → Bool := fun _ ds => decide (uptoBulkAll ds ≤ 1048576)
def OpenSpec.upto (s : _root_.Go.ChangeSpec) : _root_.Go.OpenSpec := { _root_.Go.OpenSpec.ofChange s with cond := some uptoSmall }

/-- 'passepartoutlaw01.CursorNumbers', WHERE WHAT IT READS IS OF BULK AT MOST 1048576: true; the input reads as it did. -/
def cursorNumbersUptoRow : OpenClaim := { program := "ytgndammlhljfjaa", sum := "4589d2e248ac4b35480921b8dd3e3831915238dd9ef4f65f25abeb856094f3af", func := "passepartout/passepartoutlaw01.CursorNumbers", spec := "cursorNumbers", apart := false, narrowed := true }
def CursorNumbersUptoSaid : Prop := cursorNumbersUptoRow.holds Try.pinned (OpenSpec.upto cursorNumbersSpec)

/-- 'passepartoutlaw01.CursorActs', WHERE WHAT IT READS IS OF BULK AT MOST 1048576: true; the input reads as it did. -/
def cursorActsUptoRow : OpenClaim := { program := "ytgndammlhljfjaa", sum := "4589d2e248ac4b35480921b8dd3e3831915238dd9ef4f65f25abeb856094f3af", func := "passepartout/passepartoutlaw01.CursorActs", spec := "cursorActs", apart := false, narrowed := true }
def CursorActsUptoSaid : Prop := cursorActsUptoRow.holds Try.pinned (OpenSpec.upto cursorActsSpec)

/-- 'passepartoutlaw01.CursorNone', WHERE WHAT IT READS IS OF BULK AT MOST 1048576: true; the input reads as it did. -/
def cursorNoneUptoRow : OpenClaim := { program := "ytgndammlhljfjaa", sum := "4589d2e248ac4b35480921b8dd3e3831915238dd9ef4f65f25abeb856094f3af", func := "passepartout/passepartoutlaw01.CursorNone", spec := "cursorNone", apart := false, narrowed := true }
def CursorNoneUptoSaid : Prop := cursorNoneUptoRow.holds Try.pinned (OpenSpec.upto cursorNoneSpec)

/-- 'passepartoutlaw01.CursorWhole', WHERE WHAT IT READS IS OF BULK AT MOST 1048576: true; the input reads as it did. -/
def cursorWholeUptoRow : OpenClaim := { program := "ytgndammlhljfjaa", sum := "4589d2e248ac4b35480921b8dd3e3831915238dd9ef4f65f25abeb856094f3af", func := "passepartout/passepartoutlaw01.CursorWhole", spec := "cursorWhole", apart := false, narrowed := true }
def CursorWholeUptoSaid : Prop := cursorWholeUptoRow.holds Try.pinned (OpenSpec.upto cursorWholeSpec)

/-- 'passepartoutlaw01.CursorSubs', WHERE WHAT IT READS IS OF BULK AT MOST 1048576: true; the input reads as it did. -/
def cursorSubsUptoRow : OpenClaim := { program := "ytgndammlhljfjaa", sum := "4589d2e248ac4b35480921b8dd3e3831915238dd9ef4f65f25abeb856094f3af", func := "passepartout/passepartoutlaw01.CursorSubs", spec := "cursorSubs", apart := false, narrowed := true }
def CursorSubsUptoSaid : Prop := cursorSubsUptoRow.holds Try.pinned (OpenSpec.upto cursorSubsSpec)

/-- 'passepartoutlaw01.CursorBases', WHERE WHAT IT READS IS OF BULK AT MOST 1048576: true; the input reads as it did. -/
def cursorBasesUptoRow : OpenClaim := { program := "ytgndammlhljfjaa", sum := "4589d2e248ac4b35480921b8dd3e3831915238dd9ef4f65f25abeb856094f3af", func := "passepartout/passepartoutlaw01.CursorBases", spec := "cursorBases", apart := false, narrowed := true }
def CursorBasesUptoSaid : Prop := cursorBasesUptoRow.holds Try.pinned (OpenSpec.upto cursorBasesSpec)

/-- 'passepartoutlaw02.BuilderFull', WHERE WHAT IT READS IS OF BULK AT MOST 1048576: true; the input reads as it did. -/
def builderFullUptoRow : OpenClaim := { program := "ytgndammlhljfjaa", sum := "4589d2e248ac4b35480921b8dd3e3831915238dd9ef4f65f25abeb856094f3af", func := "passepartout/passepartoutlaw02.BuilderFull", spec := "builderFull", apart := false, narrowed := true }
def BuilderFullUptoSaid : Prop := builderFullUptoRow.holds Try.pinned (OpenSpec.upto builderFullSpec)

/-- 'passepartoutlaw02.BuilderNumbers', WHERE WHAT IT READS IS OF BULK AT MOST 1048576: true; the input reads as it did. -/
def builderNumbersUptoRow : OpenClaim := { program := "ytgndammlhljfjaa", sum := "4589d2e248ac4b35480921b8dd3e3831915238dd9ef4f65f25abeb856094f3af", func := "passepartout/passepartoutlaw02.BuilderNumbers", spec := "builderNumbers", apart := false, narrowed := true }
def BuilderNumbersUptoSaid : Prop := builderNumbersUptoRow.holds Try.pinned (OpenSpec.upto builderNumbersSpec)

/-- 'passepartoutlaw02.BuilderActs', WHERE WHAT IT READS IS OF BULK AT MOST 1048576: true; the input reads as it did. -/
def builderActsUptoRow : OpenClaim := { program := "ytgndammlhljfjaa", sum := "4589d2e248ac4b35480921b8dd3e3831915238dd9ef4f65f25abeb856094f3af", func := "passepartout/passepartoutlaw02.BuilderActs", spec := "builderActs", apart := false, narrowed := true }
def BuilderActsUptoSaid : Prop := builderActsUptoRow.holds Try.pinned (OpenSpec.upto builderActsSpec)

/-- 'passepartoutlaw02.BuilderNone', WHERE WHAT IT READS IS OF BULK AT MOST 1048576: true; the input reads as it did. -/
def builderNoneUptoRow : OpenClaim := { program := "ytgndammlhljfjaa", sum := "4589d2e248ac4b35480921b8dd3e3831915238dd9ef4f65f25abeb856094f3af", func := "passepartout/passepartoutlaw02.BuilderNone", spec := "builderNone", apart := false, narrowed := true }
def BuilderNoneUptoSaid : Prop := builderNoneUptoRow.holds Try.pinned (OpenSpec.upto builderNoneSpec)

/-- 'passepartoutlaw02.BuilderBack', WHERE WHAT IT READS IS OF BULK AT MOST 1048576: true; the input reads as it did. -/
def builderBackUptoRow : OpenClaim := { program := "ytgndammlhljfjaa", sum := "4589d2e248ac4b35480921b8dd3e3831915238dd9ef4f65f25abeb856094f3af", func := "passepartout/passepartoutlaw02.BuilderBack", spec := "builderBack", apart := false, narrowed := true }
def BuilderBackUptoSaid : Prop := builderBackUptoRow.holds Try.pinned (OpenSpec.upto builderBackSpec)

/-- 'passepartoutlaw02.BuilderParts', WHERE WHAT IT READS IS OF BULK AT MOST 1048576: true; the input reads as it did. -/
def builderPartsUptoRow : OpenClaim := { program := "ytgndammlhljfjaa", sum := "4589d2e248ac4b35480921b8dd3e3831915238dd9ef4f65f25abeb856094f3af", func := "passepartout/passepartoutlaw02.BuilderParts", spec := "builderParts", apart := false, narrowed := true }
def BuilderPartsUptoSaid : Prop := builderPartsUptoRow.holds Try.pinned (OpenSpec.upto builderPartsSpec)

end Rows
end Go.Proofs.Ytgndammlhljfjaa
