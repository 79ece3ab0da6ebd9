/-
  DERIVED. GIVEN WITH THE SEED: THE CARDS: each row of YtjdfgjlbmbiihaaDoorRows.lean that lists a variable, with what it lists TIED to the program's text (the seventh form; the later family's looks); each row that meets fmt, with fmt's text TOLD by the authors' own Lean function (tested against real Go, not proved from fmt's source: count such statements apart). THE CARD IS WHAT COUNTS. Prove the row's statement (the work); the ties are given (YtjdfgjlbmbiihaaDoorTie.lean); close each card by the builder's one call (the guide's Derived/Test/ToyasCard.lean, 'card_holds'). Laid BY PROGRAM, IN A SANDBOX (cutbox-door.mjs). By AI agents, Wed Nov 11 2026. No macro, syntax, notation, axiom, sorry.
-/
import Derived.Test.YtjdfgjlbmbiihaaDoorRows
import GoSem.ClaimSeven
namespace Go.Proofs.YtjdfgjlbmbiihaaDoor
namespace Rows

/-- THE TIED CARD OF 'passepartoutlaw09.DertagReads'. -/
def dertagReadsCard : Claim7 := { stood := { row := dertagReadsRow, standIns := [], harness := (true, "64a9b1bb684ce30fbeca9c20402c6db79811718125b6c2a5135a525df80e9fb6"), looks := true }, kinds := [], alts := [], laidByText := true, laidKinds := [.widerDeep, .widerDeep], laidTests := true, laidLooks := .later }
def DertagReadsCardSaid : Prop := Claim7.holds Tryd.pinned (.plain (OpenSpec.ofChange dertagReadsSpec)) dertagReadsCard

/-- THE TIED CARD OF 'passepartoutlaw09.DertagBytes'. -/
def dertagBytesCard : Claim7 := { stood := { row := dertagBytesRow, standIns := [], harness := (true, "64a9b1bb684ce30fbeca9c20402c6db79811718125b6c2a5135a525df80e9fb6"), looks := true }, kinds := [], alts := [], laidByText := true, laidKinds := [.widerDeep, .widerDeep], laidTests := true, laidLooks := .later }
def DertagBytesCardSaid : Prop := Claim7.holds Tryd.pinned (.plain (OpenSpec.ofChange dertagBytesSpec)) dertagBytesCard

/-- THE TIED CARD OF 'passepartoutlaw09.DertagPuts'. -/
def dertagPutsCard : Claim7 := { stood := { row := dertagPutsRow, standIns := [], harness := (true, "64a9b1bb684ce30fbeca9c20402c6db79811718125b6c2a5135a525df80e9fb6"), looks := true }, kinds := [], alts := [], laidByText := true, laidKinds := [.widerDeep, .widerDeep], laidTests := true, laidLooks := .later }
def DertagPutsCardSaid : Prop := Claim7.holds Tryd.pinned (.plain (OpenSpec.ofChange dertagPutsSpec)) dertagPutsCard

/-- THE TIED CARD OF 'passepartoutlaw09.DertagBack'. -/
def dertagBackCard : Claim7 := { stood := { row := dertagBackRow, standIns := [], harness := (true, "64a9b1bb684ce30fbeca9c20402c6db79811718125b6c2a5135a525df80e9fb6"), looks := true }, kinds := [], alts := [], laidByText := true, laidKinds := [.widerDeep, .widerDeep], laidTests := true, laidLooks := .later }
def DertagBackCardSaid : Prop := Claim7.holds Tryd.pinned (.plain (OpenSpec.ofChange dertagBackSpec)) dertagBackCard

/-- THE TIED CARD OF 'passepartoutlaw09.DertagOne'. -/
def dertagOneCard : Claim7 := { stood := { row := dertagOneRow, standIns := [], harness := (true, "64a9b1bb684ce30fbeca9c20402c6db79811718125b6c2a5135a525df80e9fb6"), looks := true }, kinds := [], alts := [], laidByText := true, laidKinds := [.widerDeep, .widerDeep], laidTests := true, laidLooks := .later }
def DertagOneCardSaid : Prop := Claim7.holds Tryd.pinned (.plain (OpenSpec.ofChange dertagOneSpec)) dertagOneCard

/-- THE TIED CARD OF 'passepartoutlaw09.DertagLengths'. -/
def dertagLengthsCard : Claim7 := { stood := { row := dertagLengthsRow, standIns := [], harness := (true, "64a9b1bb684ce30fbeca9c20402c6db79811718125b6c2a5135a525df80e9fb6"), looks := true }, kinds := [], alts := [], laidByText := true, laidKinds := [.widerDeep, .widerDeep], laidTests := true, laidLooks := .later }
def DertagLengthsCardSaid : Prop := Claim7.holds Tryd.pinned (.plain (OpenSpec.ofChange dertagLengthsSpec)) dertagLengthsCard

/-- THE TIED CARD OF 'passepartoutlaw10.DertypeValues'. -/
def dertypeValuesCard : Claim7 := { stood := { row := dertypeValuesRow, standIns := [], harness := (true, "64a9b1bb684ce30fbeca9c20402c6db79811718125b6c2a5135a525df80e9fb6"), looks := true }, kinds := [], alts := [], laidByText := true, laidKinds := [.data, .data, .data, .sentinel, .sentinel, .data], laidTests := true, laidLooks := .later }
def DertypeValuesCardSaid : Prop := Claim7.holds Tryd.pinned (.plain (OpenSpec.ofChange dertypeValuesSpec)) dertypeValuesCard

/-- THE TIED CARD OF 'passepartoutlaw10.DertypeChecks'. -/
def dertypeChecksCard : Claim7 := { stood := { row := dertypeChecksRow, standIns := [], harness := (true, "64a9b1bb684ce30fbeca9c20402c6db79811718125b6c2a5135a525df80e9fb6"), looks := true }, kinds := [], alts := [], laidByText := true, laidKinds := [.data, .data, .data, .sentinel, .sentinel, .data], laidTests := true, laidLooks := .later }
def DertypeChecksCardSaid : Prop := Claim7.holds Tryd.pinned (.plain (OpenSpec.ofChange dertypeChecksSpec)) dertypeChecksCard

/-- THE TIED CARD OF 'passepartoutlaw10.DertypeNumbers'. -/
def dertypeNumbersCard : Claim7 := { stood := { row := dertypeNumbersRow, standIns := [], harness := (true, "64a9b1bb684ce30fbeca9c20402c6db79811718125b6c2a5135a525df80e9fb6"), looks := true }, kinds := [], alts := [], laidByText := true, laidKinds := [.data, .data, .data, .sentinel, .sentinel, .data], laidTests := true, laidLooks := .later }
def DertypeNumbersCardSaid : Prop := Claim7.holds Tryd.pinned (.plain (OpenSpec.ofChange dertypeNumbersSpec)) dertypeNumbersCard

/-- THE TIED CARD OF 'passepartoutlaw10.DertypeTimes'. -/
def dertypeTimesCard : Claim7 := { stood := { row := dertypeTimesRow, standIns := [], harness := (true, "64a9b1bb684ce30fbeca9c20402c6db79811718125b6c2a5135a525df80e9fb6"), looks := true }, kinds := [], alts := [], laidByText := true, laidKinds := [.data, .data, .data, .sentinel, .sentinel, .data], laidTests := true, laidLooks := .later }
def DertypeTimesCardSaid : Prop := Claim7.holds Tryd.pinned (.plain (OpenSpec.ofChange dertypeTimesSpec)) dertypeTimesCard

/-- THE TIED CARD OF 'passepartoutlaw10.DertypeBits'. -/
def dertypeBitsCard : Claim7 := { stood := { row := dertypeBitsRow, standIns := [], harness := (true, "64a9b1bb684ce30fbeca9c20402c6db79811718125b6c2a5135a525df80e9fb6"), looks := true }, kinds := [], alts := [], laidByText := true, laidKinds := [.data, .data, .data, .sentinel, .sentinel, .data], laidTests := true, laidLooks := .later }
def DertypeBitsCardSaid : Prop := Claim7.holds Tryd.pinned (.plain (OpenSpec.ofChange dertypeBitsSpec)) dertypeBitsCard

/-- THE SECOND FORM's CARD OF 'passepartoutlaw09.DertagReads'. -/
def dertagReadsUptoCard : Claim7 := { stood := { row := dertagReadsUptoRow, standIns := [], harness := (true, "64a9b1bb684ce30fbeca9c20402c6db79811718125b6c2a5135a525df80e9fb6"), looks := true }, kinds := [], alts := [], laidByText := true, laidKinds := [.widerDeep, .widerDeep], laidTests := true, laidLooks := .later }
def DertagReadsUptoCardSaid : Prop := Claim7.holds Tryd.pinned (.plain (OpenSpec.upto dertagReadsSpec)) dertagReadsUptoCard

/-- THE SECOND FORM's CARD OF 'passepartoutlaw09.DertagBytes'. -/
def dertagBytesUptoCard : Claim7 := { stood := { row := dertagBytesUptoRow, standIns := [], harness := (true, "64a9b1bb684ce30fbeca9c20402c6db79811718125b6c2a5135a525df80e9fb6"), looks := true }, kinds := [], alts := [], laidByText := true, laidKinds := [.widerDeep, .widerDeep], laidTests := true, laidLooks := .later }
def DertagBytesUptoCardSaid : Prop := Claim7.holds Tryd.pinned (.plain (OpenSpec.upto dertagBytesSpec)) dertagBytesUptoCard

/-- THE SECOND FORM's CARD OF 'passepartoutlaw09.DertagPuts'. -/
def dertagPutsUptoCard : Claim7 := { stood := { row := dertagPutsUptoRow, standIns := [], harness := (true, "64a9b1bb684ce30fbeca9c20402c6db79811718125b6c2a5135a525df80e9fb6"), looks := true }, kinds := [], alts := [], laidByText := true, laidKinds := [.widerDeep, .widerDeep], laidTests := true, laidLooks := .later }
def DertagPutsUptoCardSaid : Prop := Claim7.holds Tryd.pinned (.plain (OpenSpec.upto dertagPutsSpec)) dertagPutsUptoCard

/-- THE SECOND FORM's CARD OF 'passepartoutlaw09.DertagBack'. -/
def dertagBackUptoCard : Claim7 := { stood := { row := dertagBackUptoRow, standIns := [], harness := (true, "64a9b1bb684ce30fbeca9c20402c6db79811718125b6c2a5135a525df80e9fb6"), looks := true }, kinds := [], alts := [], laidByText := true, laidKinds := [.widerDeep, .widerDeep], laidTests := true, laidLooks := .later }
def DertagBackUptoCardSaid : Prop := Claim7.holds Tryd.pinned (.plain (OpenSpec.upto dertagBackSpec)) dertagBackUptoCard

/-- THE SECOND FORM's CARD OF 'passepartoutlaw09.DertagOne'. -/
def dertagOneUptoCard : Claim7 := { stood := { row := dertagOneUptoRow, standIns := [], harness := (true, "64a9b1bb684ce30fbeca9c20402c6db79811718125b6c2a5135a525df80e9fb6"), looks := true }, kinds := [], alts := [], laidByText := true, laidKinds := [.widerDeep, .widerDeep], laidTests := true, laidLooks := .later }
def DertagOneUptoCardSaid : Prop := Claim7.holds Tryd.pinned (.plain (OpenSpec.upto dertagOneSpec)) dertagOneUptoCard

/-- THE SECOND FORM's CARD OF 'passepartoutlaw09.DertagLengths'. -/
def dertagLengthsUptoCard : Claim7 := { stood := { row := dertagLengthsUptoRow, standIns := [], harness := (true, "64a9b1bb684ce30fbeca9c20402c6db79811718125b6c2a5135a525df80e9fb6"), looks := true }, kinds := [], alts := [], laidByText := true, laidKinds := [.widerDeep, .widerDeep], laidTests := true, laidLooks := .later }
def DertagLengthsUptoCardSaid : Prop := Claim7.holds Tryd.pinned (.plain (OpenSpec.upto dertagLengthsSpec)) dertagLengthsUptoCard

/-- THE SECOND FORM's CARD OF 'passepartoutlaw10.DertypeValues'. -/
def dertypeValuesUptoCard : Claim7 := { stood := { row := dertypeValuesUptoRow, standIns := [], harness := (true, "64a9b1bb684ce30fbeca9c20402c6db79811718125b6c2a5135a525df80e9fb6"), looks := true }, kinds := [], alts := [], laidByText := true, laidKinds := [.data, .data, .data, .sentinel, .sentinel, .data], laidTests := true, laidLooks := .later }
def DertypeValuesUptoCardSaid : Prop := Claim7.holds Tryd.pinned (.plain (OpenSpec.upto dertypeValuesSpec)) dertypeValuesUptoCard

/-- THE SECOND FORM's CARD OF 'passepartoutlaw10.DertypeChecks'. -/
def dertypeChecksUptoCard : Claim7 := { stood := { row := dertypeChecksUptoRow, standIns := [], harness := (true, "64a9b1bb684ce30fbeca9c20402c6db79811718125b6c2a5135a525df80e9fb6"), looks := true }, kinds := [], alts := [], laidByText := true, laidKinds := [.data, .data, .data, .sentinel, .sentinel, .data], laidTests := true, laidLooks := .later }
def DertypeChecksUptoCardSaid : Prop := Claim7.holds Tryd.pinned (.plain (OpenSpec.upto dertypeChecksSpec)) dertypeChecksUptoCard

/-- THE SECOND FORM's CARD OF 'passepartoutlaw10.DertypeNumbers'. -/
def dertypeNumbersUptoCard : Claim7 := { stood := { row := dertypeNumbersUptoRow, standIns := [], harness := (true, "64a9b1bb684ce30fbeca9c20402c6db79811718125b6c2a5135a525df80e9fb6"), looks := true }, kinds := [], alts := [], laidByText := true, laidKinds := [.data, .data, .data, .sentinel, .sentinel, .data], laidTests := true, laidLooks := .later }
def DertypeNumbersUptoCardSaid : Prop := Claim7.holds Tryd.pinned (.plain (OpenSpec.upto dertypeNumbersSpec)) dertypeNumbersUptoCard

/-- THE SECOND FORM's CARD OF 'passepartoutlaw10.DertypeTimes'. -/
def dertypeTimesUptoCard : Claim7 := { stood := { row := dertypeTimesUptoRow, standIns := [], harness := (true, "64a9b1bb684ce30fbeca9c20402c6db79811718125b6c2a5135a525df80e9fb6"), looks := true }, kinds := [], alts := [], laidByText := true, laidKinds := [.data, .data, .data, .sentinel, .sentinel, .data], laidTests := true, laidLooks := .later }
def DertypeTimesUptoCardSaid : Prop := Claim7.holds Tryd.pinned (.plain (OpenSpec.upto dertypeTimesSpec)) dertypeTimesUptoCard

/-- THE SECOND FORM's CARD OF 'passepartoutlaw10.DertypeBits'. -/
def dertypeBitsUptoCard : Claim7 := { stood := { row := dertypeBitsUptoRow, standIns := [], harness := (true, "64a9b1bb684ce30fbeca9c20402c6db79811718125b6c2a5135a525df80e9fb6"), looks := true }, kinds := [], alts := [], laidByText := true, laidKinds := [.data, .data, .data, .sentinel, .sentinel, .data], laidTests := true, laidLooks := .later }
def DertypeBitsUptoCardSaid : Prop := Claim7.holds Tryd.pinned (.plain (OpenSpec.upto dertypeBitsSpec)) dertypeBitsUptoCard
end Rows
end Go.Proofs.YtjdfgjlbmbiihaaDoor
