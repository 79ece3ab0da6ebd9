/-
  DERIVED. GIVEN WITH THE SEED: THE CARDS: each row of YtdhnfccgojgehaaDoorRows.lean that lists a variable, with what it lists TIED to the program's text (the seventh form; the later family's looks); each row that meets fmt, with fmt's text TOLD by the authors' own Lean function (tested against real Go, not proved from fmt's source: count such statements apart). THE CARD IS WHAT COUNTS. Prove the row's statement (the work); the ties are given (YtdhnfccgojgehaaDoorTie.lean); close each card by the builder's one call (the guide's Derived/Test/ToyasCard.lean, 'card_holds'). Laid BY PROGRAM, IN A SANDBOX (cutbox-door.mjs). By AI agents, Wed Nov 11 2026. No macro, syntax, notation, axiom, sorry.
-/
import Derived.Test.YtdhnfccgojgehaaDoorRows
import GoSem.ClaimSeven
namespace Go.Proofs.YtdhnfccgojgehaaDoor
namespace Rows

/-- THE TIED CARD OF 'passepartoutlaw06.ReadFits'. -/
def readFitsCard : Claim7 := { stood := { row := readFitsRow, standIns := [], harness := (true, "e0098d0829a2599098fefe819577bd5761af052264c8981f1d992b28d8fe1bea"), looks := false }, kinds := [], alts := [], laidByText := true, laidKinds := [.funcs], laidTests := true, laidLooks := .later }
def ReadFitsCardSaid : Prop := Claim7.holds Tryd.pinned (.plain (OpenSpec.ofChange readFitsSpec)) readFitsCard

/-- THE TIED CARD OF 'passepartoutlaw06.ReadBases'. -/
def readBasesCard : Claim7 := { stood := { row := readBasesRow, standIns := [], harness := (true, "e0098d0829a2599098fefe819577bd5761af052264c8981f1d992b28d8fe1bea"), looks := false }, kinds := [], alts := [], laidByText := true, laidKinds := [.funcs], laidTests := true, laidLooks := .later }
def ReadBasesCardSaid : Prop := Claim7.holds Tryd.pinned (.plain (OpenSpec.ofChange readBasesSpec)) readBasesCard

/-- THE TIED CARD OF 'passepartoutlaw06.ReadEmpty'. -/
def readEmptyCard : Claim7 := { stood := { row := readEmptyRow, standIns := [], harness := (true, "e0098d0829a2599098fefe819577bd5761af052264c8981f1d992b28d8fe1bea"), looks := false }, kinds := [], alts := [], laidByText := true, laidKinds := [.funcs], laidTests := true, laidLooks := .later }
def ReadEmptyCardSaid : Prop := Claim7.holds Tryd.pinned (.plain (OpenSpec.ofChange readEmptySpec)) readEmptyCard

/-- THE TIED CARD OF 'passepartoutlaw06.ReadPrefix'. -/
def readPrefixCard : Claim7 := { stood := { row := readPrefixRow, standIns := [], harness := (true, "e0098d0829a2599098fefe819577bd5761af052264c8981f1d992b28d8fe1bea"), looks := false }, kinds := [], alts := [], laidByText := true, laidKinds := [.funcs], laidTests := true, laidLooks := .later }
def ReadPrefixCardSaid : Prop := Claim7.holds Tryd.pinned (.plain (OpenSpec.ofChange readPrefixSpec)) readPrefixCard

/-- THE TIED CARD OF 'passepartoutlaw06.ReadSteps'. -/
def readStepsCard : Claim7 := { stood := { row := readStepsRow, standIns := [], harness := (true, "e0098d0829a2599098fefe819577bd5761af052264c8981f1d992b28d8fe1bea"), looks := false }, kinds := [], alts := [], laidByText := true, laidKinds := [.funcs], laidTests := true, laidLooks := .later }
def ReadStepsCardSaid : Prop := Claim7.holds Tryd.pinned (.plain (OpenSpec.ofChange readStepsSpec)) readStepsCard

/-- THE TIED CARD OF 'passepartoutlaw07.WriteBack'. -/
def writeBackCard : Claim7 := { stood := { row := writeBackRow, standIns := [], harness := (true, "e0098d0829a2599098fefe819577bd5761af052264c8981f1d992b28d8fe1bea"), looks := false }, kinds := [], alts := [], laidByText := true, laidKinds := [.funcs], laidTests := true, laidLooks := .later }
def WriteBackCardSaid : Prop := Claim7.holds Tryd.pinned (.plain (OpenSpec.ofChange writeBackSpec)) writeBackCard

/-- THE TIED CARD OF 'passepartoutlaw07.WriteOne'. -/
def writeOneCard : Claim7 := { stood := { row := writeOneRow, standIns := [], harness := (true, "e0098d0829a2599098fefe819577bd5761af052264c8981f1d992b28d8fe1bea"), looks := false }, kinds := [], alts := [], laidByText := true, laidKinds := [.funcs], laidTests := true, laidLooks := .later }
def WriteOneCardSaid : Prop := Claim7.holds Tryd.pinned (.plain (OpenSpec.ofChange writeOneSpec)) writeOneCard

/-- THE SECOND FORM's CARD OF 'passepartoutlaw06.ReadFits'. -/
def readFitsUptoCard : Claim7 := { stood := { row := readFitsUptoRow, standIns := [], harness := (true, "e0098d0829a2599098fefe819577bd5761af052264c8981f1d992b28d8fe1bea"), looks := false }, kinds := [], alts := [], laidByText := true, laidKinds := [.funcs], laidTests := true, laidLooks := .later }
def ReadFitsUptoCardSaid : Prop := Claim7.holds Tryd.pinned (.plain (OpenSpec.upto readFitsSpec)) readFitsUptoCard

/-- THE SECOND FORM's CARD OF 'passepartoutlaw06.ReadBases'. -/
def readBasesUptoCard : Claim7 := { stood := { row := readBasesUptoRow, standIns := [], harness := (true, "e0098d0829a2599098fefe819577bd5761af052264c8981f1d992b28d8fe1bea"), looks := false }, kinds := [], alts := [], laidByText := true, laidKinds := [.funcs], laidTests := true, laidLooks := .later }
def ReadBasesUptoCardSaid : Prop := Claim7.holds Tryd.pinned (.plain (OpenSpec.upto readBasesSpec)) readBasesUptoCard

/-- THE SECOND FORM's CARD OF 'passepartoutlaw06.ReadEmpty'. -/
def readEmptyUptoCard : Claim7 := { stood := { row := readEmptyUptoRow, standIns := [], harness := (true, "e0098d0829a2599098fefe819577bd5761af052264c8981f1d992b28d8fe1bea"), looks := false }, kinds := [], alts := [], laidByText := true, laidKinds := [.funcs], laidTests := true, laidLooks := .later }
def ReadEmptyUptoCardSaid : Prop := Claim7.holds Tryd.pinned (.plain (OpenSpec.upto readEmptySpec)) readEmptyUptoCard

/-- THE SECOND FORM's CARD OF 'passepartoutlaw06.ReadPrefix'. -/
def readPrefixUptoCard : Claim7 := { stood := { row := readPrefixUptoRow, standIns := [], harness := (true, "e0098d0829a2599098fefe819577bd5761af052264c8981f1d992b28d8fe1bea"), looks := false }, kinds := [], alts := [], laidByText := true, laidKinds := [.funcs], laidTests := true, laidLooks := .later }
def ReadPrefixUptoCardSaid : Prop := Claim7.holds Tryd.pinned (.plain (OpenSpec.upto readPrefixSpec)) readPrefixUptoCard

/-- THE SECOND FORM's CARD OF 'passepartoutlaw06.ReadSteps'. -/
def readStepsUptoCard : Claim7 := { stood := { row := readStepsUptoRow, standIns := [], harness := (true, "e0098d0829a2599098fefe819577bd5761af052264c8981f1d992b28d8fe1bea"), looks := false }, kinds := [], alts := [], laidByText := true, laidKinds := [.funcs], laidTests := true, laidLooks := .later }
def ReadStepsUptoCardSaid : Prop := Claim7.holds Tryd.pinned (.plain (OpenSpec.upto readStepsSpec)) readStepsUptoCard

/-- THE SECOND FORM's CARD OF 'passepartoutlaw07.WriteBack'. -/
def writeBackUptoCard : Claim7 := { stood := { row := writeBackUptoRow, standIns := [], harness := (true, "e0098d0829a2599098fefe819577bd5761af052264c8981f1d992b28d8fe1bea"), looks := false }, kinds := [], alts := [], laidByText := true, laidKinds := [.funcs], laidTests := true, laidLooks := .later }
def WriteBackUptoCardSaid : Prop := Claim7.holds Tryd.pinned (.plain (OpenSpec.upto writeBackSpec)) writeBackUptoCard

/-- THE SECOND FORM's CARD OF 'passepartoutlaw07.WriteOne'. -/
def writeOneUptoCard : Claim7 := { stood := { row := writeOneUptoRow, standIns := [], harness := (true, "e0098d0829a2599098fefe819577bd5761af052264c8981f1d992b28d8fe1bea"), looks := false }, kinds := [], alts := [], laidByText := true, laidKinds := [.funcs], laidTests := true, laidLooks := .later }
def WriteOneUptoCardSaid : Prop := Claim7.holds Tryd.pinned (.plain (OpenSpec.upto writeOneSpec)) writeOneUptoCard
end Rows
end Go.Proofs.YtdhnfccgojgehaaDoor
