/-
  DERIVED. GIVEN WITH THE SEED: THE CARDS: each row of YtgjbfgkcbehjnaaDoorRows.lean that lists a variable, with what it lists TIED to the program's text (the seventh form; the later family's looks); each row that meets fmt, with fmt's text TOLD by the authors' own Lean function (tested against real Go, not proved from fmt's source: count such statements apart). THE CARD IS WHAT COUNTS. Prove the row's statement (the work); the ties are given (YtgjbfgkcbehjnaaDoorTie.lean); close each card by the builder's one call (the guide's Derived/Test/ToyasCard.lean, 'card_holds'). Laid BY PROGRAM, IN A SANDBOX (cutbox-door.mjs). By AI agents, Wed Nov 11 2026. No macro, syntax, notation, axiom, sorry.
-/
import Derived.Test.YtgjbfgkcbehjnaaDoorRows
import GoSem.ClaimSeven
namespace Go.Proofs.YtgjbfgkcbehjnaaDoor
namespace Rows

/-- THE TIED CARD OF 'passepartoutlaw12.CertAlone'. -/
def certAloneCard : Claim7 := { stood := { row := certAloneRow, standIns := [], harness := (true, "0ab74d96bed3506d8a76af22bf9d6f6d114eadcc4072f4d921186855ad1623b7"), looks := true }, kinds := [], alts := [], laidByText := true, laidKinds := [.data, .data, .data, .sentinel, .sentinel, .widerDeep, .widerDeep, .data], laidTests := true, laidLooks := .later }
def CertAloneCardSaid : Prop := Claim7.holds Tryd.pinned (.plain (OpenSpec.ofChange certAloneSpec)) certAloneCard

/-- THE TIED CARD OF 'passepartoutlaw11.DerReads'. -/
def derReadsCard : Claim7 := { stood := { row := derReadsRow, standIns := [], harness := (true, "0ab74d96bed3506d8a76af22bf9d6f6d114eadcc4072f4d921186855ad1623b7"), looks := true }, kinds := [], alts := [], laidByText := true, laidKinds := [.data, .data, .data, .sentinel, .sentinel, .widerDeep, .widerDeep, .data], laidTests := true, laidLooks := .later }
def DerReadsCardSaid : Prop := Claim7.holds Tryd.pinned (.plain (OpenSpec.ofChange derReadsSpec)) derReadsCard

/-- THE TIED CARD OF 'passepartoutlaw11.DerDeep'. -/
def derDeepCard : Claim7 := { stood := { row := derDeepRow, standIns := [], harness := (true, "0ab74d96bed3506d8a76af22bf9d6f6d114eadcc4072f4d921186855ad1623b7"), looks := true }, kinds := [], alts := [], laidByText := true, laidKinds := [.data, .data, .data, .sentinel, .sentinel, .widerDeep, .widerDeep, .data], laidTests := true, laidLooks := .later }
def DerDeepCardSaid : Prop := Claim7.holds Tryd.pinned (.plain (OpenSpec.ofChange derDeepSpec)) derDeepCard

/-- THE TIED CARD OF 'passepartoutlaw11.DerSames'. -/
def derSamesCard : Claim7 := { stood := { row := derSamesRow, standIns := [], harness := (true, "0ab74d96bed3506d8a76af22bf9d6f6d114eadcc4072f4d921186855ad1623b7"), looks := true }, kinds := [], alts := [], laidByText := true, laidKinds := [.data, .data, .data, .sentinel, .sentinel, .widerDeep, .widerDeep, .data], laidTests := true, laidLooks := .later }
def DerSamesCardSaid : Prop := Claim7.holds Tryd.pinned (.plain (OpenSpec.ofChange derSamesSpec)) derSamesCard

/-- THE TIED CARD OF 'passepartoutlaw12.CertOuters'. -/
def certOutersCard : Claim7 := { stood := { row := certOutersRow, standIns := [], harness := (true, "0ab74d96bed3506d8a76af22bf9d6f6d114eadcc4072f4d921186855ad1623b7"), looks := true }, kinds := [], alts := [], laidByText := true, laidKinds := [.data, .data, .data, .sentinel, .sentinel, .widerDeep, .widerDeep, .data], laidTests := true, laidLooks := .later }
def CertOutersCardSaid : Prop := Claim7.holds Tryd.pinned (.plain (OpenSpec.ofChange certOutersSpec)) certOutersCard

/-- THE TIED CARD OF 'passepartoutlaw12.CertMakes'. -/
def certMakesCard : Claim7 := { stood := { row := certMakesRow, standIns := [], harness := (true, "0ab74d96bed3506d8a76af22bf9d6f6d114eadcc4072f4d921186855ad1623b7"), looks := true }, kinds := [], alts := [], laidByText := true, laidKinds := [.data, .data, .data, .sentinel, .sentinel, .widerDeep, .widerDeep, .data], laidTests := true, laidLooks := .later }
def CertMakesCardSaid : Prop := Claim7.holds Tryd.pinned (.plain (OpenSpec.ofChange certMakesSpec)) certMakesCard

/-- THE TIED CARD OF 'passepartoutlaw12.CertOrder'. -/
def certOrderCard : Claim7 := { stood := { row := certOrderRow, standIns := [], harness := (true, "0ab74d96bed3506d8a76af22bf9d6f6d114eadcc4072f4d921186855ad1623b7"), looks := true }, kinds := [], alts := [], laidByText := true, laidKinds := [.data, .data, .data, .sentinel, .sentinel, .widerDeep, .widerDeep, .data], laidTests := true, laidLooks := .later }
def CertOrderCardSaid : Prop := Claim7.holds Tryd.pinned (.plain (OpenSpec.ofChange certOrderSpec)) certOrderCard

/-- THE TIED CARD OF 'passepartoutlaw12.CertMore'. -/
def certMoreCard : Claim7 := { stood := { row := certMoreRow, standIns := [], harness := (true, "0ab74d96bed3506d8a76af22bf9d6f6d114eadcc4072f4d921186855ad1623b7"), looks := true }, kinds := [], alts := [], laidByText := true, laidKinds := [.data, .data, .data, .sentinel, .sentinel, .widerDeep, .widerDeep, .data], laidTests := true, laidLooks := .later }
def CertMoreCardSaid : Prop := Claim7.holds Tryd.pinned (.plain (OpenSpec.ofChange certMoreSpec)) certMoreCard

/-- THE TIED CARD OF 'passepartoutlaw11.DerJoins'. -/
def derJoinsCard : Claim7 := { stood := { row := derJoinsRow, standIns := [], harness := (true, "0ab74d96bed3506d8a76af22bf9d6f6d114eadcc4072f4d921186855ad1623b7"), looks := true }, kinds := [], alts := [], laidByText := true, laidKinds := [.data, .data, .data, .sentinel, .sentinel, .widerDeep, .widerDeep, .data], laidTests := true, laidLooks := .later }
def DerJoinsCardSaid : Prop := Claim7.holds Tryd.pinned (.plain (OpenSpec.ofChange derJoinsSpec)) derJoinsCard

/-- THE TIED CARD OF 'passepartoutlaw11.DerWrites'. -/
def derWritesCard : Claim7 := { stood := { row := derWritesRow, standIns := [], harness := (true, "0ab74d96bed3506d8a76af22bf9d6f6d114eadcc4072f4d921186855ad1623b7"), looks := true }, kinds := [], alts := [], laidByText := true, laidKinds := [.data, .data, .data, .sentinel, .sentinel, .widerDeep, .widerDeep, .data], laidTests := true, laidLooks := .later }
def DerWritesCardSaid : Prop := Claim7.holds Tryd.pinned (.plain (OpenSpec.ofChange derWritesSpec)) derWritesCard

/-- THE TIED CARD OF 'passepartoutlaw11.DerBack'. -/
def derBackCard : Claim7 := { stood := { row := derBackRow, standIns := [], harness := (true, "0ab74d96bed3506d8a76af22bf9d6f6d114eadcc4072f4d921186855ad1623b7"), looks := true }, kinds := [], alts := [], laidByText := true, laidKinds := [.data, .data, .data, .sentinel, .sentinel, .widerDeep, .widerDeep, .data], laidTests := true, laidLooks := .later }
def DerBackCardSaid : Prop := Claim7.holds Tryd.pinned (.plain (OpenSpec.ofChange derBackSpec)) derBackCard

/-- THE TIED CARD OF 'passepartoutlaw11.DerOne'. -/
def derOneCard : Claim7 := { stood := { row := derOneRow, standIns := [], harness := (true, "0ab74d96bed3506d8a76af22bf9d6f6d114eadcc4072f4d921186855ad1623b7"), looks := true }, kinds := [], alts := [], laidByText := true, laidKinds := [.data, .data, .data, .sentinel, .sentinel, .widerDeep, .widerDeep, .data], laidTests := true, laidLooks := .later }
def DerOneCardSaid : Prop := Claim7.holds Tryd.pinned (.plain (OpenSpec.ofChange derOneSpec)) derOneCard

/-- THE SECOND FORM's CARD OF 'passepartoutlaw12.CertAlone'. -/
def certAloneUptoCard : Claim7 := { stood := { row := certAloneUptoRow, standIns := [], harness := (true, "0ab74d96bed3506d8a76af22bf9d6f6d114eadcc4072f4d921186855ad1623b7"), looks := true }, kinds := [], alts := [], laidByText := true, laidKinds := [.data, .data, .data, .sentinel, .sentinel, .widerDeep, .widerDeep, .data], laidTests := true, laidLooks := .later }
def CertAloneUptoCardSaid : Prop := Claim7.holds Tryd.pinned (.plain (OpenSpec.upto certAloneSpec)) certAloneUptoCard

/-- THE SECOND FORM's CARD OF 'passepartoutlaw11.DerReads'. -/
def derReadsUptoCard : Claim7 := { stood := { row := derReadsUptoRow, standIns := [], harness := (true, "0ab74d96bed3506d8a76af22bf9d6f6d114eadcc4072f4d921186855ad1623b7"), looks := true }, kinds := [], alts := [], laidByText := true, laidKinds := [.data, .data, .data, .sentinel, .sentinel, .widerDeep, .widerDeep, .data], laidTests := true, laidLooks := .later }
def DerReadsUptoCardSaid : Prop := Claim7.holds Tryd.pinned (.plain (OpenSpec.upto derReadsSpec)) derReadsUptoCard

/-- THE SECOND FORM's CARD OF 'passepartoutlaw11.DerDeep'. -/
def derDeepUptoCard : Claim7 := { stood := { row := derDeepUptoRow, standIns := [], harness := (true, "0ab74d96bed3506d8a76af22bf9d6f6d114eadcc4072f4d921186855ad1623b7"), looks := true }, kinds := [], alts := [], laidByText := true, laidKinds := [.data, .data, .data, .sentinel, .sentinel, .widerDeep, .widerDeep, .data], laidTests := true, laidLooks := .later }
def DerDeepUptoCardSaid : Prop := Claim7.holds Tryd.pinned (.plain (OpenSpec.upto derDeepSpec)) derDeepUptoCard

/-- THE SECOND FORM's CARD OF 'passepartoutlaw11.DerSames'. -/
def derSamesUptoCard : Claim7 := { stood := { row := derSamesUptoRow, standIns := [], harness := (true, "0ab74d96bed3506d8a76af22bf9d6f6d114eadcc4072f4d921186855ad1623b7"), looks := true }, kinds := [], alts := [], laidByText := true, laidKinds := [.data, .data, .data, .sentinel, .sentinel, .widerDeep, .widerDeep, .data], laidTests := true, laidLooks := .later }
def DerSamesUptoCardSaid : Prop := Claim7.holds Tryd.pinned (.plain (OpenSpec.upto derSamesSpec)) derSamesUptoCard

/-- THE SECOND FORM's CARD OF 'passepartoutlaw12.CertOuters'. -/
def certOutersUptoCard : Claim7 := { stood := { row := certOutersUptoRow, standIns := [], harness := (true, "0ab74d96bed3506d8a76af22bf9d6f6d114eadcc4072f4d921186855ad1623b7"), looks := true }, kinds := [], alts := [], laidByText := true, laidKinds := [.data, .data, .data, .sentinel, .sentinel, .widerDeep, .widerDeep, .data], laidTests := true, laidLooks := .later }
def CertOutersUptoCardSaid : Prop := Claim7.holds Tryd.pinned (.plain (OpenSpec.upto certOutersSpec)) certOutersUptoCard

/-- THE SECOND FORM's CARD OF 'passepartoutlaw12.CertMakes'. -/
def certMakesUptoCard : Claim7 := { stood := { row := certMakesUptoRow, standIns := [], harness := (true, "0ab74d96bed3506d8a76af22bf9d6f6d114eadcc4072f4d921186855ad1623b7"), looks := true }, kinds := [], alts := [], laidByText := true, laidKinds := [.data, .data, .data, .sentinel, .sentinel, .widerDeep, .widerDeep, .data], laidTests := true, laidLooks := .later }
def CertMakesUptoCardSaid : Prop := Claim7.holds Tryd.pinned (.plain (OpenSpec.upto certMakesSpec)) certMakesUptoCard

/-- THE SECOND FORM's CARD OF 'passepartoutlaw12.CertOrder'. -/
def certOrderUptoCard : Claim7 := { stood := { row := certOrderUptoRow, standIns := [], harness := (true, "0ab74d96bed3506d8a76af22bf9d6f6d114eadcc4072f4d921186855ad1623b7"), looks := true }, kinds := [], alts := [], laidByText := true, laidKinds := [.data, .data, .data, .sentinel, .sentinel, .widerDeep, .widerDeep, .data], laidTests := true, laidLooks := .later }
def CertOrderUptoCardSaid : Prop := Claim7.holds Tryd.pinned (.plain (OpenSpec.upto certOrderSpec)) certOrderUptoCard

/-- THE SECOND FORM's CARD OF 'passepartoutlaw12.CertMore'. -/
def certMoreUptoCard : Claim7 := { stood := { row := certMoreUptoRow, standIns := [], harness := (true, "0ab74d96bed3506d8a76af22bf9d6f6d114eadcc4072f4d921186855ad1623b7"), looks := true }, kinds := [], alts := [], laidByText := true, laidKinds := [.data, .data, .data, .sentinel, .sentinel, .widerDeep, .widerDeep, .data], laidTests := true, laidLooks := .later }
def CertMoreUptoCardSaid : Prop := Claim7.holds Tryd.pinned (.plain (OpenSpec.upto certMoreSpec)) certMoreUptoCard

/-- THE SECOND FORM's CARD OF 'passepartoutlaw11.DerJoins'. -/
def derJoinsUptoCard : Claim7 := { stood := { row := derJoinsUptoRow, standIns := [], harness := (true, "0ab74d96bed3506d8a76af22bf9d6f6d114eadcc4072f4d921186855ad1623b7"), looks := true }, kinds := [], alts := [], laidByText := true, laidKinds := [.data, .data, .data, .sentinel, .sentinel, .widerDeep, .widerDeep, .data], laidTests := true, laidLooks := .later }
def DerJoinsUptoCardSaid : Prop := Claim7.holds Tryd.pinned (.plain (OpenSpec.upto derJoinsSpec)) derJoinsUptoCard

/-- THE SECOND FORM's CARD OF 'passepartoutlaw11.DerWrites'. -/
def derWritesUptoCard : Claim7 := { stood := { row := derWritesUptoRow, standIns := [], harness := (true, "0ab74d96bed3506d8a76af22bf9d6f6d114eadcc4072f4d921186855ad1623b7"), looks := true }, kinds := [], alts := [], laidByText := true, laidKinds := [.data, .data, .data, .sentinel, .sentinel, .widerDeep, .widerDeep, .data], laidTests := true, laidLooks := .later }
def DerWritesUptoCardSaid : Prop := Claim7.holds Tryd.pinned (.plain (OpenSpec.upto derWritesSpec)) derWritesUptoCard

/-- THE SECOND FORM's CARD OF 'passepartoutlaw11.DerBack'. -/
def derBackUptoCard : Claim7 := { stood := { row := derBackUptoRow, standIns := [], harness := (true, "0ab74d96bed3506d8a76af22bf9d6f6d114eadcc4072f4d921186855ad1623b7"), looks := true }, kinds := [], alts := [], laidByText := true, laidKinds := [.data, .data, .data, .sentinel, .sentinel, .widerDeep, .widerDeep, .data], laidTests := true, laidLooks := .later }
def DerBackUptoCardSaid : Prop := Claim7.holds Tryd.pinned (.plain (OpenSpec.upto derBackSpec)) derBackUptoCard

/-- THE SECOND FORM's CARD OF 'passepartoutlaw11.DerOne'. -/
def derOneUptoCard : Claim7 := { stood := { row := derOneUptoRow, standIns := [], harness := (true, "0ab74d96bed3506d8a76af22bf9d6f6d114eadcc4072f4d921186855ad1623b7"), looks := true }, kinds := [], alts := [], laidByText := true, laidKinds := [.data, .data, .data, .sentinel, .sentinel, .widerDeep, .widerDeep, .data], laidTests := true, laidLooks := .later }
def DerOneUptoCardSaid : Prop := Claim7.holds Tryd.pinned (.plain (OpenSpec.upto derOneSpec)) derOneUptoCard
end Rows
end Go.Proofs.YtgjbfgkcbehjnaaDoor
