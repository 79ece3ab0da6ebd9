/-
  NARROWER THAN 'FOR EVERY INPUT', by the rows' own cells (each row's printed sentence says how): WriteRows: loops · WriteVaries: loops · WriteOwn: loops.
  DERIVED. THE GIVEN ROWS OF THIS SEAT. 3 by the template 'for every input the law returns true; each argument reads behind the call as it read before'; 0 by the template 'total and deterministic' (their statements: YtdhnfccgojgehaaTotals.lean).
  GIVEN WITH THE SEED: the statements are not yours to turn. If you find one false, say at which input.
  Laid BY PROGRAM, IN A SANDBOX (cutbox-rows.mjs): the forced cells as the released guide's own fill.sh prints them over the translation 52f00c1b0eee1430… (all of the seat's roots in one cut). By AI agents, Wed Nov 11 2026. No macro, syntax, notation, axiom, sorry.
-/
import Derived.Test.YtdhnfccgojgehaaChecked
import GoSem.Claim
import GoSem.ClaimJoined
import GoSem.ClaimMapViews
import Derived.JoinedTies
import Derived.KernelRfl
namespace Go.Proofs.Ytdhnfccgojgehaa
/- THE CELL 'sum', in the pinned program and in every row, IS THE sha256 OF THE DUMP (.gsa) THAT YtdhnfccgojgehaaProg.lean LOADS. Nothing in Lean hashes anything: it is a label: what it is worth is what the hold of that sum in a sandbox is worth. -/
noncomputable def Try.pinned : Pinned := { name := "ytdhnfccgojgehaa", sum := "52f00c1b0eee14306d781c3e645be324d293e641087035534967f1ea97be50ba", checked := Try.checked }
namespace Rows
def none {H : Type} : Left H := { results := [], args := [] }

/-- 'passepartoutlaw07.WriteRows': WHATEVER THE INPUT: true; the input reads as it did. -/
def writeRowsSpec : ChangeSpec := { name := "writeRows", fn := fun _ => fun
  | [d1, d2, d3] => { results := [.lit (.bool true)], args := [d1, d2, d3] }
  | _ => none }
def writeRowsRow : OpenClaim := { program := "ytdhnfccgojgehaa", sum := "52f00c1b0eee14306d781c3e645be324d293e641087035534967f1ea97be50ba", func := "passepartout/passepartoutlaw07.WriteRows", spec := "writeRows", unfollowed := true, recurses := true, loops := true, apart := false }
def WriteRowsSaid : Prop := writeRowsRow.holds Try.pinned (OpenSpec.ofChange writeRowsSpec)

/-- ITS FALSE NEIGHBOUR: 'it returns false'. Refute it at one input. -/
def writeRowsWrong : ChangeSpec := { name := "writeRows", fn := fun _ => fun
  | [d1, d2, d3] => { results := [.lit (.bool false)], args := [d1, d2, d3] }
  | _ => none }
def WriteRowsWrongFalsely : Prop := writeRowsRow.holds Try.pinned (OpenSpec.ofChange writeRowsWrong)

/-- 'passepartoutlaw07.WriteVaries': WHATEVER THE INPUT: true; the input reads as it did. -/
def writeVariesSpec : ChangeSpec := { name := "writeVaries", fn := fun _ => fun
  | [d1, d2, d3] => { results := [.lit (.bool true)], args := [d1, d2, d3] }
  | _ => none }
def writeVariesRow : OpenClaim := { program := "ytdhnfccgojgehaa", sum := "52f00c1b0eee14306d781c3e645be324d293e641087035534967f1ea97be50ba", func := "passepartout/passepartoutlaw07.WriteVaries", spec := "writeVaries", unfollowed := true, recurses := true, loops := true, apart := false }
def WriteVariesSaid : Prop := writeVariesRow.holds Try.pinned (OpenSpec.ofChange writeVariesSpec)

/-- ITS FALSE NEIGHBOUR: 'it returns false'. Refute it at one input. -/
def writeVariesWrong : ChangeSpec := { name := "writeVaries", fn := fun _ => fun
  | [d1, d2, d3] => { results := [.lit (.bool false)], args := [d1, d2, d3] }
  | _ => none }
def WriteVariesWrongFalsely : Prop := writeVariesRow.holds Try.pinned (OpenSpec.ofChange writeVariesWrong)

/-- 'passepartoutlaw07.WriteOwn': WHATEVER THE INPUT: true; the input reads as it did. -/
def writeOwnSpec : ChangeSpec := { name := "writeOwn", fn := fun _ => fun
  | [d1, d2] => { results := [.lit (.bool true)], args := [d1, d2] }
  | _ => none }
def writeOwnRow : OpenClaim := { program := "ytdhnfccgojgehaa", sum := "52f00c1b0eee14306d781c3e645be324d293e641087035534967f1ea97be50ba", func := "passepartout/passepartoutlaw07.WriteOwn", spec := "writeOwn", unfollowed := true, recurses := true, loops := true, apart := false }
def WriteOwnSaid : Prop := writeOwnRow.holds Try.pinned (OpenSpec.ofChange writeOwnSpec)

/-- ITS FALSE NEIGHBOUR: 'it returns false'. Refute it at one input. -/
def writeOwnWrong : ChangeSpec := { name := "writeOwn", fn := fun _ => fun
  | [d1, d2] => { results := [.lit (.bool false)], args := [d1, d2] }
  | _ => none }
def WriteOwnWrongFalsely : Prop := writeOwnRow.holds Try.pinned (OpenSpec.ofChange writeOwnWrong)

/- THE SECOND FORM. 'bulk': how many values and letters a reading holds, each counted each time it is reached (what is shared counts as often as it is met; a slice's spare places count too). A statement '..UptoSaid' is the law's where the arguments, and the package variables that the reading takes, are together of bulk at most 1048576: NARROWER than '..Said'. Prove '..Said' where nothing that the law and all that it calls make is longer than what came in: it says more and counts as full. Else prove '..UptoSaid'. A law counts once. -/
mutual
def uptoBulk {H : Type} : DataW H → Nat
  | .lit (.string bytes) => bytes.length + 1
  | .lit _ => 1
  | .nil => 1
  | .ptr d => uptoBulk d + 1
  | .slice elems spare => uptoBulkAll elems + uptoBulkAll spare + 1
  | .agg parts => uptoBulkAll parts + 1
  | .iface _ d => uptoBulk d + 1
  | .map entries => uptoBulkEntries entries + 1
  | .held _ => 1
def uptoBulkAll {H : Type} : List (DataW H) → Nat
  | [] => 0
  | d :: r => uptoBulk d + uptoBulkAll r
def uptoBulkEntries {H : Type} : List (Lit × DataW H) → Nat
  | [] => 0
  | x :: r => uptoBulkEntry x + uptoBulkEntries r
def uptoBulkEntry {H : Type} : Lit × DataW H → Nat
  | (.string bytes, d) => bytes.length + uptoBulk d + 1
  | (_, d) => uptoBulk d + 1
 end
def uptoSmall : (H : Type) → List (DataW H) → Bool := fun _ ds => decide (uptoBulkAll ds ≤ 1048576)
def OpenSpec.upto (s : _root_.Go.ChangeSpec) : _root_.Go.OpenSpec := { _root_.Go.OpenSpec.ofChange s with cond := some uptoSmall }

/-- 'passepartoutlaw07.WriteRows', WHERE WHAT IT READS IS OF BULK AT MOST 1048576: true; the input reads as it did. -/
def writeRowsUptoRow : OpenClaim := { program := "ytdhnfccgojgehaa", sum := "52f00c1b0eee14306d781c3e645be324d293e641087035534967f1ea97be50ba", func := "passepartout/passepartoutlaw07.WriteRows", spec := "writeRows", unfollowed := true, recurses := true, loops := true, apart := false, narrowed := true }
def WriteRowsUptoSaid : Prop := writeRowsUptoRow.holds Try.pinned (OpenSpec.upto writeRowsSpec)

/-- 'passepartoutlaw07.WriteVaries', WHERE WHAT IT READS IS OF BULK AT MOST 1048576: true; the input reads as it did. -/
def writeVariesUptoRow : OpenClaim := { program := "ytdhnfccgojgehaa", sum := "52f00c1b0eee14306d781c3e645be324d293e641087035534967f1ea97be50ba", func := "passepartout/passepartoutlaw07.WriteVaries", spec := "writeVaries", unfollowed := true, recurses := true, loops := true, apart := false, narrowed := true }
def WriteVariesUptoSaid : Prop := writeVariesUptoRow.holds Try.pinned (OpenSpec.upto writeVariesSpec)

/-- 'passepartoutlaw07.WriteOwn', WHERE WHAT IT READS IS OF BULK AT MOST 1048576: true; the input reads as it did. -/
def writeOwnUptoRow : OpenClaim := { program := "ytdhnfccgojgehaa", sum := "52f00c1b0eee14306d781c3e645be324d293e641087035534967f1ea97be50ba", func := "passepartout/passepartoutlaw07.WriteOwn", spec := "writeOwn", unfollowed := true, recurses := true, loops := true, apart := false, narrowed := true }
def WriteOwnUptoSaid : Prop := writeOwnUptoRow.holds Try.pinned (OpenSpec.upto writeOwnSpec)

end Rows
end Go.Proofs.Ytdhnfccgojgehaa
