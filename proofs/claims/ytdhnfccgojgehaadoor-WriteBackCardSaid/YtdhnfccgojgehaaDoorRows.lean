/-
  NARROWER THAN 'FOR EVERY INPUT', by the rows' own cells (each row's printed sentence says how): ReadFits: loops, laid · ReadBases: loops, laid · ReadEmpty: loops, laid · ReadPrefix: loops, laid · ReadSteps: loops, laid · WriteBack: loops, laid · WriteOne: loops, laid.
  DERIVED. THE GIVEN ROWS OF THIS SEAT. 7 by the template 'for every input the law returns true; each argument reads behind the call as it read before'; 0 by the template 'total and deterministic' (their statements: YtdhnfccgojgehaaDoorTotals.lean).
  GIVEN WITH THE SEED: the statements are not yours to turn. If you find one false, say at which input.
  Laid BY PROGRAM, IN A SANDBOX (cutbox-rows.mjs): the forced cells as the released guide's own fill.sh prints them over the translation c645883baaf49fbd… (all of the seat's roots in one cut). By AI agents, Wed Nov 11 2026. No macro, syntax, notation, axiom, sorry.
-/
import Derived.Test.YtdhnfccgojgehaaDoorChecked
import GoSem.Claim
import GoSem.ClaimJoined
import GoSem.ClaimMapViews
import Derived.JoinedTies
import Derived.KernelRfl
namespace Go.Proofs.YtdhnfccgojgehaaDoor
/- THE CELL 'sum', in the pinned program and in every row, IS THE sha256 OF THE DUMP (.gsa) THAT YtdhnfccgojgehaaDoorProg.lean LOADS. Nothing in Lean hashes anything: it is a label: what it is worth is what the hold of that sum in a sandbox is worth. -/
noncomputable def Tryd.pinned : Pinned := { name := "ytdhnfccgojgehaadoor", sum := "c645883baaf49fbd85b45fb4c139a373b4f23071850deaab7b24f9d9cfe5b1dd", checked := Tryd.checked }
namespace Rows
def none {H : Type} : Left H := { results := [], args := [] }

/- WHAT THE LISTED PACKAGE-LEVEL VARIABLES READ AS WHEN THE CALL BEGINS. Each datum BY PROGRAM (the guide's laid-datum.mjs) off the statement by which the dump's own 'gosem.cut.vars' lays the variable. In a bare row this is a premise. The card (YtdhnfccgojgehaaDoorCards.lean) ties it to the program's text. -/
def laid_passepartout_read_kinds {H : Type} : DataW H := .iface "func table" (.agg [.iface "func" (.lit (.string [40, 42, 112, 97, 115, 115, 101, 112, 97, 114, 116, 111, 117, 116, 47, 114, 101, 97, 100, 46, 114, 101, 97, 100, 101, 114, 41, 46, 110, 117, 109, 98, 101, 114])), .iface "func" (.lit (.string [40, 42, 112, 97, 115, 115, 101, 112, 97, 114, 116, 111, 117, 116, 47, 114, 101, 97, 100, 46, 114, 101, 97, 100, 101, 114, 41, 46, 111, 112, 97, 113, 117, 101])), .nil, .nil, .iface "func" (.lit (.string [40, 42, 112, 97, 115, 115, 101, 112, 97, 114, 116, 111, 117, 116, 47, 114, 101, 97, 100, 46, 114, 101, 97, 100, 101, 114, 41, 46, 114, 101, 115, 116])), .iface "func" (.lit (.string [40, 42, 112, 97, 115, 115, 101, 112, 97, 114, 116, 111, 117, 116, 47, 114, 101, 97, 100, 46, 114, 101, 97, 100, 101, 114, 41, 46, 102, 105, 120, 101, 100]))])

/-- 'passepartoutlaw06.ReadFits': WHATEVER THE INPUT: true; the input reads as it did. -/
def readFitsSpec : ChangeSpec := { name := "readFits", fn := fun _ => fun
  | [d1, d2, d3] => { results := [.lit (.bool true)], args := [d1, d2, d3] }
  | _ => none }
def readFitsRow : OpenClaim := { program := "ytdhnfccgojgehaadoor", sum := "c645883baaf49fbd85b45fb4c139a373b4f23071850deaab7b24f9d9cfe5b1dd", func := "passepartout/passepartoutlaw06.ReadFits", spec := "readFits", inPlace := ["sync/atomic.LoadInt64", "sync/atomic.CompareAndSwapInt64"], unfollowed := true, recurses := true, named := ["passepartout/read.kinds"], loops := true, apart := false, laid := [("passepartout/read.kinds", laid_passepartout_read_kinds)] }
def ReadFitsSaid : Prop := readFitsRow.holds Tryd.pinned (OpenSpec.ofChange readFitsSpec)

/-- ITS FALSE NEIGHBOUR: 'it returns false'. Refute it at one input. -/
def readFitsWrong : ChangeSpec := { name := "readFits", fn := fun _ => fun
  | [d1, d2, d3] => { results := [.lit (.bool false)], args := [d1, d2, d3] }
  | _ => none }
def ReadFitsWrongFalsely : Prop := readFitsRow.holds Tryd.pinned (OpenSpec.ofChange readFitsWrong)

/-- 'passepartoutlaw06.ReadBases': WHATEVER THE INPUT: true; the input reads as it did. -/
def readBasesSpec : ChangeSpec := { name := "readBases", fn := fun _ => fun
  | [d1, d2, d3] => { results := [.lit (.bool true)], args := [d1, d2, d3] }
  | _ => none }
def readBasesRow : OpenClaim := { program := "ytdhnfccgojgehaadoor", sum := "c645883baaf49fbd85b45fb4c139a373b4f23071850deaab7b24f9d9cfe5b1dd", func := "passepartout/passepartoutlaw06.ReadBases", spec := "readBases", inPlace := ["sync/atomic.LoadInt64", "sync/atomic.CompareAndSwapInt64"], unfollowed := true, recurses := true, named := ["passepartout/read.kinds"], loops := true, apart := false, laid := [("passepartout/read.kinds", laid_passepartout_read_kinds)] }
def ReadBasesSaid : Prop := readBasesRow.holds Tryd.pinned (OpenSpec.ofChange readBasesSpec)

/-- ITS FALSE NEIGHBOUR: 'it returns false'. Refute it at one input. -/
def readBasesWrong : ChangeSpec := { name := "readBases", fn := fun _ => fun
  | [d1, d2, d3] => { results := [.lit (.bool false)], args := [d1, d2, d3] }
  | _ => none }
def ReadBasesWrongFalsely : Prop := readBasesRow.holds Tryd.pinned (OpenSpec.ofChange readBasesWrong)

/-- 'passepartoutlaw06.ReadEmpty': WHATEVER THE INPUT: true; the input reads as it did. -/
def readEmptySpec : ChangeSpec := { name := "readEmpty", fn := fun _ => fun
  | [d1, d2] => { results := [.lit (.bool true)], args := [d1, d2] }
  | _ => none }
def readEmptyRow : OpenClaim := { program := "ytdhnfccgojgehaadoor", sum := "c645883baaf49fbd85b45fb4c139a373b4f23071850deaab7b24f9d9cfe5b1dd", func := "passepartout/passepartoutlaw06.ReadEmpty", spec := "readEmpty", inPlace := ["sync/atomic.LoadInt64", "sync/atomic.CompareAndSwapInt64"], unfollowed := true, recurses := true, named := ["passepartout/read.kinds"], loops := true, apart := false, laid := [("passepartout/read.kinds", laid_passepartout_read_kinds)] }
def ReadEmptySaid : Prop := readEmptyRow.holds Tryd.pinned (OpenSpec.ofChange readEmptySpec)

/-- ITS FALSE NEIGHBOUR: 'it returns false'. Refute it at one input. -/
def readEmptyWrong : ChangeSpec := { name := "readEmpty", fn := fun _ => fun
  | [d1, d2] => { results := [.lit (.bool false)], args := [d1, d2] }
  | _ => none }
def ReadEmptyWrongFalsely : Prop := readEmptyRow.holds Tryd.pinned (OpenSpec.ofChange readEmptyWrong)

/-- 'passepartoutlaw06.ReadPrefix': WHATEVER THE INPUT: true; the input reads as it did. -/
def readPrefixSpec : ChangeSpec := { name := "readPrefix", fn := fun _ => fun
  | [d1, d2, d3] => { results := [.lit (.bool true)], args := [d1, d2, d3] }
  | _ => none }
def readPrefixRow : OpenClaim := { program := "ytdhnfccgojgehaadoor", sum := "c645883baaf49fbd85b45fb4c139a373b4f23071850deaab7b24f9d9cfe5b1dd", func := "passepartout/passepartoutlaw06.ReadPrefix", spec := "readPrefix", inPlace := ["sync/atomic.LoadInt64", "sync/atomic.CompareAndSwapInt64"], unfollowed := true, recurses := true, named := ["passepartout/read.kinds"], loops := true, apart := false, laid := [("passepartout/read.kinds", laid_passepartout_read_kinds)] }
def ReadPrefixSaid : Prop := readPrefixRow.holds Tryd.pinned (OpenSpec.ofChange readPrefixSpec)

/-- ITS FALSE NEIGHBOUR: 'it returns false'. Refute it at one input. -/
def readPrefixWrong : ChangeSpec := { name := "readPrefix", fn := fun _ => fun
  | [d1, d2, d3] => { results := [.lit (.bool false)], args := [d1, d2, d3] }
  | _ => none }
def ReadPrefixWrongFalsely : Prop := readPrefixRow.holds Tryd.pinned (OpenSpec.ofChange readPrefixWrong)

/-- 'passepartoutlaw06.ReadSteps': WHATEVER THE INPUT: true; the input reads as it did. -/
def readStepsSpec : ChangeSpec := { name := "readSteps", fn := fun _ => fun
  | [d1, d2] => { results := [.lit (.bool true)], args := [d1, d2] }
  | _ => none }
def readStepsRow : OpenClaim := { program := "ytdhnfccgojgehaadoor", sum := "c645883baaf49fbd85b45fb4c139a373b4f23071850deaab7b24f9d9cfe5b1dd", func := "passepartout/passepartoutlaw06.ReadSteps", spec := "readSteps", inPlace := ["sync/atomic.LoadInt64", "sync/atomic.CompareAndSwapInt64"], unfollowed := true, recurses := true, named := ["passepartout/read.kinds"], loops := true, apart := false, laid := [("passepartout/read.kinds", laid_passepartout_read_kinds)] }
def ReadStepsSaid : Prop := readStepsRow.holds Tryd.pinned (OpenSpec.ofChange readStepsSpec)

/-- ITS FALSE NEIGHBOUR: 'it returns false'. Refute it at one input. -/
def readStepsWrong : ChangeSpec := { name := "readSteps", fn := fun _ => fun
  | [d1, d2] => { results := [.lit (.bool false)], args := [d1, d2] }
  | _ => none }
def ReadStepsWrongFalsely : Prop := readStepsRow.holds Tryd.pinned (OpenSpec.ofChange readStepsWrong)

/-- 'passepartoutlaw07.WriteBack': WHATEVER THE INPUT: true; the input reads as it did. -/
def writeBackSpec : ChangeSpec := { name := "writeBack", fn := fun _ => fun
  | [d1, d2] => { results := [.lit (.bool true)], args := [d1, d2] }
  | _ => none }
def writeBackRow : OpenClaim := { program := "ytdhnfccgojgehaadoor", sum := "c645883baaf49fbd85b45fb4c139a373b4f23071850deaab7b24f9d9cfe5b1dd", func := "passepartout/passepartoutlaw07.WriteBack", spec := "writeBack", inPlace := ["sync/atomic.LoadInt64", "sync/atomic.CompareAndSwapInt64"], unfollowed := true, recurses := true, named := ["passepartout/read.kinds"], loops := true, apart := false, laid := [("passepartout/read.kinds", laid_passepartout_read_kinds)] }
def WriteBackSaid : Prop := writeBackRow.holds Tryd.pinned (OpenSpec.ofChange writeBackSpec)

/-- ITS FALSE NEIGHBOUR: 'it returns false'. Refute it at one input. -/
def writeBackWrong : ChangeSpec := { name := "writeBack", fn := fun _ => fun
  | [d1, d2] => { results := [.lit (.bool false)], args := [d1, d2] }
  | _ => none }
def WriteBackWrongFalsely : Prop := writeBackRow.holds Tryd.pinned (OpenSpec.ofChange writeBackWrong)

/-- 'passepartoutlaw07.WriteOne': WHATEVER THE INPUT: true; the input reads as it did. -/
def writeOneSpec : ChangeSpec := { name := "writeOne", fn := fun _ => fun
  | [d1, d2] => { results := [.lit (.bool true)], args := [d1, d2] }
  | _ => none }
def writeOneRow : OpenClaim := { program := "ytdhnfccgojgehaadoor", sum := "c645883baaf49fbd85b45fb4c139a373b4f23071850deaab7b24f9d9cfe5b1dd", func := "passepartout/passepartoutlaw07.WriteOne", spec := "writeOne", inPlace := ["sync/atomic.LoadInt64", "sync/atomic.CompareAndSwapInt64"], unfollowed := true, recurses := true, named := ["passepartout/read.kinds"], loops := true, apart := false, laid := [("passepartout/read.kinds", laid_passepartout_read_kinds)] }
def WriteOneSaid : Prop := writeOneRow.holds Tryd.pinned (OpenSpec.ofChange writeOneSpec)

/-- ITS FALSE NEIGHBOUR: 'it returns false'. Refute it at one input. -/
def writeOneWrong : ChangeSpec := { name := "writeOne", fn := fun _ => fun
  | [d1, d2] => { results := [.lit (.bool false)], args := [d1, d2] }
  | _ => none }
def WriteOneWrongFalsely : Prop := writeOneRow.holds Tryd.pinned (OpenSpec.ofChange writeOneWrong)

/- THE SECOND FORM. 'bulk': how many values and letters a reading holds, each counted each time it is reached (what is shared counts as often as it is met; a slice's spare places count too). A statement '..UptoSaid' is the law's where the arguments, and the package variables that the reading takes, are together of bulk at most 1048576: NARROWER than '..Said'. Prove '..Said' where nothing that the law and all that it calls make is longer than what came in: it says more and counts as full. Else prove '..UptoSaid'. A law counts once. -/
mutual
def uptoBulk {H : Type} : DataW H → Nat
  | .lit (.string bytes) => bytes.length + 1
  | .lit _ => 1
  | .nil => 1
  | .ptr d => uptoBulk d + 1
  | .slice elems spare => uptoBulkAll elems + uptoBulkAll spare + 1
  | .agg parts => uptoBulkAll parts + 1
  | .iface _ d => uptoBulk d + 1
  | .map entries => uptoBulkEntries entries + 1
  | .held _ => 1
def uptoBulkAll {H : Type} : List (DataW H) → Nat
  | [] => 0
  | d :: r => uptoBulk d + uptoBulkAll r
def uptoBulkEntries {H : Type} : List (Lit × DataW H) → Nat
  | [] => 0
  | x :: r => uptoBulkEntry x + uptoBulkEntries r
def uptoBulkEntry {H : Type} : Lit × DataW H → Nat
  | (.string bytes, d) => bytes.length + uptoBulk d + 1
  | (_, d) => uptoBulk d + 1
 end
def uptoSmall : (H : Type) → List (DataW H) → Bool := fun _ ds => decide (uptoBulkAll ds ≤ 1048576)
def OpenSpec.upto (s : _root_.Go.ChangeSpec) : _root_.Go.OpenSpec := { _root_.Go.OpenSpec.ofChange s with cond := some uptoSmall }

/-- 'passepartoutlaw06.ReadFits', WHERE WHAT IT READS IS OF BULK AT MOST 1048576: true; the input reads as it did. -/
def readFitsUptoRow : OpenClaim := { program := "ytdhnfccgojgehaadoor", sum := "c645883baaf49fbd85b45fb4c139a373b4f23071850deaab7b24f9d9cfe5b1dd", func := "passepartout/passepartoutlaw06.ReadFits", spec := "readFits", inPlace := ["sync/atomic.LoadInt64", "sync/atomic.CompareAndSwapInt64"], unfollowed := true, recurses := true, named := ["passepartout/read.kinds"], loops := true, apart := false, laid := [("passepartout/read.kinds", laid_passepartout_read_kinds)], narrowed := true }
def ReadFitsUptoSaid : Prop := readFitsUptoRow.holds Tryd.pinned (OpenSpec.upto readFitsSpec)

/-- 'passepartoutlaw06.ReadBases', WHERE WHAT IT READS IS OF BULK AT MOST 1048576: true; the input reads as it did. -/
def readBasesUptoRow : OpenClaim := { program := "ytdhnfccgojgehaadoor", sum := "c645883baaf49fbd85b45fb4c139a373b4f23071850deaab7b24f9d9cfe5b1dd", func := "passepartout/passepartoutlaw06.ReadBases", spec := "readBases", inPlace := ["sync/atomic.LoadInt64", "sync/atomic.CompareAndSwapInt64"], unfollowed := true, recurses := true, named := ["passepartout/read.kinds"], loops := true, apart := false, laid := [("passepartout/read.kinds", laid_passepartout_read_kinds)], narrowed := true }
def ReadBasesUptoSaid : Prop := readBasesUptoRow.holds Tryd.pinned (OpenSpec.upto readBasesSpec)

/-- 'passepartoutlaw06.ReadEmpty', WHERE WHAT IT READS IS OF BULK AT MOST 1048576: true; the input reads as it did. -/
def readEmptyUptoRow : OpenClaim := { program := "ytdhnfccgojgehaadoor", sum := "c645883baaf49fbd85b45fb4c139a373b4f23071850deaab7b24f9d9cfe5b1dd", func := "passepartout/passepartoutlaw06.ReadEmpty", spec := "readEmpty", inPlace := ["sync/atomic.LoadInt64", "sync/atomic.CompareAndSwapInt64"], unfollowed := true, recurses := true, named := ["passepartout/read.kinds"], loops := true, apart := false, laid := [("passepartout/read.kinds", laid_passepartout_read_kinds)], narrowed := true }
def ReadEmptyUptoSaid : Prop := readEmptyUptoRow.holds Tryd.pinned (OpenSpec.upto readEmptySpec)

/-- 'passepartoutlaw06.ReadPrefix', WHERE WHAT IT READS IS OF BULK AT MOST 1048576: true; the input reads as it did. -/
def readPrefixUptoRow : OpenClaim := { program := "ytdhnfccgojgehaadoor", sum := "c645883baaf49fbd85b45fb4c139a373b4f23071850deaab7b24f9d9cfe5b1dd", func := "passepartout/passepartoutlaw06.ReadPrefix", spec := "readPrefix", inPlace := ["sync/atomic.LoadInt64", "sync/atomic.CompareAndSwapInt64"], unfollowed := true, recurses := true, named := ["passepartout/read.kinds"], loops := true, apart := false, laid := [("passepartout/read.kinds", laid_passepartout_read_kinds)], narrowed := true }
def ReadPrefixUptoSaid : Prop := readPrefixUptoRow.holds Tryd.pinned (OpenSpec.upto readPrefixSpec)

/-- 'passepartoutlaw06.ReadSteps', WHERE WHAT IT READS IS OF BULK AT MOST 1048576: true; the input reads as it did. -/
def readStepsUptoRow : OpenClaim := { program := "ytdhnfccgojgehaadoor", sum := "c645883baaf49fbd85b45fb4c139a373b4f23071850deaab7b24f9d9cfe5b1dd", func := "passepartout/passepartoutlaw06.ReadSteps", spec := "readSteps", inPlace := ["sync/atomic.LoadInt64", "sync/atomic.CompareAndSwapInt64"], unfollowed := true, recurses := true, named := ["passepartout/read.kinds"], loops := true, apart := false, laid := [("passepartout/read.kinds", laid_passepartout_read_kinds)], narrowed := true }
def ReadStepsUptoSaid : Prop := readStepsUptoRow.holds Tryd.pinned (OpenSpec.upto readStepsSpec)

/-- 'passepartoutlaw07.WriteBack', WHERE WHAT IT READS IS OF BULK AT MOST 1048576: true; the input reads as it did. -/
def writeBackUptoRow : OpenClaim := { program := "ytdhnfccgojgehaadoor", sum := "c645883baaf49fbd85b45fb4c139a373b4f23071850deaab7b24f9d9cfe5b1dd", func := "passepartout/passepartoutlaw07.WriteBack", spec := "writeBack", inPlace := ["sync/atomic.LoadInt64", "sync/atomic.CompareAndSwapInt64"], unfollowed := true, recurses := true, named := ["passepartout/read.kinds"], loops := true, apart := false, laid := [("passepartout/read.kinds", laid_passepartout_read_kinds)], narrowed := true }
def WriteBackUptoSaid : Prop := writeBackUptoRow.holds Tryd.pinned (OpenSpec.upto writeBackSpec)

/-- 'passepartoutlaw07.WriteOne', WHERE WHAT IT READS IS OF BULK AT MOST 1048576: true; the input reads as it did. -/
def writeOneUptoRow : OpenClaim := { program := "ytdhnfccgojgehaadoor", sum := "c645883baaf49fbd85b45fb4c139a373b4f23071850deaab7b24f9d9cfe5b1dd", func := "passepartout/passepartoutlaw07.WriteOne", spec := "writeOne", inPlace := ["sync/atomic.LoadInt64", "sync/atomic.CompareAndSwapInt64"], unfollowed := true, recurses := true, named := ["passepartout/read.kinds"], loops := true, apart := false, laid := [("passepartout/read.kinds", laid_passepartout_read_kinds)], narrowed := true }
def WriteOneUptoSaid : Prop := writeOneUptoRow.holds Tryd.pinned (OpenSpec.upto writeOneSpec)

end Rows
end Go.Proofs.YtdhnfccgojgehaaDoor
