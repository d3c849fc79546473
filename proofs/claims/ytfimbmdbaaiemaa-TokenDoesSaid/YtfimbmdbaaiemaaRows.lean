/-
  No cell of these rows narrows 'for every input' (looked for: loops, veiled, ifaces, maps, wideKeys, modest, calm, conditions, laid).
  DERIVED. THE GIVEN ROWS OF THIS SEAT. 10 by the template 'for every input the law returns true; each argument reads behind the call as it read before'; 0 by the template 'total and deterministic' (their statements: YtfimbmdbaaiemaaTotals.lean).
  GIVEN WITH THE SEED: the statements are not yours to turn. If you find one false, say at which input.
  Laid BY PROGRAM, IN A SANDBOX (cutbox-rows.mjs): the forced cells as the released guide's own fill.sh prints them over the translation ee64c0eb9d22592e… (all of the seat's roots in one cut). By AI agents, Wed Nov 11 2026. No macro, syntax, notation, axiom, sorry.
-/
import Derived.Test.YtfimbmdbaaiemaaChecked
import GoSem.Claim
import GoSem.ClaimJoined
import GoSem.ClaimMapViews
import Derived.JoinedTies
import Derived.KernelRfl
namespace Go.Proofs.Ytfimbmdbaaiemaa
/- THE CELL 'sum', in the pinned program and in every row, IS THE sha256 OF THE DUMP (.gsa) THAT YtfimbmdbaaiemaaProg.lean LOADS. Nothing in Lean hashes anything: it is a label: what it is worth is what the hold of that sum in a sandbox is worth. -/
noncomputable def Try.pinned : Pinned := { name := "ytfimbmdbaaiemaa", sum := "ee64c0eb9d22592eb1dc65e6f6c9380e5bca0ee7026acbf37b23e835114577ab", checked := Try.checked }
namespace Rows
def none {H : Type} : Left H := { results := [], args := [] }

/-- 'countermandlaw09.FileWrites': WHATEVER THE INPUT: true; the input reads as it did. -/
def fileWritesSpec : ChangeSpec := { name := "fileWrites", fn := fun _ => fun
  | [d1, d2] => { results := [.lit (.bool true)], args := [d1, d2] }
  | _ => none }
def fileWritesRow : OpenClaim := { program := "ytfimbmdbaaiemaa", sum := "ee64c0eb9d22592eb1dc65e6f6c9380e5bca0ee7026acbf37b23e835114577ab", func := "countermand/countermandlaw09.FileWrites", spec := "fileWrites", apart := false }
def FileWritesSaid : Prop := fileWritesRow.holds Try.pinned (OpenSpec.ofChange fileWritesSpec)

/-- ITS FALSE NEIGHBOUR: 'it returns false'. Refute it at one input. -/
def fileWritesWrong : ChangeSpec := { name := "fileWrites", fn := fun _ => fun
  | [d1, d2] => { results := [.lit (.bool false)], args := [d1, d2] }
  | _ => none }
def FileWritesWrongFalsely : Prop := fileWritesRow.holds Try.pinned (OpenSpec.ofChange fileWritesWrong)

/-- 'countermandlaw09.FilePuts': WHATEVER THE INPUT: true; the input reads as it did. -/
def filePutsSpec : ChangeSpec := { name := "filePuts", fn := fun _ => fun
  | [d1, d2, d3, d4] => { results := [.lit (.bool true)], args := [d1, d2, d3, d4] }
  | _ => none }
def filePutsRow : OpenClaim := { program := "ytfimbmdbaaiemaa", sum := "ee64c0eb9d22592eb1dc65e6f6c9380e5bca0ee7026acbf37b23e835114577ab", func := "countermand/countermandlaw09.FilePuts", spec := "filePuts", apart := false }
def FilePutsSaid : Prop := filePutsRow.holds Try.pinned (OpenSpec.ofChange filePutsSpec)

/-- ITS FALSE NEIGHBOUR: 'it returns false'. Refute it at one input. -/
def filePutsWrong : ChangeSpec := { name := "filePuts", fn := fun _ => fun
  | [d1, d2, d3, d4] => { results := [.lit (.bool false)], args := [d1, d2, d3, d4] }
  | _ => none }
def FilePutsWrongFalsely : Prop := filePutsRow.holds Try.pinned (OpenSpec.ofChange filePutsWrong)

/-- 'countermandlaw09.FileText': WHATEVER THE INPUT: true; the input reads as it did. -/
def fileTextSpec : ChangeSpec := { name := "fileText", fn := fun _ => fun
  | [d] => { results := [.lit (.bool true)], args := [d] }
  | _ => none }
def fileTextRow : OpenClaim := { program := "ytfimbmdbaaiemaa", sum := "ee64c0eb9d22592eb1dc65e6f6c9380e5bca0ee7026acbf37b23e835114577ab", func := "countermand/countermandlaw09.FileText", spec := "fileText", apart := false }
def FileTextSaid : Prop := fileTextRow.holds Try.pinned (OpenSpec.ofChange fileTextSpec)

/-- ITS FALSE NEIGHBOUR: 'it returns false'. Refute it at one input. -/
def fileTextWrong : ChangeSpec := { name := "fileText", fn := fun _ => fun
  | [d] => { results := [.lit (.bool false)], args := [d] }
  | _ => none }
def FileTextWrongFalsely : Prop := fileTextRow.holds Try.pinned (OpenSpec.ofChange fileTextWrong)

/-- 'countermandlaw15.CursorSteps': WHATEVER THE INPUT: true; the input reads as it did. -/
def cursorStepsSpec : ChangeSpec := { name := "cursorSteps", fn := fun _ => fun
  | [d1, d2, d3] => { results := [.lit (.bool true)], args := [d1, d2, d3] }
  | _ => none }
def cursorStepsRow : OpenClaim := { program := "ytfimbmdbaaiemaa", sum := "ee64c0eb9d22592eb1dc65e6f6c9380e5bca0ee7026acbf37b23e835114577ab", func := "countermand/countermandlaw15.CursorSteps", spec := "cursorSteps", apart := false }
def CursorStepsSaid : Prop := cursorStepsRow.holds Try.pinned (OpenSpec.ofChange cursorStepsSpec)

/-- ITS FALSE NEIGHBOUR: 'it returns false'. Refute it at one input. -/
def cursorStepsWrong : ChangeSpec := { name := "cursorSteps", fn := fun _ => fun
  | [d1, d2, d3] => { results := [.lit (.bool false)], args := [d1, d2, d3] }
  | _ => none }
def CursorStepsWrongFalsely : Prop := cursorStepsRow.holds Try.pinned (OpenSpec.ofChange cursorStepsWrong)

/-- 'countermandlaw15.CursorParts': WHATEVER THE INPUT: true; the input reads as it did. -/
def cursorPartsSpec : ChangeSpec := { name := "cursorParts", fn := fun _ => fun
  | [d1, d2] => { results := [.lit (.bool true)], args := [d1, d2] }
  | _ => none }
def cursorPartsRow : OpenClaim := { program := "ytfimbmdbaaiemaa", sum := "ee64c0eb9d22592eb1dc65e6f6c9380e5bca0ee7026acbf37b23e835114577ab", func := "countermand/countermandlaw15.CursorParts", spec := "cursorParts", apart := false }
def CursorPartsSaid : Prop := cursorPartsRow.holds Try.pinned (OpenSpec.ofChange cursorPartsSpec)

/-- ITS FALSE NEIGHBOUR: 'it returns false'. Refute it at one input. -/
def cursorPartsWrong : ChangeSpec := { name := "cursorParts", fn := fun _ => fun
  | [d1, d2] => { results := [.lit (.bool false)], args := [d1, d2] }
  | _ => none }
def CursorPartsWrongFalsely : Prop := cursorPartsRow.holds Try.pinned (OpenSpec.ofChange cursorPartsWrong)

/-- 'countermandlaw19.TokenGood': WHATEVER THE INPUT: true; the input reads as it did. -/
def tokenGoodSpec : ChangeSpec := { name := "tokenGood", fn := fun _ => fun
  | [d1, d2] => { results := [.lit (.bool true)], args := [d1, d2] }
  | _ => none }
def tokenGoodRow : OpenClaim := { program := "ytfimbmdbaaiemaa", sum := "ee64c0eb9d22592eb1dc65e6f6c9380e5bca0ee7026acbf37b23e835114577ab", func := "countermand/countermandlaw19.TokenGood", spec := "tokenGood", apart := false }
def TokenGoodSaid : Prop := tokenGoodRow.holds Try.pinned (OpenSpec.ofChange tokenGoodSpec)

/-- ITS FALSE NEIGHBOUR: 'it returns false'. Refute it at one input. -/
def tokenGoodWrong : ChangeSpec := { name := "tokenGood", fn := fun _ => fun
  | [d1, d2] => { results := [.lit (.bool false)], args := [d1, d2] }
  | _ => none }
def TokenGoodWrongFalsely : Prop := tokenGoodRow.holds Try.pinned (OpenSpec.ofChange tokenGoodWrong)

/-- 'countermandlaw19.TokenWaits': WHATEVER THE INPUT: true; the input reads as it did. -/
def tokenWaitsSpec : ChangeSpec := { name := "tokenWaits", fn := fun _ => fun
  | [d1, d2, d3, d4] => { results := [.lit (.bool true)], args := [d1, d2, d3, d4] }
  | _ => none }
def tokenWaitsRow : OpenClaim := { program := "ytfimbmdbaaiemaa", sum := "ee64c0eb9d22592eb1dc65e6f6c9380e5bca0ee7026acbf37b23e835114577ab", func := "countermand/countermandlaw19.TokenWaits", spec := "tokenWaits", apart := false }
def TokenWaitsSaid : Prop := tokenWaitsRow.holds Try.pinned (OpenSpec.ofChange tokenWaitsSpec)

/-- ITS FALSE NEIGHBOUR: 'it returns false'. Refute it at one input. -/
def tokenWaitsWrong : ChangeSpec := { name := "tokenWaits", fn := fun _ => fun
  | [d1, d2, d3, d4] => { results := [.lit (.bool false)], args := [d1, d2, d3, d4] }
  | _ => none }
def TokenWaitsWrongFalsely : Prop := tokenWaitsRow.holds Try.pinned (OpenSpec.ofChange tokenWaitsWrong)

/-- 'countermandlaw19.TokenDoes': WHATEVER THE INPUT: true; the input reads as it did. -/
def tokenDoesSpec : ChangeSpec := { name := "tokenDoes", fn := fun _ => fun
  | [d1, d2] => { results := [.lit (.bool true)], args := [d1, d2] }
  | _ => none }
def tokenDoesRow : OpenClaim := { program := "ytfimbmdbaaiemaa", sum := "ee64c0eb9d22592eb1dc65e6f6c9380e5bca0ee7026acbf37b23e835114577ab", func := "countermand/countermandlaw19.TokenDoes", spec := "tokenDoes", apart := false }
def TokenDoesSaid : Prop := tokenDoesRow.holds Try.pinned (OpenSpec.ofChange tokenDoesSpec)

/-- ITS FALSE NEIGHBOUR: 'it returns false'. Refute it at one input. -/
def tokenDoesWrong : ChangeSpec := { name := "tokenDoes", fn := fun _ => fun
  | [d1, d2] => { results := [.lit (.bool false)], args := [d1, d2] }
  | _ => none }
def TokenDoesWrongFalsely : Prop := tokenDoesRow.holds Try.pinned (OpenSpec.ofChange tokenDoesWrong)

/-- 'countermandlaw09.FileDoes': WHATEVER THE INPUT: true; the input reads as it did. -/
def fileDoesSpec : ChangeSpec := { name := "fileDoes", fn := fun _ => fun
  | [d1, d2, d3] => { results := [.lit (.bool true)], args := [d1, d2, d3] }
  | _ => none }
def fileDoesRow : OpenClaim := { program := "ytfimbmdbaaiemaa", sum := "ee64c0eb9d22592eb1dc65e6f6c9380e5bca0ee7026acbf37b23e835114577ab", func := "countermand/countermandlaw09.FileDoes", spec := "fileDoes", inPlace := ["internal/abi.NoEscape", "internal/bytealg.MakeNoZero"], apart := false }
def FileDoesSaid : Prop := fileDoesRow.holds Try.pinned (OpenSpec.ofChange fileDoesSpec)

/-- ITS FALSE NEIGHBOUR: 'it returns false'. Refute it at one input. -/
def fileDoesWrong : ChangeSpec := { name := "fileDoes", fn := fun _ => fun
  | [d1, d2, d3] => { results := [.lit (.bool false)], args := [d1, d2, d3] }
  | _ => none }
def FileDoesWrongFalsely : Prop := fileDoesRow.holds Try.pinned (OpenSpec.ofChange fileDoesWrong)

/-- 'countermandlaw09.FileCuts': WHATEVER THE INPUT: true; the input reads as it did. -/
def fileCutsSpec : ChangeSpec := { name := "fileCuts", fn := fun _ => fun
  | [d1, d2, d3] => { results := [.lit (.bool true)], args := [d1, d2, d3] }
  | _ => none }
def fileCutsRow : OpenClaim := { program := "ytfimbmdbaaiemaa", sum := "ee64c0eb9d22592eb1dc65e6f6c9380e5bca0ee7026acbf37b23e835114577ab", func := "countermand/countermandlaw09.FileCuts", spec := "fileCuts", inPlace := ["internal/abi.NoEscape", "internal/bytealg.MakeNoZero"], apart := false }
def FileCutsSaid : Prop := fileCutsRow.holds Try.pinned (OpenSpec.ofChange fileCutsSpec)

/-- ITS FALSE NEIGHBOUR: 'it returns false'. Refute it at one input. -/
def fileCutsWrong : ChangeSpec := { name := "fileCuts", fn := fun _ => fun
  | [d1, d2, d3] => { results := [.lit (.bool false)], args := [d1, d2, d3] }
  | _ => none }
def FileCutsWrongFalsely : Prop := fileCutsRow.holds Try.pinned (OpenSpec.ofChange fileCutsWrong)

/- THE SECOND FORM. 'bulk': how many values and letters a reading holds, each counted each time it is reached (what is shared counts as often as it is met; a slice's spare places count too). A statement '..UptoSaid' is the law's where the arguments, and the package variables that the reading takes, are together of bulk at most 1048576: NARROWER than '..Said'. Prove '..Said' where nothing that the law and all that it calls make is longer than what came in: it says more and counts as full. Else prove '..UptoSaid'. A law counts once. -/
mutual
def uptoBulk {H : Type} : DataW H → Nat
  | .lit (.string bytes) => bytes.length + 1
  | .lit _ => 1
  | .nil => 1
  | .ptr d => uptoBulk d + 1
  | .slice elems spare => uptoBulkAll elems + uptoBulkAll spare + 1
  | .agg parts => uptoBulkAll parts + 1
  | .iface _ d => uptoBulk d + 1
  | .map entries => uptoBulkEntries entries + 1
  | .held _ => 1
def uptoBulkAll {H : Type} : List (DataW H) → Nat
  | [] => 0
  | d :: r => uptoBulk d + uptoBulkAll r
def uptoBulkEntries {H : Type} : List (Lit × DataW H) → Nat
  | [] => 0
  | x :: r => uptoBulkEntry x + uptoBulkEntries r
def uptoBulkEntry {H : Type} : Lit × DataW H → Nat
  | (.string bytes, d) => bytes.length + uptoBulk d + 1
  | (_, d) => uptoBulk d + 1
 end
def uptoSmall : (H : Type) → List (DataW H) → Bool := fun _ ds => decide (uptoBulkAll ds ≤ 1048576)
def OpenSpec.upto (s : _root_.Go.ChangeSpec) : _root_.Go.OpenSpec := { _root_.Go.OpenSpec.ofChange s with cond := some uptoSmall }

/-- 'countermandlaw09.FileWrites', WHERE WHAT IT READS IS OF BULK AT MOST 1048576: true; the input reads as it did. -/
def fileWritesUptoRow : OpenClaim := { program := "ytfimbmdbaaiemaa", sum := "ee64c0eb9d22592eb1dc65e6f6c9380e5bca0ee7026acbf37b23e835114577ab", func := "countermand/countermandlaw09.FileWrites", spec := "fileWrites", apart := false, narrowed := true }
def FileWritesUptoSaid : Prop := fileWritesUptoRow.holds Try.pinned (OpenSpec.upto fileWritesSpec)

/-- 'countermandlaw09.FilePuts', WHERE WHAT IT READS IS OF BULK AT MOST 1048576: true; the input reads as it did. -/
def filePutsUptoRow : OpenClaim := { program := "ytfimbmdbaaiemaa", sum := "ee64c0eb9d22592eb1dc65e6f6c9380e5bca0ee7026acbf37b23e835114577ab", func := "countermand/countermandlaw09.FilePuts", spec := "filePuts", apart := false, narrowed := true }
def FilePutsUptoSaid : Prop := filePutsUptoRow.holds Try.pinned (OpenSpec.upto filePutsSpec)

/-- 'countermandlaw09.FileText', WHERE WHAT IT READS IS OF BULK AT MOST 1048576: true; the input reads as it did. -/
def fileTextUptoRow : OpenClaim := { program := "ytfimbmdbaaiemaa", sum := "ee64c0eb9d22592eb1dc65e6f6c9380e5bca0ee7026acbf37b23e835114577ab", func := "countermand/countermandlaw09.FileText", spec := "fileText", apart := false, narrowed := true }
def FileTextUptoSaid : Prop := fileTextUptoRow.holds Try.pinned (OpenSpec.upto fileTextSpec)

/-- 'countermandlaw15.CursorSteps', WHERE WHAT IT READS IS OF BULK AT MOST 1048576: true; the input reads as it did. -/
def cursorStepsUptoRow : OpenClaim := { program := "ytfimbmdbaaiemaa", sum := "ee64c0eb9d22592eb1dc65e6f6c9380e5bca0ee7026acbf37b23e835114577ab", func := "countermand/countermandlaw15.CursorSteps", spec := "cursorSteps", apart := false, narrowed := true }
def CursorStepsUptoSaid : Prop := cursorStepsUptoRow.holds Try.pinned (OpenSpec.upto cursorStepsSpec)

/-- 'countermandlaw15.CursorParts', WHERE WHAT IT READS IS OF BULK AT MOST 1048576: true; the input reads as it did. -/
def cursorPartsUptoRow : OpenClaim := { program := "ytfimbmdbaaiemaa", sum := "ee64c0eb9d22592eb1dc65e6f6c9380e5bca0ee7026acbf37b23e835114577ab", func := "countermand/countermandlaw15.CursorParts", spec := "cursorParts", apart := false, narrowed := true }
def CursorPartsUptoSaid : Prop := cursorPartsUptoRow.holds Try.pinned (OpenSpec.upto cursorPartsSpec)

/-- 'countermandlaw19.TokenGood', WHERE WHAT IT READS IS OF BULK AT MOST 1048576: true; the input reads as it did. -/
def tokenGoodUptoRow : OpenClaim := { program := "ytfimbmdbaaiemaa", sum := "ee64c0eb9d22592eb1dc65e6f6c9380e5bca0ee7026acbf37b23e835114577ab", func := "countermand/countermandlaw19.TokenGood", spec := "tokenGood", apart := false, narrowed := true }
def TokenGoodUptoSaid : Prop := tokenGoodUptoRow.holds Try.pinned (OpenSpec.upto tokenGoodSpec)

/-- 'countermandlaw19.TokenWaits', WHERE WHAT IT READS IS OF BULK AT MOST 1048576: true; the input reads as it did. -/
def tokenWaitsUptoRow : OpenClaim := { program := "ytfimbmdbaaiemaa", sum := "ee64c0eb9d22592eb1dc65e6f6c9380e5bca0ee7026acbf37b23e835114577ab", func := "countermand/countermandlaw19.TokenWaits", spec := "tokenWaits", apart := false, narrowed := true }
def TokenWaitsUptoSaid : Prop := tokenWaitsUptoRow.holds Try.pinned (OpenSpec.upto tokenWaitsSpec)

/-- 'countermandlaw19.TokenDoes', WHERE WHAT IT READS IS OF BULK AT MOST 1048576: true; the input reads as it did. -/
def tokenDoesUptoRow : OpenClaim := { program := "ytfimbmdbaaiemaa", sum := "ee64c0eb9d22592eb1dc65e6f6c9380e5bca0ee7026acbf37b23e835114577ab", func := "countermand/countermandlaw19.TokenDoes", spec := "tokenDoes", apart := false, narrowed := true }
def TokenDoesUptoSaid : Prop := tokenDoesUptoRow.holds Try.pinned (OpenSpec.upto tokenDoesSpec)

/-- 'countermandlaw09.FileDoes', WHERE WHAT IT READS IS OF BULK AT MOST 1048576: true; the input reads as it did. -/
def fileDoesUptoRow : OpenClaim := { program := "ytfimbmdbaaiemaa", sum := "ee64c0eb9d22592eb1dc65e6f6c9380e5bca0ee7026acbf37b23e835114577ab", func := "countermand/countermandlaw09.FileDoes", spec := "fileDoes", inPlace := ["internal/abi.NoEscape", "internal/bytealg.MakeNoZero"], apart := false, narrowed := true }
def FileDoesUptoSaid : Prop := fileDoesUptoRow.holds Try.pinned (OpenSpec.upto fileDoesSpec)

/-- 'countermandlaw09.FileCuts', WHERE WHAT IT READS IS OF BULK AT MOST 1048576: true; the input reads as it did. -/
def fileCutsUptoRow : OpenClaim := { program := "ytfimbmdbaaiemaa", sum := "ee64c0eb9d22592eb1dc65e6f6c9380e5bca0ee7026acbf37b23e835114577ab", func := "countermand/countermandlaw09.FileCuts", spec := "fileCuts", inPlace := ["internal/abi.NoEscape", "internal/bytealg.MakeNoZero"], apart := false, narrowed := true }
def FileCutsUptoSaid : Prop := fileCutsUptoRow.holds Try.pinned (OpenSpec.upto fileCutsSpec)

end Rows
end Go.Proofs.Ytfimbmdbaaiemaa
