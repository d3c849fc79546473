/-
  No cell of these rows narrows 'for every input' (looked for: loops, veiled, ifaces, maps, wideKeys, modest, calm, conditions, laid).
  DERIVED. THE GIVEN ROWS OF THIS SEAT. 10 by the template 'for every input the law returns true; each argument reads behind the call as it read before'; 0 by the template 'total and deterministic' (their statements: YtfoefgckjaafnaaTotals.lean).
  GIVEN WITH THE SEED: the statements are not yours to turn. If you find one false, say at which input.
  Laid BY PROGRAM, IN A SANDBOX (cutbox-rows.mjs): the forced cells as the released guide's own fill.sh prints them over the translation 4e14e521923b51e2… (all of the seat's roots in one cut). By AI agents, Wed Nov 11 2026. No macro, syntax, notation, axiom, sorry.
-/
import Derived.Test.YtfoefgckjaafnaaChecked
import GoSem.Claim
import GoSem.ClaimJoined
import GoSem.ClaimMapViews
import Derived.JoinedTies
import Derived.KernelRfl
namespace Go.Proofs.Ytfoefgckjaafnaa
/- THE CELL 'sum', in the pinned program and in every row, IS THE sha256 OF THE DUMP (.gsa) THAT YtfoefgckjaafnaaProg.lean LOADS. Nothing in Lean hashes anything: it is a label: what it is worth is what the hold of that sum in a sandbox is worth. -/
noncomputable def Try.pinned : Pinned := { name := "ytfoefgckjaafnaa", sum := "4e14e521923b51e26ed097815448d177050bf75796cbb0fad7647db28a1350e5", checked := Try.checked }
namespace Rows
def none {H : Type} : Left H := { results := [], args := [] }

/-- 'countermandlaw12.ReadsStays': WHATEVER THE INPUT: true; the input reads as it did. -/
def readsStaysSpec : ChangeSpec := { name := "readsStays", fn := fun _ => fun
  | [d1, d2] => { results := [.lit (.bool true)], args := [d1, d2] }
  | _ => none }
def readsStaysRow : OpenClaim := { program := "ytfoefgckjaafnaa", sum := "4e14e521923b51e26ed097815448d177050bf75796cbb0fad7647db28a1350e5", func := "countermand/countermandlaw12.ReadsStays", spec := "readsStays", unfollowed := true, recurses := true, apart := false }
def ReadsStaysSaid : Prop := readsStaysRow.holds Try.pinned (OpenSpec.ofChange readsStaysSpec)

/-- ITS FALSE NEIGHBOUR: 'it returns false'. Refute it at one input. -/
def readsStaysWrong : ChangeSpec := { name := "readsStays", fn := fun _ => fun
  | [d1, d2] => { results := [.lit (.bool false)], args := [d1, d2] }
  | _ => none }
def ReadsStaysWrongFalsely : Prop := readsStaysRow.holds Try.pinned (OpenSpec.ofChange readsStaysWrong)

/-- 'countermandlaw12.ReadsNotes': WHATEVER THE INPUT: true; the input reads as it did. -/
def readsNotesSpec : ChangeSpec := { name := "readsNotes", fn := fun _ => fun
  | [d1, d2, d3, d4] => { results := [.lit (.bool true)], args := [d1, d2, d3, d4] }
  | _ => none }
def readsNotesRow : OpenClaim := { program := "ytfoefgckjaafnaa", sum := "4e14e521923b51e26ed097815448d177050bf75796cbb0fad7647db28a1350e5", func := "countermand/countermandlaw12.ReadsNotes", spec := "readsNotes", unfollowed := true, recurses := true, apart := false }
def ReadsNotesSaid : Prop := readsNotesRow.holds Try.pinned (OpenSpec.ofChange readsNotesSpec)

/-- ITS FALSE NEIGHBOUR: 'it returns false'. Refute it at one input. -/
def readsNotesWrong : ChangeSpec := { name := "readsNotes", fn := fun _ => fun
  | [d1, d2, d3, d4] => { results := [.lit (.bool false)], args := [d1, d2, d3, d4] }
  | _ => none }
def ReadsNotesWrongFalsely : Prop := readsNotesRow.holds Try.pinned (OpenSpec.ofChange readsNotesWrong)

/-- 'countermandlaw12.ReadsOnce': WHATEVER THE INPUT: true; the input reads as it did. -/
def readsOnceSpec : ChangeSpec := { name := "readsOnce", fn := fun _ => fun
  | [d1, d2] => { results := [.lit (.bool true)], args := [d1, d2] }
  | _ => none }
def readsOnceRow : OpenClaim := { program := "ytfoefgckjaafnaa", sum := "4e14e521923b51e26ed097815448d177050bf75796cbb0fad7647db28a1350e5", func := "countermand/countermandlaw12.ReadsOnce", spec := "readsOnce", unfollowed := true, recurses := true, apart := false }
def ReadsOnceSaid : Prop := readsOnceRow.holds Try.pinned (OpenSpec.ofChange readsOnceSpec)

/-- ITS FALSE NEIGHBOUR: 'it returns false'. Refute it at one input. -/
def readsOnceWrong : ChangeSpec := { name := "readsOnce", fn := fun _ => fun
  | [d1, d2] => { results := [.lit (.bool false)], args := [d1, d2] }
  | _ => none }
def ReadsOnceWrongFalsely : Prop := readsOnceRow.holds Try.pinned (OpenSpec.ofChange readsOnceWrong)

/-- 'countermandlaw12.ReadsOrder': WHATEVER THE INPUT: true; the input reads as it did. -/
def readsOrderSpec : ChangeSpec := { name := "readsOrder", fn := fun _ => fun
  | [d] => { results := [.lit (.bool true)], args := [d] }
  | _ => none }
def readsOrderRow : OpenClaim := { program := "ytfoefgckjaafnaa", sum := "4e14e521923b51e26ed097815448d177050bf75796cbb0fad7647db28a1350e5", func := "countermand/countermandlaw12.ReadsOrder", spec := "readsOrder", unfollowed := true, recurses := true, apart := false }
def ReadsOrderSaid : Prop := readsOrderRow.holds Try.pinned (OpenSpec.ofChange readsOrderSpec)

/-- ITS FALSE NEIGHBOUR: 'it returns false'. Refute it at one input. -/
def readsOrderWrong : ChangeSpec := { name := "readsOrder", fn := fun _ => fun
  | [d] => { results := [.lit (.bool false)], args := [d] }
  | _ => none }
def ReadsOrderWrongFalsely : Prop := readsOrderRow.holds Try.pinned (OpenSpec.ofChange readsOrderWrong)

/-- 'countermandlaw07.CodeChecks': WHATEVER THE INPUT: true; the input reads as it did. -/
def codeChecksSpec : ChangeSpec := { name := "codeChecks", fn := fun _ => fun
  | [d] => { results := [.lit (.bool true)], args := [d] }
  | _ => none }
def codeChecksRow : OpenClaim := { program := "ytfoefgckjaafnaa", sum := "4e14e521923b51e26ed097815448d177050bf75796cbb0fad7647db28a1350e5", func := "countermand/countermandlaw07.CodeChecks", spec := "codeChecks", apart := false }
def CodeChecksSaid : Prop := codeChecksRow.holds Try.pinned (OpenSpec.ofChange codeChecksSpec)

/-- ITS FALSE NEIGHBOUR: 'it returns false'. Refute it at one input. -/
def codeChecksWrong : ChangeSpec := { name := "codeChecks", fn := fun _ => fun
  | [d] => { results := [.lit (.bool false)], args := [d] }
  | _ => none }
def CodeChecksWrongFalsely : Prop := codeChecksRow.holds Try.pinned (OpenSpec.ofChange codeChecksWrong)

/-- 'countermandlaw07.CodeOn': WHATEVER THE INPUT: true; the input reads as it did. -/
def codeOnSpec : ChangeSpec := { name := "codeOn", fn := fun _ => fun
  | [d] => { results := [.lit (.bool true)], args := [d] }
  | _ => none }
def codeOnRow : OpenClaim := { program := "ytfoefgckjaafnaa", sum := "4e14e521923b51e26ed097815448d177050bf75796cbb0fad7647db28a1350e5", func := "countermand/countermandlaw07.CodeOn", spec := "codeOn", apart := false }
def CodeOnSaid : Prop := codeOnRow.holds Try.pinned (OpenSpec.ofChange codeOnSpec)

/-- ITS FALSE NEIGHBOUR: 'it returns false'. Refute it at one input. -/
def codeOnWrong : ChangeSpec := { name := "codeOn", fn := fun _ => fun
  | [d] => { results := [.lit (.bool false)], args := [d] }
  | _ => none }
def CodeOnWrongFalsely : Prop := codeOnRow.holds Try.pinned (OpenSpec.ofChange codeOnWrong)

/-- 'countermandlaw07.CodeBlocks': WHATEVER THE INPUT: true; the input reads as it did. -/
def codeBlocksSpec : ChangeSpec := { name := "codeBlocks", fn := fun _ => fun
  | [d1, d2] => { results := [.lit (.bool true)], args := [d1, d2] }
  | _ => none }
def codeBlocksRow : OpenClaim := { program := "ytfoefgckjaafnaa", sum := "4e14e521923b51e26ed097815448d177050bf75796cbb0fad7647db28a1350e5", func := "countermand/countermandlaw07.CodeBlocks", spec := "codeBlocks", apart := false }
def CodeBlocksSaid : Prop := codeBlocksRow.holds Try.pinned (OpenSpec.ofChange codeBlocksSpec)

/-- ITS FALSE NEIGHBOUR: 'it returns false'. Refute it at one input. -/
def codeBlocksWrong : ChangeSpec := { name := "codeBlocks", fn := fun _ => fun
  | [d1, d2] => { results := [.lit (.bool false)], args := [d1, d2] }
  | _ => none }
def CodeBlocksWrongFalsely : Prop := codeBlocksRow.holds Try.pinned (OpenSpec.ofChange codeBlocksWrong)

/-- 'countermandlaw07.CodeInev': WHATEVER THE INPUT: true; the input reads as it did. -/
def codeInevSpec : ChangeSpec := { name := "codeInev", fn := fun _ => fun
  | [d] => { results := [.lit (.bool true)], args := [d] }
  | _ => none }
def codeInevRow : OpenClaim := { program := "ytfoefgckjaafnaa", sum := "4e14e521923b51e26ed097815448d177050bf75796cbb0fad7647db28a1350e5", func := "countermand/countermandlaw07.CodeInev", spec := "codeInev", apart := false }
def CodeInevSaid : Prop := codeInevRow.holds Try.pinned (OpenSpec.ofChange codeInevSpec)

/-- ITS FALSE NEIGHBOUR: 'it returns false'. Refute it at one input. -/
def codeInevWrong : ChangeSpec := { name := "codeInev", fn := fun _ => fun
  | [d] => { results := [.lit (.bool false)], args := [d] }
  | _ => none }
def CodeInevWrongFalsely : Prop := codeInevRow.holds Try.pinned (OpenSpec.ofChange codeInevWrong)

/-- 'countermandlaw07.CodeShifts': WHATEVER THE INPUT: true; the input reads as it did. -/
def codeShiftsSpec : ChangeSpec := { name := "codeShifts", fn := fun _ => fun
  | [d1, d2, d3] => { results := [.lit (.bool true)], args := [d1, d2, d3] }
  | _ => none }
def codeShiftsRow : OpenClaim := { program := "ytfoefgckjaafnaa", sum := "4e14e521923b51e26ed097815448d177050bf75796cbb0fad7647db28a1350e5", func := "countermand/countermandlaw07.CodeShifts", spec := "codeShifts", apart := false }
def CodeShiftsSaid : Prop := codeShiftsRow.holds Try.pinned (OpenSpec.ofChange codeShiftsSpec)

/-- ITS FALSE NEIGHBOUR: 'it returns false'. Refute it at one input. -/
def codeShiftsWrong : ChangeSpec := { name := "codeShifts", fn := fun _ => fun
  | [d1, d2, d3] => { results := [.lit (.bool false)], args := [d1, d2, d3] }
  | _ => none }
def CodeShiftsWrongFalsely : Prop := codeShiftsRow.holds Try.pinned (OpenSpec.ofChange codeShiftsWrong)

/-- 'countermandlaw07.CodeFirst': WHATEVER THE INPUT: true; the input reads as it did. -/
def codeFirstSpec : ChangeSpec := { name := "codeFirst", fn := fun _ => fun
  | [d] => { results := [.lit (.bool true)], args := [d] }
  | _ => none }
def codeFirstRow : OpenClaim := { program := "ytfoefgckjaafnaa", sum := "4e14e521923b51e26ed097815448d177050bf75796cbb0fad7647db28a1350e5", func := "countermand/countermandlaw07.CodeFirst", spec := "codeFirst", apart := false }
def CodeFirstSaid : Prop := codeFirstRow.holds Try.pinned (OpenSpec.ofChange codeFirstSpec)

/-- ITS FALSE NEIGHBOUR: 'it returns false'. Refute it at one input. -/
def codeFirstWrong : ChangeSpec := { name := "codeFirst", fn := fun _ => fun
  | [d] => { results := [.lit (.bool false)], args := [d] }
  | _ => none }
def CodeFirstWrongFalsely : Prop := codeFirstRow.holds Try.pinned (OpenSpec.ofChange codeFirstWrong)

/- THE SECOND FORM. 'bulk': how many values and letters a reading holds, each counted each time it is reached (what is shared counts as often as it is met; a slice's spare places count too). A statement '..UptoSaid' is the law's where the arguments, and the package variables that the reading takes, are together of bulk at most 1048576: NARROWER than '..Said'. Prove '..Said' where nothing that the law and all that it calls make is longer than what came in: it says more and counts as full. Else prove '..UptoSaid'. A law counts once. -/
mutual
def uptoBulk {H : Type} : DataW H → Nat
  | .lit (.string bytes) => bytes.length + 1
  | .lit _ => 1
  | .nil => 1
  | .ptr d => uptoBulk d + 1
  | .slice elems spare => uptoBulkAll elems + uptoBulkAll spare + 1
  | .agg parts => uptoBulkAll parts + 1
  | .iface _ d => uptoBulk d + 1
  | .map entries => uptoBulkEntries entries + 1
  | .held _ => 1
def uptoBulkAll {H : Type} : List (DataW H) → Nat
  | [] => 0
  | d :: r => uptoBulk d + uptoBulkAll r
def uptoBulkEntries {H : Type} : List (Lit × DataW H) → Nat
  | [] => 0
  | x :: r => uptoBulkEntry x + uptoBulkEntries r
def uptoBulkEntry {H : Type} : Lit × DataW H → Nat
  | (.string bytes, d) => bytes.length + uptoBulk d + 1
  | (_, d) => uptoBulk d + 1
 end
def uptoSmall : (H : Type) → List (DataW H) → Bool := fun _ ds => decide (uptoBulkAll ds ≤ 1048576)
def OpenSpec.upto (s : _root_.Go.ChangeSpec) : _root_.Go.OpenSpec := { _root_.Go.OpenSpec.ofChange s with cond := some uptoSmall }

/-- 'countermandlaw12.ReadsStays', WHERE WHAT IT READS IS OF BULK AT MOST 1048576: true; the input reads as it did. -/
def readsStaysUptoRow : OpenClaim := { program := "ytfoefgckjaafnaa", sum := "4e14e521923b51e26ed097815448d177050bf75796cbb0fad7647db28a1350e5", func := "countermand/countermandlaw12.ReadsStays", spec := "readsStays", unfollowed := true, recurses := true, apart := false, narrowed := true }
def ReadsStaysUptoSaid : Prop := readsStaysUptoRow.holds Try.pinned (OpenSpec.upto readsStaysSpec)

/-- 'countermandlaw12.ReadsNotes', WHERE WHAT IT READS IS OF BULK AT MOST 1048576: true; the input reads as it did. -/
def readsNotesUptoRow : OpenClaim := { program := "ytfoefgckjaafnaa", sum := "4e14e521923b51e26ed097815448d177050bf75796cbb0fad7647db28a1350e5", func := "countermand/countermandlaw12.ReadsNotes", spec := "readsNotes", unfollowed := true, recurses := true, apart := false, narrowed := true }
def ReadsNotesUptoSaid : Prop := readsNotesUptoRow.holds Try.pinned (OpenSpec.upto readsNotesSpec)

/-- 'countermandlaw12.ReadsOnce', WHERE WHAT IT READS IS OF BULK AT MOST 1048576: true; the input reads as it did. -/
def readsOnceUptoRow : OpenClaim := { program := "ytfoefgckjaafnaa", sum := "4e14e521923b51e26ed097815448d177050bf75796cbb0fad7647db28a1350e5", func := "countermand/countermandlaw12.ReadsOnce", spec := "readsOnce", unfollowed := true, recurses := true, apart := false, narrowed := true }
def ReadsOnceUptoSaid : Prop := readsOnceUptoRow.holds Try.pinned (OpenSpec.upto readsOnceSpec)

/-- 'countermandlaw12.ReadsOrder', WHERE WHAT IT READS IS OF BULK AT MOST 1048576: true; the input reads as it did. -/
def readsOrderUptoRow : OpenClaim := { program := "ytfoefgckjaafnaa", sum := "4e14e521923b51e26ed097815448d177050bf75796cbb0fad7647db28a1350e5", func := "countermand/countermandlaw12.ReadsOrder", spec := "readsOrder", unfollowed := true, recurses := true, apart := false, narrowed := true }
def ReadsOrderUptoSaid : Prop := readsOrderUptoRow.holds Try.pinned (OpenSpec.upto readsOrderSpec)

/-- 'countermandlaw07.CodeChecks', WHERE WHAT IT READS IS OF BULK AT MOST 1048576: true; the input reads as it did. -/
def codeChecksUptoRow : OpenClaim := { program := "ytfoefgckjaafnaa", sum := "4e14e521923b51e26ed097815448d177050bf75796cbb0fad7647db28a1350e5", func := "countermand/countermandlaw07.CodeChecks", spec := "codeChecks", apart := false, narrowed := true }
def CodeChecksUptoSaid : Prop := codeChecksUptoRow.holds Try.pinned (OpenSpec.upto codeChecksSpec)

/-- 'countermandlaw07.CodeOn', WHERE WHAT IT READS IS OF BULK AT MOST 1048576: true; the input reads as it did. -/
def codeOnUptoRow : OpenClaim := { program := "ytfoefgckjaafnaa", sum := "4e14e521923b51e26ed097815448d177050bf75796cbb0fad7647db28a1350e5", func := "countermand/countermandlaw07.CodeOn", spec := "codeOn", apart := false, narrowed := true }
def CodeOnUptoSaid : Prop := codeOnUptoRow.holds Try.pinned (OpenSpec.upto codeOnSpec)

/-- 'countermandlaw07.CodeBlocks', WHERE WHAT IT READS IS OF BULK AT MOST 1048576: true; the input reads as it did. -/
def codeBlocksUptoRow : OpenClaim := { program := "ytfoefgckjaafnaa", sum := "4e14e521923b51e26ed097815448d177050bf75796cbb0fad7647db28a1350e5", func := "countermand/countermandlaw07.CodeBlocks", spec := "codeBlocks", apart := false, narrowed := true }
def CodeBlocksUptoSaid : Prop := codeBlocksUptoRow.holds Try.pinned (OpenSpec.upto codeBlocksSpec)

/-- 'countermandlaw07.CodeInev', WHERE WHAT IT READS IS OF BULK AT MOST 1048576: true; the input reads as it did. -/
def codeInevUptoRow : OpenClaim := { program := "ytfoefgckjaafnaa", sum := "4e14e521923b51e26ed097815448d177050bf75796cbb0fad7647db28a1350e5", func := "countermand/countermandlaw07.CodeInev", spec := "codeInev", apart := false, narrowed := true }
def CodeInevUptoSaid : Prop := codeInevUptoRow.holds Try.pinned (OpenSpec.upto codeInevSpec)

/-- 'countermandlaw07.CodeShifts', WHERE WHAT IT READS IS OF BULK AT MOST 1048576: true; the input reads as it did. -/
def codeShiftsUptoRow : OpenClaim := { program := "ytfoefgckjaafnaa", sum := "4e14e521923b51e26ed097815448d177050bf75796cbb0fad7647db28a1350e5", func := "countermand/countermandlaw07.CodeShifts", spec := "codeShifts", apart := false, narrowed := true }
def CodeShiftsUptoSaid : Prop := codeShiftsUptoRow.holds Try.pinned (OpenSpec.upto codeShiftsSpec)

/-- 'countermandlaw07.CodeFirst', WHERE WHAT IT READS IS OF BULK AT MOST 1048576: true; the input reads as it did. -/
def codeFirstUptoRow : OpenClaim := { program := "ytfoefgckjaafnaa", sum := "4e14e521923b51e26ed097815448d177050bf75796cbb0fad7647db28a1350e5", func := "countermand/countermandlaw07.CodeFirst", spec := "codeFirst", apart := false, narrowed := true }
def CodeFirstUptoSaid : Prop := codeFirstUptoRow.holds Try.pinned (OpenSpec.upto codeFirstSpec)

end Rows
end Go.Proofs.Ytfoefgckjaafnaa
