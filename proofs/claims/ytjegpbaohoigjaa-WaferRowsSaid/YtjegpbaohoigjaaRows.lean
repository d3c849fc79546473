/-
  No cell of these rows narrows 'for every input' (looked for: loops, veiled, ifaces, maps, wideKeys, modest, calm, conditions, laid).
  DERIVED. THE GIVEN ROWS OF THIS SEAT. 6 by the template 'for every input the law returns true; each argument reads behind the call as it read before'; 0 by the template 'total and deterministic' (their statements: YtjegpbaohoigjaaTotals.lean).
  GIVEN WITH THE SEED: the statements are not yours to turn. If you find one false, say at which input.
  Laid BY PROGRAM, IN A SANDBOX (cutbox-rows.mjs): the forced cells as the released guide's own fill.sh prints them over the translation f4449673085c098e… (all of the seat's roots in one cut). By AI agents, Wed Nov 11 2026. No macro, syntax, notation, axiom, sorry.
-/
import Derived.Test.YtjegpbaohoigjaaChecked
import GoSem.Claim
import GoSem.ClaimJoined
import GoSem.ClaimMapViews
import Derived.JoinedTies
import Derived.KernelRfl
namespace Go.Proofs.Ytjegpbaohoigjaa
/- THE CELL 'sum', in the pinned program and in every row, IS THE sha256 OF THE DUMP (.gsa) THAT YtjegpbaohoigjaaProg.lean LOADS. Nothing in Lean hashes anything: it is a label: what it is worth is what the hold of that sum in a sandbox is worth. -/
noncomputable def Try.pinned : Pinned := { name := "ytjegpbaohoigjaa", sum := "f4449673085c098edbea47a64831c2e5c727beafc3968f00420ef22a5a4bfd83", checked := Try.checked }
namespace Rows
def none {H : Type} : Left H := { results := [], args := [] }

/-- 'countermandlaw02.WaferUnlike': WHATEVER THE INPUT: true; the input reads as it did. -/
def waferUnlikeSpec : ChangeSpec := { name := "waferUnlike", fn := fun _ => fun
  | [d1, d2] => { results := [.lit (.bool true)], args := [d1, d2] }
  | _ => none }
def waferUnlikeRow : OpenClaim := { program := "ytjegpbaohoigjaa", sum := "f4449673085c098edbea47a64831c2e5c727beafc3968f00420ef22a5a4bfd83", func := "countermand/countermandlaw02.WaferUnlike", spec := "waferUnlike", apart := false }
def WaferUnlikeSaid : Prop := waferUnlikeRow.holds Try.pinned (OpenSpec.ofChange waferUnlikeSpec)

/-- ITS FALSE NEIGHBOUR: 'it returns false'. Refute it at one input. -/
def waferUnlikeWrong : ChangeSpec := { name := "waferUnlike", fn := fun _ => fun
  | [d1, d2] => { results := [.lit (.bool false)], args := [d1, d2] }
  | _ => none }
def WaferUnlikeWrongFalsely : Prop := waferUnlikeRow.holds Try.pinned (OpenSpec.ofChange waferUnlikeWrong)

/-- 'countermandlaw02.WaferCloses': WHATEVER THE INPUT: true; the input reads as it did. -/
def waferClosesSpec : ChangeSpec := { name := "waferCloses", fn := fun _ => fun
  | [d1, d2] => { results := [.lit (.bool true)], args := [d1, d2] }
  | _ => none }
def waferClosesRow : OpenClaim := { program := "ytjegpbaohoigjaa", sum := "f4449673085c098edbea47a64831c2e5c727beafc3968f00420ef22a5a4bfd83", func := "countermand/countermandlaw02.WaferCloses", spec := "waferCloses", apart := false }
def WaferClosesSaid : Prop := waferClosesRow.holds Try.pinned (OpenSpec.ofChange waferClosesSpec)

/-- ITS FALSE NEIGHBOUR: 'it returns false'. Refute it at one input. -/
def waferClosesWrong : ChangeSpec := { name := "waferCloses", fn := fun _ => fun
  | [d1, d2] => { results := [.lit (.bool false)], args := [d1, d2] }
  | _ => none }
def WaferClosesWrongFalsely : Prop := waferClosesRow.holds Try.pinned (OpenSpec.ofChange waferClosesWrong)

/-- 'countermandlaw02.WaferOpens': WHATEVER THE INPUT: true; the input reads as it did. -/
def waferOpensSpec : ChangeSpec := { name := "waferOpens", fn := fun _ => fun
  | [d] => { results := [.lit (.bool true)], args := [d] }
  | _ => none }
def waferOpensRow : OpenClaim := { program := "ytjegpbaohoigjaa", sum := "f4449673085c098edbea47a64831c2e5c727beafc3968f00420ef22a5a4bfd83", func := "countermand/countermandlaw02.WaferOpens", spec := "waferOpens", apart := false }
def WaferOpensSaid : Prop := waferOpensRow.holds Try.pinned (OpenSpec.ofChange waferOpensSpec)

/-- ITS FALSE NEIGHBOUR: 'it returns false'. Refute it at one input. -/
def waferOpensWrong : ChangeSpec := { name := "waferOpens", fn := fun _ => fun
  | [d] => { results := [.lit (.bool false)], args := [d] }
  | _ => none }
def WaferOpensWrongFalsely : Prop := waferOpensRow.holds Try.pinned (OpenSpec.ofChange waferOpensWrong)

/-- 'countermandlaw02.WaferTurned': WHATEVER THE INPUT: true; the input reads as it did. -/
def waferTurnedSpec : ChangeSpec := { name := "waferTurned", fn := fun _ => fun
  | [d1, d2, d3] => { results := [.lit (.bool true)], args := [d1, d2, d3] }
  | _ => none }
def waferTurnedRow : OpenClaim := { program := "ytjegpbaohoigjaa", sum := "f4449673085c098edbea47a64831c2e5c727beafc3968f00420ef22a5a4bfd83", func := "countermand/countermandlaw02.WaferTurned", spec := "waferTurned", apart := false }
def WaferTurnedSaid : Prop := waferTurnedRow.holds Try.pinned (OpenSpec.ofChange waferTurnedSpec)

/-- ITS FALSE NEIGHBOUR: 'it returns false'. Refute it at one input. -/
def waferTurnedWrong : ChangeSpec := { name := "waferTurned", fn := fun _ => fun
  | [d1, d2, d3] => { results := [.lit (.bool false)], args := [d1, d2, d3] }
  | _ => none }
def WaferTurnedWrongFalsely : Prop := waferTurnedRow.holds Try.pinned (OpenSpec.ofChange waferTurnedWrong)

/-- 'countermandlaw02.WaferParts': WHATEVER THE INPUT: true; the input reads as it did. -/
def waferPartsSpec : ChangeSpec := { name := "waferParts", fn := fun _ => fun
  | [d1, d2] => { results := [.lit (.bool true)], args := [d1, d2] }
  | _ => none }
def waferPartsRow : OpenClaim := { program := "ytjegpbaohoigjaa", sum := "f4449673085c098edbea47a64831c2e5c727beafc3968f00420ef22a5a4bfd83", func := "countermand/countermandlaw02.WaferParts", spec := "waferParts", inPlace := ["internal/abi.NoEscape"], apart := false }
def WaferPartsSaid : Prop := waferPartsRow.holds Try.pinned (OpenSpec.ofChange waferPartsSpec)

/-- ITS FALSE NEIGHBOUR: 'it returns false'. Refute it at one input. -/
def waferPartsWrong : ChangeSpec := { name := "waferParts", fn := fun _ => fun
  | [d1, d2] => { results := [.lit (.bool false)], args := [d1, d2] }
  | _ => none }
def WaferPartsWrongFalsely : Prop := waferPartsRow.holds Try.pinned (OpenSpec.ofChange waferPartsWrong)

/-- 'countermandlaw02.WaferRows': WHATEVER THE INPUT: true; the input reads as it did. -/
def waferRowsSpec : ChangeSpec := { name := "waferRows", fn := fun _ => fun
  | [d1, d2, d3] => { results := [.lit (.bool true)], args := [d1, d2, d3] }
  | _ => none }
def waferRowsRow : OpenClaim := { program := "ytjegpbaohoigjaa", sum := "f4449673085c098edbea47a64831c2e5c727beafc3968f00420ef22a5a4bfd83", func := "countermand/countermandlaw02.WaferRows", spec := "waferRows", inPlace := ["internal/abi.NoEscape"], unfollowed := true, recurses := true, apart := false }
def WaferRowsSaid : Prop := waferRowsRow.holds Try.pinned (OpenSpec.ofChange waferRowsSpec)

/-- ITS FALSE NEIGHBOUR: 'it returns false'. Refute it at one input. -/
def waferRowsWrong : ChangeSpec := { name := "waferRows", fn := fun _ => fun
  | [d1, d2, d3] => { results := [.lit (.bool false)], args := [d1, d2, d3] }
  | _ => none }
def WaferRowsWrongFalsely : Prop := waferRowsRow.holds Try.pinned (OpenSpec.ofChange waferRowsWrong)

/- THE SECOND FORM. 'bulk': how many values and letters a reading holds, each counted each time it is reached (what is shared counts as often as it is met; a slice's spare places count too). A statement '..UptoSaid' is the law's where the arguments, and the package variables that the reading takes, are together of bulk at most 1048576: NARROWER than '..Said'. Prove '..Said' where nothing that the law and all that it calls make is longer than what came in: it says more and counts as full. Else prove '..UptoSaid'. A law counts once. -/
mutual
def uptoBulk {H : Type} : DataW H → Nat
  | .lit (.string bytes) => bytes.length + 1
  | .lit _ => 1
  | .nil => 1
  | .ptr d => uptoBulk d + 1
  | .slice elems spare => uptoBulkAll elems + uptoBulkAll spare + 1
  | .agg parts => uptoBulkAll parts + 1
  | .iface _ d => uptoBulk d + 1
  | .map entries => uptoBulkEntries entries + 1
  | .held _ => 1
def uptoBulkAll {H : Type} : List (DataW H) → Nat
  | [] => 0
  | d :: r => uptoBulk d + uptoBulkAll r
def uptoBulkEntries {H : Type} : List (Lit × DataW H) → Nat
  | [] => 0
  | x :: r => uptoBulkEntry x + uptoBulkEntries r
def uptoBulkEntry {H : Type} : Lit × DataW H → Nat
  | (.string bytes, d) => bytes.length + uptoBulk d + 1
  | (_, d) => uptoBulk d + 1
 end
def uptoSmall : (H : Type) → List (DataW H) → Bool := fun _ ds => decide (uptoBulkAll ds ≤ 1048576)
def OpenSpec.upto (s : _root_.Go.ChangeSpec) : _root_.Go.OpenSpec := { _root_.Go.OpenSpec.ofChange s with cond := some uptoSmall }

/-- 'countermandlaw02.WaferUnlike', WHERE WHAT IT READS IS OF BULK AT MOST 1048576: true; the input reads as it did. -/
def waferUnlikeUptoRow : OpenClaim := { program := "ytjegpbaohoigjaa", sum := "f4449673085c098edbea47a64831c2e5c727beafc3968f00420ef22a5a4bfd83", func := "countermand/countermandlaw02.WaferUnlike", spec := "waferUnlike", apart := false, narrowed := true }
def WaferUnlikeUptoSaid : Prop := waferUnlikeUptoRow.holds Try.pinned (OpenSpec.upto waferUnlikeSpec)

/-- 'countermandlaw02.WaferCloses', WHERE WHAT IT READS IS OF BULK AT MOST 1048576: true; the input reads as it did. -/
def waferClosesUptoRow : OpenClaim := { program := "ytjegpbaohoigjaa", sum := "f4449673085c098edbea47a64831c2e5c727beafc3968f00420ef22a5a4bfd83", func := "countermand/countermandlaw02.WaferCloses", spec := "waferCloses", apart := false, narrowed := true }
def WaferClosesUptoSaid : Prop := waferClosesUptoRow.holds Try.pinned (OpenSpec.upto waferClosesSpec)

/-- 'countermandlaw02.WaferOpens', WHERE WHAT IT READS IS OF BULK AT MOST 1048576: true; the input reads as it did. -/
def waferOpensUptoRow : OpenClaim := { program := "ytjegpbaohoigjaa", sum := "f4449673085c098edbea47a64831c2e5c727beafc3968f00420ef22a5a4bfd83", func := "countermand/countermandlaw02.WaferOpens", spec := "waferOpens", apart := false, narrowed := true }
def WaferOpensUptoSaid : Prop := waferOpensUptoRow.holds Try.pinned (OpenSpec.upto waferOpensSpec)

/-- 'countermandlaw02.WaferTurned', WHERE WHAT IT READS IS OF BULK AT MOST 1048576: true; the input reads as it did. -/
def waferTurnedUptoRow : OpenClaim := { program := "ytjegpbaohoigjaa", sum := "f4449673085c098edbea47a64831c2e5c727beafc3968f00420ef22a5a4bfd83", func := "countermand/countermandlaw02.WaferTurned", spec := "waferTurned", apart := false, narrowed := true }
def WaferTurnedUptoSaid : Prop := waferTurnedUptoRow.holds Try.pinned (OpenSpec.upto waferTurnedSpec)

/-- 'countermandlaw02.WaferParts', WHERE WHAT IT READS IS OF BULK AT MOST 1048576: true; the input reads as it did. -/
def waferPartsUptoRow : OpenClaim := { program := "ytjegpbaohoigjaa", sum := "f4449673085c098edbea47a64831c2e5c727beafc3968f00420ef22a5a4bfd83", func := "countermand/countermandlaw02.WaferParts", spec := "waferParts", inPlace := ["internal/abi.NoEscape"], apart := false, narrowed := true }
def WaferPartsUptoSaid : Prop := waferPartsUptoRow.holds Try.pinned (OpenSpec.upto waferPartsSpec)

/-- 'countermandlaw02.WaferRows', WHERE WHAT IT READS IS OF BULK AT MOST 1048576: true; the input reads as it did. -/
def waferRowsUptoRow : OpenClaim := { program := "ytjegpbaohoigjaa", sum := "f4449673085c098edbea47a64831c2e5c727beafc3968f00420ef22a5a4bfd83", func := "countermand/countermandlaw02.WaferRows", spec := "waferRows", inPlace := ["internal/abi.NoEscape"], unfollowed := true, recurses := true, apart := false, narrowed := true }
def WaferRowsUptoSaid : Prop := waferRowsUptoRow.holds Try.pinned (OpenSpec.upto waferRowsSpec)

end Rows
end Go.Proofs.Ytjegpbaohoigjaa
