/-
  No cell of these rows narrows 'for every input' (looked for: loops, veiled, ifaces, maps, wideKeys, modest, calm, conditions, laid).
  DERIVED. THE GIVEN ROWS OF THIS SEAT. 11 by the template 'for every input the law returns true; each argument reads behind the call as it read before'; 0 by the template 'total and deterministic' (their statements: YtodffnchcbapcaaTotals.lean).
  GIVEN WITH THE SEED: the statements are not yours to turn. If you find one false, say at which input.
  Laid BY PROGRAM, IN A SANDBOX (cutbox-rows.mjs): the forced cells as the released guide's own fill.sh prints them over the translation 11da96f5f4bcccd4… (all of the seat's roots in one cut). By AI agents, Wed Nov 11 2026. No macro, syntax, notation, axiom, sorry.
-/
import Derived.Test.YtodffnchcbapcaaChecked
import GoSem.Claim
import GoSem.ClaimJoined
import GoSem.ClaimMapViews
import Derived.JoinedTies
import Derived.KernelRfl
namespace Go.Proofs.Ytodffnchcbapcaa
/- THE CELL 'sum', in the pinned program and in every row, IS THE sha256 OF THE DUMP (.gsa) THAT YtodffnchcbapcaaProg.lean LOADS. Nothing in Lean hashes anything: it is a label: what it is worth is what the hold of that sum in a sandbox is worth. -/
noncomputable def Try.pinned : Pinned := { name := "ytodffnchcbapcaa", sum := "11da96f5f4bcccd45cf4d66d3a7c6a75d56670b61a34385f259381a6445abdc9", checked := Try.checked }
namespace Rows
def none {H : Type} : Left H := { results := [], args := [] }

/-- 'countermandlaw06.WireOrder': WHATEVER THE INPUT: true; the input reads as it did. -/
def wireOrderSpec : ChangeSpec := { name := "wireOrder", fn := fun _ => fun
  | [d1, d2] => { results := [.lit (.bool true)], args := [d1, d2] }
  | _ => none }
def wireOrderRow : OpenClaim := { program := "ytodffnchcbapcaa", sum := "11da96f5f4bcccd45cf4d66d3a7c6a75d56670b61a34385f259381a6445abdc9", func := "countermand/countermandlaw06.WireOrder", spec := "wireOrder", apart := false }
def WireOrderSaid : Prop := wireOrderRow.holds Try.pinned (OpenSpec.ofChange wireOrderSpec)

/-- ITS FALSE NEIGHBOUR: 'it returns false'. Refute it at one input. -/
def wireOrderWrong : ChangeSpec := { name := "wireOrder", fn := fun _ => fun
  | [d1, d2] => { results := [.lit (.bool false)], args := [d1, d2] }
  | _ => none }
def WireOrderWrongFalsely : Prop := wireOrderRow.holds Try.pinned (OpenSpec.ofChange wireOrderWrong)

/-- 'countermandlaw06.WireEmpties': WHATEVER THE INPUT: true; the input reads as it did. -/
def wireEmptiesSpec : ChangeSpec := { name := "wireEmpties", fn := fun _ => fun
  | [d1, d2, d3] => { results := [.lit (.bool true)], args := [d1, d2, d3] }
  | _ => none }
def wireEmptiesRow : OpenClaim := { program := "ytodffnchcbapcaa", sum := "11da96f5f4bcccd45cf4d66d3a7c6a75d56670b61a34385f259381a6445abdc9", func := "countermand/countermandlaw06.WireEmpties", spec := "wireEmpties", apart := false }
def WireEmptiesSaid : Prop := wireEmptiesRow.holds Try.pinned (OpenSpec.ofChange wireEmptiesSpec)

/-- ITS FALSE NEIGHBOUR: 'it returns false'. Refute it at one input. -/
def wireEmptiesWrong : ChangeSpec := { name := "wireEmpties", fn := fun _ => fun
  | [d1, d2, d3] => { results := [.lit (.bool false)], args := [d1, d2, d3] }
  | _ => none }
def WireEmptiesWrongFalsely : Prop := wireEmptiesRow.holds Try.pinned (OpenSpec.ofChange wireEmptiesWrong)

/-- 'countermandlaw06.WireRoom': WHATEVER THE INPUT: true; the input reads as it did. -/
def wireRoomSpec : ChangeSpec := { name := "wireRoom", fn := fun _ => fun
  | [d1, d2, d3] => { results := [.lit (.bool true)], args := [d1, d2, d3] }
  | _ => none }
def wireRoomRow : OpenClaim := { program := "ytodffnchcbapcaa", sum := "11da96f5f4bcccd45cf4d66d3a7c6a75d56670b61a34385f259381a6445abdc9", func := "countermand/countermandlaw06.WireRoom", spec := "wireRoom", apart := false }
def WireRoomSaid : Prop := wireRoomRow.holds Try.pinned (OpenSpec.ofChange wireRoomSpec)

/-- ITS FALSE NEIGHBOUR: 'it returns false'. Refute it at one input. -/
def wireRoomWrong : ChangeSpec := { name := "wireRoom", fn := fun _ => fun
  | [d1, d2, d3] => { results := [.lit (.bool false)], args := [d1, d2, d3] }
  | _ => none }
def WireRoomWrongFalsely : Prop := wireRoomRow.holds Try.pinned (OpenSpec.ofChange wireRoomWrong)

/-- 'countermandlaw06.WireDoes': WHATEVER THE INPUT: true; the input reads as it did. -/
def wireDoesSpec : ChangeSpec := { name := "wireDoes", fn := fun _ => fun
  | [d] => { results := [.lit (.bool true)], args := [d] }
  | _ => none }
def wireDoesRow : OpenClaim := { program := "ytodffnchcbapcaa", sum := "11da96f5f4bcccd45cf4d66d3a7c6a75d56670b61a34385f259381a6445abdc9", func := "countermand/countermandlaw06.WireDoes", spec := "wireDoes", apart := false }
def WireDoesSaid : Prop := wireDoesRow.holds Try.pinned (OpenSpec.ofChange wireDoesSpec)

/-- ITS FALSE NEIGHBOUR: 'it returns false'. Refute it at one input. -/
def wireDoesWrong : ChangeSpec := { name := "wireDoes", fn := fun _ => fun
  | [d] => { results := [.lit (.bool false)], args := [d] }
  | _ => none }
def WireDoesWrongFalsely : Prop := wireDoesRow.holds Try.pinned (OpenSpec.ofChange wireDoesWrong)

/-- 'countermandlaw06.WireApart': WHATEVER THE INPUT: true; the input reads as it did. -/
def wireApartSpec : ChangeSpec := { name := "wireApart", fn := fun _ => fun
  | [d1, d2] => { results := [.lit (.bool true)], args := [d1, d2] }
  | _ => none }
def wireApartRow : OpenClaim := { program := "ytodffnchcbapcaa", sum := "11da96f5f4bcccd45cf4d66d3a7c6a75d56670b61a34385f259381a6445abdc9", func := "countermand/countermandlaw06.WireApart", spec := "wireApart", apart := false }
def WireApartSaid : Prop := wireApartRow.holds Try.pinned (OpenSpec.ofChange wireApartSpec)

/-- ITS FALSE NEIGHBOUR: 'it returns false'. Refute it at one input. -/
def wireApartWrong : ChangeSpec := { name := "wireApart", fn := fun _ => fun
  | [d1, d2] => { results := [.lit (.bool false)], args := [d1, d2] }
  | _ => none }
def WireApartWrongFalsely : Prop := wireApartRow.holds Try.pinned (OpenSpec.ofChange wireApartWrong)

/-- 'countermandlaw03.DiskMore': WHATEVER THE INPUT: true; the input reads as it did. -/
def diskMoreSpec : ChangeSpec := { name := "diskMore", fn := fun _ => fun
  | [d1, d2, d3] => { results := [.lit (.bool true)], args := [d1, d2, d3] }
  | _ => none }
def diskMoreRow : OpenClaim := { program := "ytodffnchcbapcaa", sum := "11da96f5f4bcccd45cf4d66d3a7c6a75d56670b61a34385f259381a6445abdc9", func := "countermand/countermandlaw03.DiskMore", spec := "diskMore", apart := false }
def DiskMoreSaid : Prop := diskMoreRow.holds Try.pinned (OpenSpec.ofChange diskMoreSpec)

/-- ITS FALSE NEIGHBOUR: 'it returns false'. Refute it at one input. -/
def diskMoreWrong : ChangeSpec := { name := "diskMore", fn := fun _ => fun
  | [d1, d2, d3] => { results := [.lit (.bool false)], args := [d1, d2, d3] }
  | _ => none }
def DiskMoreWrongFalsely : Prop := diskMoreRow.holds Try.pinned (OpenSpec.ofChange diskMoreWrong)

/-- 'countermandlaw03.DiskSynced': WHATEVER THE INPUT: true; the input reads as it did. -/
def diskSyncedSpec : ChangeSpec := { name := "diskSynced", fn := fun _ => fun
  | [d1, d2, d3] => { results := [.lit (.bool true)], args := [d1, d2, d3] }
  | _ => none }
def diskSyncedRow : OpenClaim := { program := "ytodffnchcbapcaa", sum := "11da96f5f4bcccd45cf4d66d3a7c6a75d56670b61a34385f259381a6445abdc9", func := "countermand/countermandlaw03.DiskSynced", spec := "diskSynced", apart := false }
def DiskSyncedSaid : Prop := diskSyncedRow.holds Try.pinned (OpenSpec.ofChange diskSyncedSpec)

/-- ITS FALSE NEIGHBOUR: 'it returns false'. Refute it at one input. -/
def diskSyncedWrong : ChangeSpec := { name := "diskSynced", fn := fun _ => fun
  | [d1, d2, d3] => { results := [.lit (.bool false)], args := [d1, d2, d3] }
  | _ => none }
def DiskSyncedWrongFalsely : Prop := diskSyncedRow.holds Try.pinned (OpenSpec.ofChange diskSyncedWrong)

/-- 'countermandlaw03.DiskApart': WHATEVER THE INPUT: true; the input reads as it did. -/
def diskApartSpec : ChangeSpec := { name := "diskApart", fn := fun _ => fun
  | [d] => { results := [.lit (.bool true)], args := [d] }
  | _ => none }
def diskApartRow : OpenClaim := { program := "ytodffnchcbapcaa", sum := "11da96f5f4bcccd45cf4d66d3a7c6a75d56670b61a34385f259381a6445abdc9", func := "countermand/countermandlaw03.DiskApart", spec := "diskApart", apart := false }
def DiskApartSaid : Prop := diskApartRow.holds Try.pinned (OpenSpec.ofChange diskApartSpec)

/-- ITS FALSE NEIGHBOUR: 'it returns false'. Refute it at one input. -/
def diskApartWrong : ChangeSpec := { name := "diskApart", fn := fun _ => fun
  | [d] => { results := [.lit (.bool false)], args := [d] }
  | _ => none }
def DiskApartWrongFalsely : Prop := diskApartRow.holds Try.pinned (OpenSpec.ofChange diskApartWrong)

/-- 'countermandlaw03.DiskDoes': WHATEVER THE INPUT: true; the input reads as it did. -/
def diskDoesSpec : ChangeSpec := { name := "diskDoes", fn := fun _ => fun
  | [d1, d2] => { results := [.lit (.bool true)], args := [d1, d2] }
  | _ => none }
def diskDoesRow : OpenClaim := { program := "ytodffnchcbapcaa", sum := "11da96f5f4bcccd45cf4d66d3a7c6a75d56670b61a34385f259381a6445abdc9", func := "countermand/countermandlaw03.DiskDoes", spec := "diskDoes", apart := false }
def DiskDoesSaid : Prop := diskDoesRow.holds Try.pinned (OpenSpec.ofChange diskDoesSpec)

/-- ITS FALSE NEIGHBOUR: 'it returns false'. Refute it at one input. -/
def diskDoesWrong : ChangeSpec := { name := "diskDoes", fn := fun _ => fun
  | [d1, d2] => { results := [.lit (.bool false)], args := [d1, d2] }
  | _ => none }
def DiskDoesWrongFalsely : Prop := diskDoesRow.holds Try.pinned (OpenSpec.ofChange diskDoesWrong)

/-- 'countermandlaw03.DiskKeeps': WHATEVER THE INPUT: true; the input reads as it did. -/
def diskKeepsSpec : ChangeSpec := { name := "diskKeeps", fn := fun _ => fun
  | [d1, d2, d3] => { results := [.lit (.bool true)], args := [d1, d2, d3] }
  | _ => none }
def diskKeepsRow : OpenClaim := { program := "ytodffnchcbapcaa", sum := "11da96f5f4bcccd45cf4d66d3a7c6a75d56670b61a34385f259381a6445abdc9", func := "countermand/countermandlaw03.DiskKeeps", spec := "diskKeeps", apart := false }
def DiskKeepsSaid : Prop := diskKeepsRow.holds Try.pinned (OpenSpec.ofChange diskKeepsSpec)

/-- ITS FALSE NEIGHBOUR: 'it returns false'. Refute it at one input. -/
def diskKeepsWrong : ChangeSpec := { name := "diskKeeps", fn := fun _ => fun
  | [d1, d2, d3] => { results := [.lit (.bool false)], args := [d1, d2, d3] }
  | _ => none }
def DiskKeepsWrongFalsely : Prop := diskKeepsRow.holds Try.pinned (OpenSpec.ofChange diskKeepsWrong)

/-- 'countermandlaw03.DiskCopies': WHATEVER THE INPUT: true; the input reads as it did. -/
def diskCopiesSpec : ChangeSpec := { name := "diskCopies", fn := fun _ => fun
  | [d1, d2] => { results := [.lit (.bool true)], args := [d1, d2] }
  | _ => none }
def diskCopiesRow : OpenClaim := { program := "ytodffnchcbapcaa", sum := "11da96f5f4bcccd45cf4d66d3a7c6a75d56670b61a34385f259381a6445abdc9", func := "countermand/countermandlaw03.DiskCopies", spec := "diskCopies", apart := false }
def DiskCopiesSaid : Prop := diskCopiesRow.holds Try.pinned (OpenSpec.ofChange diskCopiesSpec)

/-- ITS FALSE NEIGHBOUR: 'it returns false'. Refute it at one input. -/
def diskCopiesWrong : ChangeSpec := { name := "diskCopies", fn := fun _ => fun
  | [d1, d2] => { results := [.lit (.bool false)], args := [d1, d2] }
  | _ => none }
def DiskCopiesWrongFalsely : Prop := diskCopiesRow.holds Try.pinned (OpenSpec.ofChange diskCopiesWrong)

/- THE SECOND FORM. 'bulk': how many values and letters a reading holds, each counted each time it is reached (what is shared counts as often as it is met; a slice's spare places count too). A statement '..UptoSaid' is the law's where the arguments, and the package variables that the reading takes, are together of bulk at most 1048576: NARROWER than '..Said'. Prove '..Said' where nothing that the law and all that it calls make is longer than what came in: it says more and counts as full. Else prove '..UptoSaid'. A law counts once. -/
mutual
def uptoBulk {H : Type} : DataW H → Nat
  | .lit (.string bytes) => bytes.length + 1
  | .lit _ => 1
  | .nil => 1
  | .ptr d => uptoBulk d + 1
  | .slice elems spare => uptoBulkAll elems + uptoBulkAll spare + 1
  | .agg parts => uptoBulkAll parts + 1
  | .iface _ d => uptoBulk d + 1
  | .map entries => uptoBulkEntries entries + 1
  | .held _ => 1
def uptoBulkAll {H : Type} : List (DataW H) → Nat
  | [] => 0
  | d :: r => uptoBulk d + uptoBulkAll r
def uptoBulkEntries {H : Type} : List (Lit × DataW H) → Nat
  | [] => 0
  | x :: r => uptoBulkEntry x + uptoBulkEntries r
def uptoBulkEntry {H : Type} : Lit × DataW H → Nat
  | (.string bytes, d) => bytes.length + uptoBulk d + 1
  | (_, d) => uptoBulk d + 1
 end
def uptoSmall : (H : Type) → List (DataW H) → Bool := fun _ ds => decide (uptoBulkAll ds ≤ 1048576)
def OpenSpec.upto (s : _root_.Go.ChangeSpec) : _root_.Go.OpenSpec := { _root_.Go.OpenSpec.ofChange s with cond := some uptoSmall }

/-- 'countermandlaw06.WireOrder', WHERE WHAT IT READS IS OF BULK AT MOST 1048576: true; the input reads as it did. -/
def wireOrderUptoRow : OpenClaim := { program := "ytodffnchcbapcaa", sum := "11da96f5f4bcccd45cf4d66d3a7c6a75d56670b61a34385f259381a6445abdc9", func := "countermand/countermandlaw06.WireOrder", spec := "wireOrder", apart := false, narrowed := true }
def WireOrderUptoSaid : Prop := wireOrderUptoRow.holds Try.pinned (OpenSpec.upto wireOrderSpec)

/-- 'countermandlaw06.WireEmpties', WHERE WHAT IT READS IS OF BULK AT MOST 1048576: true; the input reads as it did. -/
def wireEmptiesUptoRow : OpenClaim := { program := "ytodffnchcbapcaa", sum := "11da96f5f4bcccd45cf4d66d3a7c6a75d56670b61a34385f259381a6445abdc9", func := "countermand/countermandlaw06.WireEmpties", spec := "wireEmpties", apart := false, narrowed := true }
def WireEmptiesUptoSaid : Prop := wireEmptiesUptoRow.holds Try.pinned (OpenSpec.upto wireEmptiesSpec)

/-- 'countermandlaw06.WireRoom', WHERE WHAT IT READS IS OF BULK AT MOST 1048576: true; the input reads as it did. -/
def wireRoomUptoRow : OpenClaim := { program := "ytodffnchcbapcaa", sum := "11da96f5f4bcccd45cf4d66d3a7c6a75d56670b61a34385f259381a6445abdc9", func := "countermand/countermandlaw06.WireRoom", spec := "wireRoom", apart := false, narrowed := true }
def WireRoomUptoSaid : Prop := wireRoomUptoRow.holds Try.pinned (OpenSpec.upto wireRoomSpec)

/-- 'countermandlaw06.WireDoes', WHERE WHAT IT READS IS OF BULK AT MOST 1048576: true; the input reads as it did. -/
def wireDoesUptoRow : OpenClaim := { program := "ytodffnchcbapcaa", sum := "11da96f5f4bcccd45cf4d66d3a7c6a75d56670b61a34385f259381a6445abdc9", func := "countermand/countermandlaw06.WireDoes", spec := "wireDoes", apart := false, narrowed := true }
def WireDoesUptoSaid : Prop := wireDoesUptoRow.holds Try.pinned (OpenSpec.upto wireDoesSpec)

/-- 'countermandlaw06.WireApart', WHERE WHAT IT READS IS OF BULK AT MOST 1048576: true; the input reads as it did. -/
def wireApartUptoRow : OpenClaim := { program := "ytodffnchcbapcaa", sum := "11da96f5f4bcccd45cf4d66d3a7c6a75d56670b61a34385f259381a6445abdc9", func := "countermand/countermandlaw06.WireApart", spec := "wireApart", apart := false, narrowed := true }
def WireApartUptoSaid : Prop := wireApartUptoRow.holds Try.pinned (OpenSpec.upto wireApartSpec)

/-- 'countermandlaw03.DiskMore', WHERE WHAT IT READS IS OF BULK AT MOST 1048576: true; the input reads as it did. -/
def diskMoreUptoRow : OpenClaim := { program := "ytodffnchcbapcaa", sum := "11da96f5f4bcccd45cf4d66d3a7c6a75d56670b61a34385f259381a6445abdc9", func := "countermand/countermandlaw03.DiskMore", spec := "diskMore", apart := false, narrowed := true }
def DiskMoreUptoSaid : Prop := diskMoreUptoRow.holds Try.pinned (OpenSpec.upto diskMoreSpec)

/-- 'countermandlaw03.DiskSynced', WHERE WHAT IT READS IS OF BULK AT MOST 1048576: true; the input reads as it did. -/
def diskSyncedUptoRow : OpenClaim := { program := "ytodffnchcbapcaa", sum := "11da96f5f4bcccd45cf4d66d3a7c6a75d56670b61a34385f259381a6445abdc9", func := "countermand/countermandlaw03.DiskSynced", spec := "diskSynced", apart := false, narrowed := true }
def DiskSyncedUptoSaid : Prop := diskSyncedUptoRow.holds Try.pinned (OpenSpec.upto diskSyncedSpec)

/-- 'countermandlaw03.DiskApart', WHERE WHAT IT READS IS OF BULK AT MOST 1048576: true; the input reads as it did. -/
def diskApartUptoRow : OpenClaim := { program := "ytodffnchcbapcaa", sum := "11da96f5f4bcccd45cf4d66d3a7c6a75d56670b61a34385f259381a6445abdc9", func := "countermand/countermandlaw03.DiskApart", spec := "diskApart", apart := false, narrowed := true }
def DiskApartUptoSaid : Prop := diskApartUptoRow.holds Try.pinned (OpenSpec.upto diskApartSpec)

/-- 'countermandlaw03.DiskDoes', WHERE WHAT IT READS IS OF BULK AT MOST 1048576: true; the input reads as it did. -/
def diskDoesUptoRow : OpenClaim := { program := "ytodffnchcbapcaa", sum := "11da96f5f4bcccd45cf4d66d3a7c6a75d56670b61a34385f259381a6445abdc9", func := "countermand/countermandlaw03.DiskDoes", spec := "diskDoes", apart := false, narrowed := true }
def DiskDoesUptoSaid : Prop := diskDoesUptoRow.holds Try.pinned (OpenSpec.upto diskDoesSpec)

/-- 'countermandlaw03.DiskKeeps', WHERE WHAT IT READS IS OF BULK AT MOST 1048576: true; the input reads as it did. -/
def diskKeepsUptoRow : OpenClaim := { program := "ytodffnchcbapcaa", sum := "11da96f5f4bcccd45cf4d66d3a7c6a75d56670b61a34385f259381a6445abdc9", func := "countermand/countermandlaw03.DiskKeeps", spec := "diskKeeps", apart := false, narrowed := true }
def DiskKeepsUptoSaid : Prop := diskKeepsUptoRow.holds Try.pinned (OpenSpec.upto diskKeepsSpec)

/-- 'countermandlaw03.DiskCopies', WHERE WHAT IT READS IS OF BULK AT MOST 1048576: true; the input reads as it did. -/
def diskCopiesUptoRow : OpenClaim := { program := "ytodffnchcbapcaa", sum := "11da96f5f4bcccd45cf4d66d3a7c6a75d56670b61a34385f259381a6445abdc9", func := "countermand/countermandlaw03.DiskCopies", spec := "diskCopies", apart := false, narrowed := true }
def DiskCopiesUptoSaid : Prop := diskCopiesUptoRow.holds Try.pinned (OpenSpec.upto diskCopiesSpec)

end Rows
end Go.Proofs.Ytodffnchcbapcaa
