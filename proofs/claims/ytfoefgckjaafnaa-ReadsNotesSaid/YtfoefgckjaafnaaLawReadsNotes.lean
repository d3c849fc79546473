/- Written by a program of this session, which began as the kit's print and is turned in wip/printer: the plain form of each function, and that the Go code comes to it. -/
import Derived.Test.YtfoefgckjaafnaaRows
import Derived.Test.YtfoefgckjaafnaaPReadsNotesx3
import Derived.Test.YtfoefgckjaafnaaPureReadsNotes
import Derived.WalkKit
import Derived.ProofKit
import Derived.OpenShut
import Derived.ShutString
import Derived.ChangeOld
import Derived.Below
import Derived.SizedLaws
import Derived.Test.YtfoefgckjaafnaaWSized
import Derived.Test.YtfoefgckjaafnaaOpen
namespace Go.Proofs.Ytfoefgckjaafnaa.readsNotes
open Go.ChangeShapes Go.WideShapes Go.ChangeAt Go.RowKit
open Go.ChangeMaps (open_string shut_string)
set_option linter.unusedVariables false
theorem own : ownKnob Try.prog.godebug = none := by kernel_rfl
theorem laidOut : laidOutB Try.prog = true := by kernel_rfl
def IsRow (k : IntKind) (w : World) (a : Option Addr) (len cap : Nat) (zs : List Int) : Prop :=
  (a = none ∧ len = 0 ∧ cap = 0 ∧ zs = []) ∨
  ∃ x, a = some x ∧ len ≤ cap ∧ cap ≤ maxLen ∧ zs.length = cap ∧ (∀ i, i < zs.length → w.cell? (x.add i) = some (.int k (zs.getD i 0))) ∧ ∀ n ∈ zs, (Lit.int k n).wf = true
open Go.Proofs.Ytfoefgckjaafnaa.PReadsNotes Go.Proofs.YtfoefgckjaafnaaW.PrintWords
theorem opens24 : Open.Opens Try.prog 24 k24 (fun x => (Lit.int .i64 x.f0).wf = true ∧ (Lit.int .i64 x.f1).wf = true) := by
  intro H enc w spare held fuel cs x h
  obtain ⟨hl, n, hf⟩ := Open.field_of Try.underlying24 h
  have hl' : cs.length = 2 := hl.trans (by kernel_rfl)
  obtain ⟨c0, c1, rfl⟩ : ∃ c0 c1, cs = [c0, c1] := by
    match cs, hl' with
    | [c0, c1], _ => exact ⟨c0, c1, rfl⟩
  obtain ⟨y0, hy0⟩ := hf 0 _ rfl
  have k0 : Try.prog.cellsOf 3 = 1 := by kernel_rfl
  replace hy0 : DataW.trod enc Try.prog w 0 spare held n 3 (List.take (Try.prog.cellsOf 3) (List.drop 0 [c0, c1])) = some y0 := hy0
  replace hy0 : DataW.trod enc Try.prog w 0 spare held n 3 [c0] = some y0 := by rw [k0] at hy0; exact hy0
  obtain ⟨v0, rfl, g0⟩ := Open.Opens.int1 Try.underlying3 hy0
  obtain ⟨y1, hy1⟩ := hf 1 _ rfl
  have k1 : Try.prog.cellsOf 3 = 1 := by kernel_rfl
  replace hy1 : DataW.trod enc Try.prog w 0 spare held n 3 (List.take (Try.prog.cellsOf 3) (List.drop 1 [.int .i64 v0, c1])) = some y1 := hy1
  replace hy1 : DataW.trod enc Try.prog w 0 spare held n 3 [c1] = some y1 := by rw [k1] at hy1; exact hy1
  obtain ⟨v1, rfl, g1⟩ := Open.Opens.int1 Try.underlying3 hy1
  exact ⟨⟨v0, v1⟩, k24_mk w _, ⟨g0, g1⟩⟩
theorem opens34 : Open.Opens Try.prog 34 k34 (fun x => (Lit.int .i64 x.f0.f0).wf = true ∧ (Lit.int .i64 x.f0.f1).wf = true) := by
  intro H enc w spare held fuel cs x h
  obtain ⟨hl, n, hf⟩ := Open.field_of Try.underlying34 h
  have hl' : cs.length = 3 := hl.trans (by kernel_rfl)
  obtain ⟨c0, c1, c2, rfl⟩ : ∃ c0 c1 c2, cs = [c0, c1, c2] := by
    match cs, hl' with
    | [c0, c1, c2], _ => exact ⟨c0, c1, c2, rfl⟩
  obtain ⟨y0, hy0⟩ := hf 0 _ rfl
  have k0 : Try.prog.cellsOf 24 = 2 := by kernel_rfl
  replace hy0 : DataW.trod enc Try.prog w 0 spare held n 24 (List.take (Try.prog.cellsOf 24) (List.drop 0 [c0, c1, c2])) = some y0 := hy0
  replace hy0 : DataW.trod enc Try.prog w 0 spare held n 24 [c0, c1] = some y0 := by rw [k0] at hy0; exact hy0
  obtain ⟨v0, hk0, g0⟩ := opens24 H enc w spare held n _ _ hy0
  have he0 := k24_open hk0
  simp only [List.cons.injEq, and_true] at he0
  obtain ⟨rfl, rfl⟩ := he0
  obtain ⟨y1, hy1⟩ := hf 1 _ rfl
  have k1 : Try.prog.cellsOf 4 = 1 := by kernel_rfl
  replace hy1 : DataW.trod enc Try.prog w 0 spare held n 4 (List.take (Try.prog.cellsOf 4) (List.drop 2 [.int .i64 v0.f0, .int .i64 v0.f1, c2])) = some y1 := hy1
  replace hy1 : DataW.trod enc Try.prog w 0 spare held n 4 [c2] = some y1 := by rw [k1] at hy1; exact hy1
  obtain ⟨v2, rfl⟩ := Open.Opens.bool1 Try.underlying4 hy1
  exact ⟨⟨v0, v2⟩, k34_mk w _, by simp_all⟩
set_option maxRecDepth 100000 in
theorem lifted (os : Os) (started : os.Started) (H : Type) (enc : TypeId × Value → H) :
    ReturnsInHanded {} Try.checked os 4 .any (Rows.readsNotesSpec.pre6 enc Try.prog Try.f4 Rows.readsNotesRow.domain false) (Rows.readsNotesSpec.post enc Try.prog Try.f4 false true false false) := by
  refine returnsInHanded_of_change_sized (C := Try.checked) own started (by kernel_rfl) Try.func4
    (ChangeSpec.witness6 (enc := enc) (C := Try.checked) false ⟨#[], #[.slice none 0 0, .slice none 0 0, .int .i64 0, .int .i64 0], []⟩ 8 (by kernel_rfl) (by kernel_rfl) (by kernel_rfl) (by kernel_rfl)) ?_
  intro W base args ds gs before hval0 hW hcnd hsz0 _
  have hsz : (DataW.weightsEach Try.prog (Try.f4.params.toList ++ Rows.readsNotesSpec.plain.varTypes Try.prog) (ds ++ gs)).all (· ≤ reachBytes) = true := hsz0
  have hval : ∀ (j : Nat) t v, Try.f4.params[j]? = some t → args[j]? = some v → Value.okWide Try.prog W .any base t v := hval0
  have hW' := hW
  obtain ⟨p, q, hA0, hV, rfl, hfz, hnd⟩ := hW
  have hA : DataW.TrodAll enc Try.prog W 0 (fun _ => true) true Try.f4.params.toList args.toList ds p := hA0
  rw [Try.params4] at hA hval hsz
  obtain ⟨v0, vs0, d0, ds0, p0, q0, hargs, rfl, rfl, h0, r0⟩ := trodAll_cons hA
  obtain ⟨v1, vs1, d1, ds1, p1, q1, rfl, rfl, rfl, h1, r1⟩ := trodAll_cons r0
  obtain ⟨v2, vs2, d2, ds2, p2, q2, rfl, rfl, rfl, h2, r2⟩ := trodAll_cons r1
  obtain ⟨v3, vs3, d3, ds3, p3, q3, rfl, rfl, rfl, h3, r3⟩ := trodAll_cons r2
  obtain ⟨rfl, rfl, rfl⟩ := trodAll_nil r3
  obtain rfl : args = #[v0, v1, v2, v3] := by cases args; simp_all
  obtain ⟨rfl, rfl⟩ := trodVars_none hV
  obtain ⟨a0, len0, cap0, rfl⟩ := okWide_slice Try.underlying27 (hval 0 27 v0 rfl rfl)
  have k0 := h0
  have lt0 : ∀ x ∈ p0, x.block < W.heap.size := by obtain ⟨m, hm⟩ := k0; exact DataW.trod_lt m _ _ _ hm
  obtain ⟨fuel0, hf0⟩ := h0
  obtain ⟨z0, w0⟩ := Open.open_row Try.underlying27 (by kernel_rfl) opens24 hf0
  obtain ⟨a1, len1, cap1, rfl⟩ := okWide_slice Try.underlying22 (hval 1 22 v1 rfl rfl)
  have k1 := h1
  have lt1 : ∀ x ∈ p1, x.block < W.heap.size := by obtain ⟨m, hm⟩ := k1; exact DataW.trod_lt m _ _ _ hm
  obtain ⟨fuel1, hf1⟩ := h1
  obtain ⟨z1, w1⟩ := Open.open_row Try.underlying22 (by kernel_rfl) opens34 hf1
  obtain ⟨a2, rfl, rfl, rfl, w2⟩ := open_int Try.underlying3 (hval 2 3 v2 rfl rfl) h2
  obtain ⟨a3, rfl, rfl, rfl, w3⟩ := open_int Try.underlying3 (hval 3 3 v3 rfl rfl) h3
  clear hA0 hval0 hsz0 hsz
  refine (PReadsNotes.countermandlaw12_ReadsNotes.walk Pure.ReadsNotes a0 len0 cap0 z0 a1 len1 cap1 z1 a2 a3 W w0 w1 w2 w3).mono fun e W' ⟨he, bel⟩ => ?_
  subst he
  exact ⟨_, rfl, _, _, _, [], _, [], hW', trodAll_mk1 (shut_bool Try.underlying4 _), (trodAll_cons_mk (Below.trod laidOut (by kernel_rfl) (of_decide_eq_true (by kernel_rfl)) k0 bel lt0) (trodAll_cons_mk (Below.trod laidOut (by kernel_rfl) (of_decide_eq_true (by kernel_rfl)) k1 bel lt1) (trodAll_cons_mk (shut_int Try.underlying3 w2) (trodAll_cons_mk (shut_int Try.underlying3 w3) trodAll_mk0)))), rfl, bel.frame _, fun h => by cases h⟩
theorem over : Rows.readsNotesRow.holds Try.pinned (OpenSpec.ofChange Rows.readsNotesSpec) :=
  OpenClaim.holds_of_wide 4 Try.f4 rfl rfl rfl rfl rfl rfl rfl ⟨rfl, rfl, rfl, rfl, rfl⟩ rfl rfl rfl rfl rfl (by kernel_rfl) Try.func4 (by kernel_rfl)
    (of_decide_eq_true (by kernel_rfl)) (by unfold Func.isWrapper; first | (rw [if_pos (by decide +kernel)]; kernel_rfl) | (rw [if_neg (by decide +kernel)]; exact ⟨rfl, rfl⟩))
    (fun os started H enc _ => lifted os started H enc)
theorem proved : Rows.ReadsNotesSaid := over
#print axioms proved
end Go.Proofs.Ytfoefgckjaafnaa.readsNotes
namespace Go.Proofs.Ytfoefgckjaafnaa
/-- The row, under a short name, for the claim. -/
theorem readsNotes_holds : Rows.ReadsNotesSaid := readsNotes.proved
end Go.Proofs.Ytfoefgckjaafnaa
