/- Written by a program of this session, which began as the kit's print and is turned in wip/printer: the plain form of each function, and that the Go code comes to it. -/
import Derived.Test.YtodffnchcbapcaaRows
import Derived.Test.YtodffnchcbapcaaPWireDoesx3
import Derived.Test.YtodffnchcbapcaaPureWireDoes
import Derived.WalkKit
import Derived.ProofKit
import Derived.OpenShut
import Derived.ShutString
import Derived.ChangeOld
import Derived.Below
import Derived.SizedLaws
import Derived.Test.YtodffnchcbapcaaWSized
import Derived.Test.YtodffnchcbapcaaOpen
namespace Go.Proofs.Ytodffnchcbapcaa.wireDoes
open Go.ChangeShapes Go.WideShapes Go.ChangeAt Go.RowKit
open Go.ChangeMaps (open_string shut_string)
set_option linter.unusedVariables false
theorem own : ownKnob Try.prog.godebug = none := by kernel_rfl
theorem laidOut : laidOutB Try.prog = true := by kernel_rfl
def IsRow (k : IntKind) (w : World) (a : Option Addr) (len cap : Nat) (zs : List Int) : Prop :=
  (a = none ∧ len = 0 ∧ cap = 0 ∧ zs = []) ∨
  ∃ x, a = some x ∧ len ≤ cap ∧ cap ≤ maxLen ∧ zs.length = cap ∧ (∀ i, i < zs.length → w.cell? (x.add i) = some (.int k (zs.getD i 0))) ∧ ∀ n ∈ zs, (Lit.int k n).wf = true
open Go.Proofs.Ytodffnchcbapcaa.PWireDoes Go.Proofs.YtodffnchcbapcaaW.PrintWords
theorem opens29 : Open.Opens Try.prog 29 k29 (fun x => (Lit.int .i64 x.f0).wf = true ∧ (Lit.int .i64 x.f1).wf = true ∧ x.f2.size ≤ maxLen ∧ (Lit.int .i64 x.f3).wf = true) := by
  intro H enc w spare held fuel cs x h
  obtain ⟨hl, n, hf⟩ := Open.field_of Try.underlying29 h
  have hl' : cs.length = 4 := hl.trans (by kernel_rfl)
  obtain ⟨c0, c1, c2, c3, rfl⟩ : ∃ c0 c1 c2 c3, cs = [c0, c1, c2, c3] := by
    match cs, hl' with
    | [c0, c1, c2, c3], _ => exact ⟨c0, c1, c2, c3, rfl⟩
  obtain ⟨y0, hy0⟩ := hf 0 _ rfl
  have k0 : Try.prog.cellsOf 3 = 1 := by kernel_rfl
  replace hy0 : DataW.trod enc Try.prog w 0 spare held n 3 (List.take (Try.prog.cellsOf 3) (List.drop 0 [c0, c1, c2, c3])) = some y0 := hy0
  replace hy0 : DataW.trod enc Try.prog w 0 spare held n 3 [c0] = some y0 := by rw [k0] at hy0; exact hy0
  obtain ⟨v0, rfl, g0⟩ := Open.Opens.int1 Try.underlying3 hy0
  obtain ⟨y1, hy1⟩ := hf 1 _ rfl
  have k1 : Try.prog.cellsOf 3 = 1 := by kernel_rfl
  replace hy1 : DataW.trod enc Try.prog w 0 spare held n 3 (List.take (Try.prog.cellsOf 3) (List.drop 1 [.int .i64 v0, c1, c2, c3])) = some y1 := hy1
  replace hy1 : DataW.trod enc Try.prog w 0 spare held n 3 [c1] = some y1 := by rw [k1] at hy1; exact hy1
  obtain ⟨v1, rfl, g1⟩ := Open.Opens.int1 Try.underlying3 hy1
  obtain ⟨y2, hy2⟩ := hf 2 _ rfl
  have k2 : Try.prog.cellsOf 9 = 1 := by kernel_rfl
  replace hy2 : DataW.trod enc Try.prog w 0 spare held n 9 (List.take (Try.prog.cellsOf 9) (List.drop 2 [.int .i64 v0, .int .i64 v1, c2, c3])) = some y2 := hy2
  replace hy2 : DataW.trod enc Try.prog w 0 spare held n 9 [c2] = some y2 := by rw [k2] at hy2; exact hy2
  obtain ⟨v2, rfl, g2⟩ := Open.Opens.string1 Try.underlying9 hy2
  obtain ⟨y3, hy3⟩ := hf 3 _ rfl
  have k3 : Try.prog.cellsOf 3 = 1 := by kernel_rfl
  replace hy3 : DataW.trod enc Try.prog w 0 spare held n 3 (List.take (Try.prog.cellsOf 3) (List.drop 3 [.int .i64 v0, .int .i64 v1, .string v2, c3])) = some y3 := hy3
  replace hy3 : DataW.trod enc Try.prog w 0 spare held n 3 [c3] = some y3 := by rw [k3] at hy3; exact hy3
  obtain ⟨v3, rfl, g3⟩ := Open.Opens.int1 Try.underlying3 hy3
  exact ⟨⟨v0, v1, v2, v3⟩, k29_mk w _, ⟨g0, g1, g2, g3⟩⟩
set_option maxRecDepth 100000 in
theorem lifted (os : Os) (started : os.Started) (H : Type) (enc : TypeId × Value → H) :
    ReturnsInHanded {} Try.checked os 6 .any (Rows.wireDoesSpec.pre6 enc Try.prog Try.f6 Rows.wireDoesRow.domain false) (Rows.wireDoesSpec.post enc Try.prog Try.f6 false true false false) := by
  refine returnsInHanded_of_change_sized (C := Try.checked) own started (by kernel_rfl) Try.func6
    (ChangeSpec.witness6 (enc := enc) (C := Try.checked) false ⟨#[], #[.slice none 0 0], []⟩ 8 (by kernel_rfl) (by kernel_rfl) (by kernel_rfl) (by kernel_rfl)) ?_
  intro W base args ds gs before hval0 hW hcnd hsz0 _
  have hsz : (DataW.weightsEach Try.prog (Try.f6.params.toList ++ Rows.wireDoesSpec.plain.varTypes Try.prog) (ds ++ gs)).all (· ≤ reachBytes) = true := hsz0
  have hval : ∀ (j : Nat) t v, Try.f6.params[j]? = some t → args[j]? = some v → Value.okWide Try.prog W .any base t v := hval0
  have hW' := hW
  obtain ⟨p, q, hA0, hV, rfl, hfz, hnd⟩ := hW
  have hA : DataW.TrodAll enc Try.prog W 0 (fun _ => true) true Try.f6.params.toList args.toList ds p := hA0
  rw [Try.params6] at hA hval hsz
  obtain ⟨v0, vs0, d0, ds0, p0, q0, hargs, rfl, rfl, h0, r0⟩ := trodAll_cons hA
  obtain ⟨rfl, rfl, rfl⟩ := trodAll_nil r0
  obtain rfl : args = #[v0] := by cases args; simp_all
  obtain ⟨rfl, rfl⟩ := trodVars_none hV
  obtain ⟨a0, len0, cap0, rfl⟩ := okWide_slice Try.underlying22 (hval 0 22 v0 rfl rfl)
  have k0 := h0
  have lt0 : ∀ x ∈ p0, x.block < W.heap.size := by obtain ⟨m, hm⟩ := k0; exact DataW.trod_lt m _ _ _ hm
  obtain ⟨fuel0, hf0⟩ := h0
  obtain ⟨z0, w0⟩ := Open.open_row Try.underlying22 (by kernel_rfl) opens29 hf0
  clear hA0 hval0 hsz0 hsz
  refine (PWireDoes.countermandlaw06_WireDoes.walk Pure.WireDoes a0 len0 cap0 z0 W w0).mono fun e W' ⟨he, bel⟩ => ?_
  subst he
  exact ⟨_, rfl, _, _, _, [], _, [], hW', trodAll_mk1 (shut_bool Try.underlying4 _), (trodAll_cons_mk (Below.trod laidOut (by kernel_rfl) (of_decide_eq_true (by kernel_rfl)) k0 bel lt0) trodAll_mk0), rfl, bel.frame _, fun h => by cases h⟩
theorem over : Rows.wireDoesRow.holds Try.pinned (OpenSpec.ofChange Rows.wireDoesSpec) :=
  OpenClaim.holds_of_wide 6 Try.f6 rfl rfl rfl rfl rfl rfl rfl ⟨rfl, rfl, rfl, rfl, rfl⟩ rfl rfl rfl rfl rfl (by kernel_rfl) Try.func6 (by kernel_rfl)
    (of_decide_eq_true (by kernel_rfl)) (by unfold Func.isWrapper; first | (rw [if_pos (by decide +kernel)]; kernel_rfl) | (rw [if_neg (by decide +kernel)]; exact ⟨rfl, rfl⟩))
    (fun os started H enc _ => lifted os started H enc)
theorem proved : Rows.WireDoesSaid := over
#print axioms proved
end Go.Proofs.Ytodffnchcbapcaa.wireDoes
namespace Go.Proofs.Ytodffnchcbapcaa
/-- The row, under a short name, for the claim. -/
theorem wireDoes_holds : Rows.WireDoesSaid := wireDoes.proved
end Go.Proofs.Ytodffnchcbapcaa
