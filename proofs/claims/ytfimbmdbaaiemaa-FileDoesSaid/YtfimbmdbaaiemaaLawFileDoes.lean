/- Written by a program of this session, which began as the kit's print and is turned in wip/printer: the plain form of each function, and that the Go code comes to it. -/
import Derived.Test.YtfimbmdbaaiemaaRows
import Derived.Test.YtfimbmdbaaiemaaPFileDoesx5
import Derived.Test.YtfimbmdbaaiemaaPureFileDoes
import Derived.WalkKit
import Derived.ProofKit
import Derived.OpenShut
import Derived.ShutString
import Derived.ChangeOld
import Derived.Below
import Derived.SizedLaws
import Derived.Test.YtfimbmdbaaiemaaOpen
namespace Go.Proofs.Ytfimbmdbaaiemaa.fileDoes
open Go.ChangeShapes Go.WideShapes Go.ChangeAt Go.RowKit
open Go.ChangeMaps (open_string shut_string)
set_option linter.unusedVariables false
theorem own : ownKnob Try.prog.godebug = none := by kernel_rfl
theorem laidOut : laidOutB Try.prog = true := by kernel_rfl
open Go.Proofs.Ytfimbmdbaaiemaa.PFileDoes Go.Proofs.YtfimbmdbaaiemaaW.PrintWords
theorem opens25 : Open.Opens Try.prog 25 k25 (fun x => x.f1.size ≤ maxLen) := by
  intro H enc w spare held fuel cs x h
  obtain ⟨hl, n, hf⟩ := Open.field_of Try.underlying25 h
  have hl' : cs.length = 2 := hl.trans (by kernel_rfl)
  obtain ⟨c0, c1, rfl⟩ : ∃ c0 c1, cs = [c0, c1] := by
    match cs, hl' with
    | [c0, c1], _ => exact ⟨c0, c1, rfl⟩
  obtain ⟨y0, hy0⟩ := hf 0 _ rfl
  have k0 : Try.prog.cellsOf 4 = 1 := by kernel_rfl
  replace hy0 : DataW.trod enc Try.prog w 0 spare held n 4 (List.take (Try.prog.cellsOf 4) (List.drop 0 [c0, c1])) = some y0 := hy0
  replace hy0 : DataW.trod enc Try.prog w 0 spare held n 4 [c0] = some y0 := by rw [k0] at hy0; exact hy0
  obtain ⟨v0, rfl⟩ := Open.Opens.bool1 Try.underlying4 hy0
  obtain ⟨y1, hy1⟩ := hf 1 _ rfl
  have k1 : Try.prog.cellsOf 9 = 1 := by kernel_rfl
  replace hy1 : DataW.trod enc Try.prog w 0 spare held n 9 (List.take (Try.prog.cellsOf 9) (List.drop 1 [.bool v0, c1])) = some y1 := hy1
  replace hy1 : DataW.trod enc Try.prog w 0 spare held n 9 [c1] = some y1 := by rw [k1] at hy1; exact hy1
  obtain ⟨v1, rfl, g1⟩ := Open.Opens.string1 Try.underlying9 hy1
  exact ⟨⟨v0, v1⟩, k25_mk w _, g1⟩
set_option maxRecDepth 100000 in
theorem lifted (os : Os) (started : os.Started) (H : Type) (enc : TypeId × Value → H) :
    ReturnsInHanded {} Try.checked os 11 .any (Rows.fileDoesSpec.pre6 enc Try.prog Try.f11 Rows.fileDoesRow.domain false) (Rows.fileDoesSpec.post enc Try.prog Try.f11 false true false false) := by
  refine returnsInHanded_of_change_sized (C := Try.checked) own started (by kernel_rfl) Try.func11
    (ChangeSpec.witness6 (enc := enc) (C := Try.checked) false ⟨#[], #[.agg #[.bool false, .string ByteArray.empty], .int .i64 0, .int .u8 0], []⟩ 8 (by kernel_rfl) (by kernel_rfl) (by kernel_rfl) (by kernel_rfl)) ?_
  intro W base args ds gs before hval0 hW hcnd hsz0 _
  have hsz : (DataW.weightsEach Try.prog (Try.f11.params.toList ++ Rows.fileDoesSpec.plain.varTypes Try.prog) (ds ++ gs)).all (· ≤ reachBytes) = true := hsz0
  have hval : ∀ (j : Nat) t v, Try.f11.params[j]? = some t → args[j]? = some v → Value.okWide Try.prog W .any base t v := hval0
  have hW' := hW
  obtain ⟨p, q, hA0, hV, rfl, hfz, hnd⟩ := hW
  have hA : DataW.TrodAll enc Try.prog W 0 (fun _ => true) true Try.f11.params.toList args.toList ds p := hA0
  rw [Try.params11] at hA hval hsz
  obtain ⟨v0, vs0, d0, ds0, p0, q0, hargs, rfl, rfl, h0, r0⟩ := trodAll_cons hA
  obtain ⟨v1, vs1, d1, ds1, p1, q1, rfl, rfl, rfl, h1, r1⟩ := trodAll_cons r0
  obtain ⟨v2, vs2, d2, ds2, p2, q2, rfl, rfl, rfl, h2, r2⟩ := trodAll_cons r1
  obtain ⟨rfl, rfl, rfl⟩ := trodAll_nil r2
  obtain rfl : args = #[v0, v1, v2] := by cases args; simp_all
  obtain ⟨rfl, rfl⟩ := trodVars_none hV
  obtain ⟨cs0, rfl, hcs0⟩ := okWide_struct Try.underlying25 (hval 0 25 v0 rfl rfl)
  have k0 := h0
  have lt0 : ∀ x ∈ p0, x.block < W.heap.size := by obtain ⟨m, hm⟩ := k0; exact DataW.trod_lt m _ _ _ hm
  obtain ⟨fuel0, hf0⟩ := h0
  obtain ⟨y0, hk0, hg0⟩ := opens25 H enc W _ _ fuel0 _ _ hf0
  obtain rfl : cs0 = #[.bool y0.f0, .string y0.f1] := Array.ext' (k25_open hk0)
  obtain ⟨a1, rfl, rfl, rfl, w1⟩ := open_int Try.underlying3 (hval 1 3 v1 rfl rfl) h1
  obtain ⟨a2, rfl, rfl, rfl, w2⟩ := open_int Try.underlying5 (hval 2 5 v2 rfl rfl) h2
  clear hA0 hval0 hsz0 hsz
  refine (PFileDoes.countermandlaw09_FileDoes.walk Pure.FileDoes y0.f0 y0.f1 a1 a2 W hg0 w1 w2).mono fun e W' ⟨he, bel⟩ => ?_
  subst he
  exact ⟨_, rfl, _, _, _, [], _, [], hW', trodAll_mk1 (shut_bool Try.underlying4 _), (trodAll_cons_mk (Below.trod laidOut (by kernel_rfl) (of_decide_eq_true (by kernel_rfl)) k0 bel lt0) (trodAll_cons_mk (shut_int Try.underlying3 w1) (trodAll_cons_mk (shut_int Try.underlying5 w2) trodAll_mk0))), rfl, bel.frame _, fun h => by cases h⟩
theorem over : Rows.fileDoesRow.holds Try.pinned (OpenSpec.ofChange Rows.fileDoesSpec) :=
  OpenClaim.holds_of_wide 11 Try.f11 rfl rfl rfl rfl rfl rfl rfl ⟨rfl, rfl, rfl, rfl, rfl⟩ rfl rfl rfl rfl rfl (by kernel_rfl) Try.func11 (by kernel_rfl)
    (of_decide_eq_true (by kernel_rfl)) (by unfold Func.isWrapper; first | (rw [if_pos (by decide +kernel)]; kernel_rfl) | (rw [if_neg (by decide +kernel)]; exact ⟨rfl, rfl⟩))
    (fun os started H enc _ => lifted os started H enc)
theorem proved : Rows.FileDoesSaid := over
#print axioms proved
end Go.Proofs.Ytfimbmdbaaiemaa.fileDoes
namespace Go.Proofs.Ytfimbmdbaaiemaa
/-- The row, under a short name, for the claim. -/
theorem fileDoes_holds : Rows.FileDoesSaid := fileDoes.proved
end Go.Proofs.Ytfimbmdbaaiemaa
