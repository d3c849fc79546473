/- Written by a program of this session, which began as the kit's print and is turned in wip/printer: the plain form of each function, and that the Go code comes to it. -/
import Derived.Test.YtfimbmdbaaiemaaPCursorStepsx0
import Derived.Test.YtfimbmdbaaiemaaPCursorStepsx1
namespace Go.Proofs.Ytfimbmdbaaiemaa.PCursorSteps
open Go.RowKit Go.Proofs.YtfimbmdbaaiemaaW.PrintWords Go.Proofs.YtfimbmdbaaiemaaW.PrintLast Go.Proofs.YtfimbmdbaaiemaaW.PrintMore
attribute [local go_sem] max2_int min2_int max_two min_two max_three min_three max_four min_four   -- for this text's walks alone
set_option linter.unusedVariables false
set_option linter.unusedSimpArgs false

/-! ### countermandlaw15_CursorSteps: function 6 -/
mutual
def countermandlaw15_CursorSteps.j0 : Nat → List Int → Int → Int → Bool → Option (Bool)
  | 0, _, _, _, _ => none
  | k + 1, x0, x1, x2, x28 => if x28 = true then (some true) else (countermandlaw15_CursorSteps.l0 k x0 x1 x2 false x0 (x0.length : Int) 0 0 0 0)
def countermandlaw15_CursorSteps.l0 : Nat → List Int → Int → Int → Bool → List Int → Int → Int → Int → Int → Int → Option (Bool)
  | 0, _, _, _, _, _, _, _, _, _, _ => none
  | k + 1, x0, x1, x2, x8, x31, x32, x33, x123000, x123001, x123002 => if x33 < x32 then (if 0 ≤ x33 then (if x33 < (x31.length : Int) then (if x33 ≤ (x0.length : Int) then ((countermandref15_Read.f k (x0.take (x33 : Int).toNat) (rd x31 x33)).bind fun t125 => (if (rd x31 x33) ≥ 0 then (if (rd x31 x33) ≤ 2 then (countermandlaw15_CursorSteps.j2 k x0 x1 x2 x8 x33 (rd x31 x33) (decide (t125 < 64)) x31 x32 x33 x123000 x123001 x123002) else (countermandlaw15_CursorSteps.j2 k x0 x1 x2 x8 x33 (rd x31 x33) false x31 x32 x33 x123000 x123001 x123002)) else (countermandlaw15_CursorSteps.j2 k x0 x1 x2 x8 x33 (rd x31 x33) false x31 x32 x33 x123000 x123001 x123002))) else (none)) else (none)) else (none)) else ((countermandref15_Read.f k x0 x1).bind fun t142 => ((cursor_Cursor_Copy.f x123000 x123001 x123002).bind fun bt143 => ((cursor_Cursor_Step.f bt143.1 bt143.2.1 bt143.2.2 0).bind fun bt147 => ((cursor_Cursor_At_nil.f 0 x2).bind fun t151 => (if t151 = x2 then ((cursor_Cursor_Step_nil.f 0).bind fun t152 => (if t152 = true then (countermandlaw15_CursorSteps.j4 k x0 x1 x2 x8 t142 true x123000 x123001 x123002 bt147.2.1 bt147.2.2.1 bt147.2.2.2) else ((cursor_Cursor_Read_nil.f 0).bind fun t153 => (if t153 = 0 then ((cursor_Cursor_Any_nil.f).bind fun t154 => (if t154 = true then (countermandlaw15_CursorSteps.j4 k x0 x1 x2 x8 t142 true x123000 x123001 x123002 bt147.2.1 bt147.2.2.1 bt147.2.2.2) else ((cursor_Cursor_Copy_nil.f).bind fun _ => (countermandlaw15_CursorSteps.j4 k x0 x1 x2 x8 t142 false x123000 x123001 x123002 bt147.2.1 bt147.2.2.1 bt147.2.2.2)))) else (countermandlaw15_CursorSteps.j4 k x0 x1 x2 x8 t142 true x123000 x123001 x123002 bt147.2.1 bt147.2.2.1 bt147.2.2.2))))) else (countermandlaw15_CursorSteps.j4 k x0 x1 x2 x8 t142 true x123000 x123001 x123002 bt147.2.1 bt147.2.2.1 bt147.2.2.2))))))
def countermandlaw15_CursorSteps.j2 : Nat → List Int → Int → Int → Bool → Int → Int → Bool → List Int → Int → Int → Int → Int → Int → Option (Bool)
  | 0, _, _, _, _, _, _, _, _, _, _, _, _, _ => none
  | k + 1, x0, x1, x2, x8, x9, x10, x12, x31, x32, x33, x123000, x123001, x123002 => if x8 = true then (countermandlaw15_CursorSteps.j3 k x0 x1 x2 true x9 x10 x12 x31 x32 x33 x123000 x123001 x123002) else (countermandlaw15_CursorSteps.j3 k x0 x1 x2 x12 x9 x10 x12 x31 x32 x33 x123000 x123001 x123002)
def countermandlaw15_CursorSteps.j3 : Nat → List Int → Int → Int → Bool → Int → Int → Bool → List Int → Int → Int → Int → Int → Int → Option (Bool)
  | 0, _, _, _, _, _, _, _, _, _, _, _, _, _ => none
  | k + 1, x0, x1, x2, x8, x9, x10, x12, x31, x32, x33, x123000, x123001, x123002 => (cursor_Cursor_Step.f x123000 x123001 x123002 x10).bind fun bt126 => (if bt126.1 = true then (if x12 = true then ((cursor_Cursor_Read.f bt126.2.1 bt126.2.2.1 bt126.2.2.2 x10).bind fun bt130 => (if 0 ≤ (wrap64 (x9 + 1)) then (if (wrap64 (x9 + 1)) ≤ (x0.length : Int) then ((countermandref15_Read.f k (x0.take ((wrap64 (x9 + 1)) : Int).toNat) x10).bind fun t135 => (if bt130.1 = t135 then (countermandlaw15_CursorSteps.l0 k x0 x1 x2 x8 x31 x32 (wrap64 (x33 + 1)) bt130.2.1 bt130.2.2.1 bt130.2.2.2) else (some false))) else (none)) else (none))) else (some false)) else (if x12 = true then (some false) else ((cursor_Cursor_Read.f bt126.2.1 bt126.2.2.1 bt126.2.2.2 x10).bind fun bt136 => (if 0 ≤ (wrap64 (x9 + 1)) then (if (wrap64 (x9 + 1)) ≤ (x0.length : Int) then ((countermandref15_Read.f k (x0.take ((wrap64 (x9 + 1)) : Int).toNat) x10).bind fun t141 => (if bt136.1 = t141 then (countermandlaw15_CursorSteps.l0 k x0 x1 x2 x8 x31 x32 (wrap64 (x33 + 1)) bt136.2.1 bt136.2.2.1 bt136.2.2.2) else (some false))) else (none)) else (none)))))
def countermandlaw15_CursorSteps.j4 : Nat → List Int → Int → Int → Bool → Int → Bool → Int → Int → Int → Int → Int → Int → Option (Bool)
  | 0, _, _, _, _, _, _, _, _, _, _, _, _ => none
  | k + 1, x0, x1, x2, x8, x13, x104, x123000, x123001, x123002, x147000, x147001, x147002 => if x104 = true then (some false) else ((cursor_Cursor_Read.f x123000 x123001 x123002 x1).bind fun bt155 => (if bt155.1 = x13 then ((cursor_Cursor_At.f bt155.2.1 bt155.2.2.1 bt155.2.2.2 x1 x2).bind fun bt159 => (if bt159.1 = (wrap64 (x2 + x13)) then ((cursor_Cursor_Any.f bt159.2.1 bt159.2.2.1 bt159.2.2.2).bind fun bt163 => (if bt163.1 = true then (if x8 = true then ((cursor_Cursor_Read.f bt163.2.1 bt163.2.2.1 bt163.2.2.2 0).bind fun bt167 => ((countermandref15_Read.f k x0 0).bind fun t171 => (if bt167.1 = t171 then ((cursor_Cursor_Read.f x147000 x147001 x147002 1).bind fun bt172 => ((cursor_Cursor_Read.f bt167.2.1 bt167.2.2.1 bt167.2.2.2 1).bind fun bt176 => (some (bt172.1 == bt176.1)))) else (some false)))) else (some false)) else (if x8 = true then (some false) else ((cursor_Cursor_Read.f bt163.2.1 bt163.2.2.1 bt163.2.2.2 0).bind fun bt180 => ((countermandref15_Read.f k x0 0).bind fun t184 => (if bt180.1 = t184 then ((cursor_Cursor_Read.f x147000 x147001 x147002 1).bind fun bt185 => ((cursor_Cursor_Read.f bt180.2.1 bt180.2.2.1 bt180.2.2.2 1).bind fun bt189 => (some (bt185.1 == bt189.1)))) else (some false))))))) else (some false))) else (some false)))
end
def countermandlaw15_CursorSteps.f (k : Nat) (l0 : List Int) (a1 : Int) (a2 : Int) : Option (Bool) := (countermandlaw15_alive.f).bind fun t121 => (if t121 = true then (if (l0.length : Int) > 300 then (countermandlaw15_CursorSteps.j0 k l0 a1 a2 true) else (if a2 < 0 then (countermandlaw15_CursorSteps.j0 k l0 a1 a2 true) else (countermandlaw15_CursorSteps.j0 k l0 a1 a2 (decide (a2 > 1099511627776))))) else (some false))
theorem countermandlaw15_CursorSteps.mono_l : ∀ k, (∀ y0 y1 y2 y3, LeO (countermandlaw15_CursorSteps.j0 k y0 y1 y2 y3) (countermandlaw15_CursorSteps.j0 (k + 1) y0 y1 y2 y3)) ∧ (∀ y0 y1 y2 y3 y4 y5 y6 y7 y8 y9, LeO (countermandlaw15_CursorSteps.l0 k y0 y1 y2 y3 y4 y5 y6 y7 y8 y9) (countermandlaw15_CursorSteps.l0 (k + 1) y0 y1 y2 y3 y4 y5 y6 y7 y8 y9)) ∧ (∀ y0 y1 y2 y3 y4 y5 y6 y7 y8 y9 y10 y11 y12, LeO (countermandlaw15_CursorSteps.j2 k y0 y1 y2 y3 y4 y5 y6 y7 y8 y9 y10 y11 y12) (countermandlaw15_CursorSteps.j2 (k + 1) y0 y1 y2 y3 y4 y5 y6 y7 y8 y9 y10 y11 y12)) ∧ (∀ y0 y1 y2 y3 y4 y5 y6 y7 y8 y9 y10 y11 y12, LeO (countermandlaw15_CursorSteps.j3 k y0 y1 y2 y3 y4 y5 y6 y7 y8 y9 y10 y11 y12) (countermandlaw15_CursorSteps.j3 (k + 1) y0 y1 y2 y3 y4 y5 y6 y7 y8 y9 y10 y11 y12)) ∧ (∀ y0 y1 y2 y3 y4 y5 y6 y7 y8 y9 y10 y11, LeO (countermandlaw15_CursorSteps.j4 k y0 y1 y2 y3 y4 y5 y6 y7 y8 y9 y10 y11) (countermandlaw15_CursorSteps.j4 (k + 1) y0 y1 y2 y3 y4 y5 y6 y7 y8 y9 y10 y11))
  | 0 => ⟨fun _ _ _ _ r h => by simp [countermandlaw15_CursorSteps.j0] at h, fun _ _ _ _ _ _ _ _ _ _ r h => by simp [countermandlaw15_CursorSteps.l0] at h, fun _ _ _ _ _ _ _ _ _ _ _ _ _ r h => by simp [countermandlaw15_CursorSteps.j2] at h, fun _ _ _ _ _ _ _ _ _ _ _ _ _ r h => by simp [countermandlaw15_CursorSteps.j3] at h, fun _ _ _ _ _ _ _ _ _ _ _ _ r h => by simp [countermandlaw15_CursorSteps.j4] at h⟩
  | k + 1 => by
    obtain ⟨ih0, ih1, ih2, ih3, ih4⟩ := countermandlaw15_CursorSteps.mono_l k
    refine ⟨?_, ?_, ?_, ?_, ?_⟩
    · intro y0 y1 y2 y3
      unfold countermandlaw15_CursorSteps.j0
      repeat' first
      | (with_reducible exact ih0 _ _ _ _)
      | (with_reducible exact ih1 _ _ _ _ _ _ _ _ _ _)
      | (with_reducible exact ih2 _ _ _ _ _ _ _ _ _ _ _ _ _)
      | (with_reducible exact ih3 _ _ _ _ _ _ _ _ _ _ _ _ _)
      | (with_reducible exact ih4 _ _ _ _ _ _ _ _ _ _ _ _)
      | (with_reducible exact countermandref15_Read.mono _ _ _)
      | (with_reducible exact LeO.refl _)
      | (with_reducible exact LeO.none _)
      | (with_reducible refine LeO.ite ?_ ?_)
      | (with_reducible refine LeO.bind ?_ (fun _ => ?_))
      | exact ih0 _ _ _ _
      | exact ih1 _ _ _ _ _ _ _ _ _ _
      | exact ih2 _ _ _ _ _ _ _ _ _ _ _ _ _
      | exact ih3 _ _ _ _ _ _ _ _ _ _ _ _ _
      | exact ih4 _ _ _ _ _ _ _ _ _ _ _ _
      | exact countermandref15_Read.mono _ _ _
      | exact LeO.none _
      | refine LeO.ite ?_ ?_
      | refine LeO.bind ?_ (fun _ => ?_)
    · intro y0 y1 y2 y3 y4 y5 y6 y7 y8 y9
      unfold countermandlaw15_CursorSteps.l0
      repeat' first
      | (with_reducible exact ih0 _ _ _ _)
      | (with_reducible exact ih1 _ _ _ _ _ _ _ _ _ _)
      | (with_reducible exact ih2 _ _ _ _ _ _ _ _ _ _ _ _ _)
      | (with_reducible exact ih3 _ _ _ _ _ _ _ _ _ _ _ _ _)
      | (with_reducible exact ih4 _ _ _ _ _ _ _ _ _ _ _ _)
      | (with_reducible exact countermandref15_Read.mono _ _ _)
      | (with_reducible exact LeO.refl _)
      | (with_reducible exact LeO.none _)
      | (with_reducible refine LeO.ite ?_ ?_)
      | (with_reducible refine LeO.bind ?_ (fun _ => ?_))
      | exact ih0 _ _ _ _
      | exact ih1 _ _ _ _ _ _ _ _ _ _
      | exact ih2 _ _ _ _ _ _ _ _ _ _ _ _ _
      | exact ih3 _ _ _ _ _ _ _ _ _ _ _ _ _
      | exact ih4 _ _ _ _ _ _ _ _ _ _ _ _
      | exact countermandref15_Read.mono _ _ _
      | exact LeO.none _
      | refine LeO.ite ?_ ?_
      | refine LeO.bind ?_ (fun _ => ?_)
    · intro y0 y1 y2 y3 y4 y5 y6 y7 y8 y9 y10 y11 y12
      unfold countermandlaw15_CursorSteps.j2
      repeat' first
      | (with_reducible exact ih0 _ _ _ _)
      | (with_reducible exact ih1 _ _ _ _ _ _ _ _ _ _)
      | (with_reducible exact ih2 _ _ _ _ _ _ _ _ _ _ _ _ _)
      | (with_reducible exact ih3 _ _ _ _ _ _ _ _ _ _ _ _ _)
      | (with_reducible exact ih4 _ _ _ _ _ _ _ _ _ _ _ _)
      | (with_reducible exact countermandref15_Read.mono _ _ _)
      | (with_reducible exact LeO.refl _)
      | (with_reducible exact LeO.none _)
      | (with_reducible refine LeO.ite ?_ ?_)
      | (with_reducible refine LeO.bind ?_ (fun _ => ?_))
      | exact ih0 _ _ _ _
      | exact ih1 _ _ _ _ _ _ _ _ _ _
      | exact ih2 _ _ _ _ _ _ _ _ _ _ _ _ _
      | exact ih3 _ _ _ _ _ _ _ _ _ _ _ _ _
      | exact ih4 _ _ _ _ _ _ _ _ _ _ _ _
      | exact countermandref15_Read.mono _ _ _
      | exact LeO.none _
      | refine LeO.ite ?_ ?_
      | refine LeO.bind ?_ (fun _ => ?_)
    · intro y0 y1 y2 y3 y4 y5 y6 y7 y8 y9 y10 y11 y12
      unfold countermandlaw15_CursorSteps.j3
      repeat' first
      | (with_reducible exact ih0 _ _ _ _)
      | (with_reducible exact ih1 _ _ _ _ _ _ _ _ _ _)
      | (with_reducible exact ih2 _ _ _ _ _ _ _ _ _ _ _ _ _)
      | (with_reducible exact ih3 _ _ _ _ _ _ _ _ _ _ _ _ _)
      | (with_reducible exact ih4 _ _ _ _ _ _ _ _ _ _ _ _)
      | (with_reducible exact countermandref15_Read.mono _ _ _)
      | (with_reducible exact LeO.refl _)
      | (with_reducible exact LeO.none _)
      | (with_reducible refine LeO.ite ?_ ?_)
      | (with_reducible refine LeO.bind ?_ (fun _ => ?_))
      | exact ih0 _ _ _ _
      | exact ih1 _ _ _ _ _ _ _ _ _ _
      | exact ih2 _ _ _ _ _ _ _ _ _ _ _ _ _
      | exact ih3 _ _ _ _ _ _ _ _ _ _ _ _ _
      | exact ih4 _ _ _ _ _ _ _ _ _ _ _ _
      | exact countermandref15_Read.mono _ _ _
      | exact LeO.none _
      | refine LeO.ite ?_ ?_
      | refine LeO.bind ?_ (fun _ => ?_)
    · intro y0 y1 y2 y3 y4 y5 y6 y7 y8 y9 y10 y11
      unfold countermandlaw15_CursorSteps.j4
      repeat' first
      | (with_reducible exact ih0 _ _ _ _)
      | (with_reducible exact ih1 _ _ _ _ _ _ _ _ _ _)
      | (with_reducible exact ih2 _ _ _ _ _ _ _ _ _ _ _ _ _)
      | (with_reducible exact ih3 _ _ _ _ _ _ _ _ _ _ _ _ _)
      | (with_reducible exact ih4 _ _ _ _ _ _ _ _ _ _ _ _)
      | (with_reducible exact countermandref15_Read.mono _ _ _)
      | (with_reducible exact LeO.refl _)
      | (with_reducible exact LeO.none _)
      | (with_reducible refine LeO.ite ?_ ?_)
      | (with_reducible refine LeO.bind ?_ (fun _ => ?_))
      | exact ih0 _ _ _ _
      | exact ih1 _ _ _ _ _ _ _ _ _ _
      | exact ih2 _ _ _ _ _ _ _ _ _ _ _ _ _
      | exact ih3 _ _ _ _ _ _ _ _ _ _ _ _ _
      | exact ih4 _ _ _ _ _ _ _ _ _ _ _ _
      | exact countermandref15_Read.mono _ _ _
      | exact LeO.none _
      | refine LeO.ite ?_ ?_
      | refine LeO.bind ?_ (fun _ => ?_)
theorem countermandlaw15_CursorSteps.mono : ∀ a0 a1 a2 k, LeO (countermandlaw15_CursorSteps.f k a0 a1 a2) (countermandlaw15_CursorSteps.f (k + 1) a0 a1 a2) := by
  intro a0 a1 a2 k
  obtain ⟨ih0, ih1, ih2, ih3, ih4⟩ := countermandlaw15_CursorSteps.mono_l k
  unfold countermandlaw15_CursorSteps.f
  repeat' first
      | (with_reducible exact ih0 _ _ _ _)
      | (with_reducible exact ih1 _ _ _ _ _ _ _ _ _ _)
      | (with_reducible exact ih2 _ _ _ _ _ _ _ _ _ _ _ _ _)
      | (with_reducible exact ih3 _ _ _ _ _ _ _ _ _ _ _ _ _)
      | (with_reducible exact ih4 _ _ _ _ _ _ _ _ _ _ _ _)
      | (with_reducible exact countermandref15_Read.mono _ _ _)
      | (with_reducible exact LeO.refl _)
      | (with_reducible exact LeO.none _)
      | (with_reducible refine LeO.ite ?_ ?_)
      | (with_reducible refine LeO.bind ?_ (fun _ => ?_))
      | exact ih0 _ _ _ _
      | exact ih1 _ _ _ _ _ _ _ _ _ _
      | exact ih2 _ _ _ _ _ _ _ _ _ _ _ _ _
      | exact ih3 _ _ _ _ _ _ _ _ _ _ _ _ _
      | exact ih4 _ _ _ _ _ _ _ _ _ _ _ _
      | exact countermandref15_Read.mono _ _ _
      | exact LeO.none _
      | refine LeO.ite ?_ ?_
      | refine LeO.bind ?_ (fun _ => ?_)
def countermandlaw15_CursorSteps.T13 : Bool × List (List Nat × List Nat) := (true, [([], []), ([], []), ([0, 1], [0, 1]), ([], []), ([2, 3], [2, 3]), ([4, 2], [4]), ([5], [5]), ([5], [5]), ([6, 7, 5, 5], [5, 6, 7]), ([5], [5]), ([5], [5]), ([10, 5], [5, 10]), ([9, 11, 5], [5, 9, 11]), ([5], [5]), ([12, 13, 8, 5], [5, 12, 13]), ([8, 14, 5], [5, 8, 14]), ([5, 15], [5, 15])])
def countermandlaw15_CursorSteps.B13 : List Nat := [0, 0, 3, 0, 15, 31, 63, 63, 255, 63, 63, 1087, 3647, 63, 16383, 32767, 65535]
theorem countermandlaw15_CursorSteps.tab13 : rtab .any (opsOf Try.f6 13) = countermandlaw15_CursorSteps.T13 := by kernel_rfl
theorem countermandlaw15_CursorSteps.bits13 : waitsOk countermandlaw15_CursorSteps.T13.2 countermandlaw15_CursorSteps.B13 = true := by kernel_rfl
set_option maxHeartbeats 8000000 in
set_option maxRecDepth 100000 in
theorem countermandlaw15_CursorSteps.calls (k : Nat) (A0 : Option Addr) (c0 : Nat) (l0 : List Int) (a1 : Int) (a2 : Int) (r : Bool) (w : World) (hr0 : Kd.C (Kd.int .i64) w A0 l0.length l0) (hc0 : l0.length ≤ c0) (h : countermandlaw15_CursorSteps.f k l0 a1 a2 = some r) (hrT : r = true) :
    Calls Try.prog 6 #[.slice A0 l0.length c0, .int .i64 a1, .int .i64 a2] w fun e w' => e = .returned (.bool r) ∧ Below w.heap.size w w' := by
  have hu36 := Try.underlying36
  have HR0 := Aside0.mk hr0
  have HC0 := Aside0.mk hc0
  clear hr0 hc0
  have HB := Aside0.mk (Below.refl w.heap.size w)
  have H : ((countermandlaw15_alive.f).bind fun t121 => (if t121 = true then (if (l0.length : Int) > 300 then (countermandlaw15_CursorSteps.j0 k l0 a1 a2 true) else (if a2 < 0 then (countermandlaw15_CursorSteps.j0 k l0 a1 a2 true) else (countermandlaw15_CursorSteps.j0 k l0 a1 a2 (decide (a2 > 1099511627776))))) else (some false))) = some r := h
  clear h
  replace H := Option.bind_eq_some_iff.mp H
  obtain ⟨t121, A40, H⟩ := H
  replace H : (if t121 = true then (if (l0.length : Int) > 300 then (countermandlaw15_CursorSteps.j0 k l0 a1 a2 true) else (if a2 < 0 then (countermandlaw15_CursorSteps.j0 k l0 a1 a2 true) else (countermandlaw15_CursorSteps.j0 k l0 a1 a2 (decide (a2 > 1099511627776))))) else (some false)) = some r := H
  have A4 := Aside0.mk A40
  clear A40
  by_cases c5 : t121 = true
  · subst c5
    have H1 : (if (l0.length : Int) > 300 then (countermandlaw15_CursorSteps.j0 k l0 a1 a2 true) else (if a2 < 0 then (countermandlaw15_CursorSteps.j0 k l0 a1 a2 true) else (countermandlaw15_CursorSteps.j0 k l0 a1 a2 (decide (a2 > 1099511627776))))) = some r := by rw [if_pos rfl] at H; exact H
    clear H
    have H := H1
    clear H1
    have HC6 := Aside0.mk H
    clear H
    go_enter Try.func6, Try.ntmps6
    go_upto_region 3 with (first | ((with_reducible refine gate_callee (f := 17) rfl ?_); refine goesL_ (some 16) rfl rfl Try.func17 (by kernel_rfl) rfl #[] rfl (by (try simp only [List.map_toArray, List.map_cons, List.map_nil]); first | done | rfl | (simp only [List.length_drop, List.length_take]; rfl)) ?_; (with_reducible refine (countermandlaw15_alive.calls  true _ A4.out).mono ?_); rintro e w7 ⟨rfl, hb⟩; refine ⟨_, rfl, ?_⟩; have n0_ := Aside0.mk (below_step (by repeat (first | (with_reducible first | exact HB.out | apply below_alloc | apply pw_below_drewN | apply below_drew1) | exact HB.out)) hb); clear HB; have HB := n0_; clear n0_; (try clear hb); (try clear hb2); (try clear hk); (try clear hi)))
    (try simp only [Act.put, List.setIfInBounds_toArray, List.set_cons_zero, List.set_cons_succ])
    go_cut [28] (fun v28 wc => ∃ (kq : Nat) (x28_5 : Bool), v28 = .bool x28_5 ∧ Aside0 (countermandlaw15_CursorSteps.j0 kq l0 a1 a2 x28_5 = some r) ∧ Aside0 (kq ≤ k) ∧ Aside0 (Below w.heap.size w wc))
    case first =>
      have H := HC6.out
      clear HC6
      by_cases c8 : (l0.length : Int) > 300
      · rw [if_pos c8] at H
        have c8b0 : decide (300 < (l0.length : Int)) = true := decide_eq_true c8
        have c8b1 : decide (300 < l0.length) = true := decide_eq_true (by omega)
        clear c8
        (first | rw [c8b0] | (simp only [i64_w, i32_w]; rw [c8b0]) | skip)
        have H' := Aside0.mk H
        clear H
        go_wp2
        go_meet
        case rel => exact ⟨_, (true), (by first | rfl | (simp; done) | (simp [*]; done)), H', ⟨by first | omega | exact Nat.le_refl _⟩, ⟨by repeat (first | (with_reducible first | exact HB.out | apply below_alloc | apply pw_below_drewN | apply below_drew1) | exact HB.out)⟩⟩
      · rw [if_neg c8] at H
        have c8b0 : decide (300 < (l0.length : Int)) = false := decide_eq_false c8
        have c8b1 : decide (300 < l0.length) = false := decide_eq_false (by omega)
        clear c8
        (first | rw [c8b0] | (simp only [i64_w, i32_w]; rw [c8b0]) | skip)
        by_cases c9 : a2 < 0
        · rw [if_pos c9] at H
          have c9b0 : decide (a2 < 0) = true := decide_eq_true c9
          clear c9
          have H' := Aside0.mk H
          clear H
          go_wp2
          go_meet
          case rel => exact ⟨_, (true), (by first | rfl | (simp; done) | (simp [*]; done)), H', ⟨by first | omega | exact Nat.le_refl _⟩, ⟨by repeat (first | (with_reducible first | exact HB.out | apply below_alloc | apply pw_below_drewN | apply below_drew1) | exact HB.out)⟩⟩
        · rw [if_neg c9] at H
          have c9b0 : decide (a2 < 0) = false := decide_eq_false c9
          clear c9
          have H' := Aside0.mk H
          clear H
          go_wp2
          go_meet
          case rel => exact ⟨_, (decide (a2 > 1099511627776)), (by first | rfl | (simp; done) | (simp [*]; done)), H', ⟨by first | omega | exact Nat.le_refl _⟩, ⟨by repeat (first | (with_reducible first | exact HB.out | apply below_alloc | apply pw_below_drewN | apply below_drew1) | exact HB.out)⟩⟩
    case rest =>
      clear HC6
      try clear c1
      try clear p2
      try clear c5
      try clear c6
      try clear c8
      try clear c8b0
      try clear c8b1
      try clear c9
      try clear c9b0
      obtain ⟨kq, x28_5, rfl, HA, HJ5, HB⟩ := hcut
      cases kq with
      | zero => exact absurd HA.out (by simp [countermandlaw15_CursorSteps.j0])
      | succ kj5 =>
        have H := HA.out
        clear HA
        simp only [countermandlaw15_CursorSteps.j0] at H
        by_cases c10 : x28_5 = true
        · subst c10
          have H1 : (some true) = some r := by rw [if_pos rfl] at H; exact H
          clear H
          have H := H1
          clear H1
          obtain rfl := Option.some.inj H
          clear hrT
          go_wp2
          go_ret
          exact ⟨by first | rfl | (simp [errW_none, errW_some] <;> rfl) | (simp [*, errW_none, errW_some] <;> rfl), by repeat (first | (with_reducible first | exact HB.out | apply below_alloc | apply pw_below_drewN | apply below_drew1) | exact HB.out)⟩
        · replace c10 := Bool.eq_false_iff.mpr c10
          subst c10
          have H1 : (countermandlaw15_CursorSteps.l0 kj5 l0 a1 a2 false l0 (l0.length : Int) 0 0 0 0) = some r := by rw [if_neg (show ¬ (false = true) by decide)] at H; exact H
          clear H
          have H := H1
          clear H1
          have H' := Aside0.mk H
          clear H
          go_wp2_with (first | ((with_reducible refine gate_dst (N := 30) rfl ?_); refine box_event ?hg (N := 30) ?hd (cs := #[.int .i64 0, .int .i64 0, .int .i64 0]) (t := 36) ?hr ?_; (case hd => rfl); (case hg => rfl); (case hr => first | (go_simp; done) | (go_simp; rfl)); intro gb122 hg w11 hbox hb; have n0_ := Aside0.mk (below_step (by repeat (first | (with_reducible first | exact HB.out | apply below_alloc | apply pw_below_drewN | apply below_drew1) | exact HB.out)) hb); have n1_ := Aside0.mk ((show IsS36 w w11 gb122 0 0 0 from ⟨hbox, (by rw [hg]; exact (below_size (by repeat (first | (with_reducible first | exact HB.out | apply below_alloc | apply pw_below_drewN | apply below_drew1) | exact HB.out))) : w.heap.size ≤ gb122)⟩)); clear HB; have HB := n0_; have HI122 := n1_; clear n0_ n1_; clear hb hbox hg))
          go_loopg [8, 33] kj5 (fun kq v8 v33 w' => ∃ (x8_2 : Bool) (x33_2 : Int) (x123000_2 : Int) (x123001_2 : Int) (x123002_2 : Int), v8 = .bool x8_2 ∧ v33 = .int .i64 x33_2 ∧ Aside0 (countermandlaw15_CursorSteps.l0 kq l0 a1 a2 x8_2 l0 (l0.length : Int) x33_2 x123000_2 x123001_2 x123002_2 = some r) ∧ Aside0 (kq ≤ kj5) ∧ Aside0 (IsS36 w w' gb122 x123000_2 x123001_2 x123002_2) ∧ Aside0 (Below w.heap.size w w'))
          case atStart => exact ⟨(false), (0), (0), (0), (0), (by first | rfl | (simp; done) | (simp [*]; done)), (by first | rfl | (simp; done) | (simp [*]; done)), H', ⟨Nat.le_refl _⟩, ⟨by repeat (first | (with_reducible first | exact HI122.out | apply IsS36.alloc | apply IsS36.drewN | apply IsS36.drew | apply IsS36.set_0 | apply IsS36.set_1 | apply IsS36.set_2) | exact HI122.out)⟩, ⟨by repeat (first | (with_reducible first | exact HB.out | apply below_alloc | apply pw_below_drewN | apply below_drew1 | refine below_set ?_ (IsS36.ge HI122.out)) | exact HB.out)⟩⟩
          case round =>
            clear H'
            try clear c1
            try clear p2
            try clear c5
            try clear c6
            try clear c8
            try clear c8b0
            try clear c8b1
            try clear c9
            try clear c9b0
            try clear c10
            try clear p2
            obtain ⟨x8_2, x33_2, x123000_2, x123001_2, x123002_2, rfl, rfl, HA, HK2, HI122, HB⟩ := hrel
            cases gk with
            | zero => exact absurd HA.out (by simp [countermandlaw15_CursorSteps.l0])
            | succ k2 =>
              have H := HA.out
              clear HA
              simp only [countermandlaw15_CursorSteps.l0] at H
              by_cases c12 : x33_2 < (l0.length : Int)
              · rw [if_pos c12] at H
                have c12b0 : decide (x33_2 < (l0.length : Int)) = true := decide_eq_true c12
                clear c12
                by_cases c13 : 0 ≤ x33_2
                · rw [if_pos c13] at H
                  have c13b0 : decide (0 ≤ x33_2) = true := decide_eq_true c13
                  clear c13
                  by_cases c14 : x33_2 < (l0.length : Int)
                  · rw [if_pos c14] at H
                    have c14b0 : decide (x33_2 < (l0.length : Int)) = true := decide_eq_true c14
                    clear c14
                    have c15b0 := eq_true (of_decide_eq_true (by first | (with_reducible assumption) | assumption) : 0 ≤ x33_2)
                    by_cases c16 : x33_2 ≤ (l0.length : Int)
                    · rw [if_pos c16] at H
                      have c16b0 := eq_true c16
                      have c16b1 : decide (x33_2 ≤ (l0.length : Int)) = true := decide_eq_true c16
                      clear c16
                      replace H := Option.bind_eq_some_iff.mp H
                      obtain ⟨t125, A170, H⟩ := H
                      replace H : (if (rd l0 x33_2) ≥ 0 then (if (rd l0 x33_2) ≤ 2 then (countermandlaw15_CursorSteps.j2 k2 l0 a1 a2 x8_2 x33_2 (rd l0 x33_2) (decide (t125 < 64)) l0 (l0.length : Int) x33_2 x123000_2 x123001_2 x123002_2) else (countermandlaw15_CursorSteps.j2 k2 l0 a1 a2 x8_2 x33_2 (rd l0 x33_2) false l0 (l0.length : Int) x33_2 x123000_2 x123001_2 x123002_2)) else (countermandlaw15_CursorSteps.j2 k2 l0 a1 a2 x8_2 x33_2 (rd l0 x33_2) false l0 (l0.length : Int) x33_2 x123000_2 x123001_2 x123002_2)) = some r := H
                      have A17 := Aside0.mk A170
                      clear A170
                      have HC18 := Aside0.mk H
                      clear H
                      have p123 : 0 ≤ (x33_2 : Int) := of_decide_eq_true (by first | (with_reducible assumption) | assumption)
                      have q123 : x33_2 < (l0.length : Int) := of_decide_eq_true (by first | (with_reducible assumption) | assumption)
                      obtain ⟨ad123, e123, hx123_0⟩ := Kd.at_int HR0.out x33_2 p123 q123
                      cases e123
                      replace hx123_0 := (HB.out.cell (World.block_lt_of_cell? w _ hx123_0)).trans hx123_0
                      replace p123 := eq_true p123
                      replace q123 := eq_true q123
                      obtain ⟨i019, hi019, _, hsz19, _⟩ := info_parts info3
                      obtain ⟨hcut19, hA19, hC19⟩ := print_take_of (P := Try.prog) (Value.int .i64) 0 22 3 .i64 Try.underlying22 hi019 hsz19 (some ad123) c0 l0 x33_2 (of_decide_eq_true (by first | (with_reducible assumption) | assumption)) (of_decide_eq_true (by first | (with_reducible assumption) | assumption)) HC0.out
                      have HR124 := Aside0.mk (Kd.C_of_reads (h1 := fun _ => rfl) (hA19 _ (Kd.reads_of_C HR0.out)))
                      have HC124 := Aside0.mk hC19
                      clear hA19 hC19 hi019 hsz19
                      go_upto_region 11 with (first | ((with_reducible refine gate_callee (f := 18) rfl ?_); refine goesL_ (some 42) rfl rfl Try.func18 (by kernel_rfl) rfl #[.slice (some ad123) (l0.take (x33_2 : Int).toNat).length c0, .int .i64 (rd l0 x33_2)] rfl (by (try simp only [List.map_toArray, List.map_cons, List.map_nil]); first | done | (rw [show (l0.take (x33_2 : Int).toNat).length = x33_2.toNat from (by rw [List.length_take]; have h_ : (x33_2 : Int) ≤ (l0.length : Int) := of_decide_eq_true (by first | (with_reducible assumption) | assumption); omega)] <;> rfl) | rfl | (simp only [List.length_drop, List.length_take]; rfl)) ?_; (with_reducible refine (countermandref15_Read.calls k2 _ _ (l0.take (x33_2 : Int).toNat) (rd l0 x33_2) t125 _ ?side1 ?side2 A17.out).mono ?_); (case side1 => repeat (first | exact (Kd.C_below HR124.out HB.out) | (with_reducible refine Kd.C_alloc ?_ _) | (with_reducible refine Kd.C_drewN ?_ _) | (with_reducible refine Kd.C_drew ?_))); (case side2 => exact HC124.out); rintro e w' ⟨rfl, ⟨nd, rfl⟩⟩; refine ⟨_, rfl, ?_⟩))
                      (try simp only [Act.put, List.setIfInBounds_toArray, List.set_cons_zero, List.set_cons_succ])
                      go_cut [12] (fun v12 wc => ∃ (kq : Nat) (x12_17 : Bool), v12 = .bool x12_17 ∧ Aside0 (countermandlaw15_CursorSteps.j2 kq l0 a1 a2 x8_2 x33_2 (rd l0 x33_2) x12_17 l0 (l0.length : Int) x33_2 x123000_2 x123001_2 x123002_2 = some r) ∧ Aside0 (kq ≤ k2) ∧ Aside0 (IsS36 w wc gb122 x123000_2 x123001_2 x123002_2) ∧ Aside0 (Below w.heap.size w wc))
                      case first =>
                        have H := HC18.out
                        clear HC18
                        by_cases c20 : (rd l0 x33_2) ≥ 0
                        · rw [if_pos c20] at H
                          have c20b0 : decide (0 ≤ (rd l0 x33_2)) = true := decide_eq_true c20
                          clear c20
                          (first | rw [c20b0] | (simp only [i64_w, i32_w]; rw [c20b0]) | skip)
                          by_cases c21 : (rd l0 x33_2) ≤ 2
                          · rw [if_pos c21] at H
                            have c21b0 : decide ((rd l0 x33_2) ≤ 2) = true := decide_eq_true c21
                            clear c21
                            have H' := Aside0.mk H
                            clear H
                            go_wp2
                            go_meet
                            case rel => exact ⟨_, (decide (t125 < 64)), (by first | rfl | (simp; done) | (simp [*]; done)), H', ⟨by have := HJ5.out; have := HK2.out; first | omega | exact Nat.le_refl _⟩, ⟨by repeat (first | (with_reducible first | exact HI122.out | apply IsS36.alloc | apply IsS36.drewN | apply IsS36.drew | apply IsS36.set_0 | apply IsS36.set_1 | apply IsS36.set_2) | exact HI122.out)⟩, ⟨by repeat (first | (with_reducible first | exact HB.out | apply below_alloc | apply pw_below_drewN | apply below_drew1 | refine below_set ?_ (IsS36.ge HI122.out)) | exact HB.out)⟩⟩
                          · rw [if_neg c21] at H
                            have c21b0 : decide ((rd l0 x33_2) ≤ 2) = false := decide_eq_false c21
                            clear c21
                            have H' := Aside0.mk H
                            clear H
                            go_wp2
                            go_meet
                            case rel => exact ⟨_, (false), (by first | rfl | (simp; done) | (simp [*]; done)), H', ⟨by have := HJ5.out; have := HK2.out; first | omega | exact Nat.le_refl _⟩, ⟨by repeat (first | (with_reducible first | exact HI122.out | apply IsS36.alloc | apply IsS36.drewN | apply IsS36.drew | apply IsS36.set_0 | apply IsS36.set_1 | apply IsS36.set_2) | exact HI122.out)⟩, ⟨by repeat (first | (with_reducible first | exact HB.out | apply below_alloc | apply pw_below_drewN | apply below_drew1 | refine below_set ?_ (IsS36.ge HI122.out)) | exact HB.out)⟩⟩
                        · rw [if_neg c20] at H
                          have c20b0 : decide (0 ≤ (rd l0 x33_2)) = false := decide_eq_false c20
                          clear c20
                          (first | rw [c20b0] | (simp only [i64_w, i32_w]; rw [c20b0]) | skip)
                          have H' := Aside0.mk H
                          clear H
                          go_wp2
                          go_meet
                          case rel => exact ⟨_, (false), (by first | rfl | (simp; done) | (simp [*]; done)), H', ⟨by have := HJ5.out; have := HK2.out; first | omega | exact Nat.le_refl _⟩, ⟨by repeat (first | (with_reducible first | exact HI122.out | apply IsS36.alloc | apply IsS36.drewN | apply IsS36.drew | apply IsS36.set_0 | apply IsS36.set_1 | apply IsS36.set_2) | exact HI122.out)⟩, ⟨by repeat (first | (with_reducible first | exact HB.out | apply below_alloc | apply pw_below_drewN | apply below_drew1 | refine below_set ?_ (IsS36.ge HI122.out)) | exact HB.out)⟩⟩
                      case rest =>
                        clear HC18
                        try clear c1
                        try clear p1
                        try clear q1
                        try clear hx1
                        try clear c2
                        try clear p2
                        try clear c5
                        try clear c6
                        try clear c8
                        try clear c8b0
                        try clear c8b1
                        try clear c9
                        try clear c9b0
                        try clear c10
                        try clear c12
                        try clear c12b0
                        try clear p12
                        try clear q12
                        try clear hx12
                        try clear c13
                        try clear c13b0
                        try clear c14
                        try clear c14b0
                        try clear c15
                        try clear c15b0
                        try clear c16
                        try clear c16b0
                        try clear c16b1
                        try clear c17
                        try clear c18
                        try clear c20
                        try clear c20b0
                        try clear c21
                        try clear c21b0
                        try clear hx123_0
                        try clear p123
                        try clear p2
                        try clear q123
                        obtain ⟨kq, x12_17, rfl, HA, HJ17, HI122, HB⟩ := hcut
                        cases kq with
                        | zero => exact absurd HA.out (by simp [countermandlaw15_CursorSteps.j2])
                        | succ kj17 =>
                          have H := HA.out
                          clear HA
                          simp only [countermandlaw15_CursorSteps.j2] at H
                          have HC22 := Aside0.mk H
                          clear H
                          go_upto_region 12 with (fail)
                          go_cut [8] (fun v8 wc => ∃ (kq : Nat) (x8_21 : Bool), v8 = .bool x8_21 ∧ Aside0 (countermandlaw15_CursorSteps.j3 kq l0 a1 a2 x8_21 x33_2 (rd l0 x33_2) x12_17 l0 (l0.length : Int) x33_2 x123000_2 x123001_2 x123002_2 = some r) ∧ Aside0 (kq ≤ kj17) ∧ Aside0 (IsS36 w wc gb122 x123000_2 x123001_2 x123002_2) ∧ Aside0 (Below w.heap.size w wc))
                          case first =>
                            have H := HC22.out
                            clear HC22
                            by_cases c23 : x8_2 = true
                            · subst c23
                              have H1 : (countermandlaw15_CursorSteps.j3 kj17 l0 a1 a2 true x33_2 (rd l0 x33_2) x12_17 l0 (l0.length : Int) x33_2 x123000_2 x123001_2 x123002_2) = some r := by rw [if_pos rfl] at H; exact H
                              clear H
                              have H := H1
                              clear H1
                              have H' := Aside0.mk H
                              clear H
                              go_wp2
                              go_meet
                              case rel => exact ⟨_, (true), (by first | rfl | (simp; done) | (simp [*]; done)), H', ⟨by have := HJ5.out; have := HK2.out; have := HJ17.out; first | omega | exact Nat.le_refl _⟩, ⟨by repeat (first | (with_reducible first | exact HI122.out | apply IsS36.alloc | apply IsS36.drewN | apply IsS36.drew | apply IsS36.set_0 | apply IsS36.set_1 | apply IsS36.set_2) | exact HI122.out)⟩, ⟨by repeat (first | (with_reducible first | exact HB.out | apply below_alloc | apply pw_below_drewN | apply below_drew1 | refine below_set ?_ (IsS36.ge HI122.out)) | exact HB.out)⟩⟩
                            · replace c23 := Bool.eq_false_iff.mpr c23
                              subst c23
                              have H1 : (countermandlaw15_CursorSteps.j3 kj17 l0 a1 a2 x12_17 x33_2 (rd l0 x33_2) x12_17 l0 (l0.length : Int) x33_2 x123000_2 x123001_2 x123002_2) = some r := by rw [if_neg (show ¬ (false = true) by decide)] at H; exact H
                              clear H
                              have H := H1
                              clear H1
                              have H' := Aside0.mk H
                              clear H
                              go_wp2
                              go_meet
                              case rel => exact ⟨_, (x12_17), (by first | rfl | (simp; done) | (simp [*]; done)), H', ⟨by have := HJ5.out; have := HK2.out; have := HJ17.out; first | omega | exact Nat.le_refl _⟩, ⟨by repeat (first | (with_reducible first | exact HI122.out | apply IsS36.alloc | apply IsS36.drewN | apply IsS36.drew | apply IsS36.set_0 | apply IsS36.set_1 | apply IsS36.set_2) | exact HI122.out)⟩, ⟨by repeat (first | (with_reducible first | exact HB.out | apply below_alloc | apply pw_below_drewN | apply below_drew1 | refine below_set ?_ (IsS36.ge HI122.out)) | exact HB.out)⟩⟩
                          case rest =>
                            clear HC22
                            try clear c1
                            try clear p1
                            try clear q1
                            try clear hx1
                            try clear c2
                            try clear p2
                            try clear c5
                            try clear c6
                            try clear c8
                            try clear c8b0
                            try clear c8b1
                            try clear c9
                            try clear c9b0
                            try clear c10
                            try clear c12
                            try clear c12b0
                            try clear p12
                            try clear q12
                            try clear hx12
                            try clear c13
                            try clear c13b0
                            try clear c14
                            try clear c14b0
                            try clear c15
                            try clear c15b0
                            try clear c16
                            try clear c16b0
                            try clear c16b1
                            try clear c17
                            try clear c18
                            try clear c20
                            try clear c20b0
                            try clear c21
                            try clear c21b0
                            try clear c23
                            try clear hx123_0
                            try clear p1
                            try clear p12
                            try clear p123
                            try clear p2
                            try clear q1
                            try clear q12
                            try clear q123
                            obtain ⟨kq, x8_21, rfl, HA, HJ21, HI122, HB⟩ := hcut
                            cases kq with
                            | zero => exact absurd HA.out (by simp [countermandlaw15_CursorSteps.j3])
                            | succ kj21 =>
                              have H := HA.out
                              clear HA
                              simp only [countermandlaw15_CursorSteps.j3] at H
                              replace H := Option.bind_eq_some_iff.mp H
                              obtain ⟨⟨t126, t127, t128, t129⟩, A240, H⟩ := H
                              replace H : (if t126 = true then (if x12_17 = true then ((cursor_Cursor_Read.f t127 t128 t129 (rd l0 x33_2)).bind fun bt130 => (if 0 ≤ (wrap64 (x33_2 + 1)) then (if (wrap64 (x33_2 + 1)) ≤ (l0.length : Int) then ((countermandref15_Read.f kj21 (l0.take ((wrap64 (x33_2 + 1)) : Int).toNat) (rd l0 x33_2)).bind fun t135 => (if bt130.1 = t135 then (countermandlaw15_CursorSteps.l0 kj21 l0 a1 a2 x8_21 l0 (l0.length : Int) (wrap64 (x33_2 + 1)) bt130.2.1 bt130.2.2.1 bt130.2.2.2) else (some false))) else (none)) else (none))) else (some false)) else (if x12_17 = true then (some false) else ((cursor_Cursor_Read.f t127 t128 t129 (rd l0 x33_2)).bind fun bt136 => (if 0 ≤ (wrap64 (x33_2 + 1)) then (if (wrap64 (x33_2 + 1)) ≤ (l0.length : Int) then ((countermandref15_Read.f kj21 (l0.take ((wrap64 (x33_2 + 1)) : Int).toNat) (rd l0 x33_2)).bind fun t141 => (if bt136.1 = t141 then (countermandlaw15_CursorSteps.l0 kj21 l0 a1 a2 x8_21 l0 (l0.length : Int) (wrap64 (x33_2 + 1)) bt136.2.1 bt136.2.2.1 bt136.2.2.2) else (some false))) else (none)) else (none))))) = some r := H
                              have A24 := Aside0.mk A240
                              clear A240
                              by_cases c25 : t126 = true
                              · subst c25
                                have H1 : (if x12_17 = true then ((cursor_Cursor_Read.f t127 t128 t129 (rd l0 x33_2)).bind fun bt130 => (if 0 ≤ (wrap64 (x33_2 + 1)) then (if (wrap64 (x33_2 + 1)) ≤ (l0.length : Int) then ((countermandref15_Read.f kj21 (l0.take ((wrap64 (x33_2 + 1)) : Int).toNat) (rd l0 x33_2)).bind fun t135 => (if bt130.1 = t135 then (countermandlaw15_CursorSteps.l0 kj21 l0 a1 a2 x8_21 l0 (l0.length : Int) (wrap64 (x33_2 + 1)) bt130.2.1 bt130.2.2.1 bt130.2.2.2) else (some false))) else (none)) else (none))) else (some false)) = some r := by rw [if_pos rfl] at H; exact H
                                clear H
                                have H := H1
                                clear H1
                                by_cases c26 : x12_17 = true
                                · subst c26
                                  have H1 : ((cursor_Cursor_Read.f t127 t128 t129 (rd l0 x33_2)).bind fun bt130 => (if 0 ≤ (wrap64 (x33_2 + 1)) then (if (wrap64 (x33_2 + 1)) ≤ (l0.length : Int) then ((countermandref15_Read.f kj21 (l0.take ((wrap64 (x33_2 + 1)) : Int).toNat) (rd l0 x33_2)).bind fun t135 => (if bt130.1 = t135 then (countermandlaw15_CursorSteps.l0 kj21 l0 a1 a2 x8_21 l0 (l0.length : Int) (wrap64 (x33_2 + 1)) bt130.2.1 bt130.2.2.1 bt130.2.2.2) else (some false))) else (none)) else (none))) = some r := by rw [if_pos rfl] at H; exact H
                                  clear H
                                  have H := H1
                                  clear H1
                                  replace H := Option.bind_eq_some_iff.mp H
                                  obtain ⟨⟨t130, t131, t132, t133⟩, A270, H⟩ := H
                                  replace H : (if 0 ≤ (wrap64 (x33_2 + 1)) then (if (wrap64 (x33_2 + 1)) ≤ (l0.length : Int) then ((countermandref15_Read.f kj21 (l0.take ((wrap64 (x33_2 + 1)) : Int).toNat) (rd l0 x33_2)).bind fun t135 => (if t130 = t135 then (countermandlaw15_CursorSteps.l0 kj21 l0 a1 a2 x8_21 l0 (l0.length : Int) (wrap64 (x33_2 + 1)) t131 t132 t133) else (some false))) else (none)) else (none)) = some r := H
                                  have A27 := Aside0.mk A270
                                  clear A270
                                  obtain ⟨ji28, hji28⟩ : ∃ j_ : Int, (wrap64 (x33_2 + 1)) = j_ := ⟨_, rfl⟩
                                  replace H : (if 0 ≤ (ji28) then (if (ji28) ≤ (l0.length : Int) then ((countermandref15_Read.f kj21 (l0.take ((ji28) : Int).toNat) (rd l0 x33_2)).bind fun t135 => (if t130 = t135 then (countermandlaw15_CursorSteps.l0 kj21 l0 a1 a2 x8_21 l0 (l0.length : Int) ji28 t131 t132 t133) else (some false))) else (none)) else (none)) = some r := by first | (rw [hji28] at H; exact H) | (simp only [hji28] at H ⊢; exact H)
                                  (try rw [hji28] at A24)
                                  (try rw [hji28] at A27)
                                  have hji28w : (IntKind.i64.wrap (x33_2 + 1)) = ji28 := (i64_w _).trans hji28
                                  by_cases c29 : 0 ≤ (ji28)
                                  · rw [if_pos c29] at H
                                    have c29b0 := eq_true c29
                                    have c29b1 : decide (0 ≤ (ji28)) = true := decide_eq_true c29
                                    clear c29
                                    by_cases c30 : (ji28) ≤ (l0.length : Int)
                                    · rw [if_pos c30] at H
                                      have c30b0 := eq_true c30
                                      have c30b1 : decide ((ji28) ≤ (l0.length : Int)) = true := decide_eq_true c30
                                      have c30b8 : (ji28 ≤ (c0 : Int)) = True := eq_true (by have := HC0.out; omega)
                                      have c30b9 : decide (ji28 ≤ (c0 : Int)) = true := decide_eq_true (by have := HC0.out; omega)
                                      clear c30
                                      replace H := Option.bind_eq_some_iff.mp H
                                      obtain ⟨t135, A310, H⟩ := H
                                      replace H : (if t130 = t135 then (countermandlaw15_CursorSteps.l0 kj21 l0 a1 a2 x8_21 l0 (l0.length : Int) ji28 t131 t132 t133) else (some false)) = some r := H
                                      have A31 := Aside0.mk A310
                                      clear A310
                                      by_cases c32 : t130 = t135
                                      · rw [if_pos c32] at H
                                        have c32b0 : (t130 == t135) = true := beq_iff_eq.mpr c32
                                        have c32b1 : (t130 != t135) = false := bne_eq_false_iff_eq.mpr c32
                                        clear c32
                                        have H' := Aside0.mk H
                                        clear H
                                        try go_wp2
                                        have n0_ := Aside0.mk (IsS36.drew HI122.out)
                                        have n1_ := Aside0.mk (below_drew1 HB.out)
                                        clear HI122
                                        clear HB
                                        have HI122 := n0_
                                        have HB := n1_
                                        clear n0_ n1_
                                        refine start_ (n := 17) (S := fun w' => True) (ds := []) #[false, false, false, false, false, false, false, false, false, false, false, false, false, false, false, false, false] (by kernel_rfl) rfl rfl trivial (fun hHeld => ?_); refine with_tabW countermandlaw15_CursorSteps.tab13 countermandlaw15_CursorSteps.bits13 (fun HT_ HW_ => ?_)
                                        generalize wc.drew = w33 at HI122 HB hHeld ⊢
                                        refine pure_ (i := 0) (N := some 57) (v := ?_) (a' := ?_) #[true, false, false, false, false, false, false, false, false, false, false, false, false, false, false, false, false] rfl rfl (any_of HT_.out (by kernel_rfl)) (fun _ _ _ h => h) (Or.inl ⟨by rfl, ?_⟩) ?_ ?_
                                        rotate_left
                                        · intro w'
                                          go_simp
                                          with_reducible rfl
                                        rotate_left
                                        · simp only [Act.put, List.setIfInBounds_toArray, List.set_cons_zero, List.set_cons_succ, i64_w, i32_w]
                                          rfl
                                        refine pure_ (i := 1) (N := some 58) (v := ?_) (a' := ?_) #[true, true, false, false, false, false, false, false, false, false, false, false, false, false, false, false, false] rfl rfl (any_of HT_.out (by kernel_rfl)) (fun _ _ _ h => h) (Or.inl ⟨by rfl, ?_⟩) ?_ ?_
                                        rotate_left
                                        · intro w'
                                          go_simp
                                          with_reducible rfl
                                        rotate_left
                                        · simp only [Act.put, List.setIfInBounds_toArray, List.set_cons_zero, List.set_cons_succ, i64_w, i32_w]
                                          rfl
                                        refine pure_ (i := 3) (N := some 60) (v := ?_) (a' := ?_) #[true, true, false, true, false, false, false, false, false, false, false, false, false, false, false, false, false] rfl rfl (any_of HT_.out (by kernel_rfl)) (fun _ _ _ h => h) (Or.inl ⟨by rfl, ?_⟩) ?_ ?_
                                        rotate_left
                                        · intro w'
                                          go_simp
                                          with_reducible rfl
                                        rotate_left
                                        · simp only [Act.put, List.setIfInBounds_toArray, List.set_cons_zero, List.set_cons_succ, i64_w, i32_w]
                                          rfl
                                        refine one_ (i := 2) (N := some 59) #[true, true, true, true, false, false, false, false, false, false, false, false, false, false, false, false, false] rfl rfl (one_of HT_.out (by kernel_rfl)) (by decide) (fun K hK => ?_)
                                        refine goes_ Try.func19 (by kernel_rfl) rfl #[.pointer (some ⟨gb122, 0, none⟩), .int .i64 (rd l0 x33_2)] (by rfl) rfl rfl (by (try simp only [List.map_toArray, List.map_cons, List.map_nil]); first | done | rfl | (simp only [List.length_drop, List.length_take]; rfl)) ?_
                                        with_reducible refine (cursor_Cursor_Step.calls gb122 x123000_2 x123001_2 x123002_2 (rd l0 x33_2) true t127 t128 t129 w _ ?side1 ?side2 A24.out).mono ?_
                                        (case side1 => repeat (first | (with_reducible first | exact HI122.out | apply IsS36.alloc | apply IsS36.drewN | apply IsS36.drew | apply IsS36.set_0 | apply IsS36.set_1 | apply IsS36.set_2) | exact HI122.out))
                                        (case side2 => repeat (first | (with_reducible first | exact HB.out | apply below_alloc | apply pw_below_drewN | apply below_drew1 | refine below_set ?_ (IsS36.ge HI122.out)) | exact HB.out))
                                        rintro e w34 ⟨rfl, hi, hb, hk⟩
                                        refine ⟨_, rfl, ?_⟩
                                        have n0_ := Aside0.mk (hb)
                                        have n1_ := Aside0.mk (hi)
                                        clear HB
                                        clear HI122
                                        have HB := n0_
                                        have HI122 := n1_
                                        clear n0_ n1_
                                        (try clear hb)
                                        (try clear hb2)
                                        (try clear hk)
                                        (try clear hi)
                                        refine hK.out _ _ trivial (fun hHeld => ?_)
                                        clear hK K
                                        refine norm_ (a' := ?_) ?_ ?_
                                        rotate_left
                                        · show Act.put _ (some 59) _ = _
                                          simp only [Act.put, List.setIfInBounds_toArray, List.set_cons_zero, List.set_cons_succ, i64_w, i32_w]
                                          rfl
                                        refine pure_ (i := 4) (N := some 61) (v := ?_) (a' := ?_) #[true, true, true, true, true, false, false, false, false, false, false, false, false, false, false, false, false] rfl rfl (any_of HT_.out (by kernel_rfl)) (fun _ _ _ h => h) (Or.inl ⟨by rfl, ?_⟩) ?_ ?_
                                        rotate_left
                                        · intro w'
                                          go_simp
                                          with_reducible rfl
                                        rotate_left
                                        · simp only [Act.put, List.setIfInBounds_toArray, List.set_cons_zero, List.set_cons_succ, i64_w, i32_w]
                                          rfl
                                        refine pure_ (i := 5) (N := some 62) (v := ?_) (a' := ?_) #[true, true, true, true, true, true, false, false, false, false, false, false, false, false, false, false, false] rfl rfl (any_of HT_.out (by kernel_rfl)) (fun _ _ _ h => h) (Or.inl ⟨by rfl, ?_⟩) ?_ ?_
                                        rotate_left
                                        · intro w'
                                          go_simp
                                          with_reducible rfl
                                        rotate_left
                                        · simp only [Act.put, List.setIfInBounds_toArray, List.set_cons_zero, List.set_cons_succ, i64_w, i32_w]
                                          rfl
                                        refine pure_ (i := 6) (N := some 63) (v := ?_) (a' := ?_) #[true, true, true, true, true, true, true, false, false, false, false, false, false, false, false, false, false] rfl rfl (any_of HT_.out (by kernel_rfl)) (fun _ _ _ h => h) (Or.inl ⟨by rfl, ?_⟩) ?_ ?_
                                        rotate_left
                                        · intro w'
                                          go_simp
                                          with_reducible rfl
                                        rotate_left
                                        · simp only [Act.put, List.setIfInBounds_toArray, List.set_cons_zero, List.set_cons_succ, i64_w, i32_w]
                                          rfl
                                        refine pure_ (i := 7) (N := some 64) (v := ?_) (a' := ?_) #[true, true, true, true, true, true, true, true, false, false, false, false, false, false, false, false, false] rfl rfl (any_of HT_.out (by kernel_rfl)) (fun _ _ _ h => h) (Or.inl ⟨by rfl, ?_⟩) ?_ ?_
                                        rotate_left
                                        · intro w'
                                          go_simp
                                          with_reducible rfl
                                        rotate_left
                                        · simp only [Act.put, List.setIfInBounds_toArray, List.set_cons_zero, List.set_cons_succ, i64_w, i32_w]
                                          rfl
                                        refine pure_ (i := 9) (N := some 66) (v := ?_) (a' := ?_) #[true, true, true, true, true, true, true, true, false, true, false, false, false, false, false, false, false] rfl rfl (any_of HT_.out (by kernel_rfl)) (fun _ _ _ h => h) (Or.inl ⟨by rfl, ?_⟩) ?_ ?_
                                        rotate_left
                                        · intro w'
                                          go_simp
                                          with_reducible rfl
                                        rotate_left
                                        · simp only [Act.put, List.setIfInBounds_toArray, List.set_cons_zero, List.set_cons_succ, i64_w, i32_w]
                                          rfl
                                        refine pure_ (i := 10) (N := some 67) (v := ?_) (a' := ?_) #[true, true, true, true, true, true, true, true, false, true, true, false, false, false, false, false, false] rfl rfl (any_of HT_.out (by kernel_rfl)) (fun _ _ _ h => h) (Or.inl ⟨by rfl, ?_⟩) ?_ ?_
                                        rotate_left
                                        · intro w'
                                          go_simp
                                          with_reducible rfl
                                        rotate_left
                                        · simp only [Act.put, List.setIfInBounds_toArray, List.set_cons_zero, List.set_cons_succ, i64_w, i32_w]
                                          rfl
                                        refine pure_ (i := 11) (N := some 68) (v := ?_) (a' := ?_) #[true, true, true, true, true, true, true, true, false, true, true, true, false, false, false, false, false] rfl rfl (any_of HT_.out (by kernel_rfl)) (fun _ _ _ h => h) (Or.inl ⟨by rfl, ?_⟩) ?_ ?_
                                        rotate_left
                                        · intro w'
                                          go_simp
                                          with_reducible rfl
                                        rotate_left
                                        · simp only [Act.put, List.setIfInBounds_toArray, List.set_cons_zero, List.set_cons_succ, i64_w, i32_w]
                                          rfl
                                        refine pure_ (i := 12) (N := some 69) (v := ?_) (a' := ?_) #[true, true, true, true, true, true, true, true, false, true, true, true, true, false, false, false, false] rfl rfl (any_of HT_.out (by kernel_rfl)) (fun _ _ _ h => h) (Or.inl ⟨by rfl, ?_⟩) ?_ ?_
                                        rotate_left
                                        · intro w'
                                          go_simp
                                          with_reducible rfl
                                        rotate_left
                                        · simp only [Act.put, List.setIfInBounds_toArray, List.set_cons_zero, List.set_cons_succ, i64_w, i32_w]
                                          rfl
                                        refine pure_ (i := 13) (N := some 70) (v := ?_) (a' := ?_) #[true, true, true, true, true, true, true, true, false, true, true, true, true, true, false, false, false] rfl rfl (any_of HT_.out (by kernel_rfl)) (fun _ _ _ h => h) (Or.inl ⟨by rfl, ?_⟩) ?_ ?_
                                        rotate_left
                                        · intro w'
                                          go_simp
                                          with_reducible rfl
                                        rotate_left
                                        · simp only [Act.put, List.setIfInBounds_toArray, List.set_cons_zero, List.set_cons_succ, i64_w, i32_w]
                                          rfl
                                        refine one_ (i := 8) (N := some 65) #[true, true, true, true, true, true, true, true, true, true, true, true, true, true, false, false, false] rfl rfl (one_of HT_.out (by kernel_rfl)) (by decide) (fun K hK => ?_)
                                        refine goes_ Try.func20 (by kernel_rfl) rfl #[.pointer (some ⟨gb122, 0, none⟩), .int .i64 (rd l0 x33_2)] (by rfl) rfl rfl (by (try simp only [List.map_toArray, List.map_cons, List.map_nil]); first | done | rfl | (simp only [List.length_drop, List.length_take]; rfl)) ?_
                                        with_reducible refine (cursor_Cursor_Read.calls gb122 t127 t128 t129 (rd l0 x33_2) t130 t131 t132 t133 w _ ?side1 ?side2 A27.out).mono ?_
                                        (case side1 => repeat (first | (with_reducible first | exact HI122.out | apply IsS36.alloc | apply IsS36.drewN | apply IsS36.drew | apply IsS36.set_0 | apply IsS36.set_1 | apply IsS36.set_2) | exact HI122.out))
                                        (case side2 => repeat (first | (with_reducible first | exact HB.out | apply below_alloc | apply pw_below_drewN | apply below_drew1 | refine below_set ?_ (IsS36.ge HI122.out)) | exact HB.out))
                                        rintro e w35 ⟨rfl, hi, hb, hk⟩
                                        refine ⟨_, rfl, ?_⟩
                                        have n0_ := Aside0.mk (hb)
                                        have n1_ := Aside0.mk (hi)
                                        clear HB
                                        clear HI122
                                        have HB := n0_
                                        have HI122 := n1_
                                        clear n0_ n1_
                                        (try clear hb)
                                        (try clear hb2)
                                        (try clear hk)
                                        (try clear hi)
                                        obtain ⟨i036, hi036, _, hsz36, _⟩ := info_parts info3
                                        obtain ⟨hcut36, hA36, hC36⟩ := print_take_of (P := Try.prog) (Value.int .i64) 0 22 3 .i64 Try.underlying22 hi036 hsz36 (some ad123) c0 l0 (ji28) (of_decide_eq_true (by first | (with_reducible assumption) | assumption)) (of_decide_eq_true (by first | (with_reducible assumption) | assumption)) HC0.out
                                        have HR134 := Aside0.mk (Kd.C_of_reads (h1 := fun _ => rfl) (hA36 _ (Kd.reads_of_C HR0.out)))
                                        have HC134 := Aside0.mk hC36
                                        clear hA36 hC36 hi036 hsz36
                                        refine hK.out _ _ trivial (fun hHeld => ?_)
                                        clear hK K
                                        refine norm_ (a' := ?_) ?_ ?_
                                        rotate_left
                                        · show Act.put _ (some 65) _ = _
                                          simp only [Act.put, List.setIfInBounds_toArray, List.set_cons_zero, List.set_cons_succ, i64_w, i32_w]
                                          rfl
                                        refine one_ (i := 14) (N := some 71) #[true, true, true, true, true, true, true, true, true, true, true, true, true, true, true, false, false] rfl rfl (one_of HT_.out (by kernel_rfl)) (by decide) (fun K hK => ?_)
                                        refine goes_ Try.func18 (by kernel_rfl) rfl #[.slice (some ad123) (l0.take ((ji28) : Int).toNat).length c0, .int .i64 (rd l0 x33_2)] (by rfl) rfl rfl (by (try simp only [List.map_toArray, List.map_cons, List.map_nil]); first | done | (rw [show (l0.take ((ji28) : Int).toNat).length = (ji28).toNat from (by rw [List.length_take]; have h_ : ((ji28) : Int) ≤ (l0.length : Int) := of_decide_eq_true (by first | (with_reducible assumption) | assumption); omega)] <;> rfl) | (simp only [hji28]; rfl) | rfl | (simp only [List.length_drop, List.length_take]; rfl)) ?_
                                        with_reducible refine (countermandref15_Read.calls kj21 _ _ (l0.take ((ji28) : Int).toNat) (rd l0 x33_2) t135 _ ?side1 ?side2 A31.out).mono ?_
                                        (case side1 => repeat (first | exact (Kd.C_below HR134.out HB.out) | (with_reducible refine Kd.C_alloc ?_ _) | (with_reducible refine Kd.C_drewN ?_ _) | (with_reducible refine Kd.C_drew ?_)))
                                        (case side2 => exact HC134.out)
                                        rintro e w' ⟨rfl, ⟨nd, rfl⟩⟩
                                        refine ⟨_, rfl, ?_⟩
                                        refine hK.out _ _ trivial (fun hHeld => ?_)
                                        clear hK K
                                        refine norm_ (a' := ?_) ?_ ?_
                                        rotate_left
                                        · show Act.put _ (some 71) _ = _
                                          simp only [Act.put, List.setIfInBounds_toArray, List.set_cons_zero, List.set_cons_succ, i64_w, i32_w]
                                          rfl
                                        refine pure_ (i := 15) (N := some 72) (v := ?_) (a' := ?_) #[true, true, true, true, true, true, true, true, true, true, true, true, true, true, true, true, false] rfl rfl (any_of HT_.out (by kernel_rfl)) (fun _ _ _ h => h) (Or.inl ⟨by rfl, ?_⟩) ?_ ?_
                                        rotate_left
                                        · intro w'
                                          go_simp
                                          with_reducible rfl
                                        rotate_left
                                        · simp only [Act.put, List.setIfInBounds_toArray, List.set_cons_zero, List.set_cons_succ, i64_w, i32_w]
                                          rfl
                                        refine pure_ (i := 16) (N := some 73) (v := ?_) (a' := ?_) #[true, true, true, true, true, true, true, true, true, true, true, true, true, true, true, true, true] rfl rfl (any_of HT_.out (by kernel_rfl)) (fun _ _ _ h => h) (Or.inl ⟨by rfl, ?_⟩) ?_ ?_
                                        rotate_left
                                        · intro w'
                                          go_simp
                                          with_reducible rfl
                                        rotate_left
                                        · simp only [Act.put, List.setIfInBounds_toArray, List.set_cons_zero, List.set_cons_succ, i64_w, i32_w]
                                          rfl
                                        refine done_ (done_of HT_.out (by kernel_rfl)) ?_
                                        try go_wp2
                                        go_roundg kj21
                                        case measure => have := HJ5.out; have := HK2.out; have := HJ17.out; have := HJ21.out; omega
                                        case rel => exact ⟨(x8_21), (ji28), (t131), (t132), (t133), (by first | rfl | (simp; done) | (simp [*]; done)), (by first | rfl | (simp; done) | (simp only [← hji28] <;> (first | rfl | simp)) | (simp [*]; done)), H', ⟨by have := HJ5.out; have := HK2.out; have := HJ17.out; have := HJ21.out; omega⟩, ⟨by repeat (first | (with_reducible first | exact HI122.out | apply IsS36.alloc | apply IsS36.drewN | apply IsS36.drew | apply IsS36.set_0 | apply IsS36.set_1 | apply IsS36.set_2) | exact HI122.out)⟩, ⟨by repeat (first | (with_reducible first | exact HB.out | apply below_alloc | apply pw_below_drewN | apply below_drew1 | refine below_set ?_ (IsS36.ge HI122.out)) | exact HB.out)⟩⟩
                                      · rw [if_neg c32] at H
                                        have c32b0 : (t130 == t135) = false := beq_eq_false_iff_ne.mpr c32
                                        have c32b1 : (t130 != t135) = true := bne_iff_ne.mpr c32
                                        obtain rfl := Option.some.inj H
                                        cases hrT
                                    · rw [if_neg c30] at H
                                      exact absurd H (by simp)
                                  · rw [if_neg c29] at H
                                    exact absurd H (by simp)
                                · replace c26 := Bool.eq_false_iff.mpr c26
                                  subst c26
                                  have H1 : (some false) = some r := by rw [if_neg (show ¬ (false = true) by decide)] at H; exact H
                                  clear H
                                  have H := H1
                                  clear H1
                                  obtain rfl := Option.some.inj H
                                  cases hrT
                              · replace c25 := Bool.eq_false_iff.mpr c25
                                subst c25
                                have H1 : (if x12_17 = true then (some false) else ((cursor_Cursor_Read.f t127 t128 t129 (rd l0 x33_2)).bind fun bt136 => (if 0 ≤ (wrap64 (x33_2 + 1)) then (if (wrap64 (x33_2 + 1)) ≤ (l0.length : Int) then ((countermandref15_Read.f kj21 (l0.take ((wrap64 (x33_2 + 1)) : Int).toNat) (rd l0 x33_2)).bind fun t141 => (if bt136.1 = t141 then (countermandlaw15_CursorSteps.l0 kj21 l0 a1 a2 x8_21 l0 (l0.length : Int) (wrap64 (x33_2 + 1)) bt136.2.1 bt136.2.2.1 bt136.2.2.2) else (some false))) else (none)) else (none)))) = some r := by rw [if_neg (show ¬ (false = true) by decide)] at H; exact H
                                clear H
                                have H := H1
                                clear H1
                                by_cases c37 : x12_17 = true
                                · subst c37
                                  have H1 : (some false) = some r := by rw [if_pos rfl] at H; exact H
                                  clear H
                                  have H := H1
                                  clear H1
                                  obtain rfl := Option.some.inj H
                                  cases hrT
                                · replace c37 := Bool.eq_false_iff.mpr c37
                                  subst c37
                                  have H1 : ((cursor_Cursor_Read.f t127 t128 t129 (rd l0 x33_2)).bind fun bt136 => (if 0 ≤ (wrap64 (x33_2 + 1)) then (if (wrap64 (x33_2 + 1)) ≤ (l0.length : Int) then ((countermandref15_Read.f kj21 (l0.take ((wrap64 (x33_2 + 1)) : Int).toNat) (rd l0 x33_2)).bind fun t141 => (if bt136.1 = t141 then (countermandlaw15_CursorSteps.l0 kj21 l0 a1 a2 x8_21 l0 (l0.length : Int) (wrap64 (x33_2 + 1)) bt136.2.1 bt136.2.2.1 bt136.2.2.2) else (some false))) else (none)) else (none))) = some r := by rw [if_neg (show ¬ (false = true) by decide)] at H; exact H
                                  clear H
                                  have H := H1
                                  clear H1
                                  replace H := Option.bind_eq_some_iff.mp H
                                  obtain ⟨⟨t136, t137, t138, t139⟩, A380, H⟩ := H
                                  replace H : (if 0 ≤ (wrap64 (x33_2 + 1)) then (if (wrap64 (x33_2 + 1)) ≤ (l0.length : Int) then ((countermandref15_Read.f kj21 (l0.take ((wrap64 (x33_2 + 1)) : Int).toNat) (rd l0 x33_2)).bind fun t141 => (if t136 = t141 then (countermandlaw15_CursorSteps.l0 kj21 l0 a1 a2 x8_21 l0 (l0.length : Int) (wrap64 (x33_2 + 1)) t137 t138 t139) else (some false))) else (none)) else (none)) = some r := H
                                  have A38 := Aside0.mk A380
                                  clear A380
                                  obtain ⟨ji39, hji39⟩ : ∃ j_ : Int, (wrap64 (x33_2 + 1)) = j_ := ⟨_, rfl⟩
                                  replace H : (if 0 ≤ (ji39) then (if (ji39) ≤ (l0.length : Int) then ((countermandref15_Read.f kj21 (l0.take ((ji39) : Int).toNat) (rd l0 x33_2)).bind fun t141 => (if t136 = t141 then (countermandlaw15_CursorSteps.l0 kj21 l0 a1 a2 x8_21 l0 (l0.length : Int) ji39 t137 t138 t139) else (some false))) else (none)) else (none)) = some r := by first | (rw [hji39] at H; exact H) | (simp only [hji39] at H ⊢; exact H)
                                  (try rw [hji39] at A24)
                                  (try rw [hji39] at A38)
                                  have hji39w : (IntKind.i64.wrap (x33_2 + 1)) = ji39 := (i64_w _).trans hji39
                                  by_cases c40 : 0 ≤ (ji39)
                                  · rw [if_pos c40] at H
                                    have c40b0 := eq_true c40
                                    have c40b1 : decide (0 ≤ (ji39)) = true := decide_eq_true c40
                                    clear c40
                                    by_cases c41 : (ji39) ≤ (l0.length : Int)
                                    · rw [if_pos c41] at H
                                      have c41b0 := eq_true c41
                                      have c41b1 : decide ((ji39) ≤ (l0.length : Int)) = true := decide_eq_true c41
                                      have c41b8 : (ji39 ≤ (c0 : Int)) = True := eq_true (by have := HC0.out; omega)
                                      have c41b9 : decide (ji39 ≤ (c0 : Int)) = true := decide_eq_true (by have := HC0.out; omega)
                                      clear c41
                                      replace H := Option.bind_eq_some_iff.mp H
                                      obtain ⟨t141, A420, H⟩ := H
                                      replace H : (if t136 = t141 then (countermandlaw15_CursorSteps.l0 kj21 l0 a1 a2 x8_21 l0 (l0.length : Int) ji39 t137 t138 t139) else (some false)) = some r := H
                                      have A42 := Aside0.mk A420
                                      clear A420
                                      by_cases c43 : t136 = t141
                                      · rw [if_pos c43] at H
                                        have c43b0 : (t136 == t141) = true := beq_iff_eq.mpr c43
                                        have c43b1 : (t136 != t141) = false := bne_eq_false_iff_eq.mpr c43
                                        clear c43
                                        have H' := Aside0.mk H
                                        clear H
                                        try go_wp2
                                        have n0_ := Aside0.mk (IsS36.drew HI122.out)
                                        have n1_ := Aside0.mk (below_drew1 HB.out)
                                        clear HI122
                                        clear HB
                                        have HI122 := n0_
                                        have HB := n1_
                                        clear n0_ n1_
                                        refine start_ (n := 17) (S := fun w' => True) (ds := []) #[false, false, false, false, false, false, false, false, false, false, false, false, false, false, false, false, false] (by kernel_rfl) rfl rfl trivial (fun hHeld => ?_); refine with_tabW countermandlaw15_CursorSteps.tab13 countermandlaw15_CursorSteps.bits13 (fun HT_ HW_ => ?_)
                                        generalize wc.drew = w44 at HI122 HB hHeld ⊢
                                        refine pure_ (i := 0) (N := some 57) (v := ?_) (a' := ?_) #[true, false, false, false, false, false, false, false, false, false, false, false, false, false, false, false, false] rfl rfl (any_of HT_.out (by kernel_rfl)) (fun _ _ _ h => h) (Or.inl ⟨by rfl, ?_⟩) ?_ ?_
                                        rotate_left
                                        · intro w'
                                          go_simp
                                          with_reducible rfl
                                        rotate_left
                                        · simp only [Act.put, List.setIfInBounds_toArray, List.set_cons_zero, List.set_cons_succ, i64_w, i32_w]
                                          rfl
                                        refine pure_ (i := 1) (N := some 58) (v := ?_) (a' := ?_) #[true, true, false, false, false, false, false, false, false, false, false, false, false, false, false, false, false] rfl rfl (any_of HT_.out (by kernel_rfl)) (fun _ _ _ h => h) (Or.inl ⟨by rfl, ?_⟩) ?_ ?_
                                        rotate_left
                                        · intro w'
                                          go_simp
                                          with_reducible rfl
                                        rotate_left
                                        · simp only [Act.put, List.setIfInBounds_toArray, List.set_cons_zero, List.set_cons_succ, i64_w, i32_w]
                                          rfl
                                        refine pure_ (i := 3) (N := some 60) (v := ?_) (a' := ?_) #[true, true, false, true, false, false, false, false, false, false, false, false, false, false, false, false, false] rfl rfl (any_of HT_.out (by kernel_rfl)) (fun _ _ _ h => h) (Or.inl ⟨by rfl, ?_⟩) ?_ ?_
                                        rotate_left
                                        · intro w'
                                          go_simp
                                          with_reducible rfl
                                        rotate_left
                                        · simp only [Act.put, List.setIfInBounds_toArray, List.set_cons_zero, List.set_cons_succ, i64_w, i32_w]
                                          rfl
                                        refine one_ (i := 2) (N := some 59) #[true, true, true, true, false, false, false, false, false, false, false, false, false, false, false, false, false] rfl rfl (one_of HT_.out (by kernel_rfl)) (by decide) (fun K hK => ?_)
                                        refine goes_ Try.func19 (by kernel_rfl) rfl #[.pointer (some ⟨gb122, 0, none⟩), .int .i64 (rd l0 x33_2)] (by rfl) rfl rfl (by (try simp only [List.map_toArray, List.map_cons, List.map_nil]); first | done | rfl | (simp only [List.length_drop, List.length_take]; rfl)) ?_
                                        with_reducible refine (cursor_Cursor_Step.calls gb122 x123000_2 x123001_2 x123002_2 (rd l0 x33_2) false t127 t128 t129 w _ ?side1 ?side2 A24.out).mono ?_
                                        (case side1 => repeat (first | (with_reducible first | exact HI122.out | apply IsS36.alloc | apply IsS36.drewN | apply IsS36.drew | apply IsS36.set_0 | apply IsS36.set_1 | apply IsS36.set_2) | exact HI122.out))
                                        (case side2 => repeat (first | (with_reducible first | exact HB.out | apply below_alloc | apply pw_below_drewN | apply below_drew1 | refine below_set ?_ (IsS36.ge HI122.out)) | exact HB.out))
                                        rintro e w45 ⟨rfl, hi, hb, hk⟩
                                        refine ⟨_, rfl, ?_⟩
                                        have n0_ := Aside0.mk (hb)
                                        have n1_ := Aside0.mk (hi)
                                        clear HB
                                        clear HI122
                                        have HB := n0_
                                        have HI122 := n1_
                                        clear n0_ n1_
                                        (try clear hb)
                                        (try clear hb2)
                                        (try clear hk)
                                        (try clear hi)
                                        refine hK.out _ _ trivial (fun hHeld => ?_)
                                        clear hK K
                                        refine norm_ (a' := ?_) ?_ ?_
                                        rotate_left
                                        · show Act.put _ (some 59) _ = _
                                          simp only [Act.put, List.setIfInBounds_toArray, List.set_cons_zero, List.set_cons_succ, i64_w, i32_w]
                                          rfl
                                        refine pure_ (i := 4) (N := some 61) (v := ?_) (a' := ?_) #[true, true, true, true, true, false, false, false, false, false, false, false, false, false, false, false, false] rfl rfl (any_of HT_.out (by kernel_rfl)) (fun _ _ _ h => h) (Or.inl ⟨by rfl, ?_⟩) ?_ ?_
                                        rotate_left
                                        · intro w'
                                          go_simp
                                          with_reducible rfl
                                        rotate_left
                                        · simp only [Act.put, List.setIfInBounds_toArray, List.set_cons_zero, List.set_cons_succ, i64_w, i32_w]
                                          rfl
                                        refine pure_ (i := 5) (N := some 62) (v := ?_) (a' := ?_) #[true, true, true, true, true, true, false, false, false, false, false, false, false, false, false, false, false] rfl rfl (any_of HT_.out (by kernel_rfl)) (fun _ _ _ h => h) (Or.inl ⟨by rfl, ?_⟩) ?_ ?_
                                        rotate_left
                                        · intro w'
                                          go_simp
                                          with_reducible rfl
                                        rotate_left
                                        · simp only [Act.put, List.setIfInBounds_toArray, List.set_cons_zero, List.set_cons_succ, i64_w, i32_w]
                                          rfl
                                        refine pure_ (i := 6) (N := some 63) (v := ?_) (a' := ?_) #[true, true, true, true, true, true, true, false, false, false, false, false, false, false, false, false, false] rfl rfl (any_of HT_.out (by kernel_rfl)) (fun _ _ _ h => h) (Or.inl ⟨by rfl, ?_⟩) ?_ ?_
                                        rotate_left
                                        · intro w'
                                          go_simp
                                          with_reducible rfl
                                        rotate_left
                                        · simp only [Act.put, List.setIfInBounds_toArray, List.set_cons_zero, List.set_cons_succ, i64_w, i32_w]
                                          rfl
                                        refine pure_ (i := 7) (N := some 64) (v := ?_) (a' := ?_) #[true, true, true, true, true, true, true, true, false, false, false, false, false, false, false, false, false] rfl rfl (any_of HT_.out (by kernel_rfl)) (fun _ _ _ h => h) (Or.inl ⟨by rfl, ?_⟩) ?_ ?_
                                        rotate_left
                                        · intro w'
                                          go_simp
                                          with_reducible rfl
                                        rotate_left
                                        · simp only [Act.put, List.setIfInBounds_toArray, List.set_cons_zero, List.set_cons_succ, i64_w, i32_w]
                                          rfl
                                        refine pure_ (i := 9) (N := some 66) (v := ?_) (a' := ?_) #[true, true, true, true, true, true, true, true, false, true, false, false, false, false, false, false, false] rfl rfl (any_of HT_.out (by kernel_rfl)) (fun _ _ _ h => h) (Or.inl ⟨by rfl, ?_⟩) ?_ ?_
                                        rotate_left
                                        · intro w'
                                          go_simp
                                          with_reducible rfl
                                        rotate_left
                                        · simp only [Act.put, List.setIfInBounds_toArray, List.set_cons_zero, List.set_cons_succ, i64_w, i32_w]
                                          rfl
                                        refine pure_ (i := 10) (N := some 67) (v := ?_) (a' := ?_) #[true, true, true, true, true, true, true, true, false, true, true, false, false, false, false, false, false] rfl rfl (any_of HT_.out (by kernel_rfl)) (fun _ _ _ h => h) (Or.inl ⟨by rfl, ?_⟩) ?_ ?_
                                        rotate_left
                                        · intro w'
                                          go_simp
                                          with_reducible rfl
                                        rotate_left
                                        · simp only [Act.put, List.setIfInBounds_toArray, List.set_cons_zero, List.set_cons_succ, i64_w, i32_w]
                                          rfl
                                        refine pure_ (i := 11) (N := some 68) (v := ?_) (a' := ?_) #[true, true, true, true, true, true, true, true, false, true, true, true, false, false, false, false, false] rfl rfl (any_of HT_.out (by kernel_rfl)) (fun _ _ _ h => h) (Or.inl ⟨by rfl, ?_⟩) ?_ ?_
                                        rotate_left
                                        · intro w'
                                          go_simp
                                          with_reducible rfl
                                        rotate_left
                                        · simp only [Act.put, List.setIfInBounds_toArray, List.set_cons_zero, List.set_cons_succ, i64_w, i32_w]
                                          rfl
                                        refine pure_ (i := 12) (N := some 69) (v := ?_) (a' := ?_) #[true, true, true, true, true, true, true, true, false, true, true, true, true, false, false, false, false] rfl rfl (any_of HT_.out (by kernel_rfl)) (fun _ _ _ h => h) (Or.inl ⟨by rfl, ?_⟩) ?_ ?_
                                        rotate_left
                                        · intro w'
                                          go_simp
                                          with_reducible rfl
                                        rotate_left
                                        · simp only [Act.put, List.setIfInBounds_toArray, List.set_cons_zero, List.set_cons_succ, i64_w, i32_w]
                                          rfl
                                        refine pure_ (i := 13) (N := some 70) (v := ?_) (a' := ?_) #[true, true, true, true, true, true, true, true, false, true, true, true, true, true, false, false, false] rfl rfl (any_of HT_.out (by kernel_rfl)) (fun _ _ _ h => h) (Or.inl ⟨by rfl, ?_⟩) ?_ ?_
                                        rotate_left
                                        · intro w'
                                          go_simp
                                          with_reducible rfl
                                        rotate_left
                                        · simp only [Act.put, List.setIfInBounds_toArray, List.set_cons_zero, List.set_cons_succ, i64_w, i32_w]
                                          rfl
                                        refine one_ (i := 8) (N := some 65) #[true, true, true, true, true, true, true, true, true, true, true, true, true, true, false, false, false] rfl rfl (one_of HT_.out (by kernel_rfl)) (by decide) (fun K hK => ?_)
                                        refine goes_ Try.func20 (by kernel_rfl) rfl #[.pointer (some ⟨gb122, 0, none⟩), .int .i64 (rd l0 x33_2)] (by rfl) rfl rfl (by (try simp only [List.map_toArray, List.map_cons, List.map_nil]); first | done | rfl | (simp only [List.length_drop, List.length_take]; rfl)) ?_
                                        with_reducible refine (cursor_Cursor_Read.calls gb122 t127 t128 t129 (rd l0 x33_2) t136 t137 t138 t139 w _ ?side1 ?side2 A38.out).mono ?_
                                        (case side1 => repeat (first | (with_reducible first | exact HI122.out | apply IsS36.alloc | apply IsS36.drewN | apply IsS36.drew | apply IsS36.set_0 | apply IsS36.set_1 | apply IsS36.set_2) | exact HI122.out))
                                        (case side2 => repeat (first | (with_reducible first | exact HB.out | apply below_alloc | apply pw_below_drewN | apply below_drew1 | refine below_set ?_ (IsS36.ge HI122.out)) | exact HB.out))
                                        rintro e w46 ⟨rfl, hi, hb, hk⟩
                                        refine ⟨_, rfl, ?_⟩
                                        have n0_ := Aside0.mk (hb)
                                        have n1_ := Aside0.mk (hi)
                                        clear HB
                                        clear HI122
                                        have HB := n0_
                                        have HI122 := n1_
                                        clear n0_ n1_
                                        (try clear hb)
                                        (try clear hb2)
                                        (try clear hk)
                                        (try clear hi)
                                        obtain ⟨i047, hi047, _, hsz47, _⟩ := info_parts info3
                                        obtain ⟨hcut47, hA47, hC47⟩ := print_take_of (P := Try.prog) (Value.int .i64) 0 22 3 .i64 Try.underlying22 hi047 hsz47 (some ad123) c0 l0 (ji39) (of_decide_eq_true (by first | (with_reducible assumption) | assumption)) (of_decide_eq_true (by first | (with_reducible assumption) | assumption)) HC0.out
                                        have HR140 := Aside0.mk (Kd.C_of_reads (h1 := fun _ => rfl) (hA47 _ (Kd.reads_of_C HR0.out)))
                                        have HC140 := Aside0.mk hC47
                                        clear hA47 hC47 hi047 hsz47
                                        refine hK.out _ _ trivial (fun hHeld => ?_)
                                        clear hK K
                                        refine norm_ (a' := ?_) ?_ ?_
                                        rotate_left
                                        · show Act.put _ (some 65) _ = _
                                          simp only [Act.put, List.setIfInBounds_toArray, List.set_cons_zero, List.set_cons_succ, i64_w, i32_w]
                                          rfl
                                        refine one_ (i := 14) (N := some 71) #[true, true, true, true, true, true, true, true, true, true, true, true, true, true, true, false, false] rfl rfl (one_of HT_.out (by kernel_rfl)) (by decide) (fun K hK => ?_)
                                        refine goes_ Try.func18 (by kernel_rfl) rfl #[.slice (some ad123) (l0.take ((ji39) : Int).toNat).length c0, .int .i64 (rd l0 x33_2)] (by rfl) rfl rfl (by (try simp only [List.map_toArray, List.map_cons, List.map_nil]); first | done | (rw [show (l0.take ((ji39) : Int).toNat).length = (ji39).toNat from (by rw [List.length_take]; have h_ : ((ji39) : Int) ≤ (l0.length : Int) := of_decide_eq_true (by first | (with_reducible assumption) | assumption); omega)] <;> rfl) | (simp only [hji39]; rfl) | rfl | (simp only [List.length_drop, List.length_take]; rfl)) ?_
                                        with_reducible refine (countermandref15_Read.calls kj21 _ _ (l0.take ((ji39) : Int).toNat) (rd l0 x33_2) t141 _ ?side1 ?side2 A42.out).mono ?_
                                        (case side1 => repeat (first | exact (Kd.C_below HR140.out HB.out) | (with_reducible refine Kd.C_alloc ?_ _) | (with_reducible refine Kd.C_drewN ?_ _) | (with_reducible refine Kd.C_drew ?_)))
                                        (case side2 => exact HC140.out)
                                        rintro e w' ⟨rfl, ⟨nd, rfl⟩⟩
                                        refine ⟨_, rfl, ?_⟩
                                        refine hK.out _ _ trivial (fun hHeld => ?_)
                                        clear hK K
                                        refine norm_ (a' := ?_) ?_ ?_
                                        rotate_left
                                        · show Act.put _ (some 71) _ = _
                                          simp only [Act.put, List.setIfInBounds_toArray, List.set_cons_zero, List.set_cons_succ, i64_w, i32_w]
                                          rfl
                                        refine pure_ (i := 15) (N := some 72) (v := ?_) (a' := ?_) #[true, true, true, true, true, true, true, true, true, true, true, true, true, true, true, true, false] rfl rfl (any_of HT_.out (by kernel_rfl)) (fun _ _ _ h => h) (Or.inl ⟨by rfl, ?_⟩) ?_ ?_
                                        rotate_left
                                        · intro w'
                                          go_simp
                                          with_reducible rfl
                                        rotate_left
                                        · simp only [Act.put, List.setIfInBounds_toArray, List.set_cons_zero, List.set_cons_succ, i64_w, i32_w]
                                          rfl
                                        refine pure_ (i := 16) (N := some 73) (v := ?_) (a' := ?_) #[true, true, true, true, true, true, true, true, true, true, true, true, true, true, true, true, true] rfl rfl (any_of HT_.out (by kernel_rfl)) (fun _ _ _ h => h) (Or.inl ⟨by rfl, ?_⟩) ?_ ?_
                                        rotate_left
                                        · intro w'
                                          go_simp
                                          with_reducible rfl
                                        rotate_left
                                        · simp only [Act.put, List.setIfInBounds_toArray, List.set_cons_zero, List.set_cons_succ, i64_w, i32_w]
                                          rfl
                                        refine done_ (done_of HT_.out (by kernel_rfl)) ?_
                                        try go_wp2
                                        go_roundg kj21
                                        case measure => have := HJ5.out; have := HK2.out; have := HJ17.out; have := HJ21.out; omega
                                        case rel => exact ⟨(x8_21), (ji39), (t137), (t138), (t139), (by first | rfl | (simp; done) | (simp [*]; done)), (by first | rfl | (simp; done) | (simp only [← hji39] <;> (first | rfl | simp)) | (simp [*]; done)), H', ⟨by have := HJ5.out; have := HK2.out; have := HJ17.out; have := HJ21.out; omega⟩, ⟨by repeat (first | (with_reducible first | exact HI122.out | apply IsS36.alloc | apply IsS36.drewN | apply IsS36.drew | apply IsS36.set_0 | apply IsS36.set_1 | apply IsS36.set_2) | exact HI122.out)⟩, ⟨by repeat (first | (with_reducible first | exact HB.out | apply below_alloc | apply pw_below_drewN | apply below_drew1 | refine below_set ?_ (IsS36.ge HI122.out)) | exact HB.out)⟩⟩
                                      · rw [if_neg c43] at H
                                        have c43b0 : (t136 == t141) = false := beq_eq_false_iff_ne.mpr c43
                                        have c43b1 : (t136 != t141) = true := bne_iff_ne.mpr c43
                                        obtain rfl := Option.some.inj H
                                        cases hrT
                                    · rw [if_neg c41] at H
                                      exact absurd H (by simp)
                                  · rw [if_neg c40] at H
                                    exact absurd H (by simp)
                    · rw [if_neg c16] at H
                      exact absurd H (by simp)
                  · rw [if_neg c14] at H
                    exact absurd H (by simp)
                · rw [if_neg c13] at H
                  exact absurd H (by simp)
              · rw [if_neg c12] at H
                have c12b0 : decide (x33_2 < (l0.length : Int)) = false := decide_eq_false c12
                clear c12
                replace H := Option.bind_eq_some_iff.mp H
                obtain ⟨t142, A480, H⟩ := H
                replace H : ((cursor_Cursor_Copy.f x123000_2 x123001_2 x123002_2).bind fun bt143 => ((cursor_Cursor_Step.f bt143.1 bt143.2.1 bt143.2.2 0).bind fun bt147 => ((cursor_Cursor_At_nil.f 0 a2).bind fun t151 => (if t151 = a2 then ((cursor_Cursor_Step_nil.f 0).bind fun t152 => (if t152 = true then (countermandlaw15_CursorSteps.j4 k2 l0 a1 a2 x8_2 t142 true x123000_2 x123001_2 x123002_2 bt147.2.1 bt147.2.2.1 bt147.2.2.2) else ((cursor_Cursor_Read_nil.f 0).bind fun t153 => (if t153 = 0 then ((cursor_Cursor_Any_nil.f).bind fun t154 => (if t154 = true then (countermandlaw15_CursorSteps.j4 k2 l0 a1 a2 x8_2 t142 true x123000_2 x123001_2 x123002_2 bt147.2.1 bt147.2.2.1 bt147.2.2.2) else ((cursor_Cursor_Copy_nil.f).bind fun _ => (countermandlaw15_CursorSteps.j4 k2 l0 a1 a2 x8_2 t142 false x123000_2 x123001_2 x123002_2 bt147.2.1 bt147.2.2.1 bt147.2.2.2)))) else (countermandlaw15_CursorSteps.j4 k2 l0 a1 a2 x8_2 t142 true x123000_2 x123001_2 x123002_2 bt147.2.1 bt147.2.2.1 bt147.2.2.2))))) else (countermandlaw15_CursorSteps.j4 k2 l0 a1 a2 x8_2 t142 true x123000_2 x123001_2 x123002_2 bt147.2.1 bt147.2.2.1 bt147.2.2.2))))) = some r := H
                have A48 := Aside0.mk A480
                clear A480
                replace H := Option.bind_eq_some_iff.mp H
                obtain ⟨⟨t143, t144, t145⟩, A490, H⟩ := H
                replace H : ((cursor_Cursor_Step.f t143 t144 t145 0).bind fun bt147 => ((cursor_Cursor_At_nil.f 0 a2).bind fun t151 => (if t151 = a2 then ((cursor_Cursor_Step_nil.f 0).bind fun t152 => (if t152 = true then (countermandlaw15_CursorSteps.j4 k2 l0 a1 a2 x8_2 t142 true x123000_2 x123001_2 x123002_2 bt147.2.1 bt147.2.2.1 bt147.2.2.2) else ((cursor_Cursor_Read_nil.f 0).bind fun t153 => (if t153 = 0 then ((cursor_Cursor_Any_nil.f).bind fun t154 => (if t154 = true then (countermandlaw15_CursorSteps.j4 k2 l0 a1 a2 x8_2 t142 true x123000_2 x123001_2 x123002_2 bt147.2.1 bt147.2.2.1 bt147.2.2.2) else ((cursor_Cursor_Copy_nil.f).bind fun _ => (countermandlaw15_CursorSteps.j4 k2 l0 a1 a2 x8_2 t142 false x123000_2 x123001_2 x123002_2 bt147.2.1 bt147.2.2.1 bt147.2.2.2)))) else (countermandlaw15_CursorSteps.j4 k2 l0 a1 a2 x8_2 t142 true x123000_2 x123001_2 x123002_2 bt147.2.1 bt147.2.2.1 bt147.2.2.2))))) else (countermandlaw15_CursorSteps.j4 k2 l0 a1 a2 x8_2 t142 true x123000_2 x123001_2 x123002_2 bt147.2.1 bt147.2.2.1 bt147.2.2.2)))) = some r := H
                have A49 := Aside0.mk A490
                clear A490
                replace H := Option.bind_eq_some_iff.mp H
                obtain ⟨⟨t147, t148, t149, t150⟩, A500, H⟩ := H
                replace H : ((cursor_Cursor_At_nil.f 0 a2).bind fun t151 => (if t151 = a2 then ((cursor_Cursor_Step_nil.f 0).bind fun t152 => (if t152 = true then (countermandlaw15_CursorSteps.j4 k2 l0 a1 a2 x8_2 t142 true x123000_2 x123001_2 x123002_2 t148 t149 t150) else ((cursor_Cursor_Read_nil.f 0).bind fun t153 => (if t153 = 0 then ((cursor_Cursor_Any_nil.f).bind fun t154 => (if t154 = true then (countermandlaw15_CursorSteps.j4 k2 l0 a1 a2 x8_2 t142 true x123000_2 x123001_2 x123002_2 t148 t149 t150) else ((cursor_Cursor_Copy_nil.f).bind fun _ => (countermandlaw15_CursorSteps.j4 k2 l0 a1 a2 x8_2 t142 false x123000_2 x123001_2 x123002_2 t148 t149 t150)))) else (countermandlaw15_CursorSteps.j4 k2 l0 a1 a2 x8_2 t142 true x123000_2 x123001_2 x123002_2 t148 t149 t150))))) else (countermandlaw15_CursorSteps.j4 k2 l0 a1 a2 x8_2 t142 true x123000_2 x123001_2 x123002_2 t148 t149 t150))) = some r := H
                have A50 := Aside0.mk A500
                clear A500
                have HC51 := Aside0.mk H
                clear H
                go_upto_region 20 with (first | ((with_reducible refine gate_callee (f := 18) rfl ?_); refine goesL_ (some 77) rfl rfl Try.func18 (by kernel_rfl) rfl #[.slice A0 l0.length c0, .int .i64 a1] rfl (by (try simp only [List.map_toArray, List.map_cons, List.map_nil]); first | done | rfl | (simp only [List.length_drop, List.length_take]; rfl)) ?_; (with_reducible refine (countermandref15_Read.calls k2 _ _ l0 a1 t142 _ ?side1 ?side2 A48.out).mono ?_); (case side1 => repeat (first | exact (Kd.C_below HR0.out HB.out) | (with_reducible refine Kd.C_alloc ?_ _) | (with_reducible refine Kd.C_drewN ?_ _) | (with_reducible refine Kd.C_drew ?_))); (case side2 => exact HC0.out); rintro e w' ⟨rfl, ⟨nd, rfl⟩⟩; refine ⟨_, rfl, ?_⟩) | ((with_reducible refine gate_callee (f := 21) rfl ?_); refine goesL_ (some 79) rfl rfl Try.func21 (by kernel_rfl) rfl #[.pointer (some ⟨gb122, 0, none⟩)] rfl (by (try simp only [List.map_toArray, List.map_cons, List.map_nil]); first | done | rfl | (simp only [List.length_drop, List.length_take]; rfl)) ?_; (with_reducible refine (cursor_Cursor_Copy.calls gb122 x123000_2 x123001_2 x123002_2 t143 t144 t145 w _ ?side1 ?side2 A49.out).mono ?_); (case side1 => repeat (first | (with_reducible first | exact HI122.out | apply IsS36.alloc | apply IsS36.drewN | apply IsS36.drew | apply IsS36.set_0 | apply IsS36.set_1 | apply IsS36.set_2) | exact HI122.out)); (case side2 => repeat (first | (with_reducible first | exact HB.out | apply below_alloc | apply pw_below_drewN | apply below_drew1 | refine below_set ?_ (IsS36.ge HI122.out)) | exact HB.out)); rintro e w52 ⟨g146, rfl, hi, hb, hb2, hn⟩; refine ⟨_, rfl, ?_⟩; have n0_ := Aside0.mk ((Nat.ne_of_lt (Nat.lt_of_lt_of_le (IsS36.lt (show IsS36 w _ gb122 x123000_2 x123001_2 x123002_2 from by repeat (first | (with_reducible first | exact HI122.out | apply IsS36.alloc | apply IsS36.drewN | apply IsS36.drew | apply IsS36.set_0 | apply IsS36.set_1 | apply IsS36.set_2) | exact HI122.out))) hn) : gb122 ≠ g146)); have n1_ := Aside0.mk ((Nat.ne_of_gt (Nat.lt_of_lt_of_le (IsS36.lt (show IsS36 w _ gb122 x123000_2 x123001_2 x123002_2 from by repeat (first | (with_reducible first | exact HI122.out | apply IsS36.alloc | apply IsS36.drewN | apply IsS36.drew | apply IsS36.set_0 | apply IsS36.set_1 | apply IsS36.set_2) | exact HI122.out))) hn) : g146 ≠ gb122)); have n2_ := Aside0.mk (IsS36.below (by repeat (first | (with_reducible first | exact HI122.out | apply IsS36.alloc | apply IsS36.drewN | apply IsS36.drew | apply IsS36.set_0 | apply IsS36.set_1 | apply IsS36.set_2) | exact HI122.out)) hb2); have n3_ := Aside0.mk (hb); have n4_ := Aside0.mk (hi); clear HI122; clear HB; have NB122_146 := n0_; have NB146_122 := n1_; have HI122 := n2_; have HB := n3_; have HI146 := n4_; clear n0_ n1_ n2_ n3_ n4_; (try clear hb); (try clear hb2); (try clear hk); (try clear hi)) | ((with_reducible refine gate_callee (f := 19) rfl ?_); refine goesL_ (some 81) rfl rfl Try.func19 (by kernel_rfl) rfl #[.pointer (some ⟨g146, 0, none⟩), .int .i64 0] rfl (by (try simp only [List.map_toArray, List.map_cons, List.map_nil]); first | done | rfl | (simp only [List.length_drop, List.length_take]; rfl)) ?_; (with_reducible refine (cursor_Cursor_Step.calls g146 t143 t144 t145 0 t147 t148 t149 t150 w _ ?side1 ?side2 A50.out).mono ?_); (case side1 => repeat (first | (with_reducible first | exact HI146.out | apply IsS36.alloc | apply IsS36.drewN | apply IsS36.drew | apply IsS36.set_0 | apply IsS36.set_1 | apply IsS36.set_2) | exact HI146.out)); (case side2 => repeat (first | (with_reducible first | exact HB.out | apply below_alloc | apply pw_below_drewN | apply below_drew1 | refine below_set ?_ (IsS36.ge HI122.out) | refine below_set ?_ (IsS36.ge HI146.out)) | exact HB.out)); rintro e w53 ⟨rfl, hi, hb, hk⟩; refine ⟨_, rfl, ?_⟩; have n0_ := Aside0.mk ((show IsS36 w w53 gb122 x123000_2 x123001_2 x123002_2 from ⟨KeepBut.blk hk (show IsS36 w _ gb122 x123000_2 x123001_2 x123002_2 from by repeat (first | (with_reducible first | exact HI122.out | apply IsS36.alloc | apply IsS36.drewN | apply IsS36.drew | apply IsS36.set_0 | apply IsS36.set_1 | apply IsS36.set_2) | exact HI122.out)).1 NB122_146.out (by simp), (show IsS36 w _ gb122 x123000_2 x123001_2 x123002_2 from by repeat (first | (with_reducible first | exact HI122.out | apply IsS36.alloc | apply IsS36.drewN | apply IsS36.drew | apply IsS36.set_0 | apply IsS36.set_1 | apply IsS36.set_2) | exact HI122.out)).2⟩)); have n1_ := Aside0.mk (hb); have n2_ := Aside0.mk (hi); clear HI122; clear HB; clear HI146; have HI122 := n0_; have HB := n1_; have HI146 := n2_; clear n0_ n1_ n2_; (try clear hb); (try clear hb2); (try clear hk); (try clear hi)))
                (try simp only [Act.put, List.setIfInBounds_toArray, List.set_cons_zero, List.set_cons_succ])
                go_cut [104] (fun v104 wc => ∃ (kq : Nat) (x104_50 : Bool) (x123000_50 : Int) (x123001_50 : Int) (x123002_50 : Int) (x147000_50 : Int) (x147001_50 : Int) (x147002_50 : Int), v104 = .bool x104_50 ∧ Aside0 (countermandlaw15_CursorSteps.j4 kq l0 a1 a2 x8_2 t142 x104_50 x123000_50 x123001_50 x123002_50 x147000_50 x147001_50 x147002_50 = some r) ∧ Aside0 (kq ≤ k2) ∧ Aside0 (IsS36 w wc gb122 x123000_50 x123001_50 x123002_50) ∧ Aside0 (IsS36 w wc g146 x147000_50 x147001_50 x147002_50) ∧ Aside0 (Below w.heap.size w wc))
                case first =>
                  have H := HC51.out
                  clear HC51
                  replace H := Option.bind_eq_some_iff.mp H
                  obtain ⟨t151, A540, H⟩ := H
                  replace H : (if t151 = a2 then ((cursor_Cursor_Step_nil.f 0).bind fun t152 => (if t152 = true then (countermandlaw15_CursorSteps.j4 k2 l0 a1 a2 x8_2 t142 true x123000_2 x123001_2 x123002_2 t148 t149 t150) else ((cursor_Cursor_Read_nil.f 0).bind fun t153 => (if t153 = 0 then ((cursor_Cursor_Any_nil.f).bind fun t154 => (if t154 = true then (countermandlaw15_CursorSteps.j4 k2 l0 a1 a2 x8_2 t142 true x123000_2 x123001_2 x123002_2 t148 t149 t150) else ((cursor_Cursor_Copy_nil.f).bind fun _ => (countermandlaw15_CursorSteps.j4 k2 l0 a1 a2 x8_2 t142 false x123000_2 x123001_2 x123002_2 t148 t149 t150)))) else (countermandlaw15_CursorSteps.j4 k2 l0 a1 a2 x8_2 t142 true x123000_2 x123001_2 x123002_2 t148 t149 t150))))) else (countermandlaw15_CursorSteps.j4 k2 l0 a1 a2 x8_2 t142 true x123000_2 x123001_2 x123002_2 t148 t149 t150)) = some r := H
                  have A54 := Aside0.mk A540
                  clear A540
                  by_cases c55 : t151 = a2
                  · rw [if_pos c55] at H
                    have c55b0 : (t151 == a2) = true := beq_iff_eq.mpr c55
                    have c55b1 : (t151 != a2) = false := bne_eq_false_iff_eq.mpr c55
                    clear c55
                    (first | rw [c55b0] | (simp only [i64_w, i32_w]; rw [c55b0]) | skip)
                    replace H := Option.bind_eq_some_iff.mp H
                    obtain ⟨t152, A560, H⟩ := H
                    replace H : (if t152 = true then (countermandlaw15_CursorSteps.j4 k2 l0 a1 a2 x8_2 t142 true x123000_2 x123001_2 x123002_2 t148 t149 t150) else ((cursor_Cursor_Read_nil.f 0).bind fun t153 => (if t153 = 0 then ((cursor_Cursor_Any_nil.f).bind fun t154 => (if t154 = true then (countermandlaw15_CursorSteps.j4 k2 l0 a1 a2 x8_2 t142 true x123000_2 x123001_2 x123002_2 t148 t149 t150) else ((cursor_Cursor_Copy_nil.f).bind fun _ => (countermandlaw15_CursorSteps.j4 k2 l0 a1 a2 x8_2 t142 false x123000_2 x123001_2 x123002_2 t148 t149 t150)))) else (countermandlaw15_CursorSteps.j4 k2 l0 a1 a2 x8_2 t142 true x123000_2 x123001_2 x123002_2 t148 t149 t150)))) = some r := H
                    have A56 := Aside0.mk A560
                    clear A560
                    by_cases c57 : t152 = true
                    · subst c57
                      have H1 : (countermandlaw15_CursorSteps.j4 k2 l0 a1 a2 x8_2 t142 true x123000_2 x123001_2 x123002_2 t148 t149 t150) = some r := by rw [if_pos rfl] at H; exact H
                      clear H
                      have H := H1
                      clear H1
                      have H' := Aside0.mk H
                      clear H
                      go_wp2_with (first | ((with_reducible refine gate_callee (f := 22) rfl ?_); refine goesL_ (some 84) rfl rfl Try.func22 (by kernel_rfl) rfl #[.pointer none, .int .i64 0, .int .i64 a2] rfl (by (try simp only [List.map_toArray, List.map_cons, List.map_nil]); first | done | rfl | (simp only [List.length_drop, List.length_take]; rfl)) ?_; (with_reducible refine (cursor_Cursor_At_nil.calls 0 a2 t151 _ A54.out).mono ?_); rintro e w58 ⟨rfl, hb⟩; refine ⟨_, rfl, ?_⟩; have n0_ := Aside0.mk (IsS36.below (by repeat (first | (with_reducible first | exact HI122.out | apply IsS36.alloc | apply IsS36.drewN | apply IsS36.drew | apply IsS36.set_0 | apply IsS36.set_1 | apply IsS36.set_2) | exact HI122.out)) hb); have n1_ := Aside0.mk (IsS36.below (by repeat (first | (with_reducible first | exact HI146.out | apply IsS36.alloc | apply IsS36.drewN | apply IsS36.drew | apply IsS36.set_0 | apply IsS36.set_1 | apply IsS36.set_2) | exact HI146.out)) hb); have n2_ := Aside0.mk (below_step (by repeat (first | (with_reducible first | exact HB.out | apply below_alloc | apply pw_below_drewN | apply below_drew1 | refine below_set ?_ (IsS36.ge HI122.out) | refine below_set ?_ (IsS36.ge HI146.out)) | exact HB.out)) hb); clear HI122; clear HI146; clear HB; have HI122 := n0_; have HI146 := n1_; have HB := n2_; clear n0_ n1_ n2_; (try clear hb); (try clear hb2); (try clear hk); (try clear hi)) | (go_at_call 19; (with_reducible refine (cursor_Cursor_Step_nil.calls 0 true _ A56.out).mono ?_); rintro e w59 ⟨rfl, hb⟩; have n0_ := Aside0.mk (IsS36.below (by repeat (first | (with_reducible first | exact HI122.out | apply IsS36.alloc | apply IsS36.drewN | apply IsS36.drew | apply IsS36.set_0 | apply IsS36.set_1 | apply IsS36.set_2) | exact HI122.out)) hb); have n1_ := Aside0.mk (IsS36.below (by repeat (first | (with_reducible first | exact HI146.out | apply IsS36.alloc | apply IsS36.drewN | apply IsS36.drew | apply IsS36.set_0 | apply IsS36.set_1 | apply IsS36.set_2) | exact HI146.out)) hb); have n2_ := Aside0.mk (below_step (by repeat (first | (with_reducible first | exact HB.out | apply below_alloc | apply pw_below_drewN | apply below_drew1 | refine below_set ?_ (IsS36.ge HI122.out) | refine below_set ?_ (IsS36.ge HI146.out)) | exact HB.out)) hb); clear HI122; clear HI146; clear HB; have HI122 := n0_; have HI146 := n1_; have HB := n2_; clear n0_ n1_ n2_; (try clear hb); (try clear hb2); (try clear hk); (try clear hi)))
                      go_meet
                      case rel => exact ⟨_, (true), (x123000_2), (x123001_2), (x123002_2), (t148), (t149), (t150), (by first | rfl | (simp; done) | (simp [*]; done)), H', ⟨by have := HJ5.out; have := HK2.out; first | omega | exact Nat.le_refl _⟩, ⟨by repeat (first | (with_reducible first | exact HI122.out | apply IsS36.alloc | apply IsS36.drewN | apply IsS36.drew | apply IsS36.set_0 | apply IsS36.set_1 | apply IsS36.set_2) | exact HI122.out)⟩, ⟨by repeat (first | (with_reducible first | exact HI146.out | apply IsS36.alloc | apply IsS36.drewN | apply IsS36.drew | apply IsS36.set_0 | apply IsS36.set_1 | apply IsS36.set_2) | exact HI146.out)⟩, ⟨by repeat (first | (with_reducible first | exact HB.out | apply below_alloc | apply pw_below_drewN | apply below_drew1 | refine below_set ?_ (IsS36.ge HI122.out) | refine below_set ?_ (IsS36.ge HI146.out)) | exact HB.out)⟩⟩
                    · replace c57 := Bool.eq_false_iff.mpr c57
                      subst c57
                      have H1 : ((cursor_Cursor_Read_nil.f 0).bind fun t153 => (if t153 = 0 then ((cursor_Cursor_Any_nil.f).bind fun t154 => (if t154 = true then (countermandlaw15_CursorSteps.j4 k2 l0 a1 a2 x8_2 t142 true x123000_2 x123001_2 x123002_2 t148 t149 t150) else ((cursor_Cursor_Copy_nil.f).bind fun _ => (countermandlaw15_CursorSteps.j4 k2 l0 a1 a2 x8_2 t142 false x123000_2 x123001_2 x123002_2 t148 t149 t150)))) else (countermandlaw15_CursorSteps.j4 k2 l0 a1 a2 x8_2 t142 true x123000_2 x123001_2 x123002_2 t148 t149 t150))) = some r := by rw [if_neg (show ¬ (false = true) by decide)] at H; exact H
                      clear H
                      have H := H1
                      clear H1
                      replace H := Option.bind_eq_some_iff.mp H
                      obtain ⟨t153, A600, H⟩ := H
                      replace H : (if t153 = 0 then ((cursor_Cursor_Any_nil.f).bind fun t154 => (if t154 = true then (countermandlaw15_CursorSteps.j4 k2 l0 a1 a2 x8_2 t142 true x123000_2 x123001_2 x123002_2 t148 t149 t150) else ((cursor_Cursor_Copy_nil.f).bind fun _ => (countermandlaw15_CursorSteps.j4 k2 l0 a1 a2 x8_2 t142 false x123000_2 x123001_2 x123002_2 t148 t149 t150)))) else (countermandlaw15_CursorSteps.j4 k2 l0 a1 a2 x8_2 t142 true x123000_2 x123001_2 x123002_2 t148 t149 t150)) = some r := H
                      have A60 := Aside0.mk A600
                      clear A600
                      by_cases c61 : t153 = 0
                      · rw [if_pos c61] at H
                        have c61b0 : (t153 == 0) = true := beq_iff_eq.mpr c61
                        have c61b1 : (t153 != 0) = false := bne_eq_false_iff_eq.mpr c61
                        clear c61
                        replace H := Option.bind_eq_some_iff.mp H
                        obtain ⟨t154, A620, H⟩ := H
                        replace H : (if t154 = true then (countermandlaw15_CursorSteps.j4 k2 l0 a1 a2 x8_2 t142 true x123000_2 x123001_2 x123002_2 t148 t149 t150) else ((cursor_Cursor_Copy_nil.f).bind fun _ => (countermandlaw15_CursorSteps.j4 k2 l0 a1 a2 x8_2 t142 false x123000_2 x123001_2 x123002_2 t148 t149 t150))) = some r := H
                        have A62 := Aside0.mk A620
                        clear A620
                        by_cases c63 : t154 = true
                        · subst c63
                          have H1 : (countermandlaw15_CursorSteps.j4 k2 l0 a1 a2 x8_2 t142 true x123000_2 x123001_2 x123002_2 t148 t149 t150) = some r := by rw [if_pos rfl] at H; exact H
                          clear H
                          have H := H1
                          clear H1
                          have H' := Aside0.mk H
                          clear H
                          go_wp2_with (first | ((with_reducible refine gate_callee (f := 22) rfl ?_); refine goesL_ (some 84) rfl rfl Try.func22 (by kernel_rfl) rfl #[.pointer none, .int .i64 0, .int .i64 a2] rfl (by (try simp only [List.map_toArray, List.map_cons, List.map_nil]); first | done | rfl | (simp only [List.length_drop, List.length_take]; rfl)) ?_; (with_reducible refine (cursor_Cursor_At_nil.calls 0 a2 t151 _ A54.out).mono ?_); rintro e w64 ⟨rfl, hb⟩; refine ⟨_, rfl, ?_⟩; have n0_ := Aside0.mk (IsS36.below (by repeat (first | (with_reducible first | exact HI122.out | apply IsS36.alloc | apply IsS36.drewN | apply IsS36.drew | apply IsS36.set_0 | apply IsS36.set_1 | apply IsS36.set_2) | exact HI122.out)) hb); have n1_ := Aside0.mk (IsS36.below (by repeat (first | (with_reducible first | exact HI146.out | apply IsS36.alloc | apply IsS36.drewN | apply IsS36.drew | apply IsS36.set_0 | apply IsS36.set_1 | apply IsS36.set_2) | exact HI146.out)) hb); have n2_ := Aside0.mk (below_step (by repeat (first | (with_reducible first | exact HB.out | apply below_alloc | apply pw_below_drewN | apply below_drew1 | refine below_set ?_ (IsS36.ge HI122.out) | refine below_set ?_ (IsS36.ge HI146.out)) | exact HB.out)) hb); clear HI122; clear HI146; clear HB; have HI122 := n0_; have HI146 := n1_; have HB := n2_; clear n0_ n1_ n2_; (try clear hb); (try clear hb2); (try clear hk); (try clear hi)) | (go_at_call 19; (with_reducible refine (cursor_Cursor_Step_nil.calls 0 false _ A56.out).mono ?_); rintro e w65 ⟨rfl, hb⟩; have n0_ := Aside0.mk (IsS36.below (by repeat (first | (with_reducible first | exact HI122.out | apply IsS36.alloc | apply IsS36.drewN | apply IsS36.drew | apply IsS36.set_0 | apply IsS36.set_1 | apply IsS36.set_2) | exact HI122.out)) hb); have n1_ := Aside0.mk (IsS36.below (by repeat (first | (with_reducible first | exact HI146.out | apply IsS36.alloc | apply IsS36.drewN | apply IsS36.drew | apply IsS36.set_0 | apply IsS36.set_1 | apply IsS36.set_2) | exact HI146.out)) hb); have n2_ := Aside0.mk (below_step (by repeat (first | (with_reducible first | exact HB.out | apply below_alloc | apply pw_below_drewN | apply below_drew1 | refine below_set ?_ (IsS36.ge HI122.out) | refine below_set ?_ (IsS36.ge HI146.out)) | exact HB.out)) hb); clear HI122; clear HI146; clear HB; have HI122 := n0_; have HI146 := n1_; have HB := n2_; clear n0_ n1_ n2_; (try clear hb); (try clear hb2); (try clear hk); (try clear hi)) | (go_at_call 20; (with_reducible refine (cursor_Cursor_Read_nil.calls 0 t153 _ A60.out).mono ?_); rintro e w66 ⟨rfl, hb⟩; have n0_ := Aside0.mk (IsS36.below (by repeat (first | (with_reducible first | exact HI122.out | apply IsS36.alloc | apply IsS36.drewN | apply IsS36.drew | apply IsS36.set_0 | apply IsS36.set_1 | apply IsS36.set_2) | exact HI122.out)) hb); have n1_ := Aside0.mk (IsS36.below (by repeat (first | (with_reducible first | exact HI146.out | apply IsS36.alloc | apply IsS36.drewN | apply IsS36.drew | apply IsS36.set_0 | apply IsS36.set_1 | apply IsS36.set_2) | exact HI146.out)) hb); have n2_ := Aside0.mk (below_step (by repeat (first | (with_reducible first | exact HB.out | apply below_alloc | apply pw_below_drewN | apply below_drew1 | refine below_set ?_ (IsS36.ge HI122.out) | refine below_set ?_ (IsS36.ge HI146.out)) | exact HB.out)) hb); clear HI122; clear HI146; clear HB; have HI122 := n0_; have HI146 := n1_; have HB := n2_; clear n0_ n1_ n2_; (try clear hb); (try clear hb2); (try clear hk); (try clear hi)) | (go_at_call 23; (with_reducible refine (cursor_Cursor_Any_nil.calls  true _ A62.out).mono ?_); rintro e w67 ⟨rfl, hb⟩; have n0_ := Aside0.mk (IsS36.below (by repeat (first | (with_reducible first | exact HI122.out | apply IsS36.alloc | apply IsS36.drewN | apply IsS36.drew | apply IsS36.set_0 | apply IsS36.set_1 | apply IsS36.set_2) | exact HI122.out)) hb); have n1_ := Aside0.mk (IsS36.below (by repeat (first | (with_reducible first | exact HI146.out | apply IsS36.alloc | apply IsS36.drewN | apply IsS36.drew | apply IsS36.set_0 | apply IsS36.set_1 | apply IsS36.set_2) | exact HI146.out)) hb); have n2_ := Aside0.mk (below_step (by repeat (first | (with_reducible first | exact HB.out | apply below_alloc | apply pw_below_drewN | apply below_drew1 | refine below_set ?_ (IsS36.ge HI122.out) | refine below_set ?_ (IsS36.ge HI146.out)) | exact HB.out)) hb); clear HI122; clear HI146; clear HB; have HI122 := n0_; have HI146 := n1_; have HB := n2_; clear n0_ n1_ n2_; (try clear hb); (try clear hb2); (try clear hk); (try clear hi)))
                          go_meet
                          case rel => exact ⟨_, (true), (x123000_2), (x123001_2), (x123002_2), (t148), (t149), (t150), (by first | rfl | (simp; done) | (simp [*]; done)), H', ⟨by have := HJ5.out; have := HK2.out; first | omega | exact Nat.le_refl _⟩, ⟨by repeat (first | (with_reducible first | exact HI122.out | apply IsS36.alloc | apply IsS36.drewN | apply IsS36.drew | apply IsS36.set_0 | apply IsS36.set_1 | apply IsS36.set_2) | exact HI122.out)⟩, ⟨by repeat (first | (with_reducible first | exact HI146.out | apply IsS36.alloc | apply IsS36.drewN | apply IsS36.drew | apply IsS36.set_0 | apply IsS36.set_1 | apply IsS36.set_2) | exact HI146.out)⟩, ⟨by repeat (first | (with_reducible first | exact HB.out | apply below_alloc | apply pw_below_drewN | apply below_drew1 | refine below_set ?_ (IsS36.ge HI122.out) | refine below_set ?_ (IsS36.ge HI146.out)) | exact HB.out)⟩⟩
                        · replace c63 := Bool.eq_false_iff.mpr c63
                          subst c63
                          have H1 : ((cursor_Cursor_Copy_nil.f).bind fun _ => (countermandlaw15_CursorSteps.j4 k2 l0 a1 a2 x8_2 t142 false x123000_2 x123001_2 x123002_2 t148 t149 t150)) = some r := by rw [if_neg (show ¬ (false = true) by decide)] at H; exact H
                          clear H
                          have H := H1
                          clear H1
                          replace H := Option.bind_eq_some_iff.mp H
                          obtain ⟨_, A680, H⟩ := H
                          replace H : (countermandlaw15_CursorSteps.j4 k2 l0 a1 a2 x8_2 t142 false x123000_2 x123001_2 x123002_2 t148 t149 t150) = some r := H
                          have A68 := Aside0.mk A680
                          clear A680
                          have H' := Aside0.mk H
                          clear H
                          go_wp2_with (first | ((with_reducible refine gate_callee (f := 22) rfl ?_); refine goesL_ (some 84) rfl rfl Try.func22 (by kernel_rfl) rfl #[.pointer none, .int .i64 0, .int .i64 a2] rfl (by (try simp only [List.map_toArray, List.map_cons, List.map_nil]); first | done | rfl | (simp only [List.length_drop, List.length_take]; rfl)) ?_; (with_reducible refine (cursor_Cursor_At_nil.calls 0 a2 t151 _ A54.out).mono ?_); rintro e w69 ⟨rfl, hb⟩; refine ⟨_, rfl, ?_⟩; have n0_ := Aside0.mk (IsS36.below (by repeat (first | (with_reducible first | exact HI122.out | apply IsS36.alloc | apply IsS36.drewN | apply IsS36.drew | apply IsS36.set_0 | apply IsS36.set_1 | apply IsS36.set_2) | exact HI122.out)) hb); have n1_ := Aside0.mk (IsS36.below (by repeat (first | (with_reducible first | exact HI146.out | apply IsS36.alloc | apply IsS36.drewN | apply IsS36.drew | apply IsS36.set_0 | apply IsS36.set_1 | apply IsS36.set_2) | exact HI146.out)) hb); have n2_ := Aside0.mk (below_step (by repeat (first | (with_reducible first | exact HB.out | apply below_alloc | apply pw_below_drewN | apply below_drew1 | refine below_set ?_ (IsS36.ge HI122.out) | refine below_set ?_ (IsS36.ge HI146.out)) | exact HB.out)) hb); clear HI122; clear HI146; clear HB; have HI122 := n0_; have HI146 := n1_; have HB := n2_; clear n0_ n1_ n2_; (try clear hb); (try clear hb2); (try clear hk); (try clear hi)) | (go_at_call 19; (with_reducible refine (cursor_Cursor_Step_nil.calls 0 false _ A56.out).mono ?_); rintro e w70 ⟨rfl, hb⟩; have n0_ := Aside0.mk (IsS36.below (by repeat (first | (with_reducible first | exact HI122.out | apply IsS36.alloc | apply IsS36.drewN | apply IsS36.drew | apply IsS36.set_0 | apply IsS36.set_1 | apply IsS36.set_2) | exact HI122.out)) hb); have n1_ := Aside0.mk (IsS36.below (by repeat (first | (with_reducible first | exact HI146.out | apply IsS36.alloc | apply IsS36.drewN | apply IsS36.drew | apply IsS36.set_0 | apply IsS36.set_1 | apply IsS36.set_2) | exact HI146.out)) hb); have n2_ := Aside0.mk (below_step (by repeat (first | (with_reducible first | exact HB.out | apply below_alloc | apply pw_below_drewN | apply below_drew1 | refine below_set ?_ (IsS36.ge HI122.out) | refine below_set ?_ (IsS36.ge HI146.out)) | exact HB.out)) hb); clear HI122; clear HI146; clear HB; have HI122 := n0_; have HI146 := n1_; have HB := n2_; clear n0_ n1_ n2_; (try clear hb); (try clear hb2); (try clear hk); (try clear hi)) | (go_at_call 20; (with_reducible refine (cursor_Cursor_Read_nil.calls 0 t153 _ A60.out).mono ?_); rintro e w71 ⟨rfl, hb⟩; have n0_ := Aside0.mk (IsS36.below (by repeat (first | (with_reducible first | exact HI122.out | apply IsS36.alloc | apply IsS36.drewN | apply IsS36.drew | apply IsS36.set_0 | apply IsS36.set_1 | apply IsS36.set_2) | exact HI122.out)) hb); have n1_ := Aside0.mk (IsS36.below (by repeat (first | (with_reducible first | exact HI146.out | apply IsS36.alloc | apply IsS36.drewN | apply IsS36.drew | apply IsS36.set_0 | apply IsS36.set_1 | apply IsS36.set_2) | exact HI146.out)) hb); have n2_ := Aside0.mk (below_step (by repeat (first | (with_reducible first | exact HB.out | apply below_alloc | apply pw_below_drewN | apply below_drew1 | refine below_set ?_ (IsS36.ge HI122.out) | refine below_set ?_ (IsS36.ge HI146.out)) | exact HB.out)) hb); clear HI122; clear HI146; clear HB; have HI122 := n0_; have HI146 := n1_; have HB := n2_; clear n0_ n1_ n2_; (try clear hb); (try clear hb2); (try clear hk); (try clear hi)) | (go_at_call 23; (with_reducible refine (cursor_Cursor_Any_nil.calls  false _ A62.out).mono ?_); rintro e w72 ⟨rfl, hb⟩; have n0_ := Aside0.mk (IsS36.below (by repeat (first | (with_reducible first | exact HI122.out | apply IsS36.alloc | apply IsS36.drewN | apply IsS36.drew | apply IsS36.set_0 | apply IsS36.set_1 | apply IsS36.set_2) | exact HI122.out)) hb); have n1_ := Aside0.mk (IsS36.below (by repeat (first | (with_reducible first | exact HI146.out | apply IsS36.alloc | apply IsS36.drewN | apply IsS36.drew | apply IsS36.set_0 | apply IsS36.set_1 | apply IsS36.set_2) | exact HI146.out)) hb); have n2_ := Aside0.mk (below_step (by repeat (first | (with_reducible first | exact HB.out | apply below_alloc | apply pw_below_drewN | apply below_drew1 | refine below_set ?_ (IsS36.ge HI122.out) | refine below_set ?_ (IsS36.ge HI146.out)) | exact HB.out)) hb); clear HI122; clear HI146; clear HB; have HI122 := n0_; have HI146 := n1_; have HB := n2_; clear n0_ n1_ n2_; (try clear hb); (try clear hb2); (try clear hk); (try clear hi)) | (go_at_call 21; (with_reducible refine (cursor_Cursor_Copy_nil.calls   _ A68.out).mono ?_); rintro e w73 ⟨rfl, hb⟩; have n0_ := Aside0.mk (IsS36.below (by repeat (first | (with_reducible first | exact HI122.out | apply IsS36.alloc | apply IsS36.drewN | apply IsS36.drew | apply IsS36.set_0 | apply IsS36.set_1 | apply IsS36.set_2) | exact HI122.out)) hb); have n1_ := Aside0.mk (IsS36.below (by repeat (first | (with_reducible first | exact HI146.out | apply IsS36.alloc | apply IsS36.drewN | apply IsS36.drew | apply IsS36.set_0 | apply IsS36.set_1 | apply IsS36.set_2) | exact HI146.out)) hb); have n2_ := Aside0.mk (below_step (by repeat (first | (with_reducible first | exact HB.out | apply below_alloc | apply pw_below_drewN | apply below_drew1 | refine below_set ?_ (IsS36.ge HI122.out) | refine below_set ?_ (IsS36.ge HI146.out)) | exact HB.out)) hb); clear HI122; clear HI146; clear HB; have HI122 := n0_; have HI146 := n1_; have HB := n2_; clear n0_ n1_ n2_; (try clear hb); (try clear hb2); (try clear hk); (try clear hi)))
                          go_meet
                          case rel => exact ⟨_, (false), (x123000_2), (x123001_2), (x123002_2), (t148), (t149), (t150), (by first | rfl | (simp; done) | (simp [*]; done)), H', ⟨by have := HJ5.out; have := HK2.out; first | omega | exact Nat.le_refl _⟩, ⟨by repeat (first | (with_reducible first | exact HI122.out | apply IsS36.alloc | apply IsS36.drewN | apply IsS36.drew | apply IsS36.set_0 | apply IsS36.set_1 | apply IsS36.set_2) | exact HI122.out)⟩, ⟨by repeat (first | (with_reducible first | exact HI146.out | apply IsS36.alloc | apply IsS36.drewN | apply IsS36.drew | apply IsS36.set_0 | apply IsS36.set_1 | apply IsS36.set_2) | exact HI146.out)⟩, ⟨by repeat (first | (with_reducible first | exact HB.out | apply below_alloc | apply pw_below_drewN | apply below_drew1 | refine below_set ?_ (IsS36.ge HI122.out) | refine below_set ?_ (IsS36.ge HI146.out)) | exact HB.out)⟩⟩
                      · rw [if_neg c61] at H
                        have c61b0 : (t153 == 0) = false := beq_eq_false_iff_ne.mpr c61
                        have c61b1 : (t153 != 0) = true := bne_iff_ne.mpr c61
                        have H' := Aside0.mk H
                        clear H
                        go_wp2_with (first | ((with_reducible refine gate_callee (f := 22) rfl ?_); refine goesL_ (some 84) rfl rfl Try.func22 (by kernel_rfl) rfl #[.pointer none, .int .i64 0, .int .i64 a2] rfl (by (try simp only [List.map_toArray, List.map_cons, List.map_nil]); first | done | rfl | (simp only [List.length_drop, List.length_take]; rfl)) ?_; (with_reducible refine (cursor_Cursor_At_nil.calls 0 a2 t151 _ A54.out).mono ?_); rintro e w74 ⟨rfl, hb⟩; refine ⟨_, rfl, ?_⟩; have n0_ := Aside0.mk (IsS36.below (by repeat (first | (with_reducible first | exact HI122.out | apply IsS36.alloc | apply IsS36.drewN | apply IsS36.drew | apply IsS36.set_0 | apply IsS36.set_1 | apply IsS36.set_2) | exact HI122.out)) hb); have n1_ := Aside0.mk (IsS36.below (by repeat (first | (with_reducible first | exact HI146.out | apply IsS36.alloc | apply IsS36.drewN | apply IsS36.drew | apply IsS36.set_0 | apply IsS36.set_1 | apply IsS36.set_2) | exact HI146.out)) hb); have n2_ := Aside0.mk (below_step (by repeat (first | (with_reducible first | exact HB.out | apply below_alloc | apply pw_below_drewN | apply below_drew1 | refine below_set ?_ (IsS36.ge HI122.out) | refine below_set ?_ (IsS36.ge HI146.out)) | exact HB.out)) hb); clear HI122; clear HI146; clear HB; have HI122 := n0_; have HI146 := n1_; have HB := n2_; clear n0_ n1_ n2_; (try clear hb); (try clear hb2); (try clear hk); (try clear hi)) | (go_at_call 19; (with_reducible refine (cursor_Cursor_Step_nil.calls 0 false _ A56.out).mono ?_); rintro e w75 ⟨rfl, hb⟩; have n0_ := Aside0.mk (IsS36.below (by repeat (first | (with_reducible first | exact HI122.out | apply IsS36.alloc | apply IsS36.drewN | apply IsS36.drew | apply IsS36.set_0 | apply IsS36.set_1 | apply IsS36.set_2) | exact HI122.out)) hb); have n1_ := Aside0.mk (IsS36.below (by repeat (first | (with_reducible first | exact HI146.out | apply IsS36.alloc | apply IsS36.drewN | apply IsS36.drew | apply IsS36.set_0 | apply IsS36.set_1 | apply IsS36.set_2) | exact HI146.out)) hb); have n2_ := Aside0.mk (below_step (by repeat (first | (with_reducible first | exact HB.out | apply below_alloc | apply pw_below_drewN | apply below_drew1 | refine below_set ?_ (IsS36.ge HI122.out) | refine below_set ?_ (IsS36.ge HI146.out)) | exact HB.out)) hb); clear HI122; clear HI146; clear HB; have HI122 := n0_; have HI146 := n1_; have HB := n2_; clear n0_ n1_ n2_; (try clear hb); (try clear hb2); (try clear hk); (try clear hi)) | (go_at_call 20; (with_reducible refine (cursor_Cursor_Read_nil.calls 0 t153 _ A60.out).mono ?_); rintro e w76 ⟨rfl, hb⟩; have n0_ := Aside0.mk (IsS36.below (by repeat (first | (with_reducible first | exact HI122.out | apply IsS36.alloc | apply IsS36.drewN | apply IsS36.drew | apply IsS36.set_0 | apply IsS36.set_1 | apply IsS36.set_2) | exact HI122.out)) hb); have n1_ := Aside0.mk (IsS36.below (by repeat (first | (with_reducible first | exact HI146.out | apply IsS36.alloc | apply IsS36.drewN | apply IsS36.drew | apply IsS36.set_0 | apply IsS36.set_1 | apply IsS36.set_2) | exact HI146.out)) hb); have n2_ := Aside0.mk (below_step (by repeat (first | (with_reducible first | exact HB.out | apply below_alloc | apply pw_below_drewN | apply below_drew1 | refine below_set ?_ (IsS36.ge HI122.out) | refine below_set ?_ (IsS36.ge HI146.out)) | exact HB.out)) hb); clear HI122; clear HI146; clear HB; have HI122 := n0_; have HI146 := n1_; have HB := n2_; clear n0_ n1_ n2_; (try clear hb); (try clear hb2); (try clear hk); (try clear hi)))
                        go_meet
                        case rel => exact ⟨_, (true), (x123000_2), (x123001_2), (x123002_2), (t148), (t149), (t150), (by first | rfl | (simp; done) | (simp [*]; done)), H', ⟨by have := HJ5.out; have := HK2.out; first | omega | exact Nat.le_refl _⟩, ⟨by repeat (first | (with_reducible first | exact HI122.out | apply IsS36.alloc | apply IsS36.drewN | apply IsS36.drew | apply IsS36.set_0 | apply IsS36.set_1 | apply IsS36.set_2) | exact HI122.out)⟩, ⟨by repeat (first | (with_reducible first | exact HI146.out | apply IsS36.alloc | apply IsS36.drewN | apply IsS36.drew | apply IsS36.set_0 | apply IsS36.set_1 | apply IsS36.set_2) | exact HI146.out)⟩, ⟨by repeat (first | (with_reducible first | exact HB.out | apply below_alloc | apply pw_below_drewN | apply below_drew1 | refine below_set ?_ (IsS36.ge HI122.out) | refine below_set ?_ (IsS36.ge HI146.out)) | exact HB.out)⟩⟩
                  · rw [if_neg c55] at H
                    have c55b0 : (t151 == a2) = false := beq_eq_false_iff_ne.mpr c55
                    have c55b1 : (t151 != a2) = true := bne_iff_ne.mpr c55
                    (first | rw [c55b0] | (simp only [i64_w, i32_w]; rw [c55b0]) | skip)
                    have H' := Aside0.mk H
                    clear H
                    go_wp2_with (first | ((with_reducible refine gate_callee (f := 22) rfl ?_); refine goesL_ (some 84) rfl rfl Try.func22 (by kernel_rfl) rfl #[.pointer none, .int .i64 0, .int .i64 a2] rfl (by (try simp only [List.map_toArray, List.map_cons, List.map_nil]); first | done | rfl | (simp only [List.length_drop, List.length_take]; rfl)) ?_; (with_reducible refine (cursor_Cursor_At_nil.calls 0 a2 t151 _ A54.out).mono ?_); rintro e w77 ⟨rfl, hb⟩; refine ⟨_, rfl, ?_⟩; have n0_ := Aside0.mk (IsS36.below (by repeat (first | (with_reducible first | exact HI122.out | apply IsS36.alloc | apply IsS36.drewN | apply IsS36.drew | apply IsS36.set_0 | apply IsS36.set_1 | apply IsS36.set_2) | exact HI122.out)) hb); have n1_ := Aside0.mk (IsS36.below (by repeat (first | (with_reducible first | exact HI146.out | apply IsS36.alloc | apply IsS36.drewN | apply IsS36.drew | apply IsS36.set_0 | apply IsS36.set_1 | apply IsS36.set_2) | exact HI146.out)) hb); have n2_ := Aside0.mk (below_step (by repeat (first | (with_reducible first | exact HB.out | apply below_alloc | apply pw_below_drewN | apply below_drew1 | refine below_set ?_ (IsS36.ge HI122.out) | refine below_set ?_ (IsS36.ge HI146.out)) | exact HB.out)) hb); clear HI122; clear HI146; clear HB; have HI122 := n0_; have HI146 := n1_; have HB := n2_; clear n0_ n1_ n2_; (try clear hb); (try clear hb2); (try clear hk); (try clear hi)))
                    go_meet
                    case rel => exact ⟨_, (true), (x123000_2), (x123001_2), (x123002_2), (t148), (t149), (t150), (by first | rfl | (simp; done) | (simp [*]; done)), H', ⟨by have := HJ5.out; have := HK2.out; first | omega | exact Nat.le_refl _⟩, ⟨by repeat (first | (with_reducible first | exact HI122.out | apply IsS36.alloc | apply IsS36.drewN | apply IsS36.drew | apply IsS36.set_0 | apply IsS36.set_1 | apply IsS36.set_2) | exact HI122.out)⟩, ⟨by repeat (first | (with_reducible first | exact HI146.out | apply IsS36.alloc | apply IsS36.drewN | apply IsS36.drew | apply IsS36.set_0 | apply IsS36.set_1 | apply IsS36.set_2) | exact HI146.out)⟩, ⟨by repeat (first | (with_reducible first | exact HB.out | apply below_alloc | apply pw_below_drewN | apply below_drew1 | refine below_set ?_ (IsS36.ge HI122.out) | refine below_set ?_ (IsS36.ge HI146.out)) | exact HB.out)⟩⟩
                case rest =>
                  clear HC51
                  try clear c1
                  try clear c2
                  try clear p2
                  try clear c3
                  try clear c4
                  try clear c5
                  try clear c6
                  try clear p6
                  try clear c12
                  try clear c12b0
                  try clear c13
                  try clear c14
                  try clear c16
                  try clear c18
                  try clear c19
                  try clear c20
                  try clear c21
                  try clear c22
                  try clear c25
                  try clear c26
                  try clear c29
                  try clear c30
                  try clear c32
                  try clear c32b0
                  try clear c32b1
                  try clear c37
                  try clear c40
                  try clear c40b0
                  try clear c40b1
                  try clear c41
                  try clear c41b0
                  try clear c41b1
                  try clear c43
                  try clear c43b0
                  try clear c43b1
                  try clear c55
                  try clear c55b0
                  try clear c55b1
                  try clear c57
                  try clear c61
                  try clear c61b0
                  try clear c61b1
                  try clear c63
                  try clear p64
                  obtain ⟨kq, x104_50, x123000_50, x123001_50, x123002_50, x147000_50, x147001_50, x147002_50, rfl, HA, HJ50, HI122, HI146, HB⟩ := hcut
                  cases kq with
                  | zero => exact absurd HA.out (by simp [countermandlaw15_CursorSteps.j4])
                  | succ kj50 =>
                    have H := HA.out
                    clear HA
                    simp only [countermandlaw15_CursorSteps.j4] at H
                    by_cases c78 : x104_50 = true
                    · subst c78
                      have H1 : (some false) = some r := by rw [if_pos rfl] at H; exact H
                      clear H
                      have H := H1
                      clear H1
                      obtain rfl := Option.some.inj H
                      cases hrT
                    · replace c78 := Bool.eq_false_iff.mpr c78
                      subst c78
                      have H1 : ((cursor_Cursor_Read.f x123000_50 x123001_50 x123002_50 a1).bind fun bt155 => (if bt155.1 = t142 then ((cursor_Cursor_At.f bt155.2.1 bt155.2.2.1 bt155.2.2.2 a1 a2).bind fun bt159 => (if bt159.1 = (wrap64 (a2 + t142)) then ((cursor_Cursor_Any.f bt159.2.1 bt159.2.2.1 bt159.2.2.2).bind fun bt163 => (if bt163.1 = true then (if x8_2 = true then ((cursor_Cursor_Read.f bt163.2.1 bt163.2.2.1 bt163.2.2.2 0).bind fun bt167 => ((countermandref15_Read.f kj50 l0 0).bind fun t171 => (if bt167.1 = t171 then ((cursor_Cursor_Read.f x147000_50 x147001_50 x147002_50 1).bind fun bt172 => ((cursor_Cursor_Read.f bt167.2.1 bt167.2.2.1 bt167.2.2.2 1).bind fun bt176 => (some (bt172.1 == bt176.1)))) else (some false)))) else (some false)) else (if x8_2 = true then (some false) else ((cursor_Cursor_Read.f bt163.2.1 bt163.2.2.1 bt163.2.2.2 0).bind fun bt180 => ((countermandref15_Read.f kj50 l0 0).bind fun t184 => (if bt180.1 = t184 then ((cursor_Cursor_Read.f x147000_50 x147001_50 x147002_50 1).bind fun bt185 => ((cursor_Cursor_Read.f bt180.2.1 bt180.2.2.1 bt180.2.2.2 1).bind fun bt189 => (some (bt185.1 == bt189.1)))) else (some false))))))) else (some false))) else (some false))) = some r := by rw [if_neg (show ¬ (false = true) by decide)] at H; exact H
                      clear H
                      have H := H1
                      clear H1
                      replace H := Option.bind_eq_some_iff.mp H
                      obtain ⟨⟨t155, t156, t157, t158⟩, A790, H⟩ := H
                      replace H : (if t155 = t142 then ((cursor_Cursor_At.f t156 t157 t158 a1 a2).bind fun bt159 => (if bt159.1 = (wrap64 (a2 + t142)) then ((cursor_Cursor_Any.f bt159.2.1 bt159.2.2.1 bt159.2.2.2).bind fun bt163 => (if bt163.1 = true then (if x8_2 = true then ((cursor_Cursor_Read.f bt163.2.1 bt163.2.2.1 bt163.2.2.2 0).bind fun bt167 => ((countermandref15_Read.f kj50 l0 0).bind fun t171 => (if bt167.1 = t171 then ((cursor_Cursor_Read.f x147000_50 x147001_50 x147002_50 1).bind fun bt172 => ((cursor_Cursor_Read.f bt167.2.1 bt167.2.2.1 bt167.2.2.2 1).bind fun bt176 => (some (bt172.1 == bt176.1)))) else (some false)))) else (some false)) else (if x8_2 = true then (some false) else ((cursor_Cursor_Read.f bt163.2.1 bt163.2.2.1 bt163.2.2.2 0).bind fun bt180 => ((countermandref15_Read.f kj50 l0 0).bind fun t184 => (if bt180.1 = t184 then ((cursor_Cursor_Read.f x147000_50 x147001_50 x147002_50 1).bind fun bt185 => ((cursor_Cursor_Read.f bt180.2.1 bt180.2.2.1 bt180.2.2.2 1).bind fun bt189 => (some (bt185.1 == bt189.1)))) else (some false))))))) else (some false))) else (some false)) = some r := H
                      have A79 := Aside0.mk A790
                      clear A790
                      by_cases c80 : t155 = t142
                      · rw [if_pos c80] at H
                        have c80b0 : (t155 == t142) = true := beq_iff_eq.mpr c80
                        have c80b1 : (t155 != t142) = false := bne_eq_false_iff_eq.mpr c80
                        clear c80
                        replace H := Option.bind_eq_some_iff.mp H
                        obtain ⟨⟨t159, t160, t161, t162⟩, A810, H⟩ := H
                        replace H : (if t159 = (wrap64 (a2 + t142)) then ((cursor_Cursor_Any.f t160 t161 t162).bind fun bt163 => (if bt163.1 = true then (if x8_2 = true then ((cursor_Cursor_Read.f bt163.2.1 bt163.2.2.1 bt163.2.2.2 0).bind fun bt167 => ((countermandref15_Read.f kj50 l0 0).bind fun t171 => (if bt167.1 = t171 then ((cursor_Cursor_Read.f x147000_50 x147001_50 x147002_50 1).bind fun bt172 => ((cursor_Cursor_Read.f bt167.2.1 bt167.2.2.1 bt167.2.2.2 1).bind fun bt176 => (some (bt172.1 == bt176.1)))) else (some false)))) else (some false)) else (if x8_2 = true then (some false) else ((cursor_Cursor_Read.f bt163.2.1 bt163.2.2.1 bt163.2.2.2 0).bind fun bt180 => ((countermandref15_Read.f kj50 l0 0).bind fun t184 => (if bt180.1 = t184 then ((cursor_Cursor_Read.f x147000_50 x147001_50 x147002_50 1).bind fun bt185 => ((cursor_Cursor_Read.f bt180.2.1 bt180.2.2.1 bt180.2.2.2 1).bind fun bt189 => (some (bt185.1 == bt189.1)))) else (some false))))))) else (some false)) = some r := H
                        have A81 := Aside0.mk A810
                        clear A810
                        by_cases c82 : t159 = (wrap64 (a2 + t142))
                        · rw [if_pos c82] at H
                          have c82b0 : (t159 == (wrap64 (a2 + t142))) = true := beq_iff_eq.mpr c82
                          have c82b1 : (t159 != (wrap64 (a2 + t142))) = false := bne_eq_false_iff_eq.mpr c82
                          clear c82
                          replace H := Option.bind_eq_some_iff.mp H
                          obtain ⟨⟨t163, t164, t165, t166⟩, A830, H⟩ := H
                          replace H : (if t163 = true then (if x8_2 = true then ((cursor_Cursor_Read.f t164 t165 t166 0).bind fun bt167 => ((countermandref15_Read.f kj50 l0 0).bind fun t171 => (if bt167.1 = t171 then ((cursor_Cursor_Read.f x147000_50 x147001_50 x147002_50 1).bind fun bt172 => ((cursor_Cursor_Read.f bt167.2.1 bt167.2.2.1 bt167.2.2.2 1).bind fun bt176 => (some (bt172.1 == bt176.1)))) else (some false)))) else (some false)) else (if x8_2 = true then (some false) else ((cursor_Cursor_Read.f t164 t165 t166 0).bind fun bt180 => ((countermandref15_Read.f kj50 l0 0).bind fun t184 => (if bt180.1 = t184 then ((cursor_Cursor_Read.f x147000_50 x147001_50 x147002_50 1).bind fun bt185 => ((cursor_Cursor_Read.f bt180.2.1 bt180.2.2.1 bt180.2.2.2 1).bind fun bt189 => (some (bt185.1 == bt189.1)))) else (some false)))))) = some r := H
                          have A83 := Aside0.mk A830
                          clear A830
                          by_cases c84 : t163 = true
                          · subst c84
                            have H1 : (if x8_2 = true then ((cursor_Cursor_Read.f t164 t165 t166 0).bind fun bt167 => ((countermandref15_Read.f kj50 l0 0).bind fun t171 => (if bt167.1 = t171 then ((cursor_Cursor_Read.f x147000_50 x147001_50 x147002_50 1).bind fun bt172 => ((cursor_Cursor_Read.f bt167.2.1 bt167.2.2.1 bt167.2.2.2 1).bind fun bt176 => (some (bt172.1 == bt176.1)))) else (some false)))) else (some false)) = some r := by rw [if_pos rfl] at H; exact H
                            clear H
                            have H := H1
                            clear H1
                            by_cases c85 : x8_2 = true
                            · subst c85
                              have H1 : ((cursor_Cursor_Read.f t164 t165 t166 0).bind fun bt167 => ((countermandref15_Read.f kj50 l0 0).bind fun t171 => (if bt167.1 = t171 then ((cursor_Cursor_Read.f x147000_50 x147001_50 x147002_50 1).bind fun bt172 => ((cursor_Cursor_Read.f bt167.2.1 bt167.2.2.1 bt167.2.2.2 1).bind fun bt176 => (some (bt172.1 == bt176.1)))) else (some false)))) = some r := by rw [if_pos rfl] at H; exact H
                              clear H
                              have H := H1
                              clear H1
                              replace H := Option.bind_eq_some_iff.mp H
                              obtain ⟨⟨t167, t168, t169, t170⟩, A860, H⟩ := H
                              replace H : ((countermandref15_Read.f kj50 l0 0).bind fun t171 => (if t167 = t171 then ((cursor_Cursor_Read.f x147000_50 x147001_50 x147002_50 1).bind fun bt172 => ((cursor_Cursor_Read.f t168 t169 t170 1).bind fun bt176 => (some (bt172.1 == bt176.1)))) else (some false))) = some r := H
                              have A86 := Aside0.mk A860
                              clear A860
                              replace H := Option.bind_eq_some_iff.mp H
                              obtain ⟨t171, A870, H⟩ := H
                              replace H : (if t167 = t171 then ((cursor_Cursor_Read.f x147000_50 x147001_50 x147002_50 1).bind fun bt172 => ((cursor_Cursor_Read.f t168 t169 t170 1).bind fun bt176 => (some (bt172.1 == bt176.1)))) else (some false)) = some r := H
                              have A87 := Aside0.mk A870
                              clear A870
                              by_cases c88 : t167 = t171
                              · rw [if_pos c88] at H
                                have c88b0 : (t167 == t171) = true := beq_iff_eq.mpr c88
                                have c88b1 : (t167 != t171) = false := bne_eq_false_iff_eq.mpr c88
                                clear c88
                                replace H := Option.bind_eq_some_iff.mp H
                                obtain ⟨⟨t172, t173, t174, t175⟩, A890, H⟩ := H
                                replace H : ((cursor_Cursor_Read.f t168 t169 t170 1).bind fun bt176 => (some (t172 == bt176.1))) = some r := H
                                have A89 := Aside0.mk A890
                                clear A890
                                replace H := Option.bind_eq_some_iff.mp H
                                obtain ⟨⟨t176, t177, t178, t179⟩, A900, H⟩ := H
                                replace H : (some (t172 == t176)) = some r := H
                                have A90 := Aside0.mk A900
                                clear A900
                                obtain rfl := Option.some.inj H
                                clear hrT
                                go_wp2_with (first | ((with_reducible refine gate_callee (f := 20) rfl ?_); refine goesL_ (some 107) rfl rfl Try.func20 (by kernel_rfl) rfl #[.pointer (some ⟨gb122, 0, none⟩), .int .i64 a1] rfl (by (try simp only [List.map_toArray, List.map_cons, List.map_nil]); first | done | rfl | (simp only [List.length_drop, List.length_take]; rfl)) ?_; (with_reducible refine (cursor_Cursor_Read.calls gb122 x123000_50 x123001_50 x123002_50 a1 t155 t156 t157 t158 w _ ?side1 ?side2 A79.out).mono ?_); (case side1 => repeat (first | (with_reducible first | exact HI122.out | apply IsS36.alloc | apply IsS36.drewN | apply IsS36.drew | apply IsS36.set_0 | apply IsS36.set_1 | apply IsS36.set_2) | exact HI122.out)); (case side2 => repeat (first | (with_reducible first | exact HB.out | apply below_alloc | apply pw_below_drewN | apply below_drew1 | refine below_set ?_ (IsS36.ge HI122.out) | refine below_set ?_ (IsS36.ge HI146.out)) | exact HB.out)); rintro e w91 ⟨rfl, hi, hb, hk⟩; refine ⟨_, rfl, ?_⟩; have n0_ := Aside0.mk ((show IsS36 w w91 g146 x147000_50 x147001_50 x147002_50 from ⟨KeepBut.blk hk (show IsS36 w _ g146 x147000_50 x147001_50 x147002_50 from by repeat (first | (with_reducible first | exact HI146.out | apply IsS36.alloc | apply IsS36.drewN | apply IsS36.drew | apply IsS36.set_0 | apply IsS36.set_1 | apply IsS36.set_2) | exact HI146.out)).1 NB146_122.out (by simp), (show IsS36 w _ g146 x147000_50 x147001_50 x147002_50 from by repeat (first | (with_reducible first | exact HI146.out | apply IsS36.alloc | apply IsS36.drewN | apply IsS36.drew | apply IsS36.set_0 | apply IsS36.set_1 | apply IsS36.set_2) | exact HI146.out)).2⟩)); have n1_ := Aside0.mk (hb); have n2_ := Aside0.mk (hi); clear HI146; clear HB; clear HI122; have HI146 := n0_; have HB := n1_; have HI122 := n2_; clear n0_ n1_ n2_; (try clear hb); (try clear hb2); (try clear hk); (try clear hi)) | (go_at_call 22; (with_reducible refine (cursor_Cursor_At.calls gb122 t156 t157 t158 a1 a2 t159 t160 t161 t162 w _ ?side1 ?side2 A81.out).mono ?_); (case side1 => repeat (first | (with_reducible first | exact HI122.out | apply IsS36.alloc | apply IsS36.drewN | apply IsS36.drew | apply IsS36.set_0 | apply IsS36.set_1 | apply IsS36.set_2) | exact HI122.out)); (case side2 => repeat (first | (with_reducible first | exact HB.out | apply below_alloc | apply pw_below_drewN | apply below_drew1 | refine below_set ?_ (IsS36.ge HI122.out) | refine below_set ?_ (IsS36.ge HI146.out)) | exact HB.out)); rintro e w92 ⟨rfl, hi, hb, hk⟩; have n0_ := Aside0.mk ((show IsS36 w w92 g146 x147000_50 x147001_50 x147002_50 from ⟨KeepBut.blk hk (show IsS36 w _ g146 x147000_50 x147001_50 x147002_50 from by repeat (first | (with_reducible first | exact HI146.out | apply IsS36.alloc | apply IsS36.drewN | apply IsS36.drew | apply IsS36.set_0 | apply IsS36.set_1 | apply IsS36.set_2) | exact HI146.out)).1 NB146_122.out (by simp), (show IsS36 w _ g146 x147000_50 x147001_50 x147002_50 from by repeat (first | (with_reducible first | exact HI146.out | apply IsS36.alloc | apply IsS36.drewN | apply IsS36.drew | apply IsS36.set_0 | apply IsS36.set_1 | apply IsS36.set_2) | exact HI146.out)).2⟩)); have n1_ := Aside0.mk (hb); have n2_ := Aside0.mk (hi); clear HI146; clear HB; clear HI122; have HI146 := n0_; have HB := n1_; have HI122 := n2_; clear n0_ n1_ n2_; (try clear hb); (try clear hb2); (try clear hk); (try clear hi)) | (go_at_call 23; (with_reducible refine (cursor_Cursor_Any.calls gb122 t160 t161 t162 true t164 t165 t166 w _ ?side1 ?side2 A83.out).mono ?_); (case side1 => repeat (first | (with_reducible first | exact HI122.out | apply IsS36.alloc | apply IsS36.drewN | apply IsS36.drew | apply IsS36.set_0 | apply IsS36.set_1 | apply IsS36.set_2) | exact HI122.out)); (case side2 => repeat (first | (with_reducible first | exact HB.out | apply below_alloc | apply pw_below_drewN | apply below_drew1 | refine below_set ?_ (IsS36.ge HI122.out) | refine below_set ?_ (IsS36.ge HI146.out)) | exact HB.out)); rintro e w93 ⟨rfl, hi, hb, hk⟩; have n0_ := Aside0.mk ((show IsS36 w w93 g146 x147000_50 x147001_50 x147002_50 from ⟨KeepBut.blk hk (show IsS36 w _ g146 x147000_50 x147001_50 x147002_50 from by repeat (first | (with_reducible first | exact HI146.out | apply IsS36.alloc | apply IsS36.drewN | apply IsS36.drew | apply IsS36.set_0 | apply IsS36.set_1 | apply IsS36.set_2) | exact HI146.out)).1 NB146_122.out (by simp), (show IsS36 w _ g146 x147000_50 x147001_50 x147002_50 from by repeat (first | (with_reducible first | exact HI146.out | apply IsS36.alloc | apply IsS36.drewN | apply IsS36.drew | apply IsS36.set_0 | apply IsS36.set_1 | apply IsS36.set_2) | exact HI146.out)).2⟩)); have n1_ := Aside0.mk (hb); have n2_ := Aside0.mk (hi); clear HI146; clear HB; clear HI122; have HI146 := n0_; have HB := n1_; have HI122 := n2_; clear n0_ n1_ n2_; (try clear hb); (try clear hb2); (try clear hk); (try clear hi)) | (go_at_call 20; (with_reducible refine (cursor_Cursor_Read.calls gb122 t164 t165 t166 0 t167 t168 t169 t170 w _ ?side1 ?side2 A86.out).mono ?_); (case side1 => repeat (first | (with_reducible first | exact HI122.out | apply IsS36.alloc | apply IsS36.drewN | apply IsS36.drew | apply IsS36.set_0 | apply IsS36.set_1 | apply IsS36.set_2) | exact HI122.out)); (case side2 => repeat (first | (with_reducible first | exact HB.out | apply below_alloc | apply pw_below_drewN | apply below_drew1 | refine below_set ?_ (IsS36.ge HI122.out) | refine below_set ?_ (IsS36.ge HI146.out)) | exact HB.out)); rintro e w94 ⟨rfl, hi, hb, hk⟩; have n0_ := Aside0.mk ((show IsS36 w w94 g146 x147000_50 x147001_50 x147002_50 from ⟨KeepBut.blk hk (show IsS36 w _ g146 x147000_50 x147001_50 x147002_50 from by repeat (first | (with_reducible first | exact HI146.out | apply IsS36.alloc | apply IsS36.drewN | apply IsS36.drew | apply IsS36.set_0 | apply IsS36.set_1 | apply IsS36.set_2) | exact HI146.out)).1 NB146_122.out (by simp), (show IsS36 w _ g146 x147000_50 x147001_50 x147002_50 from by repeat (first | (with_reducible first | exact HI146.out | apply IsS36.alloc | apply IsS36.drewN | apply IsS36.drew | apply IsS36.set_0 | apply IsS36.set_1 | apply IsS36.set_2) | exact HI146.out)).2⟩)); have n1_ := Aside0.mk (hb); have n2_ := Aside0.mk (hi); clear HI146; clear HB; clear HI122; have HI146 := n0_; have HB := n1_; have HI122 := n2_; clear n0_ n1_ n2_; (try clear hb); (try clear hb2); (try clear hk); (try clear hi)) | (go_at_call 18; (with_reducible refine (countermandref15_Read.calls kj50 _ _ l0 0 t171 _ ?side1 ?side2 A87.out).mono ?_); (case side1 => repeat (first | exact (Kd.C_below HR0.out HB.out) | (with_reducible refine Kd.C_alloc ?_ _) | (with_reducible refine Kd.C_drewN ?_ _) | (with_reducible refine Kd.C_drew ?_))); (case side2 => exact HC0.out); rintro e w' ⟨rfl, ⟨nd, rfl⟩⟩) | (go_at_call 20; (with_reducible refine (cursor_Cursor_Read.calls g146 x147000_50 x147001_50 x147002_50 1 t172 t173 t174 t175 w _ ?side1 ?side2 A89.out).mono ?_); (case side1 => repeat (first | (with_reducible first | exact HI146.out | apply IsS36.alloc | apply IsS36.drewN | apply IsS36.drew | apply IsS36.set_0 | apply IsS36.set_1 | apply IsS36.set_2) | exact HI146.out)); (case side2 => repeat (first | (with_reducible first | exact HB.out | apply below_alloc | apply pw_below_drewN | apply below_drew1 | refine below_set ?_ (IsS36.ge HI122.out) | refine below_set ?_ (IsS36.ge HI146.out)) | exact HB.out)); rintro e w95 ⟨rfl, hi, hb, hk⟩; have n0_ := Aside0.mk ((show IsS36 w w95 gb122 t168 t169 t170 from ⟨KeepBut.blk hk (show IsS36 w _ gb122 t168 t169 t170 from by repeat (first | (with_reducible first | exact HI122.out | apply IsS36.alloc | apply IsS36.drewN | apply IsS36.drew | apply IsS36.set_0 | apply IsS36.set_1 | apply IsS36.set_2) | exact HI122.out)).1 NB122_146.out (by simp), (show IsS36 w _ gb122 t168 t169 t170 from by repeat (first | (with_reducible first | exact HI122.out | apply IsS36.alloc | apply IsS36.drewN | apply IsS36.drew | apply IsS36.set_0 | apply IsS36.set_1 | apply IsS36.set_2) | exact HI122.out)).2⟩)); have n1_ := Aside0.mk (hb); have n2_ := Aside0.mk (hi); clear HI122; clear HB; clear HI146; have HI122 := n0_; have HB := n1_; have HI146 := n2_; clear n0_ n1_ n2_; (try clear hb); (try clear hb2); (try clear hk); (try clear hi)) | (go_at_call 20; (with_reducible refine (cursor_Cursor_Read.calls gb122 t168 t169 t170 1 t176 t177 t178 t179 w _ ?side1 ?side2 A90.out).mono ?_); (case side1 => repeat (first | (with_reducible first | exact HI122.out | apply IsS36.alloc | apply IsS36.drewN | apply IsS36.drew | apply IsS36.set_0 | apply IsS36.set_1 | apply IsS36.set_2) | exact HI122.out)); (case side2 => repeat (first | (with_reducible first | exact HB.out | apply below_alloc | apply pw_below_drewN | apply below_drew1 | refine below_set ?_ (IsS36.ge HI122.out) | refine below_set ?_ (IsS36.ge HI146.out)) | exact HB.out)); rintro e w96 ⟨rfl, hi, hb, hk⟩; have n0_ := Aside0.mk ((show IsS36 w w96 g146 t173 t174 t175 from ⟨KeepBut.blk hk (show IsS36 w _ g146 t173 t174 t175 from by repeat (first | (with_reducible first | exact HI146.out | apply IsS36.alloc | apply IsS36.drewN | apply IsS36.drew | apply IsS36.set_0 | apply IsS36.set_1 | apply IsS36.set_2) | exact HI146.out)).1 NB146_122.out (by simp), (show IsS36 w _ g146 t173 t174 t175 from by repeat (first | (with_reducible first | exact HI146.out | apply IsS36.alloc | apply IsS36.drewN | apply IsS36.drew | apply IsS36.set_0 | apply IsS36.set_1 | apply IsS36.set_2) | exact HI146.out)).2⟩)); have n1_ := Aside0.mk (hb); have n2_ := Aside0.mk (hi); clear HI146; clear HB; clear HI122; have HI146 := n0_; have HB := n1_; have HI122 := n2_; clear n0_ n1_ n2_; (try clear hb); (try clear hb2); (try clear hk); (try clear hi)))
                                go_ret
                                exact ⟨by first | rfl | (simp [errW_none, errW_some] <;> rfl) | (simp [*, errW_none, errW_some] <;> rfl), by repeat (first | (with_reducible first | exact HB.out | apply below_alloc | apply pw_below_drewN | apply below_drew1 | refine below_set ?_ (IsS36.ge HI122.out) | refine below_set ?_ (IsS36.ge HI146.out)) | exact HB.out)⟩
                              · rw [if_neg c88] at H
                                have c88b0 : (t167 == t171) = false := beq_eq_false_iff_ne.mpr c88
                                have c88b1 : (t167 != t171) = true := bne_iff_ne.mpr c88
                                obtain rfl := Option.some.inj H
                                cases hrT
                            · replace c85 := Bool.eq_false_iff.mpr c85
                              subst c85
                              have H1 : (some false) = some r := by rw [if_neg (show ¬ (false = true) by decide)] at H; exact H
                              clear H
                              have H := H1
                              clear H1
                              obtain rfl := Option.some.inj H
                              cases hrT
                          · replace c84 := Bool.eq_false_iff.mpr c84
                            subst c84
                            have H1 : (if x8_2 = true then (some false) else ((cursor_Cursor_Read.f t164 t165 t166 0).bind fun bt180 => ((countermandref15_Read.f kj50 l0 0).bind fun t184 => (if bt180.1 = t184 then ((cursor_Cursor_Read.f x147000_50 x147001_50 x147002_50 1).bind fun bt185 => ((cursor_Cursor_Read.f bt180.2.1 bt180.2.2.1 bt180.2.2.2 1).bind fun bt189 => (some (bt185.1 == bt189.1)))) else (some false))))) = some r := by rw [if_neg (show ¬ (false = true) by decide)] at H; exact H
                            clear H
                            have H := H1
                            clear H1
                            by_cases c97 : x8_2 = true
                            · subst c97
                              have H1 : (some false) = some r := by rw [if_pos rfl] at H; exact H
                              clear H
                              have H := H1
                              clear H1
                              obtain rfl := Option.some.inj H
                              cases hrT
                            · replace c97 := Bool.eq_false_iff.mpr c97
                              subst c97
                              have H1 : ((cursor_Cursor_Read.f t164 t165 t166 0).bind fun bt180 => ((countermandref15_Read.f kj50 l0 0).bind fun t184 => (if bt180.1 = t184 then ((cursor_Cursor_Read.f x147000_50 x147001_50 x147002_50 1).bind fun bt185 => ((cursor_Cursor_Read.f bt180.2.1 bt180.2.2.1 bt180.2.2.2 1).bind fun bt189 => (some (bt185.1 == bt189.1)))) else (some false)))) = some r := by rw [if_neg (show ¬ (false = true) by decide)] at H; exact H
                              clear H
                              have H := H1
                              clear H1
                              replace H := Option.bind_eq_some_iff.mp H
                              obtain ⟨⟨t180, t181, t182, t183⟩, A980, H⟩ := H
                              replace H : ((countermandref15_Read.f kj50 l0 0).bind fun t184 => (if t180 = t184 then ((cursor_Cursor_Read.f x147000_50 x147001_50 x147002_50 1).bind fun bt185 => ((cursor_Cursor_Read.f t181 t182 t183 1).bind fun bt189 => (some (bt185.1 == bt189.1)))) else (some false))) = some r := H
                              have A98 := Aside0.mk A980
                              clear A980
                              replace H := Option.bind_eq_some_iff.mp H
                              obtain ⟨t184, A990, H⟩ := H
                              replace H : (if t180 = t184 then ((cursor_Cursor_Read.f x147000_50 x147001_50 x147002_50 1).bind fun bt185 => ((cursor_Cursor_Read.f t181 t182 t183 1).bind fun bt189 => (some (bt185.1 == bt189.1)))) else (some false)) = some r := H
                              have A99 := Aside0.mk A990
                              clear A990
                              by_cases c100 : t180 = t184
                              · rw [if_pos c100] at H
                                have c100b0 : (t180 == t184) = true := beq_iff_eq.mpr c100
                                have c100b1 : (t180 != t184) = false := bne_eq_false_iff_eq.mpr c100
                                clear c100
                                replace H := Option.bind_eq_some_iff.mp H
                                obtain ⟨⟨t185, t186, t187, t188⟩, A1010, H⟩ := H
                                replace H : ((cursor_Cursor_Read.f t181 t182 t183 1).bind fun bt189 => (some (t185 == bt189.1))) = some r := H
                                have A101 := Aside0.mk A1010
                                clear A1010
                                replace H := Option.bind_eq_some_iff.mp H
                                obtain ⟨⟨t189, t190, t191, t192⟩, A1020, H⟩ := H
                                replace H : (some (t185 == t189)) = some r := H
                                have A102 := Aside0.mk A1020
                                clear A1020
                                obtain rfl := Option.some.inj H
                                clear hrT
                                go_wp2_with (first | ((with_reducible refine gate_callee (f := 20) rfl ?_); refine goesL_ (some 107) rfl rfl Try.func20 (by kernel_rfl) rfl #[.pointer (some ⟨gb122, 0, none⟩), .int .i64 a1] rfl (by (try simp only [List.map_toArray, List.map_cons, List.map_nil]); first | done | rfl | (simp only [List.length_drop, List.length_take]; rfl)) ?_; (with_reducible refine (cursor_Cursor_Read.calls gb122 x123000_50 x123001_50 x123002_50 a1 t155 t156 t157 t158 w _ ?side1 ?side2 A79.out).mono ?_); (case side1 => repeat (first | (with_reducible first | exact HI122.out | apply IsS36.alloc | apply IsS36.drewN | apply IsS36.drew | apply IsS36.set_0 | apply IsS36.set_1 | apply IsS36.set_2) | exact HI122.out)); (case side2 => repeat (first | (with_reducible first | exact HB.out | apply below_alloc | apply pw_below_drewN | apply below_drew1 | refine below_set ?_ (IsS36.ge HI122.out) | refine below_set ?_ (IsS36.ge HI146.out)) | exact HB.out)); rintro e w103 ⟨rfl, hi, hb, hk⟩; refine ⟨_, rfl, ?_⟩; have n0_ := Aside0.mk ((show IsS36 w w103 g146 x147000_50 x147001_50 x147002_50 from ⟨KeepBut.blk hk (show IsS36 w _ g146 x147000_50 x147001_50 x147002_50 from by repeat (first | (with_reducible first | exact HI146.out | apply IsS36.alloc | apply IsS36.drewN | apply IsS36.drew | apply IsS36.set_0 | apply IsS36.set_1 | apply IsS36.set_2) | exact HI146.out)).1 NB146_122.out (by simp), (show IsS36 w _ g146 x147000_50 x147001_50 x147002_50 from by repeat (first | (with_reducible first | exact HI146.out | apply IsS36.alloc | apply IsS36.drewN | apply IsS36.drew | apply IsS36.set_0 | apply IsS36.set_1 | apply IsS36.set_2) | exact HI146.out)).2⟩)); have n1_ := Aside0.mk (hb); have n2_ := Aside0.mk (hi); clear HI146; clear HB; clear HI122; have HI146 := n0_; have HB := n1_; have HI122 := n2_; clear n0_ n1_ n2_; (try clear hb); (try clear hb2); (try clear hk); (try clear hi)) | (go_at_call 22; (with_reducible refine (cursor_Cursor_At.calls gb122 t156 t157 t158 a1 a2 t159 t160 t161 t162 w _ ?side1 ?side2 A81.out).mono ?_); (case side1 => repeat (first | (with_reducible first | exact HI122.out | apply IsS36.alloc | apply IsS36.drewN | apply IsS36.drew | apply IsS36.set_0 | apply IsS36.set_1 | apply IsS36.set_2) | exact HI122.out)); (case side2 => repeat (first | (with_reducible first | exact HB.out | apply below_alloc | apply pw_below_drewN | apply below_drew1 | refine below_set ?_ (IsS36.ge HI122.out) | refine below_set ?_ (IsS36.ge HI146.out)) | exact HB.out)); rintro e w104 ⟨rfl, hi, hb, hk⟩; have n0_ := Aside0.mk ((show IsS36 w w104 g146 x147000_50 x147001_50 x147002_50 from ⟨KeepBut.blk hk (show IsS36 w _ g146 x147000_50 x147001_50 x147002_50 from by repeat (first | (with_reducible first | exact HI146.out | apply IsS36.alloc | apply IsS36.drewN | apply IsS36.drew | apply IsS36.set_0 | apply IsS36.set_1 | apply IsS36.set_2) | exact HI146.out)).1 NB146_122.out (by simp), (show IsS36 w _ g146 x147000_50 x147001_50 x147002_50 from by repeat (first | (with_reducible first | exact HI146.out | apply IsS36.alloc | apply IsS36.drewN | apply IsS36.drew | apply IsS36.set_0 | apply IsS36.set_1 | apply IsS36.set_2) | exact HI146.out)).2⟩)); have n1_ := Aside0.mk (hb); have n2_ := Aside0.mk (hi); clear HI146; clear HB; clear HI122; have HI146 := n0_; have HB := n1_; have HI122 := n2_; clear n0_ n1_ n2_; (try clear hb); (try clear hb2); (try clear hk); (try clear hi)) | (go_at_call 23; (with_reducible refine (cursor_Cursor_Any.calls gb122 t160 t161 t162 false t164 t165 t166 w _ ?side1 ?side2 A83.out).mono ?_); (case side1 => repeat (first | (with_reducible first | exact HI122.out | apply IsS36.alloc | apply IsS36.drewN | apply IsS36.drew | apply IsS36.set_0 | apply IsS36.set_1 | apply IsS36.set_2) | exact HI122.out)); (case side2 => repeat (first | (with_reducible first | exact HB.out | apply below_alloc | apply pw_below_drewN | apply below_drew1 | refine below_set ?_ (IsS36.ge HI122.out) | refine below_set ?_ (IsS36.ge HI146.out)) | exact HB.out)); rintro e w105 ⟨rfl, hi, hb, hk⟩; have n0_ := Aside0.mk ((show IsS36 w w105 g146 x147000_50 x147001_50 x147002_50 from ⟨KeepBut.blk hk (show IsS36 w _ g146 x147000_50 x147001_50 x147002_50 from by repeat (first | (with_reducible first | exact HI146.out | apply IsS36.alloc | apply IsS36.drewN | apply IsS36.drew | apply IsS36.set_0 | apply IsS36.set_1 | apply IsS36.set_2) | exact HI146.out)).1 NB146_122.out (by simp), (show IsS36 w _ g146 x147000_50 x147001_50 x147002_50 from by repeat (first | (with_reducible first | exact HI146.out | apply IsS36.alloc | apply IsS36.drewN | apply IsS36.drew | apply IsS36.set_0 | apply IsS36.set_1 | apply IsS36.set_2) | exact HI146.out)).2⟩)); have n1_ := Aside0.mk (hb); have n2_ := Aside0.mk (hi); clear HI146; clear HB; clear HI122; have HI146 := n0_; have HB := n1_; have HI122 := n2_; clear n0_ n1_ n2_; (try clear hb); (try clear hb2); (try clear hk); (try clear hi)) | (go_at_call 20; (with_reducible refine (cursor_Cursor_Read.calls gb122 t164 t165 t166 0 t180 t181 t182 t183 w _ ?side1 ?side2 A98.out).mono ?_); (case side1 => repeat (first | (with_reducible first | exact HI122.out | apply IsS36.alloc | apply IsS36.drewN | apply IsS36.drew | apply IsS36.set_0 | apply IsS36.set_1 | apply IsS36.set_2) | exact HI122.out)); (case side2 => repeat (first | (with_reducible first | exact HB.out | apply below_alloc | apply pw_below_drewN | apply below_drew1 | refine below_set ?_ (IsS36.ge HI122.out) | refine below_set ?_ (IsS36.ge HI146.out)) | exact HB.out)); rintro e w106 ⟨rfl, hi, hb, hk⟩; have n0_ := Aside0.mk ((show IsS36 w w106 g146 x147000_50 x147001_50 x147002_50 from ⟨KeepBut.blk hk (show IsS36 w _ g146 x147000_50 x147001_50 x147002_50 from by repeat (first | (with_reducible first | exact HI146.out | apply IsS36.alloc | apply IsS36.drewN | apply IsS36.drew | apply IsS36.set_0 | apply IsS36.set_1 | apply IsS36.set_2) | exact HI146.out)).1 NB146_122.out (by simp), (show IsS36 w _ g146 x147000_50 x147001_50 x147002_50 from by repeat (first | (with_reducible first | exact HI146.out | apply IsS36.alloc | apply IsS36.drewN | apply IsS36.drew | apply IsS36.set_0 | apply IsS36.set_1 | apply IsS36.set_2) | exact HI146.out)).2⟩)); have n1_ := Aside0.mk (hb); have n2_ := Aside0.mk (hi); clear HI146; clear HB; clear HI122; have HI146 := n0_; have HB := n1_; have HI122 := n2_; clear n0_ n1_ n2_; (try clear hb); (try clear hb2); (try clear hk); (try clear hi)) | (go_at_call 18; (with_reducible refine (countermandref15_Read.calls kj50 _ _ l0 0 t184 _ ?side1 ?side2 A99.out).mono ?_); (case side1 => repeat (first | exact (Kd.C_below HR0.out HB.out) | (with_reducible refine Kd.C_alloc ?_ _) | (with_reducible refine Kd.C_drewN ?_ _) | (with_reducible refine Kd.C_drew ?_))); (case side2 => exact HC0.out); rintro e w' ⟨rfl, ⟨nd, rfl⟩⟩) | (go_at_call 20; (with_reducible refine (cursor_Cursor_Read.calls g146 x147000_50 x147001_50 x147002_50 1 t185 t186 t187 t188 w _ ?side1 ?side2 A101.out).mono ?_); (case side1 => repeat (first | (with_reducible first | exact HI146.out | apply IsS36.alloc | apply IsS36.drewN | apply IsS36.drew | apply IsS36.set_0 | apply IsS36.set_1 | apply IsS36.set_2) | exact HI146.out)); (case side2 => repeat (first | (with_reducible first | exact HB.out | apply below_alloc | apply pw_below_drewN | apply below_drew1 | refine below_set ?_ (IsS36.ge HI122.out) | refine below_set ?_ (IsS36.ge HI146.out)) | exact HB.out)); rintro e w107 ⟨rfl, hi, hb, hk⟩; have n0_ := Aside0.mk ((show IsS36 w w107 gb122 t181 t182 t183 from ⟨KeepBut.blk hk (show IsS36 w _ gb122 t181 t182 t183 from by repeat (first | (with_reducible first | exact HI122.out | apply IsS36.alloc | apply IsS36.drewN | apply IsS36.drew | apply IsS36.set_0 | apply IsS36.set_1 | apply IsS36.set_2) | exact HI122.out)).1 NB122_146.out (by simp), (show IsS36 w _ gb122 t181 t182 t183 from by repeat (first | (with_reducible first | exact HI122.out | apply IsS36.alloc | apply IsS36.drewN | apply IsS36.drew | apply IsS36.set_0 | apply IsS36.set_1 | apply IsS36.set_2) | exact HI122.out)).2⟩)); have n1_ := Aside0.mk (hb); have n2_ := Aside0.mk (hi); clear HI122; clear HB; clear HI146; have HI122 := n0_; have HB := n1_; have HI146 := n2_; clear n0_ n1_ n2_; (try clear hb); (try clear hb2); (try clear hk); (try clear hi)) | (go_at_call 20; (with_reducible refine (cursor_Cursor_Read.calls gb122 t181 t182 t183 1 t189 t190 t191 t192 w _ ?side1 ?side2 A102.out).mono ?_); (case side1 => repeat (first | (with_reducible first | exact HI122.out | apply IsS36.alloc | apply IsS36.drewN | apply IsS36.drew | apply IsS36.set_0 | apply IsS36.set_1 | apply IsS36.set_2) | exact HI122.out)); (case side2 => repeat (first | (with_reducible first | exact HB.out | apply below_alloc | apply pw_below_drewN | apply below_drew1 | refine below_set ?_ (IsS36.ge HI122.out) | refine below_set ?_ (IsS36.ge HI146.out)) | exact HB.out)); rintro e w108 ⟨rfl, hi, hb, hk⟩; have n0_ := Aside0.mk ((show IsS36 w w108 g146 t186 t187 t188 from ⟨KeepBut.blk hk (show IsS36 w _ g146 t186 t187 t188 from by repeat (first | (with_reducible first | exact HI146.out | apply IsS36.alloc | apply IsS36.drewN | apply IsS36.drew | apply IsS36.set_0 | apply IsS36.set_1 | apply IsS36.set_2) | exact HI146.out)).1 NB146_122.out (by simp), (show IsS36 w _ g146 t186 t187 t188 from by repeat (first | (with_reducible first | exact HI146.out | apply IsS36.alloc | apply IsS36.drewN | apply IsS36.drew | apply IsS36.set_0 | apply IsS36.set_1 | apply IsS36.set_2) | exact HI146.out)).2⟩)); have n1_ := Aside0.mk (hb); have n2_ := Aside0.mk (hi); clear HI146; clear HB; clear HI122; have HI146 := n0_; have HB := n1_; have HI122 := n2_; clear n0_ n1_ n2_; (try clear hb); (try clear hb2); (try clear hk); (try clear hi)))
                                go_ret
                                exact ⟨by first | rfl | (simp [errW_none, errW_some] <;> rfl) | (simp [*, errW_none, errW_some] <;> rfl), by repeat (first | (with_reducible first | exact HB.out | apply below_alloc | apply pw_below_drewN | apply below_drew1 | refine below_set ?_ (IsS36.ge HI122.out) | refine below_set ?_ (IsS36.ge HI146.out)) | exact HB.out)⟩
                              · rw [if_neg c100] at H
                                have c100b0 : (t180 == t184) = false := beq_eq_false_iff_ne.mpr c100
                                have c100b1 : (t180 != t184) = true := bne_iff_ne.mpr c100
                                obtain rfl := Option.some.inj H
                                cases hrT
                        · rw [if_neg c82] at H
                          have c82b0 : (t159 == (wrap64 (a2 + t142))) = false := beq_eq_false_iff_ne.mpr c82
                          have c82b1 : (t159 != (wrap64 (a2 + t142))) = true := bne_iff_ne.mpr c82
                          obtain rfl := Option.some.inj H
                          cases hrT
                      · rw [if_neg c80] at H
                        have c80b0 : (t155 == t142) = false := beq_eq_false_iff_ne.mpr c80
                        have c80b1 : (t155 != t142) = true := bne_iff_ne.mpr c80
                        obtain rfl := Option.some.inj H
                        cases hrT
  · replace c5 := Bool.eq_false_iff.mpr c5
    subst c5
    have H1 : (some false) = some r := by rw [if_neg (show ¬ (false = true) by decide)] at H; exact H
    clear H
    have H := H1
    clear H1
    obtain rfl := Option.some.inj H
    cases hrT

/-- THE ONE PURE STATEMENT of countermandlaw15_CursorSteps: yours. -/
def countermandlaw15_CursorSteps.Pure : Prop := ∀ (l0 : List Int) (a1 : Int) (a2 : Int), l0.length ≤ maxLen → l0.length * 8 ≤ 140737488351232 → (∀ x ∈ l0, (Lit.int .i64 x).wf = true) → (Lit.int .i64 a1).wf = true → (Lit.int .i64 a2).wf = true → ∃ k, countermandlaw15_CursorSteps.f k l0 a1 a2 = some true
theorem countermandlaw15_CursorSteps.walk (P : countermandlaw15_CursorSteps.Pure) (a0 : Option Addr) (len0 cap0 : Nat) (z0 : List Int) (a1 : Int) (a2 : Int) (w : World) (w0 : (a0 = none ∧ len0 = 0 ∧ cap0 = 0 ∧ z0 = []) ∨ ∃ x, a0 = some x ∧ len0 ≤ cap0 ∧ cap0 ≤ maxLen ∧ z0.length = cap0 ∧ (∀ i, i < z0.length → w.cell? (x.add i) = some (.int .i64 (z0.getD i 0))) ∧ ∀ n ∈ z0, (Lit.int .i64 n).wf = true) (y0 : len0 * 8 ≤ 140737488351232) (w1 : (Lit.int .i64 a1).wf = true) (w2 : (Lit.int .i64 a2).wf = true) :
    Calls Try.prog 6 #[.slice a0 len0 cap0, .int .i64 a1, .int .i64 a2] w fun e w' => e = .returned (.bool true) ∧ Below w.heap.size w w' := by
  obtain ⟨l0, rfl, hr0, hm0, hw0, hc0⟩ := ReadsInt.ofRowC w0
  obtain ⟨k, h⟩ := P l0 a1 a2 hm0 y0 hw0 w1 w2
  refine (countermandlaw15_CursorSteps.calls k _ _ l0 a1 a2 true w (Kd.C_of_reads (d := (0 : Int)) (h1 := fun _ => rfl) hr0) hc0 h rfl).mono ?_
  rintro e w' ⟨rfl, hd⟩
  exact ⟨rfl, hd⟩

end Go.Proofs.Ytfimbmdbaaiemaa.PCursorSteps
