/- Written by a program of this session, which began as the kit's print and is turned in wip/printer: the plain form of each function, and that the Go code comes to it. -/
import Derived.Test.YtfoefgckjaafnaaPCodeChecksx0
import Derived.Test.YtfoefgckjaafnaaPCodeChecksx8
import Derived.Test.YtfoefgckjaafnaaPCodeChecksx9
namespace Go.Proofs.Ytfoefgckjaafnaa.PCodeChecks
open Go.RowKit Go.Proofs.YtfoefgckjaafnaaW.PrintWords Go.Proofs.YtfoefgckjaafnaaW.PrintLast Go.Proofs.YtfoefgckjaafnaaW.PrintMore
attribute [local go_sem] max2_int min2_int max_two min_two max_three min_three max_four min_four   -- for this text's walks alone
set_option linter.unusedVariables false
set_option linter.unusedSimpArgs false

/-! ### countermandref07_One: function 34 -/
mutual
def countermandref07_One.j0 : Nat → List (S71) → Int → Bool → Int → Int → Int → Int → Option (Bool)
  | 0, _, _, _, _, _, _, _ => none
  | k + 1, x0, x1, x82, x182000, x182001, x182002, x182003 => if x82 = true then (some false) else ((countermandref07_Block.f k x0 x1).bind fun t190 => (if x182000 = 0 then (if t190 ≥ 0 then (countermandref07_One.j1 k x0 x1 t190 true x182000 x182001 x182002 x182003) else (if x182000 > 4 then (countermandref07_One.j1 k x0 x1 t190 (decide (t190 < 0)) x182000 x182001 x182002 x182003) else (countermandref07_One.j1 k x0 x1 t190 false x182000 x182001 x182002 x182003))) else (if x182000 = 4 then (if t190 ≥ 0 then (countermandref07_One.j1 k x0 x1 t190 true x182000 x182001 x182002 x182003) else (if x182000 > 4 then (countermandref07_One.j1 k x0 x1 t190 (decide (t190 < 0)) x182000 x182001 x182002 x182003) else (countermandref07_One.j1 k x0 x1 t190 false x182000 x182001 x182002 x182003))) else (if x182000 > 4 then (countermandref07_One.j1 k x0 x1 t190 (decide (t190 < 0)) x182000 x182001 x182002 x182003) else (countermandref07_One.j1 k x0 x1 t190 false x182000 x182001 x182002 x182003)))))
def countermandref07_One.j1 : Nat → List (S71) → Int → Int → Bool → Int → Int → Int → Int → Option (Bool)
  | 0, _, _, _, _, _, _, _, _ => none
  | k + 1, x0, x1, x8, x106, x182000, x182001, x182002, x182003 => if x106 = true then (some false) else (if x182000 = 3 then (countermandref07_One.j2 k x0 x1 x8 true x182000 x182001 x182002 x182003) else (countermandref07_One.j2 k x0 x1 x8 (x182000 == 20) x182000 x182001 x182002 x182003))
def countermandref07_One.j2 : Nat → List (S71) → Int → Int → Bool → Int → Int → Int → Int → Option (Bool)
  | 0, _, _, _, _, _, _, _, _ => none
  | k + 1, x0, x1, x8, x114, x182000, x182001, x182002, x182003 => if x114 = true then (if x182001 ≤ x1 then (some false) else (if x182001 > (x0.length : Int) then (some false) else (if x182001 = (x0.length : Int) then (if x8 ≥ 0 then (some false) else (if x182001 < (x0.length : Int) then ((countermandref07_Block.f k x0 x182001).bind fun t191 => (if t191 = x8 then (countermandref07_One.j3 k x0 x1 x8 x182000 x182001 x182002 x182003) else (some false))) else (countermandref07_One.j3 k x0 x1 x8 x182000 x182001 x182002 x182003))) else (if x182001 < (x0.length : Int) then ((countermandref07_Block.f k x0 x182001).bind fun t192 => (if t192 = x8 then (countermandref07_One.j3 k x0 x1 x8 x182000 x182001 x182002 x182003) else (some false))) else (countermandref07_One.j3 k x0 x1 x8 x182000 x182001 x182002 x182003))))) else (countermandref07_One.j3 k x0 x1 x8 x182000 x182001 x182002 x182003)
def countermandref07_One.j3 : Nat → List (S71) → Int → Int → Int → Int → Int → Int → Option (Bool)
  | 0, _, _, _, _, _, _, _ => none
  | k + 1, x0, x1, x8, x182000, x182001, x182002, x182003 => countermandref07_One.l0 k x0 x1 0 (wrap64 (x8 + 1)) x182000 x182001 x182002 x182003
def countermandref07_One.l0 : Nat → List (S71) → Int → Int → Int → Int → Int → Int → Int → Option (Bool)
  | 0, _, _, _, _, _, _, _, _ => none
  | k + 1, x0, x1, x9, x10, x182000, x182001, x182002, x182003 => if x10 < x1 then (if 0 ≤ x10 then (if x10 < (x0.length : Int) then (if ((rd_T71 x0 x10).f0) = 21 then (if x182000 = 14 then (countermandref07_One.j5 k x0 x1 x9 x10 true x182000 x182001 x182002 x182003) else (if x182000 = 19 then (countermandref07_One.j5 k x0 x1 x9 x10 true x182000 x182001 x182002 x182003) else (if x182000 = 20 then (countermandref07_One.j5 k x0 x1 x9 x10 true x182000 x182001 x182002 x182003) else (countermandref07_One.j5 k x0 x1 x9 x10 (x182000 == 21) x182000 x182001 x182002 x182003)))) else (countermandref07_One.j5 k x0 x1 x9 x10 false x182000 x182001 x182002 x182003)) else (none)) else (none)) else (if x182000 = 20 then (some (decide (x9 < 3))) else (some true))
def countermandref07_One.j5 : Nat → List (S71) → Int → Int → Int → Bool → Int → Int → Int → Int → Option (Bool)
  | 0, _, _, _, _, _, _, _, _, _ => none
  | k + 1, x0, x1, x9, x10, x184, x182000, x182001, x182002, x182003 => if x184 = true then (some false) else (if 0 ≤ x10 then (if x10 < (x0.length : Int) then (if ((rd_T71 x0 x10).f0) = 20 then (countermandref07_One.l0 k x0 x1 (wrap64 (x9 + 1)) (wrap64 (x10 + 1)) x182000 x182001 x182002 x182003) else (countermandref07_One.l0 k x0 x1 x9 (wrap64 (x10 + 1)) x182000 x182001 x182002 x182003)) else (none)) else (none))
end
def countermandref07_One.f (k : Nat) (l0 : List (S71)) (a1 : Int) : Option (Bool) := if 0 ≤ a1 then (if a1 < (l0.length : Int) then ((countermandref07_limits.f k ((rd_T71 l0 a1).f0)).bind fun bt182 => (if bt182.2.2.2.2.2.2 = true then (if ((rd_T71 l0 a1).f1) < bt182.1 then (countermandref07_One.j0 k l0 a1 true ((rd_T71 l0 a1).f0) ((rd_T71 l0 a1).f1) ((rd_T71 l0 a1).f2) ((rd_T71 l0 a1).f3)) else (if ((rd_T71 l0 a1).f1) > bt182.2.1 then (countermandref07_One.j0 k l0 a1 true ((rd_T71 l0 a1).f0) ((rd_T71 l0 a1).f1) ((rd_T71 l0 a1).f2) ((rd_T71 l0 a1).f3)) else (if ((rd_T71 l0 a1).f2) < bt182.2.2.1 then (countermandref07_One.j0 k l0 a1 true ((rd_T71 l0 a1).f0) ((rd_T71 l0 a1).f1) ((rd_T71 l0 a1).f2) ((rd_T71 l0 a1).f3)) else (if ((rd_T71 l0 a1).f2) > bt182.2.2.2.1 then (countermandref07_One.j0 k l0 a1 true ((rd_T71 l0 a1).f0) ((rd_T71 l0 a1).f1) ((rd_T71 l0 a1).f2) ((rd_T71 l0 a1).f3)) else (if ((rd_T71 l0 a1).f3) < bt182.2.2.2.2.1 then (countermandref07_One.j0 k l0 a1 true ((rd_T71 l0 a1).f0) ((rd_T71 l0 a1).f1) ((rd_T71 l0 a1).f2) ((rd_T71 l0 a1).f3)) else (if ((rd_T71 l0 a1).f3) > bt182.2.2.2.2.2.1 then (countermandref07_One.j0 k l0 a1 true ((rd_T71 l0 a1).f0) ((rd_T71 l0 a1).f1) ((rd_T71 l0 a1).f2) ((rd_T71 l0 a1).f3)) else (if ((rd_T71 l0 a1).f0) = 12 then (countermandref07_One.j0 k l0 a1 (((rd_T71 l0 a1).f1) == ((rd_T71 l0 a1).f2)) ((rd_T71 l0 a1).f0) ((rd_T71 l0 a1).f1) ((rd_T71 l0 a1).f2) ((rd_T71 l0 a1).f3)) else (countermandref07_One.j0 k l0 a1 false ((rd_T71 l0 a1).f0) ((rd_T71 l0 a1).f1) ((rd_T71 l0 a1).f2) ((rd_T71 l0 a1).f3))))))))) else (countermandref07_One.j0 k l0 a1 true ((rd_T71 l0 a1).f0) ((rd_T71 l0 a1).f1) ((rd_T71 l0 a1).f2) ((rd_T71 l0 a1).f3)))) else (none)) else (none)
theorem countermandref07_One.mono_l : ∀ k, (∀ y0 y1 y2 y3 y4 y5 y6, LeO (countermandref07_One.j0 k y0 y1 y2 y3 y4 y5 y6) (countermandref07_One.j0 (k + 1) y0 y1 y2 y3 y4 y5 y6)) ∧ (∀ y0 y1 y2 y3 y4 y5 y6 y7, LeO (countermandref07_One.j1 k y0 y1 y2 y3 y4 y5 y6 y7) (countermandref07_One.j1 (k + 1) y0 y1 y2 y3 y4 y5 y6 y7)) ∧ (∀ y0 y1 y2 y3 y4 y5 y6 y7, LeO (countermandref07_One.j2 k y0 y1 y2 y3 y4 y5 y6 y7) (countermandref07_One.j2 (k + 1) y0 y1 y2 y3 y4 y5 y6 y7)) ∧ (∀ y0 y1 y2 y3 y4 y5 y6, LeO (countermandref07_One.j3 k y0 y1 y2 y3 y4 y5 y6) (countermandref07_One.j3 (k + 1) y0 y1 y2 y3 y4 y5 y6)) ∧ (∀ y0 y1 y2 y3 y4 y5 y6 y7, LeO (countermandref07_One.l0 k y0 y1 y2 y3 y4 y5 y6 y7) (countermandref07_One.l0 (k + 1) y0 y1 y2 y3 y4 y5 y6 y7)) ∧ (∀ y0 y1 y2 y3 y4 y5 y6 y7 y8, LeO (countermandref07_One.j5 k y0 y1 y2 y3 y4 y5 y6 y7 y8) (countermandref07_One.j5 (k + 1) y0 y1 y2 y3 y4 y5 y6 y7 y8))
  | 0 => ⟨fun _ _ _ _ _ _ _ r h => by simp [countermandref07_One.j0] at h, fun _ _ _ _ _ _ _ _ r h => by simp [countermandref07_One.j1] at h, fun _ _ _ _ _ _ _ _ r h => by simp [countermandref07_One.j2] at h, fun _ _ _ _ _ _ _ r h => by simp [countermandref07_One.j3] at h, fun _ _ _ _ _ _ _ _ r h => by simp [countermandref07_One.l0] at h, fun _ _ _ _ _ _ _ _ _ r h => by simp [countermandref07_One.j5] at h⟩
  | k + 1 => by
    obtain ⟨ih0, ih1, ih2, ih3, ih4, ih5⟩ := countermandref07_One.mono_l k
    refine ⟨?_, ?_, ?_, ?_, ?_, ?_⟩
    · intro y0 y1 y2 y3 y4 y5 y6
      unfold countermandref07_One.j0
      repeat' first
      | (with_reducible exact ih0 _ _ _ _ _ _ _)
      | (with_reducible exact ih1 _ _ _ _ _ _ _ _)
      | (with_reducible exact ih2 _ _ _ _ _ _ _ _)
      | (with_reducible exact ih3 _ _ _ _ _ _ _)
      | (with_reducible exact ih4 _ _ _ _ _ _ _ _)
      | (with_reducible exact ih5 _ _ _ _ _ _ _ _ _)
      | (with_reducible exact countermandref07_Block.mono _ _ _)
      | (with_reducible exact countermandref07_limits.mono _ _)
      | (with_reducible exact LeO.refl _)
      | (with_reducible exact LeO.none _)
      | (with_reducible refine LeO.ite ?_ ?_)
      | (with_reducible refine LeO.bind ?_ (fun _ => ?_))
      | exact ih0 _ _ _ _ _ _ _
      | exact ih1 _ _ _ _ _ _ _ _
      | exact ih2 _ _ _ _ _ _ _ _
      | exact ih3 _ _ _ _ _ _ _
      | exact ih4 _ _ _ _ _ _ _ _
      | exact ih5 _ _ _ _ _ _ _ _ _
      | exact countermandref07_Block.mono _ _ _
      | exact countermandref07_limits.mono _ _
      | exact LeO.none _
      | refine LeO.ite ?_ ?_
      | refine LeO.bind ?_ (fun _ => ?_)
    · intro y0 y1 y2 y3 y4 y5 y6 y7
      unfold countermandref07_One.j1
      repeat' first
      | (with_reducible exact ih0 _ _ _ _ _ _ _)
      | (with_reducible exact ih1 _ _ _ _ _ _ _ _)
      | (with_reducible exact ih2 _ _ _ _ _ _ _ _)
      | (with_reducible exact ih3 _ _ _ _ _ _ _)
      | (with_reducible exact ih4 _ _ _ _ _ _ _ _)
      | (with_reducible exact ih5 _ _ _ _ _ _ _ _ _)
      | (with_reducible exact countermandref07_Block.mono _ _ _)
      | (with_reducible exact countermandref07_limits.mono _ _)
      | (with_reducible exact LeO.refl _)
      | (with_reducible exact LeO.none _)
      | (with_reducible refine LeO.ite ?_ ?_)
      | (with_reducible refine LeO.bind ?_ (fun _ => ?_))
      | exact ih0 _ _ _ _ _ _ _
      | exact ih1 _ _ _ _ _ _ _ _
      | exact ih2 _ _ _ _ _ _ _ _
      | exact ih3 _ _ _ _ _ _ _
      | exact ih4 _ _ _ _ _ _ _ _
      | exact ih5 _ _ _ _ _ _ _ _ _
      | exact countermandref07_Block.mono _ _ _
      | exact countermandref07_limits.mono _ _
      | exact LeO.none _
      | refine LeO.ite ?_ ?_
      | refine LeO.bind ?_ (fun _ => ?_)
    · intro y0 y1 y2 y3 y4 y5 y6 y7
      unfold countermandref07_One.j2
      repeat' first
      | (with_reducible exact ih0 _ _ _ _ _ _ _)
      | (with_reducible exact ih1 _ _ _ _ _ _ _ _)
      | (with_reducible exact ih2 _ _ _ _ _ _ _ _)
      | (with_reducible exact ih3 _ _ _ _ _ _ _)
      | (with_reducible exact ih4 _ _ _ _ _ _ _ _)
      | (with_reducible exact ih5 _ _ _ _ _ _ _ _ _)
      | (with_reducible exact countermandref07_Block.mono _ _ _)
      | (with_reducible exact countermandref07_limits.mono _ _)
      | (with_reducible exact LeO.refl _)
      | (with_reducible exact LeO.none _)
      | (with_reducible refine LeO.ite ?_ ?_)
      | (with_reducible refine LeO.bind ?_ (fun _ => ?_))
      | exact ih0 _ _ _ _ _ _ _
      | exact ih1 _ _ _ _ _ _ _ _
      | exact ih2 _ _ _ _ _ _ _ _
      | exact ih3 _ _ _ _ _ _ _
      | exact ih4 _ _ _ _ _ _ _ _
      | exact ih5 _ _ _ _ _ _ _ _ _
      | exact countermandref07_Block.mono _ _ _
      | exact countermandref07_limits.mono _ _
      | exact LeO.none _
      | refine LeO.ite ?_ ?_
      | refine LeO.bind ?_ (fun _ => ?_)
    · intro y0 y1 y2 y3 y4 y5 y6
      unfold countermandref07_One.j3
      repeat' first
      | (with_reducible exact ih0 _ _ _ _ _ _ _)
      | (with_reducible exact ih1 _ _ _ _ _ _ _ _)
      | (with_reducible exact ih2 _ _ _ _ _ _ _ _)
      | (with_reducible exact ih3 _ _ _ _ _ _ _)
      | (with_reducible exact ih4 _ _ _ _ _ _ _ _)
      | (with_reducible exact ih5 _ _ _ _ _ _ _ _ _)
      | (with_reducible exact countermandref07_Block.mono _ _ _)
      | (with_reducible exact countermandref07_limits.mono _ _)
      | (with_reducible exact LeO.refl _)
      | (with_reducible exact LeO.none _)
      | (with_reducible refine LeO.ite ?_ ?_)
      | (with_reducible refine LeO.bind ?_ (fun _ => ?_))
      | exact ih0 _ _ _ _ _ _ _
      | exact ih1 _ _ _ _ _ _ _ _
      | exact ih2 _ _ _ _ _ _ _ _
      | exact ih3 _ _ _ _ _ _ _
      | exact ih4 _ _ _ _ _ _ _ _
      | exact ih5 _ _ _ _ _ _ _ _ _
      | exact countermandref07_Block.mono _ _ _
      | exact countermandref07_limits.mono _ _
      | exact LeO.none _
      | refine LeO.ite ?_ ?_
      | refine LeO.bind ?_ (fun _ => ?_)
    · intro y0 y1 y2 y3 y4 y5 y6 y7
      unfold countermandref07_One.l0
      repeat' first
      | (with_reducible exact ih0 _ _ _ _ _ _ _)
      | (with_reducible exact ih1 _ _ _ _ _ _ _ _)
      | (with_reducible exact ih2 _ _ _ _ _ _ _ _)
      | (with_reducible exact ih3 _ _ _ _ _ _ _)
      | (with_reducible exact ih4 _ _ _ _ _ _ _ _)
      | (with_reducible exact ih5 _ _ _ _ _ _ _ _ _)
      | (with_reducible exact countermandref07_Block.mono _ _ _)
      | (with_reducible exact countermandref07_limits.mono _ _)
      | (with_reducible exact LeO.refl _)
      | (with_reducible exact LeO.none _)
      | (with_reducible refine LeO.ite ?_ ?_)
      | (with_reducible refine LeO.bind ?_ (fun _ => ?_))
      | exact ih0 _ _ _ _ _ _ _
      | exact ih1 _ _ _ _ _ _ _ _
      | exact ih2 _ _ _ _ _ _ _ _
      | exact ih3 _ _ _ _ _ _ _
      | exact ih4 _ _ _ _ _ _ _ _
      | exact ih5 _ _ _ _ _ _ _ _ _
      | exact countermandref07_Block.mono _ _ _
      | exact countermandref07_limits.mono _ _
      | exact LeO.none _
      | refine LeO.ite ?_ ?_
      | refine LeO.bind ?_ (fun _ => ?_)
    · intro y0 y1 y2 y3 y4 y5 y6 y7 y8
      unfold countermandref07_One.j5
      repeat' first
      | (with_reducible exact ih0 _ _ _ _ _ _ _)
      | (with_reducible exact ih1 _ _ _ _ _ _ _ _)
      | (with_reducible exact ih2 _ _ _ _ _ _ _ _)
      | (with_reducible exact ih3 _ _ _ _ _ _ _)
      | (with_reducible exact ih4 _ _ _ _ _ _ _ _)
      | (with_reducible exact ih5 _ _ _ _ _ _ _ _ _)
      | (with_reducible exact countermandref07_Block.mono _ _ _)
      | (with_reducible exact countermandref07_limits.mono _ _)
      | (with_reducible exact LeO.refl _)
      | (with_reducible exact LeO.none _)
      | (with_reducible refine LeO.ite ?_ ?_)
      | (with_reducible refine LeO.bind ?_ (fun _ => ?_))
      | exact ih0 _ _ _ _ _ _ _
      | exact ih1 _ _ _ _ _ _ _ _
      | exact ih2 _ _ _ _ _ _ _ _
      | exact ih3 _ _ _ _ _ _ _
      | exact ih4 _ _ _ _ _ _ _ _
      | exact ih5 _ _ _ _ _ _ _ _ _
      | exact countermandref07_Block.mono _ _ _
      | exact countermandref07_limits.mono _ _
      | exact LeO.none _
      | refine LeO.ite ?_ ?_
      | refine LeO.bind ?_ (fun _ => ?_)
theorem countermandref07_One.mono : ∀ a0 a1 k, LeO (countermandref07_One.f k a0 a1) (countermandref07_One.f (k + 1) a0 a1) := by
  intro a0 a1 k
  obtain ⟨ih0, ih1, ih2, ih3, ih4, ih5⟩ := countermandref07_One.mono_l k
  unfold countermandref07_One.f
  repeat' first
      | (with_reducible exact ih0 _ _ _ _ _ _ _)
      | (with_reducible exact ih1 _ _ _ _ _ _ _ _)
      | (with_reducible exact ih2 _ _ _ _ _ _ _ _)
      | (with_reducible exact ih3 _ _ _ _ _ _ _)
      | (with_reducible exact ih4 _ _ _ _ _ _ _ _)
      | (with_reducible exact ih5 _ _ _ _ _ _ _ _ _)
      | (with_reducible exact countermandref07_Block.mono _ _ _)
      | (with_reducible exact countermandref07_limits.mono _ _)
      | (with_reducible exact LeO.refl _)
      | (with_reducible exact LeO.none _)
      | (with_reducible refine LeO.ite ?_ ?_)
      | (with_reducible refine LeO.bind ?_ (fun _ => ?_))
      | exact ih0 _ _ _ _ _ _ _
      | exact ih1 _ _ _ _ _ _ _ _
      | exact ih2 _ _ _ _ _ _ _ _
      | exact ih3 _ _ _ _ _ _ _
      | exact ih4 _ _ _ _ _ _ _ _
      | exact ih5 _ _ _ _ _ _ _ _ _
      | exact countermandref07_Block.mono _ _ _
      | exact countermandref07_limits.mono _ _
      | exact LeO.none _
      | refine LeO.ite ?_ ?_
      | refine LeO.bind ?_ (fun _ => ?_)
theorem y1_34 {α : Type} (l : List α) (i : Nat) (a : α) : l.toArray.setIfInBounds i a = (l.set i a).toArray := List.setIfInBounds_toArray l i a
theorem y2_34 {α : Type} (a b : α) (l : List α) : (a :: l).set 0 b = b :: l := rfl
theorem y3_34 {α : Type} (a b : α) (l : List α) (n : Nat) : (a :: l).set (n + 1) b = a :: l.set n b := rfl
/-- what stands behind a place of a code -/
def codeAt : List Bool → Code → Code
  | [], c => c
  | b :: r, .seq x y => codeAt r (if b then y else x)
  | _, c => c
noncomputable def oneR1 : Code := codeAt [true, true, true, true, true, true] (Try.f34.body.getD .skip)
noncomputable def oneR2 : Code := codeAt [true, true, true, true, true, true, true] (Try.f34.body.getD .skip)
noncomputable def oneR0 : Code := codeAt [true, true, true, true] (Try.f34.body.getD .skip)
set_option maxHeartbeats 8000000 in
set_option maxRecDepth 1000000 in
theorem countermandref07_One.rest2 (k c0 kj5 kj46 kj71 kq : Nat) (l0 : List S71) (a1 : Int) (r : Bool) (w wc : World) (t182 t183 t184 t185 t186 t187 t190 : Int) (ad180 : Addr) (gb181 gb189 : Nat) (u2 u3 u4 u7 u9 u10 u11 u12 u13 u14 u15 u16 u17 u18 u19 u20 u21 u22 u23 u24 u25 u26 u27 u28 u29 u30 u31 u32 u33 u34 u35 u36 u37 u38 u39 u40 u41 u42 u43 u44 u45 u46 u47 u48 u49 u50 u51 u52 u53 u54 u55 u56 u57 u58 u59 u60 u61 u62 u63 u64 u65 u66 u67 u68 u69 u70 u71 u72 u73 u74 u75 u76 u77 u78 u79 u80 u81 u82 u83 u84 u85 u86 u87 u88 u89 u90 u91 u92 u93 u94 u95 u96 u97 u98 u99 u100 u101 u102 u103 u104 u105 u106 u107 u108 u109 u110 u111 u112 u113 u114 u115 u116 u117 u118 u119 u120 u121 u122 u123 u124 u125 u126 u127 u128 u129 u130 u131 u132 u133 u134 u135 u136 u137 u138 u139 u140 u141 u142 u143 u144 u145 u146 u147 u148 u149 u150 u151 u152 u153 u154 u155 u156 u157 u158 u159 u160 u161 u162 u163 u164 u165 u166 u167 u168 u169 u170 u171 u172 u173 u174 u175 u176 u177 u178 u179 u180 u181 u182 u183 u184 u185 u186 u187 u188 u189 u190 u191 u192 u193 u194 u195 u196 u197 u198 u199 : Value)
    (HC0 : Aside0 (l0.length ≤ c0)) (HR0 : Aside0 (k71.C w (some ad180) l0.length l0)) (GE181 : Aside0 (w.heap.size ≤ gb181)) (GE189 : Aside0 (w.heap.size ≤ gb189)) (NB181_189 : Aside0 (gb181 ≠ gb189)) (NB189_181 : Aside0 (gb189 ≠ gb181))
    (HJ5 : Aside0 (kj5 + 1 ≤ k)) (HJ46 : Aside0 (kj46 + 1 ≤ kj5)) (HJ71 : Aside0 (kj71 + 1 ≤ kj46)) (HA : Aside0 (countermandref07_One.j3 kq l0 a1 t190 ((rd_T71 l0 a1).f0) ((rd_T71 l0 a1).f1) ((rd_T71 l0 a1).f2) ((rd_T71 l0 a1).f3) = some r)) (HJ77 : Aside0 (kq ≤ kj71))
    (BK181 : Aside0 (wc.heap[gb181]? = some (.cells #[.int .i64 ((rd_T71 l0 a1).f0), .int .i64 ((rd_T71 l0 a1).f1), .int .i64 ((rd_T71 l0 a1).f2), .int .i64 ((rd_T71 l0 a1).f3)] 71 (0, 0))))
    (BK189 : Aside0 (wc.heap[gb189]? = some (.cells #[.int .i64 t182, .int .i64 t183, .int .i64 t184, .int .i64 t185, .int .i64 t186, .int .i64 t187] 87 (0, 0)))) (HB : Aside0 (Below w.heap.size w wc)) :
    Code.wp Try.prog oneR2 (bodyPost Try.prog Try.f34 (fun e w' => e = .returned (.bool r) ∧ Below w.heap.size w w')) ⟨#[.slice (some ad180) l0.length c0, .int .i64 a1, u2, u3, u4, .pointer (some ⟨gb181, 0, none⟩), .pointer (some ⟨gb189, 0, none⟩), u7, .int .i64 t190, u9, u10, u11, u12, u13, u14, u15, u16, u17, u18, u19, u20, u21, u22, u23, u24, u25, u26, u27, u28, u29, u30, u31, u32, u33, u34, u35, u36, u37, u38, u39, u40, u41, u42, u43, u44, u45, u46, u47, u48, u49, u50, u51, u52, u53, u54, u55, u56, u57, u58, u59, u60, u61, u62, u63, u64, u65, u66, u67, u68, u69, u70, u71, u72, u73, u74, u75, u76, u77, u78, u79, u80, u81, u82, u83, u84, u85, u86, u87, u88, u89, u90, u91, u92, u93, u94, u95, u96, u97, u98, u99, u100, u101, u102, u103, u104, u105, u106, u107, u108, u109, u110, u111, u112, u113, u114, u115, u116, u117, u118, u119, u120, u121, u122, u123, u124, u125, u126, u127, u128, u129, u130, u131, u132, u133, u134, u135, u136, u137, u138, u139, u140, u141, u142, u143, u144, u145, u146, u147, u148, u149, u150, u151, u152, u153, u154, u155, u156, u157, u158, u159, u160, u161, u162, u163, u164, u165, u166, u167, u168, u169, u170, u171, u172, u173, u174, u175, u176, u177, u178, u179, u180, u181, u182, u183, u184, u185, u186, u187, u188, u189, u190, u191, u192, u193, u194, u195, u196, u197, u198, u199], []⟩ wc := by
  conv => arg 2; whnf
  conv => arg 4; dsimp only
  have hu71 := Try.underlying71
  have hu87 := Try.underlying87
  have hu86 := Try.underlying86
  cases kq with
  | zero => exact absurd HA.out (by simp [countermandref07_One.j3])
  | succ kj77 =>
    have H := HA.out
    clear HA
    simp only [countermandref07_One.j3] at H
    have H' := Aside0.mk H
    clear H
    go_wp2
    go_loopg [9, 10] kj77 (fun kq v9 v10 w' => ∃ (x9_5 : Int) (x10_5 : Int), v9 = .int .i64 x9_5 ∧ v10 = .int .i64 x10_5 ∧ Aside0 (countermandref07_One.l0 kq l0 a1 x9_5 x10_5 ((rd_T71 l0 a1).f0) ((rd_T71 l0 a1).f1) ((rd_T71 l0 a1).f2) ((rd_T71 l0 a1).f3) = some r) ∧ Aside0 (kq ≤ kj77) ∧ Aside0 (w'.heap[gb181]? = some (.cells #[.int .i64 ((rd_T71 l0 a1).f0), .int .i64 ((rd_T71 l0 a1).f1), .int .i64 ((rd_T71 l0 a1).f2), .int .i64 ((rd_T71 l0 a1).f3)] 71 (0, 0))) ∧ Aside0 (w'.heap[gb189]? = some (.cells #[.int .i64 t182, .int .i64 t183, .int .i64 t184, .int .i64 t185, .int .i64 t186, .int .i64 t187] 87 (0, 0))) ∧ Aside0 (Below w.heap.size w w'))
    case atStart => exact ⟨(0), (wrap64 (t190 + 1)), (by first | rfl | (simp; done) | (simp [*]; done)), (by first | rfl | (simp; done) | (simp [*]; done)), H', ⟨Nat.le_refl _⟩, ⟨by (with_reducible repeat (first | refine blk_drewN ?_ _ | refine blk_drew ?_ | refine blk_alloc ?_ _)); exact BK181.out⟩, ⟨by (with_reducible repeat (first | refine blk_drewN ?_ _ | refine blk_drew ?_ | refine blk_alloc ?_ _)); exact BK189.out⟩, ⟨by repeat (first | (with_reducible first | exact HB.out | apply below_alloc | apply pw_below_drewN | apply below_drew1 | refine below_set ?_ GE181.out | refine below_set ?_ GE189.out) | exact HB.out)⟩⟩
    case round =>
      clear H'
      try clear c1
      try clear p1
      try clear q1
      try clear hx1
      try clear c2
      try clear p2
      try clear c3
      try clear c3b0
      try clear c4
      try clear c4b0
      try clear c5
      try clear c6
      try clear p6
      try clear c7
      try clear c8
      try clear c9
      try clear c10
      try clear c11
      try clear c13
      try clear c14
      try clear c14b0
      try clear c15
      try clear c18
      try clear c18b0
      try clear p18
      try clear q18
      try clear hx18
      try clear c19
      try clear c22
      try clear c22b0
      try clear c23
      try clear c26
      try clear c26b0
      try clear c27
      try clear c30
      try clear c30b0
      try clear c31
      try clear c34
      try clear c34b0
      try clear c35
      try clear c38
      try clear c38b0
      try clear c38b1
      try clear c39
      try clear c42
      try clear c43
      try clear c45
      try clear c48
      try clear c48b0
      try clear c48b1
      try clear c49
      try clear c49b0
      try clear c50
      try clear c52
      try clear c52b0
      try clear c53
      try clear c55
      try clear c57
      try clear c57b0
      try clear c57b1
      try clear c58
      try clear c58b0
      try clear c59
      try clear c61
      try clear c61b0
      try clear c62
      try clear c64
      try clear p64
      try clear c66
      try clear c66b0
      try clear c67
      try clear c69
      try clear c71
      try clear c73
      try clear c73b0
      try clear c73b1
      try clear c74
      try clear c76
      try clear c79
      try clear c80
      try clear c80b0
      try clear c81
      try clear c83
      try clear c83b0
      try clear c84
      try clear c86
      try clear c86b0
      try clear c86b1
      try clear c87
      try clear c87b0
      try clear c88
      try clear c90
      try clear c90b0
      try clear c92
      try clear c92b0
      try clear c92b1
      try clear c93
      try clear c95
      try clear c97
      try clear c99
      try clear c99b0
      try clear c101
      try clear c101b0
      try clear c101b1
      try clear c102
      try clear c104
      try clear c106
      try clear hcz103_0
      try clear hcz103_1
      try clear hcz103_2
      try clear hcz103_3
      try clear hcz105_0
      try clear hcz105_1
      try clear hcz105_2
      try clear hcz105_3
      try clear hcz107_0
      try clear hcz107_1
      try clear hcz107_2
      try clear hcz107_3
      try clear hcz12_0
      try clear hcz12_1
      try clear hcz12_2
      try clear hcz12_3
      try clear hcz12_4
      try clear hcz12_5
      try clear hcz16_0
      try clear hcz16_1
      try clear hcz16_2
      try clear hcz16_3
      try clear hcz17_0
      try clear hcz17_1
      try clear hcz17_2
      try clear hcz17_3
      try clear hcz17_4
      try clear hcz17_5
      try clear hcz20_0
      try clear hcz20_1
      try clear hcz20_2
      try clear hcz20_3
      try clear hcz21_0
      try clear hcz21_1
      try clear hcz21_2
      try clear hcz21_3
      try clear hcz21_4
      try clear hcz21_5
      try clear hcz24_0
      try clear hcz24_1
      try clear hcz24_2
      try clear hcz24_3
      try clear hcz25_0
      try clear hcz25_1
      try clear hcz25_2
      try clear hcz25_3
      try clear hcz25_4
      try clear hcz25_5
      try clear hcz28_0
      try clear hcz28_1
      try clear hcz28_2
      try clear hcz28_3
      try clear hcz29_0
      try clear hcz29_1
      try clear hcz29_2
      try clear hcz29_3
      try clear hcz29_4
      try clear hcz29_5
      try clear hcz32_0
      try clear hcz32_1
      try clear hcz32_2
      try clear hcz32_3
      try clear hcz33_0
      try clear hcz33_1
      try clear hcz33_2
      try clear hcz33_3
      try clear hcz33_4
      try clear hcz33_5
      try clear hcz36_0
      try clear hcz36_1
      try clear hcz36_2
      try clear hcz36_3
      try clear hcz37_0
      try clear hcz37_1
      try clear hcz37_2
      try clear hcz37_3
      try clear hcz37_4
      try clear hcz37_5
      try clear hcz40_0
      try clear hcz40_1
      try clear hcz40_2
      try clear hcz40_3
      try clear hcz41_0
      try clear hcz41_1
      try clear hcz41_2
      try clear hcz41_3
      try clear hcz41_4
      try clear hcz41_5
      try clear hcz43_0
      try clear hcz43_1
      try clear hcz43_2
      try clear hcz43_3
      try clear hcz44_0
      try clear hcz44_1
      try clear hcz44_2
      try clear hcz44_3
      try clear hcz44_4
      try clear hcz44_5
      try clear hcz51_0
      try clear hcz51_1
      try clear hcz51_2
      try clear hcz51_3
      try clear hcz54_0
      try clear hcz54_1
      try clear hcz54_2
      try clear hcz54_3
      try clear hcz56_0
      try clear hcz56_1
      try clear hcz56_2
      try clear hcz56_3
      try clear hcz60_0
      try clear hcz60_1
      try clear hcz60_2
      try clear hcz60_3
      try clear hcz63_0
      try clear hcz63_1
      try clear hcz63_2
      try clear hcz63_3
      try clear hcz65_0
      try clear hcz65_1
      try clear hcz65_2
      try clear hcz65_3
      try clear hcz68_0
      try clear hcz68_1
      try clear hcz68_2
      try clear hcz68_3
      try clear hcz70_0
      try clear hcz70_1
      try clear hcz70_2
      try clear hcz70_3
      try clear hcz75_0
      try clear hcz75_1
      try clear hcz75_2
      try clear hcz75_3
      try clear hcz77_0
      try clear hcz77_1
      try clear hcz77_2
      try clear hcz77_3
      try clear hcz82_0
      try clear hcz82_1
      try clear hcz82_2
      try clear hcz82_3
      try clear hcz85_0
      try clear hcz85_1
      try clear hcz85_2
      try clear hcz85_3
      try clear hcz89_0
      try clear hcz89_1
      try clear hcz89_2
      try clear hcz89_3
      try clear hcz8_0
      try clear hcz8_1
      try clear hcz8_2
      try clear hcz8_3
      try clear hcz94_0
      try clear hcz94_1
      try clear hcz94_2
      try clear hcz94_3
      try clear hcz96_0
      try clear hcz96_1
      try clear hcz96_2
      try clear hcz96_3
      try clear hcz98_0
      try clear hcz98_1
      try clear hcz98_2
      try clear hcz98_3
      try clear hfz103_0
      try clear hfz103_1
      try clear hfz103_2
      try clear hfz103_3
      try clear hfz105_0
      try clear hfz105_1
      try clear hfz105_2
      try clear hfz105_3
      try clear hfz107_0
      try clear hfz107_1
      try clear hfz107_2
      try clear hfz107_3
      try clear hfz12_0
      try clear hfz12_1
      try clear hfz12_2
      try clear hfz12_3
      try clear hfz12_4
      try clear hfz12_5
      try clear hfz16_0
      try clear hfz16_1
      try clear hfz16_2
      try clear hfz16_3
      try clear hfz17_0
      try clear hfz17_1
      try clear hfz17_2
      try clear hfz17_3
      try clear hfz17_4
      try clear hfz17_5
      try clear hfz20_0
      try clear hfz20_1
      try clear hfz20_2
      try clear hfz20_3
      try clear hfz21_0
      try clear hfz21_1
      try clear hfz21_2
      try clear hfz21_3
      try clear hfz21_4
      try clear hfz21_5
      try clear hfz24_0
      try clear hfz24_1
      try clear hfz24_2
      try clear hfz24_3
      try clear hfz25_0
      try clear hfz25_1
      try clear hfz25_2
      try clear hfz25_3
      try clear hfz25_4
      try clear hfz25_5
      try clear hfz28_0
      try clear hfz28_1
      try clear hfz28_2
      try clear hfz28_3
      try clear hfz29_0
      try clear hfz29_1
      try clear hfz29_2
      try clear hfz29_3
      try clear hfz29_4
      try clear hfz29_5
      try clear hfz32_0
      try clear hfz32_1
      try clear hfz32_2
      try clear hfz32_3
      try clear hfz33_0
      try clear hfz33_1
      try clear hfz33_2
      try clear hfz33_3
      try clear hfz33_4
      try clear hfz33_5
      try clear hfz36_0
      try clear hfz36_1
      try clear hfz36_2
      try clear hfz36_3
      try clear hfz37_0
      try clear hfz37_1
      try clear hfz37_2
      try clear hfz37_3
      try clear hfz37_4
      try clear hfz37_5
      try clear hfz40_0
      try clear hfz40_1
      try clear hfz40_2
      try clear hfz40_3
      try clear hfz41_0
      try clear hfz41_1
      try clear hfz41_2
      try clear hfz41_3
      try clear hfz41_4
      try clear hfz41_5
      try clear hfz43_0
      try clear hfz43_1
      try clear hfz43_2
      try clear hfz43_3
      try clear hfz44_0
      try clear hfz44_1
      try clear hfz44_2
      try clear hfz44_3
      try clear hfz44_4
      try clear hfz44_5
      try clear hfz51_0
      try clear hfz51_1
      try clear hfz51_2
      try clear hfz51_3
      try clear hfz54_0
      try clear hfz54_1
      try clear hfz54_2
      try clear hfz54_3
      try clear hfz56_0
      try clear hfz56_1
      try clear hfz56_2
      try clear hfz56_3
      try clear hfz60_0
      try clear hfz60_1
      try clear hfz60_2
      try clear hfz60_3
      try clear hfz63_0
      try clear hfz63_1
      try clear hfz63_2
      try clear hfz63_3
      try clear hfz65_0
      try clear hfz65_1
      try clear hfz65_2
      try clear hfz65_3
      try clear hfz68_0
      try clear hfz68_1
      try clear hfz68_2
      try clear hfz68_3
      try clear hfz70_0
      try clear hfz70_1
      try clear hfz70_2
      try clear hfz70_3
      try clear hfz75_0
      try clear hfz75_1
      try clear hfz75_2
      try clear hfz75_3
      try clear hfz77_0
      try clear hfz77_1
      try clear hfz77_2
      try clear hfz77_3
      try clear hfz82_0
      try clear hfz82_1
      try clear hfz82_2
      try clear hfz82_3
      try clear hfz85_0
      try clear hfz85_1
      try clear hfz85_2
      try clear hfz85_3
      try clear hfz89_0
      try clear hfz89_1
      try clear hfz89_2
      try clear hfz89_3
      try clear hfz8_0
      try clear hfz8_1
      try clear hfz8_2
      try clear hfz8_3
      try clear hfz94_0
      try clear hfz94_1
      try clear hfz94_2
      try clear hfz94_3
      try clear hfz96_0
      try clear hfz96_1
      try clear hfz96_2
      try clear hfz96_3
      try clear hfz98_0
      try clear hfz98_1
      try clear hfz98_2
      try clear hfz98_3
      try clear hx180_0
      try clear hx180_1
      try clear hx180_2
      try clear hx180_3
      try clear p1
      try clear p18
      try clear p180
      try clear p2
      try clear q1
      try clear q18
      try clear q180
      obtain ⟨x9_5, x10_5, rfl, rfl, HA, HK5, BK181, BK189, HB⟩ := hrel
      cases gk with
      | zero => exact absurd HA.out (by simp [countermandref07_One.l0])
      | succ k5 =>
        have H := HA.out
        clear HA
        simp only [countermandref07_One.l0] at H
        by_cases c108 : x10_5 < a1
        rotate_left
        · rw [if_neg c108] at H
          have c108b0 : decide (x10_5 < a1) = false := decide_eq_false c108
          clear c108
          by_cases c128 : ((rd_T71 l0 a1).f0) = 20
          rotate_left
          · rw [if_neg c128] at H
            have c128b0 : (((rd_T71 l0 a1).f0) == 20) = false := beq_eq_false_iff_ne.mpr c128
            have c128b1 : (((rd_T71 l0 a1).f0) != 20) = true := bne_iff_ne.mpr c128
            focus
              obtain rfl := Option.some.inj H
              simp only [Option.some.injEq, Prod.mk.injEq] at H
              obtain ⟨rfl⟩ := H
              have hnb131 := NB181_189.out
              have hnc131 := NB189_181.out
              have hcz132_0 : wr.cell? ⟨gb181, 0, none⟩ = some (.int .i64 ((rd_T71 l0 a1).f0)) := (blk_cell BK181.out 0).trans rfl
              have hcz132_1 : wr.cell? ⟨gb181, 1, none⟩ = some (.int .i64 ((rd_T71 l0 a1).f1)) := (blk_cell BK181.out 1).trans rfl
              have hcz132_2 : wr.cell? ⟨gb181, 2, none⟩ = some (.int .i64 ((rd_T71 l0 a1).f2)) := (blk_cell BK181.out 2).trans rfl
              have hcz132_3 : wr.cell? ⟨gb181, 3, none⟩ = some (.int .i64 ((rd_T71 l0 a1).f3)) := (blk_cell BK181.out 3).trans rfl
              have hfz132_0 := blk_frozen BK181.out 0
              have hfz132_1 := blk_frozen BK181.out 1
              have hfz132_2 := blk_frozen BK181.out 2
              have hfz132_3 := blk_frozen BK181.out 3
              go_wp2
              go_ret
              exact ⟨by first | rfl | (simp [errW_none, errW_some] <;> rfl) | (simp [*, errW_none, errW_some] <;> rfl), by repeat (first | (with_reducible first | exact HB.out | apply below_alloc | apply pw_below_drewN | apply below_drew1 | refine below_set ?_ GE181.out | refine below_set ?_ GE189.out) | exact HB.out)⟩
          rw [if_pos c128] at H
          have c128b0 : (((rd_T71 l0 a1).f0) == 20) = true := beq_iff_eq.mpr c128
          have c128b1 : (((rd_T71 l0 a1).f0) != 20) = false := bne_eq_false_iff_eq.mpr c128
          clear c128
          focus
            obtain rfl := Option.some.inj H
            simp only [Option.some.injEq, Prod.mk.injEq] at H
            obtain ⟨rfl⟩ := H
            have hnb129 := NB181_189.out
            have hnc129 := NB189_181.out
            have hcz130_0 : wr.cell? ⟨gb181, 0, none⟩ = some (.int .i64 ((rd_T71 l0 a1).f0)) := (blk_cell BK181.out 0).trans rfl
            have hcz130_1 : wr.cell? ⟨gb181, 1, none⟩ = some (.int .i64 ((rd_T71 l0 a1).f1)) := (blk_cell BK181.out 1).trans rfl
            have hcz130_2 : wr.cell? ⟨gb181, 2, none⟩ = some (.int .i64 ((rd_T71 l0 a1).f2)) := (blk_cell BK181.out 2).trans rfl
            have hcz130_3 : wr.cell? ⟨gb181, 3, none⟩ = some (.int .i64 ((rd_T71 l0 a1).f3)) := (blk_cell BK181.out 3).trans rfl
            have hfz130_0 := blk_frozen BK181.out 0
            have hfz130_1 := blk_frozen BK181.out 1
            have hfz130_2 := blk_frozen BK181.out 2
            have hfz130_3 := blk_frozen BK181.out 3
            go_wp2
            go_ret
            exact ⟨by first | rfl | (simp [errW_none, errW_some] <;> rfl) | (simp [*, errW_none, errW_some] <;> rfl), by repeat (first | (with_reducible first | exact HB.out | apply below_alloc | apply pw_below_drewN | apply below_drew1 | refine below_set ?_ GE181.out | refine below_set ?_ GE189.out) | exact HB.out)⟩
        rw [if_pos c108] at H
        have c108b0 : decide (x10_5 < a1) = true := decide_eq_true c108
        clear c108
        have HC109 := Aside0.mk H
        clear H
        go_upto_region 15 with (fail)
        go_cut [184] (fun v184 wc => ∃ (kq : Nat) (x184_108 : Bool), v184 = .bool x184_108 ∧ Aside0 (countermandref07_One.j5 kq l0 a1 x9_5 x10_5 x184_108 ((rd_T71 l0 a1).f0) ((rd_T71 l0 a1).f1) ((rd_T71 l0 a1).f2) ((rd_T71 l0 a1).f3) = some r) ∧ Aside0 (kq ≤ k5) ∧ Aside0 (wc.heap[gb181]? = some (.cells #[.int .i64 ((rd_T71 l0 a1).f0), .int .i64 ((rd_T71 l0 a1).f1), .int .i64 ((rd_T71 l0 a1).f2), .int .i64 ((rd_T71 l0 a1).f3)] 71 (0, 0))) ∧ Aside0 (wc.heap[gb189]? = some (.cells #[.int .i64 t182, .int .i64 t183, .int .i64 t184, .int .i64 t185, .int .i64 t186, .int .i64 t187] 87 (0, 0))) ∧ Aside0 (Below w.heap.size w wc))
        case first =>
          have H := HC109.out
          clear HC109
          by_cases c110 : 0 ≤ x10_5
          rotate_left
          · rw [if_neg c110] at H
            exact absurd H (by simp)
          rw [if_pos c110] at H
          have c110b0 : decide (0 ≤ x10_5) = true := decide_eq_true c110
          clear c110
          (first | rw [c110b0] | (simp only [i64_w, i32_w]; rw [c110b0]) | skip)
          by_cases c111 : x10_5 < (l0.length : Int)
          rotate_left
          · rw [if_neg c111] at H
            exact absurd H (by simp)
          rw [if_pos c111] at H
          have c111b0 : decide (x10_5 < (l0.length : Int)) = true := decide_eq_true c111
          clear c111
          by_cases c112 : ((rd_T71 l0 x10_5).f0) = 21
          rotate_left
          · rw [if_neg c112] at H
            have c112b0 : (((rd_T71 l0 x10_5).f0) == 21) = false := beq_eq_false_iff_ne.mpr c112
            have c112b1 : (((rd_T71 l0 x10_5).f0) != 21) = true := bne_iff_ne.mpr c112
            focus
              have H' := Aside0.mk H
              clear H
              have p193 : 0 ≤ (x10_5 : Int) := of_decide_eq_true (by first | (with_reducible assumption) | assumption)
              have q193 : x10_5 < (l0.length : Int) := of_decide_eq_true (by first | (with_reducible assumption) | assumption)
              obtain ⟨ad193, e193, hx193_0, hx193_1, hx193_2, hx193_3⟩ := at_T71 HR0.out x10_5 p193 q193
              obtain rfl : ad180 = ad193 := (by injection e193)
              replace hx193_0 := (HB.out.cell (World.block_lt_of_cell? w _ hx193_0)).trans hx193_0
              replace hx193_1 := (HB.out.cell (World.block_lt_of_cell? w _ hx193_1)).trans hx193_1
              replace hx193_2 := (HB.out.cell (World.block_lt_of_cell? w _ hx193_2)).trans hx193_2
              replace hx193_3 := (HB.out.cell (World.block_lt_of_cell? w _ hx193_3)).trans hx193_3
              replace p193 := eq_true p193
              replace q193 := eq_true q193
              go_wp2
              go_meet
              case rel => exact ⟨_, (false), (by first | rfl | (simp; done) | (simp [*]; done)), H', ⟨by have := HJ5.out; have := HJ46.out; have := HJ71.out; have := HJ77.out; have := HK5.out; first | omega | exact Nat.le_refl _⟩, ⟨by (with_reducible repeat (first | refine blk_drewN ?_ _ | refine blk_drew ?_ | refine blk_alloc ?_ _)); exact BK181.out⟩, ⟨by (with_reducible repeat (first | refine blk_drewN ?_ _ | refine blk_drew ?_ | refine blk_alloc ?_ _)); exact BK189.out⟩, ⟨by repeat (first | (with_reducible first | exact HB.out | apply below_alloc | apply pw_below_drewN | apply below_drew1 | refine below_set ?_ GE181.out | refine below_set ?_ GE189.out) | exact HB.out)⟩⟩
          rw [if_pos c112] at H
          have c112b0 : (((rd_T71 l0 x10_5).f0) == 21) = true := beq_iff_eq.mpr c112
          have c112b1 : (((rd_T71 l0 x10_5).f0) != 21) = false := bne_eq_false_iff_eq.mpr c112
          clear c112
          by_cases c113 : ((rd_T71 l0 a1).f0) = 14
          · rw [if_pos c113] at H
            have c113b0 : (((rd_T71 l0 a1).f0) == 14) = true := beq_iff_eq.mpr c113
            have c113b1 : (((rd_T71 l0 a1).f0) != 14) = false := bne_eq_false_iff_eq.mpr c113
            clear c113
            focus
              have H' := Aside0.mk H
              clear H
              have p193 : 0 ≤ (x10_5 : Int) := of_decide_eq_true (by first | (with_reducible assumption) | assumption)
              have q193 : x10_5 < (l0.length : Int) := of_decide_eq_true (by first | (with_reducible assumption) | assumption)
              obtain ⟨ad193, e193, hx193_0, hx193_1, hx193_2, hx193_3⟩ := at_T71 HR0.out x10_5 p193 q193
              obtain rfl : ad180 = ad193 := (by injection e193)
              replace hx193_0 := (HB.out.cell (World.block_lt_of_cell? w _ hx193_0)).trans hx193_0
              replace hx193_1 := (HB.out.cell (World.block_lt_of_cell? w _ hx193_1)).trans hx193_1
              replace hx193_2 := (HB.out.cell (World.block_lt_of_cell? w _ hx193_2)).trans hx193_2
              replace hx193_3 := (HB.out.cell (World.block_lt_of_cell? w _ hx193_3)).trans hx193_3
              replace p193 := eq_true p193
              replace q193 := eq_true q193
              have hnb114 := NB181_189.out
              have hnc114 := NB189_181.out
              have hcz115_0 : wr.cell? ⟨gb181, 0, none⟩ = some (.int .i64 ((rd_T71 l0 a1).f0)) := (blk_cell BK181.out 0).trans rfl
              have hcz115_1 : wr.cell? ⟨gb181, 1, none⟩ = some (.int .i64 ((rd_T71 l0 a1).f1)) := (blk_cell BK181.out 1).trans rfl
              have hcz115_2 : wr.cell? ⟨gb181, 2, none⟩ = some (.int .i64 ((rd_T71 l0 a1).f2)) := (blk_cell BK181.out 2).trans rfl
              have hcz115_3 : wr.cell? ⟨gb181, 3, none⟩ = some (.int .i64 ((rd_T71 l0 a1).f3)) := (blk_cell BK181.out 3).trans rfl
              have hfz115_0 := blk_frozen BK181.out 0
              have hfz115_1 := blk_frozen BK181.out 1
              have hfz115_2 := blk_frozen BK181.out 2
              have hfz115_3 := blk_frozen BK181.out 3
              go_wp2
              go_meet
              case rel => exact ⟨_, (true), (by first | rfl | (simp; done) | (simp [*]; done)), H', ⟨by have := HJ5.out; have := HJ46.out; have := HJ71.out; have := HJ77.out; have := HK5.out; first | omega | exact Nat.le_refl _⟩, ⟨by (with_reducible repeat (first | refine blk_drewN ?_ _ | refine blk_drew ?_ | refine blk_alloc ?_ _)); exact BK181.out⟩, ⟨by (with_reducible repeat (first | refine blk_drewN ?_ _ | refine blk_drew ?_ | refine blk_alloc ?_ _)); exact BK189.out⟩, ⟨by repeat (first | (with_reducible first | exact HB.out | apply below_alloc | apply pw_below_drewN | apply below_drew1 | refine below_set ?_ GE181.out | refine below_set ?_ GE189.out) | exact HB.out)⟩⟩
          rw [if_neg c113] at H
          have c113b0 : (((rd_T71 l0 a1).f0) == 14) = false := beq_eq_false_iff_ne.mpr c113
          have c113b1 : (((rd_T71 l0 a1).f0) != 14) = true := bne_iff_ne.mpr c113
          by_cases c116 : ((rd_T71 l0 a1).f0) = 19
          · rw [if_pos c116] at H
            have c116b0 : (((rd_T71 l0 a1).f0) == 19) = true := beq_iff_eq.mpr c116
            have c116b1 : (((rd_T71 l0 a1).f0) != 19) = false := bne_eq_false_iff_eq.mpr c116
            clear c116
            focus
              have H' := Aside0.mk H
              clear H
              have p193 : 0 ≤ (x10_5 : Int) := of_decide_eq_true (by first | (with_reducible assumption) | assumption)
              have q193 : x10_5 < (l0.length : Int) := of_decide_eq_true (by first | (with_reducible assumption) | assumption)
              obtain ⟨ad193, e193, hx193_0, hx193_1, hx193_2, hx193_3⟩ := at_T71 HR0.out x10_5 p193 q193
              obtain rfl : ad180 = ad193 := (by injection e193)
              replace hx193_0 := (HB.out.cell (World.block_lt_of_cell? w _ hx193_0)).trans hx193_0
              replace hx193_1 := (HB.out.cell (World.block_lt_of_cell? w _ hx193_1)).trans hx193_1
              replace hx193_2 := (HB.out.cell (World.block_lt_of_cell? w _ hx193_2)).trans hx193_2
              replace hx193_3 := (HB.out.cell (World.block_lt_of_cell? w _ hx193_3)).trans hx193_3
              replace p193 := eq_true p193
              replace q193 := eq_true q193
              have hnb117 := NB181_189.out
              have hnc117 := NB189_181.out
              have hcz118_0 : wr.cell? ⟨gb181, 0, none⟩ = some (.int .i64 ((rd_T71 l0 a1).f0)) := (blk_cell BK181.out 0).trans rfl
              have hcz118_1 : wr.cell? ⟨gb181, 1, none⟩ = some (.int .i64 ((rd_T71 l0 a1).f1)) := (blk_cell BK181.out 1).trans rfl
              have hcz118_2 : wr.cell? ⟨gb181, 2, none⟩ = some (.int .i64 ((rd_T71 l0 a1).f2)) := (blk_cell BK181.out 2).trans rfl
              have hcz118_3 : wr.cell? ⟨gb181, 3, none⟩ = some (.int .i64 ((rd_T71 l0 a1).f3)) := (blk_cell BK181.out 3).trans rfl
              have hfz118_0 := blk_frozen BK181.out 0
              have hfz118_1 := blk_frozen BK181.out 1
              have hfz118_2 := blk_frozen BK181.out 2
              have hfz118_3 := blk_frozen BK181.out 3
              go_wp2
              go_meet
              case rel => exact ⟨_, (true), (by first | rfl | (simp; done) | (simp [*]; done)), H', ⟨by have := HJ5.out; have := HJ46.out; have := HJ71.out; have := HJ77.out; have := HK5.out; first | omega | exact Nat.le_refl _⟩, ⟨by (with_reducible repeat (first | refine blk_drewN ?_ _ | refine blk_drew ?_ | refine blk_alloc ?_ _)); exact BK181.out⟩, ⟨by (with_reducible repeat (first | refine blk_drewN ?_ _ | refine blk_drew ?_ | refine blk_alloc ?_ _)); exact BK189.out⟩, ⟨by repeat (first | (with_reducible first | exact HB.out | apply below_alloc | apply pw_below_drewN | apply below_drew1 | refine below_set ?_ GE181.out | refine below_set ?_ GE189.out) | exact HB.out)⟩⟩
          rw [if_neg c116] at H
          have c116b0 : (((rd_T71 l0 a1).f0) == 19) = false := beq_eq_false_iff_ne.mpr c116
          have c116b1 : (((rd_T71 l0 a1).f0) != 19) = true := bne_iff_ne.mpr c116
          by_cases c119 : ((rd_T71 l0 a1).f0) = 20
          rotate_left
          · rw [if_neg c119] at H
            have c119b0 : (((rd_T71 l0 a1).f0) == 20) = false := beq_eq_false_iff_ne.mpr c119
            have c119b1 : (((rd_T71 l0 a1).f0) != 20) = true := bne_iff_ne.mpr c119
            focus
              have H' := Aside0.mk H
              clear H
              have p193 : 0 ≤ (x10_5 : Int) := of_decide_eq_true (by first | (with_reducible assumption) | assumption)
              have q193 : x10_5 < (l0.length : Int) := of_decide_eq_true (by first | (with_reducible assumption) | assumption)
              obtain ⟨ad193, e193, hx193_0, hx193_1, hx193_2, hx193_3⟩ := at_T71 HR0.out x10_5 p193 q193
              obtain rfl : ad180 = ad193 := (by injection e193)
              replace hx193_0 := (HB.out.cell (World.block_lt_of_cell? w _ hx193_0)).trans hx193_0
              replace hx193_1 := (HB.out.cell (World.block_lt_of_cell? w _ hx193_1)).trans hx193_1
              replace hx193_2 := (HB.out.cell (World.block_lt_of_cell? w _ hx193_2)).trans hx193_2
              replace hx193_3 := (HB.out.cell (World.block_lt_of_cell? w _ hx193_3)).trans hx193_3
              replace p193 := eq_true p193
              replace q193 := eq_true q193
              have hnb122 := NB181_189.out
              have hnc122 := NB189_181.out
              have hcz123_0 : wr.cell? ⟨gb181, 0, none⟩ = some (.int .i64 ((rd_T71 l0 a1).f0)) := (blk_cell BK181.out 0).trans rfl
              have hcz123_1 : wr.cell? ⟨gb181, 1, none⟩ = some (.int .i64 ((rd_T71 l0 a1).f1)) := (blk_cell BK181.out 1).trans rfl
              have hcz123_2 : wr.cell? ⟨gb181, 2, none⟩ = some (.int .i64 ((rd_T71 l0 a1).f2)) := (blk_cell BK181.out 2).trans rfl
              have hcz123_3 : wr.cell? ⟨gb181, 3, none⟩ = some (.int .i64 ((rd_T71 l0 a1).f3)) := (blk_cell BK181.out 3).trans rfl
              have hfz123_0 := blk_frozen BK181.out 0
              have hfz123_1 := blk_frozen BK181.out 1
              have hfz123_2 := blk_frozen BK181.out 2
              have hfz123_3 := blk_frozen BK181.out 3
              go_wp2
              go_meet
              case rel => exact ⟨_, ((((rd_T71 l0 a1).f0) == 21)), (by first | rfl | (simp; done) | (simp [*]; done)), H', ⟨by have := HJ5.out; have := HJ46.out; have := HJ71.out; have := HJ77.out; have := HK5.out; first | omega | exact Nat.le_refl _⟩, ⟨by (with_reducible repeat (first | refine blk_drewN ?_ _ | refine blk_drew ?_ | refine blk_alloc ?_ _)); exact BK181.out⟩, ⟨by (with_reducible repeat (first | refine blk_drewN ?_ _ | refine blk_drew ?_ | refine blk_alloc ?_ _)); exact BK189.out⟩, ⟨by repeat (first | (with_reducible first | exact HB.out | apply below_alloc | apply pw_below_drewN | apply below_drew1 | refine below_set ?_ GE181.out | refine below_set ?_ GE189.out) | exact HB.out)⟩⟩
          rw [if_pos c119] at H
          have c119b0 : (((rd_T71 l0 a1).f0) == 20) = true := beq_iff_eq.mpr c119
          have c119b1 : (((rd_T71 l0 a1).f0) != 20) = false := bne_eq_false_iff_eq.mpr c119
          clear c119
          focus
            have H' := Aside0.mk H
            clear H
            have p193 : 0 ≤ (x10_5 : Int) := of_decide_eq_true (by first | (with_reducible assumption) | assumption)
            have q193 : x10_5 < (l0.length : Int) := of_decide_eq_true (by first | (with_reducible assumption) | assumption)
            obtain ⟨ad193, e193, hx193_0, hx193_1, hx193_2, hx193_3⟩ := at_T71 HR0.out x10_5 p193 q193
            obtain rfl : ad180 = ad193 := (by injection e193)
            replace hx193_0 := (HB.out.cell (World.block_lt_of_cell? w _ hx193_0)).trans hx193_0
            replace hx193_1 := (HB.out.cell (World.block_lt_of_cell? w _ hx193_1)).trans hx193_1
            replace hx193_2 := (HB.out.cell (World.block_lt_of_cell? w _ hx193_2)).trans hx193_2
            replace hx193_3 := (HB.out.cell (World.block_lt_of_cell? w _ hx193_3)).trans hx193_3
            replace p193 := eq_true p193
            replace q193 := eq_true q193
            have hnb120 := NB181_189.out
            have hnc120 := NB189_181.out
            have hcz121_0 : wr.cell? ⟨gb181, 0, none⟩ = some (.int .i64 ((rd_T71 l0 a1).f0)) := (blk_cell BK181.out 0).trans rfl
            have hcz121_1 : wr.cell? ⟨gb181, 1, none⟩ = some (.int .i64 ((rd_T71 l0 a1).f1)) := (blk_cell BK181.out 1).trans rfl
            have hcz121_2 : wr.cell? ⟨gb181, 2, none⟩ = some (.int .i64 ((rd_T71 l0 a1).f2)) := (blk_cell BK181.out 2).trans rfl
            have hcz121_3 : wr.cell? ⟨gb181, 3, none⟩ = some (.int .i64 ((rd_T71 l0 a1).f3)) := (blk_cell BK181.out 3).trans rfl
            have hfz121_0 := blk_frozen BK181.out 0
            have hfz121_1 := blk_frozen BK181.out 1
            have hfz121_2 := blk_frozen BK181.out 2
            have hfz121_3 := blk_frozen BK181.out 3
            go_wp2
            go_meet
            case rel => exact ⟨_, (true), (by first | rfl | (simp; done) | (simp [*]; done)), H', ⟨by have := HJ5.out; have := HJ46.out; have := HJ71.out; have := HJ77.out; have := HK5.out; first | omega | exact Nat.le_refl _⟩, ⟨by (with_reducible repeat (first | refine blk_drewN ?_ _ | refine blk_drew ?_ | refine blk_alloc ?_ _)); exact BK181.out⟩, ⟨by (with_reducible repeat (first | refine blk_drewN ?_ _ | refine blk_drew ?_ | refine blk_alloc ?_ _)); exact BK189.out⟩, ⟨by repeat (first | (with_reducible first | exact HB.out | apply below_alloc | apply pw_below_drewN | apply below_drew1 | refine below_set ?_ GE181.out | refine below_set ?_ GE189.out) | exact HB.out)⟩⟩
        case rest =>
          clear HC109
          try clear c1
          try clear p1
          try clear q1
          try clear hx1
          try clear p2
          try clear c3
          try clear c4
          try clear c5
          try clear c6
          try clear p6
          try clear c7
          try clear c8
          try clear c9
          try clear c10
          try clear c11
          try clear c12
          try clear p18
          try clear q18
          try clear hx18
          try clear p19
          try clear q19
          try clear hx19
          try clear c30
          try clear c30b0
          try clear c31
          try clear c34
          try clear c34b0
          try clear c35
          try clear c38
          try clear c38b0
          try clear c38b1
          try clear c39
          try clear c42
          try clear c43
          try clear c45
          try clear c48
          try clear c48b0
          try clear c48b1
          try clear c49
          try clear c49b0
          try clear c50
          try clear c52
          try clear c52b0
          try clear c53
          try clear c55
          try clear c57
          try clear c57b0
          try clear c57b1
          try clear c58
          try clear c58b0
          try clear c59
          try clear c61
          try clear c61b0
          try clear c62
          try clear c64
          try clear p64
          try clear c66
          try clear c66b0
          try clear c67
          try clear c69
          try clear c71
          try clear c73
          try clear c73b0
          try clear c73b1
          try clear c74
          try clear c76
          try clear c79
          try clear c80
          try clear c80b0
          try clear c81
          try clear c83
          try clear c83b0
          try clear c84
          try clear c86
          try clear c86b0
          try clear c86b1
          try clear c87
          try clear c87b0
          try clear c88
          try clear c90
          try clear c90b0
          try clear c92
          try clear c92b0
          try clear c92b1
          try clear c93
          try clear c95
          try clear c97
          try clear c99
          try clear c99b0
          try clear c101
          try clear c101b0
          try clear c101b1
          try clear c102
          try clear c104
          try clear c106
          try clear c108
          try clear c108b0
          try clear c110
          try clear c110b0
          try clear c111
          try clear c111b0
          try clear c112
          try clear c112b0
          try clear c112b1
          try clear c113
          try clear c113b0
          try clear c113b1
          try clear c114
          try clear c116
          try clear c116b0
          try clear c116b1
          try clear c117
          try clear c119
          try clear c119b0
          try clear c119b1
          try clear c120
          try clear c122
          try clear hcz103_0
          try clear hcz103_1
          try clear hcz103_2
          try clear hcz103_3
          try clear hcz105_0
          try clear hcz105_1
          try clear hcz105_2
          try clear hcz105_3
          try clear hcz107_0
          try clear hcz107_1
          try clear hcz107_2
          try clear hcz107_3
          try clear hcz115_0
          try clear hcz115_1
          try clear hcz115_2
          try clear hcz115_3
          try clear hcz118_0
          try clear hcz118_1
          try clear hcz118_2
          try clear hcz118_3
          try clear hcz121_0
          try clear hcz121_1
          try clear hcz121_2
          try clear hcz121_3
          try clear hcz123_0
          try clear hcz123_1
          try clear hcz123_2
          try clear hcz123_3
          try clear hcz12_0
          try clear hcz12_1
          try clear hcz12_2
          try clear hcz12_3
          try clear hcz12_4
          try clear hcz12_5
          try clear hcz16_0
          try clear hcz16_1
          try clear hcz16_2
          try clear hcz16_3
          try clear hcz17_0
          try clear hcz17_1
          try clear hcz17_2
          try clear hcz17_3
          try clear hcz17_4
          try clear hcz17_5
          try clear hcz20_0
          try clear hcz20_1
          try clear hcz20_2
          try clear hcz20_3
          try clear hcz21_0
          try clear hcz21_1
          try clear hcz21_2
          try clear hcz21_3
          try clear hcz21_4
          try clear hcz21_5
          try clear hcz24_0
          try clear hcz24_1
          try clear hcz24_2
          try clear hcz24_3
          try clear hcz25_0
          try clear hcz25_1
          try clear hcz25_2
          try clear hcz25_3
          try clear hcz25_4
          try clear hcz25_5
          try clear hcz28_0
          try clear hcz28_1
          try clear hcz28_2
          try clear hcz28_3
          try clear hcz29_0
          try clear hcz29_1
          try clear hcz29_2
          try clear hcz29_3
          try clear hcz29_4
          try clear hcz29_5
          try clear hcz32_0
          try clear hcz32_1
          try clear hcz32_2
          try clear hcz32_3
          try clear hcz33_0
          try clear hcz33_1
          try clear hcz33_2
          try clear hcz33_3
          try clear hcz33_4
          try clear hcz33_5
          try clear hcz36_0
          try clear hcz36_1
          try clear hcz36_2
          try clear hcz36_3
          try clear hcz37_0
          try clear hcz37_1
          try clear hcz37_2
          try clear hcz37_3
          try clear hcz37_4
          try clear hcz37_5
          try clear hcz40_0
          try clear hcz40_1
          try clear hcz40_2
          try clear hcz40_3
          try clear hcz41_0
          try clear hcz41_1
          try clear hcz41_2
          try clear hcz41_3
          try clear hcz41_4
          try clear hcz41_5
          try clear hcz43_0
          try clear hcz43_1
          try clear hcz43_2
          try clear hcz43_3
          try clear hcz44_0
          try clear hcz44_1
          try clear hcz44_2
          try clear hcz44_3
          try clear hcz44_4
          try clear hcz44_5
          try clear hcz51_0
          try clear hcz51_1
          try clear hcz51_2
          try clear hcz51_3
          try clear hcz54_0
          try clear hcz54_1
          try clear hcz54_2
          try clear hcz54_3
          try clear hcz56_0
          try clear hcz56_1
          try clear hcz56_2
          try clear hcz56_3
          try clear hcz60_0
          try clear hcz60_1
          try clear hcz60_2
          try clear hcz60_3
          try clear hcz63_0
          try clear hcz63_1
          try clear hcz63_2
          try clear hcz63_3
          try clear hcz65_0
          try clear hcz65_1
          try clear hcz65_2
          try clear hcz65_3
          try clear hcz68_0
          try clear hcz68_1
          try clear hcz68_2
          try clear hcz68_3
          try clear hcz70_0
          try clear hcz70_1
          try clear hcz70_2
          try clear hcz70_3
          try clear hcz75_0
          try clear hcz75_1
          try clear hcz75_2
          try clear hcz75_3
          try clear hcz77_0
          try clear hcz77_1
          try clear hcz77_2
          try clear hcz77_3
          try clear hcz82_0
          try clear hcz82_1
          try clear hcz82_2
          try clear hcz82_3
          try clear hcz85_0
          try clear hcz85_1
          try clear hcz85_2
          try clear hcz85_3
          try clear hcz89_0
          try clear hcz89_1
          try clear hcz89_2
          try clear hcz89_3
          try clear hcz8_0
          try clear hcz8_1
          try clear hcz8_2
          try clear hcz8_3
          try clear hcz94_0
          try clear hcz94_1
          try clear hcz94_2
          try clear hcz94_3
          try clear hcz96_0
          try clear hcz96_1
          try clear hcz96_2
          try clear hcz96_3
          try clear hcz98_0
          try clear hcz98_1
          try clear hcz98_2
          try clear hcz98_3
          try clear hfz103_0
          try clear hfz103_1
          try clear hfz103_2
          try clear hfz103_3
          try clear hfz105_0
          try clear hfz105_1
          try clear hfz105_2
          try clear hfz105_3
          try clear hfz107_0
          try clear hfz107_1
          try clear hfz107_2
          try clear hfz107_3
          try clear hfz115_0
          try clear hfz115_1
          try clear hfz115_2
          try clear hfz115_3
          try clear hfz118_0
          try clear hfz118_1
          try clear hfz118_2
          try clear hfz118_3
          try clear hfz121_0
          try clear hfz121_1
          try clear hfz121_2
          try clear hfz121_3
          try clear hfz123_0
          try clear hfz123_1
          try clear hfz123_2
          try clear hfz123_3
          try clear hfz12_0
          try clear hfz12_1
          try clear hfz12_2
          try clear hfz12_3
          try clear hfz12_4
          try clear hfz12_5
          try clear hfz16_0
          try clear hfz16_1
          try clear hfz16_2
          try clear hfz16_3
          try clear hfz17_0
          try clear hfz17_1
          try clear hfz17_2
          try clear hfz17_3
          try clear hfz17_4
          try clear hfz17_5
          try clear hfz20_0
          try clear hfz20_1
          try clear hfz20_2
          try clear hfz20_3
          try clear hfz21_0
          try clear hfz21_1
          try clear hfz21_2
          try clear hfz21_3
          try clear hfz21_4
          try clear hfz21_5
          try clear hfz24_0
          try clear hfz24_1
          try clear hfz24_2
          try clear hfz24_3
          try clear hfz25_0
          try clear hfz25_1
          try clear hfz25_2
          try clear hfz25_3
          try clear hfz25_4
          try clear hfz25_5
          try clear hfz28_0
          try clear hfz28_1
          try clear hfz28_2
          try clear hfz28_3
          try clear hfz29_0
          try clear hfz29_1
          try clear hfz29_2
          try clear hfz29_3
          try clear hfz29_4
          try clear hfz29_5
          try clear hfz32_0
          try clear hfz32_1
          try clear hfz32_2
          try clear hfz32_3
          try clear hfz33_0
          try clear hfz33_1
          try clear hfz33_2
          try clear hfz33_3
          try clear hfz33_4
          try clear hfz33_5
          try clear hfz36_0
          try clear hfz36_1
          try clear hfz36_2
          try clear hfz36_3
          try clear hfz37_0
          try clear hfz37_1
          try clear hfz37_2
          try clear hfz37_3
          try clear hfz37_4
          try clear hfz37_5
          try clear hfz40_0
          try clear hfz40_1
          try clear hfz40_2
          try clear hfz40_3
          try clear hfz41_0
          try clear hfz41_1
          try clear hfz41_2
          try clear hfz41_3
          try clear hfz41_4
          try clear hfz41_5
          try clear hfz43_0
          try clear hfz43_1
          try clear hfz43_2
          try clear hfz43_3
          try clear hfz44_0
          try clear hfz44_1
          try clear hfz44_2
          try clear hfz44_3
          try clear hfz44_4
          try clear hfz44_5
          try clear hfz51_0
          try clear hfz51_1
          try clear hfz51_2
          try clear hfz51_3
          try clear hfz54_0
          try clear hfz54_1
          try clear hfz54_2
          try clear hfz54_3
          try clear hfz56_0
          try clear hfz56_1
          try clear hfz56_2
          try clear hfz56_3
          try clear hfz60_0
          try clear hfz60_1
          try clear hfz60_2
          try clear hfz60_3
          try clear hfz63_0
          try clear hfz63_1
          try clear hfz63_2
          try clear hfz63_3
          try clear hfz65_0
          try clear hfz65_1
          try clear hfz65_2
          try clear hfz65_3
          try clear hfz68_0
          try clear hfz68_1
          try clear hfz68_2
          try clear hfz68_3
          try clear hfz70_0
          try clear hfz70_1
          try clear hfz70_2
          try clear hfz70_3
          try clear hfz75_0
          try clear hfz75_1
          try clear hfz75_2
          try clear hfz75_3
          try clear hfz77_0
          try clear hfz77_1
          try clear hfz77_2
          try clear hfz77_3
          try clear hfz82_0
          try clear hfz82_1
          try clear hfz82_2
          try clear hfz82_3
          try clear hfz85_0
          try clear hfz85_1
          try clear hfz85_2
          try clear hfz85_3
          try clear hfz89_0
          try clear hfz89_1
          try clear hfz89_2
          try clear hfz89_3
          try clear hfz8_0
          try clear hfz8_1
          try clear hfz8_2
          try clear hfz8_3
          try clear hfz94_0
          try clear hfz94_1
          try clear hfz94_2
          try clear hfz94_3
          try clear hfz96_0
          try clear hfz96_1
          try clear hfz96_2
          try clear hfz96_3
          try clear hfz98_0
          try clear hfz98_1
          try clear hfz98_2
          try clear hfz98_3
          try clear hx180_0
          try clear hx180_1
          try clear hx180_2
          try clear hx180_3
          try clear hx193_0
          try clear hx193_1
          try clear hx193_2
          try clear hx193_3
          try clear p1
          try clear p18
          try clear p180
          try clear p193
          try clear p2
          try clear p64
          try clear q1
          try clear q18
          try clear q180
          try clear q193
          obtain ⟨kq, x184_108, rfl, HA, HJ108, BK181, BK189, HB⟩ := hcut
          cases kq with
          | zero => exact absurd HA.out (by simp [countermandref07_One.j5])
          | succ kj108 =>
            have H := HA.out
            clear HA
            simp only [countermandref07_One.j5] at H
            by_cases c124 : x184_108 = true
            · subst c124
              have H1 : (some false) = some r := by rw [if_pos rfl] at H; exact H
              clear H
              have H := H1
              clear H1
              focus
                obtain rfl := Option.some.inj H
                simp only [Option.some.injEq, Prod.mk.injEq] at H
                obtain ⟨rfl⟩ := H
                go_wp2
                go_ret
                exact ⟨by first | rfl | (simp [errW_none, errW_some] <;> rfl) | (simp [*, errW_none, errW_some] <;> rfl), by repeat (first | (with_reducible first | exact HB.out | apply below_alloc | apply pw_below_drewN | apply below_drew1 | refine below_set ?_ GE181.out | refine below_set ?_ GE189.out) | exact HB.out)⟩
            replace c124 := Bool.eq_false_iff.mpr c124
            subst c124
            have H1 : (if 0 ≤ x10_5 then (if x10_5 < (l0.length : Int) then (if ((rd_T71 l0 x10_5).f0) = 20 then (countermandref07_One.l0 kj108 l0 a1 (wrap64 (x9_5 + 1)) (wrap64 (x10_5 + 1)) ((rd_T71 l0 a1).f0) ((rd_T71 l0 a1).f1) ((rd_T71 l0 a1).f2) ((rd_T71 l0 a1).f3)) else (countermandref07_One.l0 kj108 l0 a1 x9_5 (wrap64 (x10_5 + 1)) ((rd_T71 l0 a1).f0) ((rd_T71 l0 a1).f1) ((rd_T71 l0 a1).f2) ((rd_T71 l0 a1).f3))) else (none)) else (none)) = some r := by rw [if_neg (show ¬ (false = true) by decide)] at H; exact H
            clear H
            have H := H1
            clear H1
            by_cases c125 : 0 ≤ x10_5
            rotate_left
            · rw [if_neg c125] at H
              exact absurd H (by simp)
            rw [if_pos c125] at H
            have c125b0 : decide (0 ≤ x10_5) = true := decide_eq_true c125
            clear c125
            by_cases c126 : x10_5 < (l0.length : Int)
            rotate_left
            · rw [if_neg c126] at H
              exact absurd H (by simp)
            rw [if_pos c126] at H
            have c126b0 : decide (x10_5 < (l0.length : Int)) = true := decide_eq_true c126
            clear c126
            by_cases c127 : ((rd_T71 l0 x10_5).f0) = 20
            rotate_left
            · rw [if_neg c127] at H
              have c127b0 : (((rd_T71 l0 x10_5).f0) == 20) = false := beq_eq_false_iff_ne.mpr c127
              have c127b1 : (((rd_T71 l0 x10_5).f0) != 20) = true := bne_iff_ne.mpr c127
              focus
                have H' := Aside0.mk H
                clear H
                have p194 : 0 ≤ (x10_5 : Int) := of_decide_eq_true (by first | (with_reducible assumption) | assumption)
                have q194 : x10_5 < (l0.length : Int) := of_decide_eq_true (by first | (with_reducible assumption) | assumption)
                obtain ⟨ad194, e194, hx194_0, hx194_1, hx194_2, hx194_3⟩ := at_T71 HR0.out x10_5 p194 q194
                obtain rfl : ad180 = ad194 := (by injection e194)
                replace hx194_0 := (HB.out.cell (World.block_lt_of_cell? w _ hx194_0)).trans hx194_0
                replace hx194_1 := (HB.out.cell (World.block_lt_of_cell? w _ hx194_1)).trans hx194_1
                replace hx194_2 := (HB.out.cell (World.block_lt_of_cell? w _ hx194_2)).trans hx194_2
                replace hx194_3 := (HB.out.cell (World.block_lt_of_cell? w _ hx194_3)).trans hx194_3
                replace p194 := eq_true p194
                replace q194 := eq_true q194
                go_wp2
                go_roundg kj108
                case measure => have := HJ5.out; have := HJ46.out; have := HJ71.out; have := HJ77.out; have := HK5.out; have := HJ108.out; omega
                case rel => exact ⟨(x9_5), (wrap64 (x10_5 + 1)), (by first | rfl | (simp; done) | (simp [*]; done)), (by first | rfl | (simp; done) | (simp [*]; done)), H', ⟨by have := HJ5.out; have := HJ46.out; have := HJ71.out; have := HJ77.out; have := HK5.out; have := HJ108.out; omega⟩, ⟨by (with_reducible repeat (first | refine blk_drewN ?_ _ | refine blk_drew ?_ | refine blk_alloc ?_ _)); exact BK181.out⟩, ⟨by (with_reducible repeat (first | refine blk_drewN ?_ _ | refine blk_drew ?_ | refine blk_alloc ?_ _)); exact BK189.out⟩, ⟨by repeat (first | (with_reducible first | exact HB.out | apply below_alloc | apply pw_below_drewN | apply below_drew1 | refine below_set ?_ GE181.out | refine below_set ?_ GE189.out) | exact HB.out)⟩⟩
            rw [if_pos c127] at H
            have c127b0 : (((rd_T71 l0 x10_5).f0) == 20) = true := beq_iff_eq.mpr c127
            have c127b1 : (((rd_T71 l0 x10_5).f0) != 20) = false := bne_eq_false_iff_eq.mpr c127
            clear c127
            focus
              have H' := Aside0.mk H
              clear H
              have p194 : 0 ≤ (x10_5 : Int) := of_decide_eq_true (by first | (with_reducible assumption) | assumption)
              have q194 : x10_5 < (l0.length : Int) := of_decide_eq_true (by first | (with_reducible assumption) | assumption)
              obtain ⟨ad194, e194, hx194_0, hx194_1, hx194_2, hx194_3⟩ := at_T71 HR0.out x10_5 p194 q194
              obtain rfl : ad180 = ad194 := (by injection e194)
              replace hx194_0 := (HB.out.cell (World.block_lt_of_cell? w _ hx194_0)).trans hx194_0
              replace hx194_1 := (HB.out.cell (World.block_lt_of_cell? w _ hx194_1)).trans hx194_1
              replace hx194_2 := (HB.out.cell (World.block_lt_of_cell? w _ hx194_2)).trans hx194_2
              replace hx194_3 := (HB.out.cell (World.block_lt_of_cell? w _ hx194_3)).trans hx194_3
              replace p194 := eq_true p194
              replace q194 := eq_true q194
              go_wp2
              go_roundg kj108
              case measure => have := HJ5.out; have := HJ46.out; have := HJ71.out; have := HJ77.out; have := HK5.out; have := HJ108.out; omega
              case rel => exact ⟨(wrap64 (x9_5 + 1)), (wrap64 (x10_5 + 1)), (by first | rfl | (simp; done) | (simp [*]; done)), (by first | rfl | (simp; done) | (simp [*]; done)), H', ⟨by have := HJ5.out; have := HJ46.out; have := HJ71.out; have := HJ77.out; have := HK5.out; have := HJ108.out; omega⟩, ⟨by (with_reducible repeat (first | refine blk_drewN ?_ _ | refine blk_drew ?_ | refine blk_alloc ?_ _)); exact BK181.out⟩, ⟨by (with_reducible repeat (first | refine blk_drewN ?_ _ | refine blk_drew ?_ | refine blk_alloc ?_ _)); exact BK189.out⟩, ⟨by repeat (first | (with_reducible first | exact HB.out | apply below_alloc | apply pw_below_drewN | apply below_drew1 | refine below_set ?_ GE181.out | refine below_set ?_ GE189.out) | exact HB.out)⟩⟩
set_option maxHeartbeats 8000000 in
set_option maxRecDepth 1000000 in
theorem countermandref07_One.rest1 (k c0 kj5 kj46 : Nat) (l0 : List S71) (a1 : Int) (r : Bool) (w wc : World) (t182 t183 t184 t185 t186 t187 t190 : Int) (ad180 : Addr) (gb181 gb189 : Nat) (u2 u3 u4 u7 u9 u10 u11 u12 u13 u14 u15 u16 u17 u18 u19 u20 u21 u22 u23 u24 u25 u26 u27 u28 u29 u30 u31 u32 u33 u34 u35 u36 u37 u38 u39 u40 u41 u42 u43 u44 u45 u46 u47 u48 u49 u50 u51 u52 u53 u54 u55 u56 u57 u58 u59 u60 u61 u62 u63 u64 u65 u66 u67 u68 u69 u70 u71 u72 u73 u74 u75 u76 u77 u78 u79 u80 u81 u82 u83 u84 u85 u86 u87 u88 u89 u90 u91 u92 u93 u94 u95 u96 u97 u98 u99 u100 u101 u102 u103 u104 u105 u106 u107 u108 u109 u110 u111 u112 u113 u114 u115 u116 u117 u118 u119 u120 u121 u122 u123 u124 u125 u126 u127 u128 u129 u130 u131 u132 u133 u134 u135 u136 u137 u138 u139 u140 u141 u142 u143 u144 u145 u146 u147 u148 u149 u150 u151 u152 u153 u154 u155 u156 u157 u158 u159 u160 u161 u162 u163 u164 u165 u166 u167 u168 u169 u170 u171 u172 u173 u174 u175 u176 u177 u178 u179 u180 u181 u182 u183 u184 u185 u186 u187 u188 u189 u190 u191 u192 u193 u194 u195 u196 u197 u198 u199 : Value)
    (HC0 : Aside0 (l0.length ≤ c0)) (HR0 : Aside0 (k71.C w (some ad180) l0.length l0)) (GE181 : Aside0 (w.heap.size ≤ gb181)) (GE189 : Aside0 (w.heap.size ≤ gb189)) (NB181_189 : Aside0 (gb181 ≠ gb189)) (NB189_181 : Aside0 (gb189 ≠ gb181))
    (HJ5 : Aside0 (kj5 + 1 ≤ k)) (HJ46 : Aside0 (kj46 + 1 ≤ kj5)) (HC72 : Aside0 ((if ((rd_T71 l0 a1).f0) = 3 then (countermandref07_One.j2 kj46 l0 a1 t190 true ((rd_T71 l0 a1).f0) ((rd_T71 l0 a1).f1) ((rd_T71 l0 a1).f2) ((rd_T71 l0 a1).f3)) else (countermandref07_One.j2 kj46 l0 a1 t190 (((rd_T71 l0 a1).f0) == 20) ((rd_T71 l0 a1).f0) ((rd_T71 l0 a1).f1) ((rd_T71 l0 a1).f2) ((rd_T71 l0 a1).f3))) = some r))
    (BK181 : Aside0 (wc.heap[gb181]? = some (.cells #[.int .i64 ((rd_T71 l0 a1).f0), .int .i64 ((rd_T71 l0 a1).f1), .int .i64 ((rd_T71 l0 a1).f2), .int .i64 ((rd_T71 l0 a1).f3)] 71 (0, 0))))
    (BK189 : Aside0 (wc.heap[gb189]? = some (.cells #[.int .i64 t182, .int .i64 t183, .int .i64 t184, .int .i64 t185, .int .i64 t186, .int .i64 t187] 87 (0, 0)))) (HB : Aside0 (Below w.heap.size w wc)) :
    Code.wp Try.prog oneR1 (bodyPost Try.prog Try.f34 (fun e w' => e = .returned (.bool r) ∧ Below w.heap.size w w')) ⟨#[.slice (some ad180) l0.length c0, .int .i64 a1, u2, u3, u4, .pointer (some ⟨gb181, 0, none⟩), .pointer (some ⟨gb189, 0, none⟩), u7, .int .i64 t190, u9, u10, u11, u12, u13, u14, u15, u16, u17, u18, u19, u20, u21, u22, u23, u24, u25, u26, u27, u28, u29, u30, u31, u32, u33, u34, u35, u36, u37, u38, u39, u40, u41, u42, u43, u44, u45, u46, u47, u48, u49, u50, u51, u52, u53, u54, u55, u56, u57, u58, u59, u60, u61, u62, u63, u64, u65, u66, u67, u68, u69, u70, u71, u72, u73, u74, u75, u76, u77, u78, u79, u80, u81, u82, u83, u84, u85, u86, u87, u88, u89, u90, u91, u92, u93, u94, u95, u96, u97, u98, u99, u100, u101, u102, u103, u104, u105, u106, u107, u108, u109, u110, u111, u112, u113, u114, u115, u116, u117, u118, u119, u120, u121, u122, u123, u124, u125, u126, u127, u128, u129, u130, u131, u132, u133, u134, u135, u136, u137, u138, u139, u140, u141, u142, u143, u144, u145, u146, u147, u148, u149, u150, u151, u152, u153, u154, u155, u156, u157, u158, u159, u160, u161, u162, u163, u164, u165, u166, u167, u168, u169, u170, u171, u172, u173, u174, u175, u176, u177, u178, u179, u180, u181, u182, u183, u184, u185, u186, u187, u188, u189, u190, u191, u192, u193, u194, u195, u196, u197, u198, u199], []⟩ wc := by
  conv => arg 2; whnf
  conv => arg 4; dsimp only
  have hu71 := Try.underlying71
  have hu87 := Try.underlying87
  have hu86 := Try.underlying86
  go_upto_region 8 with (fail)
  go_cut [114] (fun v114 wc => ∃ (kq : Nat) (x114_71 : Bool), v114 = .bool x114_71 ∧ Aside0 (countermandref07_One.j2 kq l0 a1 t190 x114_71 ((rd_T71 l0 a1).f0) ((rd_T71 l0 a1).f1) ((rd_T71 l0 a1).f2) ((rd_T71 l0 a1).f3) = some r) ∧ Aside0 (kq ≤ kj46) ∧ Aside0 (wc.heap[gb181]? = some (.cells #[.int .i64 ((rd_T71 l0 a1).f0), .int .i64 ((rd_T71 l0 a1).f1), .int .i64 ((rd_T71 l0 a1).f2), .int .i64 ((rd_T71 l0 a1).f3)] 71 (0, 0))) ∧ Aside0 (wc.heap[gb189]? = some (.cells #[.int .i64 t182, .int .i64 t183, .int .i64 t184, .int .i64 t185, .int .i64 t186, .int .i64 t187] 87 (0, 0))) ∧ Aside0 (Below w.heap.size w wc))
  case first =>
    have H := HC72.out
    clear HC72
    by_cases c73 : ((rd_T71 l0 a1).f0) = 3
    rotate_left
    · rw [if_neg c73] at H
      have c73b0 : (((rd_T71 l0 a1).f0) == 3) = false := beq_eq_false_iff_ne.mpr c73
      have c73b1 : (((rd_T71 l0 a1).f0) != 3) = true := bne_iff_ne.mpr c73
      (first | rw [c73b0] | (simp only [i64_w, i32_w]; rw [c73b0]) | skip)
      focus
        have H' := Aside0.mk H
        clear H
        have hnb76 := NB181_189.out
        have hnc76 := NB189_181.out
        have hcz77_0 : wc.cell? ⟨gb181, 0, none⟩ = some (.int .i64 ((rd_T71 l0 a1).f0)) := (blk_cell BK181.out 0).trans rfl
        have hcz77_1 : wc.cell? ⟨gb181, 1, none⟩ = some (.int .i64 ((rd_T71 l0 a1).f1)) := (blk_cell BK181.out 1).trans rfl
        have hcz77_2 : wc.cell? ⟨gb181, 2, none⟩ = some (.int .i64 ((rd_T71 l0 a1).f2)) := (blk_cell BK181.out 2).trans rfl
        have hcz77_3 : wc.cell? ⟨gb181, 3, none⟩ = some (.int .i64 ((rd_T71 l0 a1).f3)) := (blk_cell BK181.out 3).trans rfl
        have hfz77_0 := blk_frozen BK181.out 0
        have hfz77_1 := blk_frozen BK181.out 1
        have hfz77_2 := blk_frozen BK181.out 2
        have hfz77_3 := blk_frozen BK181.out 3
        go_wp2
        go_meet
        case rel => exact ⟨_, ((((rd_T71 l0 a1).f0) == 20)), (by first | rfl | (simp; done) | (simp [*]; done)), H', ⟨by have := HJ5.out; have := HJ46.out; first | omega | exact Nat.le_refl _⟩, ⟨by (with_reducible repeat (first | refine blk_drewN ?_ _ | refine blk_drew ?_ | refine blk_alloc ?_ _)); exact BK181.out⟩, ⟨by (with_reducible repeat (first | refine blk_drewN ?_ _ | refine blk_drew ?_ | refine blk_alloc ?_ _)); exact BK189.out⟩, ⟨by repeat (first | (with_reducible first | exact HB.out | apply below_alloc | apply pw_below_drewN | apply below_drew1 | refine below_set ?_ GE181.out | refine below_set ?_ GE189.out) | exact HB.out)⟩⟩
    rw [if_pos c73] at H
    have c73b0 : (((rd_T71 l0 a1).f0) == 3) = true := beq_iff_eq.mpr c73
    have c73b1 : (((rd_T71 l0 a1).f0) != 3) = false := bne_eq_false_iff_eq.mpr c73
    clear c73
    (first | rw [c73b0] | (simp only [i64_w, i32_w]; rw [c73b0]) | skip)
    focus
      have H' := Aside0.mk H
      clear H
      have hnb74 := NB181_189.out
      have hnc74 := NB189_181.out
      have hcz75_0 : wc.cell? ⟨gb181, 0, none⟩ = some (.int .i64 ((rd_T71 l0 a1).f0)) := (blk_cell BK181.out 0).trans rfl
      have hcz75_1 : wc.cell? ⟨gb181, 1, none⟩ = some (.int .i64 ((rd_T71 l0 a1).f1)) := (blk_cell BK181.out 1).trans rfl
      have hcz75_2 : wc.cell? ⟨gb181, 2, none⟩ = some (.int .i64 ((rd_T71 l0 a1).f2)) := (blk_cell BK181.out 2).trans rfl
      have hcz75_3 : wc.cell? ⟨gb181, 3, none⟩ = some (.int .i64 ((rd_T71 l0 a1).f3)) := (blk_cell BK181.out 3).trans rfl
      have hfz75_0 := blk_frozen BK181.out 0
      have hfz75_1 := blk_frozen BK181.out 1
      have hfz75_2 := blk_frozen BK181.out 2
      have hfz75_3 := blk_frozen BK181.out 3
      go_wp2
      go_meet
      case rel => exact ⟨_, (true), (by first | rfl | (simp; done) | (simp [*]; done)), H', ⟨by have := HJ5.out; have := HJ46.out; first | omega | exact Nat.le_refl _⟩, ⟨by (with_reducible repeat (first | refine blk_drewN ?_ _ | refine blk_drew ?_ | refine blk_alloc ?_ _)); exact BK181.out⟩, ⟨by (with_reducible repeat (first | refine blk_drewN ?_ _ | refine blk_drew ?_ | refine blk_alloc ?_ _)); exact BK189.out⟩, ⟨by repeat (first | (with_reducible first | exact HB.out | apply below_alloc | apply pw_below_drewN | apply below_drew1 | refine below_set ?_ GE181.out | refine below_set ?_ GE189.out) | exact HB.out)⟩⟩
  case rest =>
    clear HC72
    try clear c1
    try clear p1
    try clear q1
    try clear hx1
    try clear c2
    try clear p2
    try clear c3
    try clear c3b0
    try clear c4
    try clear c4b0
    try clear c5
    try clear c6
    try clear c7
    try clear c11
    try clear c13
    try clear c14
    try clear c14b0
    try clear c15
    try clear c18
    try clear c18b0
    try clear p18
    try clear q18
    try clear hx18
    try clear c19
    try clear c22
    try clear c22b0
    try clear c23
    try clear c26
    try clear c26b0
    try clear c27
    try clear c30
    try clear c30b0
    try clear c31
    try clear c34
    try clear c34b0
    try clear c35
    try clear c38
    try clear c38b0
    try clear c38b1
    try clear c39
    try clear c42
    try clear c43
    try clear c45
    try clear c48
    try clear c48b0
    try clear c48b1
    try clear c49
    try clear c49b0
    try clear c50
    try clear c52
    try clear c52b0
    try clear c53
    try clear c55
    try clear c57
    try clear c57b0
    try clear c57b1
    try clear c58
    try clear c58b0
    try clear c59
    try clear c61
    try clear c61b0
    try clear c62
    try clear c64
    try clear c66
    try clear c66b0
    try clear c67
    try clear c69
    try clear c71
    try clear c73
    try clear c73b0
    try clear c73b1
    try clear c74
    try clear c76
    try clear hcz12_0
    try clear hcz12_1
    try clear hcz12_2
    try clear hcz12_3
    try clear hcz12_4
    try clear hcz12_5
    try clear hcz16_0
    try clear hcz16_1
    try clear hcz16_2
    try clear hcz16_3
    try clear hcz17_0
    try clear hcz17_1
    try clear hcz17_2
    try clear hcz17_3
    try clear hcz17_4
    try clear hcz17_5
    try clear hcz20_0
    try clear hcz20_1
    try clear hcz20_2
    try clear hcz20_3
    try clear hcz21_0
    try clear hcz21_1
    try clear hcz21_2
    try clear hcz21_3
    try clear hcz21_4
    try clear hcz21_5
    try clear hcz24_0
    try clear hcz24_1
    try clear hcz24_2
    try clear hcz24_3
    try clear hcz25_0
    try clear hcz25_1
    try clear hcz25_2
    try clear hcz25_3
    try clear hcz25_4
    try clear hcz25_5
    try clear hcz28_0
    try clear hcz28_1
    try clear hcz28_2
    try clear hcz28_3
    try clear hcz29_0
    try clear hcz29_1
    try clear hcz29_2
    try clear hcz29_3
    try clear hcz29_4
    try clear hcz29_5
    try clear hcz32_0
    try clear hcz32_1
    try clear hcz32_2
    try clear hcz32_3
    try clear hcz33_0
    try clear hcz33_1
    try clear hcz33_2
    try clear hcz33_3
    try clear hcz33_4
    try clear hcz33_5
    try clear hcz36_0
    try clear hcz36_1
    try clear hcz36_2
    try clear hcz36_3
    try clear hcz37_0
    try clear hcz37_1
    try clear hcz37_2
    try clear hcz37_3
    try clear hcz37_4
    try clear hcz37_5
    try clear hcz40_0
    try clear hcz40_1
    try clear hcz40_2
    try clear hcz40_3
    try clear hcz41_0
    try clear hcz41_1
    try clear hcz41_2
    try clear hcz41_3
    try clear hcz41_4
    try clear hcz41_5
    try clear hcz43_0
    try clear hcz43_1
    try clear hcz43_2
    try clear hcz43_3
    try clear hcz44_0
    try clear hcz44_1
    try clear hcz44_2
    try clear hcz44_3
    try clear hcz44_4
    try clear hcz44_5
    try clear hcz51_0
    try clear hcz51_1
    try clear hcz51_2
    try clear hcz51_3
    try clear hcz54_0
    try clear hcz54_1
    try clear hcz54_2
    try clear hcz54_3
    try clear hcz56_0
    try clear hcz56_1
    try clear hcz56_2
    try clear hcz56_3
    try clear hcz60_0
    try clear hcz60_1
    try clear hcz60_2
    try clear hcz60_3
    try clear hcz63_0
    try clear hcz63_1
    try clear hcz63_2
    try clear hcz63_3
    try clear hcz65_0
    try clear hcz65_1
    try clear hcz65_2
    try clear hcz65_3
    try clear hcz68_0
    try clear hcz68_1
    try clear hcz68_2
    try clear hcz68_3
    try clear hcz70_0
    try clear hcz70_1
    try clear hcz70_2
    try clear hcz70_3
    try clear hcz75_0
    try clear hcz75_1
    try clear hcz75_2
    try clear hcz75_3
    try clear hcz77_0
    try clear hcz77_1
    try clear hcz77_2
    try clear hcz77_3
    try clear hcz8_0
    try clear hcz8_1
    try clear hcz8_2
    try clear hcz8_3
    try clear hfz12_0
    try clear hfz12_1
    try clear hfz12_2
    try clear hfz12_3
    try clear hfz12_4
    try clear hfz12_5
    try clear hfz16_0
    try clear hfz16_1
    try clear hfz16_2
    try clear hfz16_3
    try clear hfz17_0
    try clear hfz17_1
    try clear hfz17_2
    try clear hfz17_3
    try clear hfz17_4
    try clear hfz17_5
    try clear hfz20_0
    try clear hfz20_1
    try clear hfz20_2
    try clear hfz20_3
    try clear hfz21_0
    try clear hfz21_1
    try clear hfz21_2
    try clear hfz21_3
    try clear hfz21_4
    try clear hfz21_5
    try clear hfz24_0
    try clear hfz24_1
    try clear hfz24_2
    try clear hfz24_3
    try clear hfz25_0
    try clear hfz25_1
    try clear hfz25_2
    try clear hfz25_3
    try clear hfz25_4
    try clear hfz25_5
    try clear hfz28_0
    try clear hfz28_1
    try clear hfz28_2
    try clear hfz28_3
    try clear hfz29_0
    try clear hfz29_1
    try clear hfz29_2
    try clear hfz29_3
    try clear hfz29_4
    try clear hfz29_5
    try clear hfz32_0
    try clear hfz32_1
    try clear hfz32_2
    try clear hfz32_3
    try clear hfz33_0
    try clear hfz33_1
    try clear hfz33_2
    try clear hfz33_3
    try clear hfz33_4
    try clear hfz33_5
    try clear hfz36_0
    try clear hfz36_1
    try clear hfz36_2
    try clear hfz36_3
    try clear hfz37_0
    try clear hfz37_1
    try clear hfz37_2
    try clear hfz37_3
    try clear hfz37_4
    try clear hfz37_5
    try clear hfz40_0
    try clear hfz40_1
    try clear hfz40_2
    try clear hfz40_3
    try clear hfz41_0
    try clear hfz41_1
    try clear hfz41_2
    try clear hfz41_3
    try clear hfz41_4
    try clear hfz41_5
    try clear hfz43_0
    try clear hfz43_1
    try clear hfz43_2
    try clear hfz43_3
    try clear hfz44_0
    try clear hfz44_1
    try clear hfz44_2
    try clear hfz44_3
    try clear hfz44_4
    try clear hfz44_5
    try clear hfz51_0
    try clear hfz51_1
    try clear hfz51_2
    try clear hfz51_3
    try clear hfz54_0
    try clear hfz54_1
    try clear hfz54_2
    try clear hfz54_3
    try clear hfz56_0
    try clear hfz56_1
    try clear hfz56_2
    try clear hfz56_3
    try clear hfz60_0
    try clear hfz60_1
    try clear hfz60_2
    try clear hfz60_3
    try clear hfz63_0
    try clear hfz63_1
    try clear hfz63_2
    try clear hfz63_3
    try clear hfz65_0
    try clear hfz65_1
    try clear hfz65_2
    try clear hfz65_3
    try clear hfz68_0
    try clear hfz68_1
    try clear hfz68_2
    try clear hfz68_3
    try clear hfz70_0
    try clear hfz70_1
    try clear hfz70_2
    try clear hfz70_3
    try clear hfz75_0
    try clear hfz75_1
    try clear hfz75_2
    try clear hfz75_3
    try clear hfz77_0
    try clear hfz77_1
    try clear hfz77_2
    try clear hfz77_3
    try clear hfz8_0
    try clear hfz8_1
    try clear hfz8_2
    try clear hfz8_3
    try clear hx180_0
    try clear hx180_1
    try clear hx180_2
    try clear hx180_3
    try clear p1
    try clear p18
    try clear p180
    try clear p2
    try clear q1
    try clear q18
    try clear q180
    obtain ⟨kq, x114_71, rfl, HA, HJ71, BK181, BK189, HB⟩ := hcut
    cases kq with
    | zero => exact absurd HA.out (by simp [countermandref07_One.j2])
    | succ kj71 =>
      have H := HA.out
      clear HA
      simp only [countermandref07_One.j2] at H
      have HC78 := Aside0.mk H
      clear H
      go_upto_if 114 with (fail)
      go_cut [] (fun wc => ∃ (kq : Nat), Aside0 (countermandref07_One.j3 kq l0 a1 t190 ((rd_T71 l0 a1).f0) ((rd_T71 l0 a1).f1) ((rd_T71 l0 a1).f2) ((rd_T71 l0 a1).f3) = some r) ∧ Aside0 (kq ≤ kj71) ∧ Aside0 (wc.heap[gb181]? = some (.cells #[.int .i64 ((rd_T71 l0 a1).f0), .int .i64 ((rd_T71 l0 a1).f1), .int .i64 ((rd_T71 l0 a1).f2), .int .i64 ((rd_T71 l0 a1).f3)] 71 (0, 0))) ∧ Aside0 (wc.heap[gb189]? = some (.cells #[.int .i64 t182, .int .i64 t183, .int .i64 t184, .int .i64 t185, .int .i64 t186, .int .i64 t187] 87 (0, 0))) ∧ Aside0 (Below w.heap.size w wc))
      case first =>
        have H := HC78.out
        clear HC78
        by_cases c79 : x114_71 = true
        rotate_left
        · replace c79 := Bool.eq_false_iff.mpr c79
          subst c79
          have H1 : (countermandref07_One.j3 kj71 l0 a1 t190 ((rd_T71 l0 a1).f0) ((rd_T71 l0 a1).f1) ((rd_T71 l0 a1).f2) ((rd_T71 l0 a1).f3)) = some r := by rw [if_neg (show ¬ (false = true) by decide)] at H; exact H
          clear H
          have H := H1
          clear H1
          focus
            have H' := Aside0.mk H
            clear H
            go_wp2
            go_meet
            case rel => exact ⟨_, H', ⟨by have := HJ5.out; have := HJ46.out; have := HJ71.out; first | omega | exact Nat.le_refl _⟩, ⟨by (with_reducible repeat (first | refine blk_drewN ?_ _ | refine blk_drew ?_ | refine blk_alloc ?_ _)); exact BK181.out⟩, ⟨by (with_reducible repeat (first | refine blk_drewN ?_ _ | refine blk_drew ?_ | refine blk_alloc ?_ _)); exact BK189.out⟩, ⟨by repeat (first | (with_reducible first | exact HB.out | apply below_alloc | apply pw_below_drewN | apply below_drew1 | refine below_set ?_ GE181.out | refine below_set ?_ GE189.out) | exact HB.out)⟩⟩
        subst c79
        have H1 : (if ((rd_T71 l0 a1).f1) ≤ a1 then (some false) else (if ((rd_T71 l0 a1).f1) > (l0.length : Int) then (some false) else (if ((rd_T71 l0 a1).f1) = (l0.length : Int) then (if t190 ≥ 0 then (some false) else (if ((rd_T71 l0 a1).f1) < (l0.length : Int) then ((countermandref07_Block.f kj71 l0 ((rd_T71 l0 a1).f1)).bind fun t191 => (if t191 = t190 then (countermandref07_One.j3 kj71 l0 a1 t190 ((rd_T71 l0 a1).f0) ((rd_T71 l0 a1).f1) ((rd_T71 l0 a1).f2) ((rd_T71 l0 a1).f3)) else (some false))) else (countermandref07_One.j3 kj71 l0 a1 t190 ((rd_T71 l0 a1).f0) ((rd_T71 l0 a1).f1) ((rd_T71 l0 a1).f2) ((rd_T71 l0 a1).f3)))) else (if ((rd_T71 l0 a1).f1) < (l0.length : Int) then ((countermandref07_Block.f kj71 l0 ((rd_T71 l0 a1).f1)).bind fun t192 => (if t192 = t190 then (countermandref07_One.j3 kj71 l0 a1 t190 ((rd_T71 l0 a1).f0) ((rd_T71 l0 a1).f1) ((rd_T71 l0 a1).f2) ((rd_T71 l0 a1).f3)) else (some false))) else (countermandref07_One.j3 kj71 l0 a1 t190 ((rd_T71 l0 a1).f0) ((rd_T71 l0 a1).f1) ((rd_T71 l0 a1).f2) ((rd_T71 l0 a1).f3)))))) = some r := by rw [if_pos rfl] at H; exact H
        clear H
        have H := H1
        clear H1
        by_cases c80 : ((rd_T71 l0 a1).f1) ≤ a1
        · rw [if_pos c80] at H
          have c80b0 : decide (((rd_T71 l0 a1).f1) ≤ a1) = true := decide_eq_true c80
          clear c80
          (first | rw [c80b0] | (simp only [i64_w, i32_w]; rw [c80b0]) | skip)
          focus
            obtain rfl := Option.some.inj H
            simp only [Option.some.injEq, Prod.mk.injEq] at H
            obtain ⟨rfl⟩ := H
            have hnb81 := NB181_189.out
            have hnc81 := NB189_181.out
            have hcz82_0 : wc.cell? ⟨gb181, 0, none⟩ = some (.int .i64 ((rd_T71 l0 a1).f0)) := (blk_cell BK181.out 0).trans rfl
            have hcz82_1 : wc.cell? ⟨gb181, 1, none⟩ = some (.int .i64 ((rd_T71 l0 a1).f1)) := (blk_cell BK181.out 1).trans rfl
            have hcz82_2 : wc.cell? ⟨gb181, 2, none⟩ = some (.int .i64 ((rd_T71 l0 a1).f2)) := (blk_cell BK181.out 2).trans rfl
            have hcz82_3 : wc.cell? ⟨gb181, 3, none⟩ = some (.int .i64 ((rd_T71 l0 a1).f3)) := (blk_cell BK181.out 3).trans rfl
            have hfz82_0 := blk_frozen BK181.out 0
            have hfz82_1 := blk_frozen BK181.out 1
            have hfz82_2 := blk_frozen BK181.out 2
            have hfz82_3 := blk_frozen BK181.out 3
            go_wp2
            go_ret
            exact ⟨by first | rfl | (simp [errW_none, errW_some] <;> rfl) | (simp [*, errW_none, errW_some] <;> rfl), by repeat (first | (with_reducible first | exact HB.out | apply below_alloc | apply pw_below_drewN | apply below_drew1 | refine below_set ?_ GE181.out | refine below_set ?_ GE189.out) | exact HB.out)⟩
        rw [if_neg c80] at H
        have c80b0 : decide (((rd_T71 l0 a1).f1) ≤ a1) = false := decide_eq_false c80
        clear c80
        (first | rw [c80b0] | (simp only [i64_w, i32_w]; rw [c80b0]) | skip)
        by_cases c83 : ((rd_T71 l0 a1).f1) > (l0.length : Int)
        · rw [if_pos c83] at H
          have c83b0 : decide ((l0.length : Int) < ((rd_T71 l0 a1).f1)) = true := decide_eq_true c83
          clear c83
          focus
            obtain rfl := Option.some.inj H
            simp only [Option.some.injEq, Prod.mk.injEq] at H
            obtain ⟨rfl⟩ := H
            have hnb84 := NB181_189.out
            have hnc84 := NB189_181.out
            have hcz85_0 : wc.cell? ⟨gb181, 0, none⟩ = some (.int .i64 ((rd_T71 l0 a1).f0)) := (blk_cell BK181.out 0).trans rfl
            have hcz85_1 : wc.cell? ⟨gb181, 1, none⟩ = some (.int .i64 ((rd_T71 l0 a1).f1)) := (blk_cell BK181.out 1).trans rfl
            have hcz85_2 : wc.cell? ⟨gb181, 2, none⟩ = some (.int .i64 ((rd_T71 l0 a1).f2)) := (blk_cell BK181.out 2).trans rfl
            have hcz85_3 : wc.cell? ⟨gb181, 3, none⟩ = some (.int .i64 ((rd_T71 l0 a1).f3)) := (blk_cell BK181.out 3).trans rfl
            have hfz85_0 := blk_frozen BK181.out 0
            have hfz85_1 := blk_frozen BK181.out 1
            have hfz85_2 := blk_frozen BK181.out 2
            have hfz85_3 := blk_frozen BK181.out 3
            go_wp2
            go_ret
            exact ⟨by first | rfl | (simp [errW_none, errW_some] <;> rfl) | (simp [*, errW_none, errW_some] <;> rfl), by repeat (first | (with_reducible first | exact HB.out | apply below_alloc | apply pw_below_drewN | apply below_drew1 | refine below_set ?_ GE181.out | refine below_set ?_ GE189.out) | exact HB.out)⟩
        rw [if_neg c83] at H
        have c83b0 : decide ((l0.length : Int) < ((rd_T71 l0 a1).f1)) = false := decide_eq_false c83
        clear c83
        by_cases c86 : ((rd_T71 l0 a1).f1) = (l0.length : Int)
        rotate_left
        · rw [if_neg c86] at H
          have c86b0 : (((rd_T71 l0 a1).f1) == (l0.length : Int)) = false := beq_eq_false_iff_ne.mpr c86
          have c86b1 : (((rd_T71 l0 a1).f1) != (l0.length : Int)) = true := bne_iff_ne.mpr c86
          by_cases c99 : ((rd_T71 l0 a1).f1) < (l0.length : Int)
          rotate_left
          · rw [if_neg c99] at H
            have c99b0 : decide (((rd_T71 l0 a1).f1) < (l0.length : Int)) = false := decide_eq_false c99
            clear c99
            focus
              have H' := Aside0.mk H
              clear H
              have hnb106 := NB181_189.out
              have hnc106 := NB189_181.out
              have hcz107_0 : wc.cell? ⟨gb181, 0, none⟩ = some (.int .i64 ((rd_T71 l0 a1).f0)) := (blk_cell BK181.out 0).trans rfl
              have hcz107_1 : wc.cell? ⟨gb181, 1, none⟩ = some (.int .i64 ((rd_T71 l0 a1).f1)) := (blk_cell BK181.out 1).trans rfl
              have hcz107_2 : wc.cell? ⟨gb181, 2, none⟩ = some (.int .i64 ((rd_T71 l0 a1).f2)) := (blk_cell BK181.out 2).trans rfl
              have hcz107_3 : wc.cell? ⟨gb181, 3, none⟩ = some (.int .i64 ((rd_T71 l0 a1).f3)) := (blk_cell BK181.out 3).trans rfl
              have hfz107_0 := blk_frozen BK181.out 0
              have hfz107_1 := blk_frozen BK181.out 1
              have hfz107_2 := blk_frozen BK181.out 2
              have hfz107_3 := blk_frozen BK181.out 3
              go_wp2
              go_meet
              case rel => exact ⟨_, H', ⟨by have := HJ5.out; have := HJ46.out; have := HJ71.out; first | omega | exact Nat.le_refl _⟩, ⟨by (with_reducible repeat (first | refine blk_drewN ?_ _ | refine blk_drew ?_ | refine blk_alloc ?_ _)); exact BK181.out⟩, ⟨by (with_reducible repeat (first | refine blk_drewN ?_ _ | refine blk_drew ?_ | refine blk_alloc ?_ _)); exact BK189.out⟩, ⟨by repeat (first | (with_reducible first | exact HB.out | apply below_alloc | apply pw_below_drewN | apply below_drew1 | refine below_set ?_ GE181.out | refine below_set ?_ GE189.out) | exact HB.out)⟩⟩
          rw [if_pos c99] at H
          have c99b0 : decide (((rd_T71 l0 a1).f1) < (l0.length : Int)) = true := decide_eq_true c99
          clear c99
          replace H := Option.bind_eq_some_iff.mp H
          obtain ⟨t192, A1000, H⟩ := H
          replace H : (if t192 = t190 then (countermandref07_One.j3 kj71 l0 a1 t190 ((rd_T71 l0 a1).f0) ((rd_T71 l0 a1).f1) ((rd_T71 l0 a1).f2) ((rd_T71 l0 a1).f3)) else (some false)) = some r := H
          have A100 := Aside0.mk A1000
          clear A1000
          by_cases c101 : t192 = t190
          · rw [if_pos c101] at H
            have c101b0 : (t192 == t190) = true := beq_iff_eq.mpr c101
            have c101b1 : (t192 != t190) = false := bne_eq_false_iff_eq.mpr c101
            clear c101
            focus
              have H' := Aside0.mk H
              clear H
              have hnb102 := NB181_189.out
              have hnc102 := NB189_181.out
              have hcz103_0 : wc.cell? ⟨gb181, 0, none⟩ = some (.int .i64 ((rd_T71 l0 a1).f0)) := (blk_cell BK181.out 0).trans rfl
              have hcz103_1 : wc.cell? ⟨gb181, 1, none⟩ = some (.int .i64 ((rd_T71 l0 a1).f1)) := (blk_cell BK181.out 1).trans rfl
              have hcz103_2 : wc.cell? ⟨gb181, 2, none⟩ = some (.int .i64 ((rd_T71 l0 a1).f2)) := (blk_cell BK181.out 2).trans rfl
              have hcz103_3 : wc.cell? ⟨gb181, 3, none⟩ = some (.int .i64 ((rd_T71 l0 a1).f3)) := (blk_cell BK181.out 3).trans rfl
              have hfz103_0 := blk_frozen BK181.out 0
              have hfz103_1 := blk_frozen BK181.out 1
              have hfz103_2 := blk_frozen BK181.out 2
              have hfz103_3 := blk_frozen BK181.out 3
              go_wp2_with (first | (go_at_call 43; (with_reducible refine (countermandref07_Block.calls kj71 _ _ l0 ((rd_T71 l0 a1).f1) t192 _ ?side1 ?side2 A100.out).mono ?_); (case side1 => repeat (first | exact (Kd.C_below HR0.out HB.out) | (with_reducible refine Kd.C_alloc ?_ _) | (with_reducible refine Kd.C_drewN ?_ _) | (with_reducible refine Kd.C_drew ?_))); (case side2 => exact HC0.out); rintro e w' ⟨rfl, ⟨nd, rfl⟩⟩))
              go_meet
              case rel => exact ⟨_, H', ⟨by have := HJ5.out; have := HJ46.out; have := HJ71.out; first | omega | exact Nat.le_refl _⟩, ⟨by (with_reducible repeat (first | refine blk_drewN ?_ _ | refine blk_drew ?_ | refine blk_alloc ?_ _)); exact BK181.out⟩, ⟨by (with_reducible repeat (first | refine blk_drewN ?_ _ | refine blk_drew ?_ | refine blk_alloc ?_ _)); exact BK189.out⟩, ⟨by repeat (first | (with_reducible first | exact HB.out | apply below_alloc | apply pw_below_drewN | apply below_drew1 | refine below_set ?_ GE181.out | refine below_set ?_ GE189.out) | exact HB.out)⟩⟩
          rw [if_neg c101] at H
          have c101b0 : (t192 == t190) = false := beq_eq_false_iff_ne.mpr c101
          have c101b1 : (t192 != t190) = true := bne_iff_ne.mpr c101
          focus
            obtain rfl := Option.some.inj H
            simp only [Option.some.injEq, Prod.mk.injEq] at H
            obtain ⟨rfl⟩ := H
            have hnb104 := NB181_189.out
            have hnc104 := NB189_181.out
            have hcz105_0 : wc.cell? ⟨gb181, 0, none⟩ = some (.int .i64 ((rd_T71 l0 a1).f0)) := (blk_cell BK181.out 0).trans rfl
            have hcz105_1 : wc.cell? ⟨gb181, 1, none⟩ = some (.int .i64 ((rd_T71 l0 a1).f1)) := (blk_cell BK181.out 1).trans rfl
            have hcz105_2 : wc.cell? ⟨gb181, 2, none⟩ = some (.int .i64 ((rd_T71 l0 a1).f2)) := (blk_cell BK181.out 2).trans rfl
            have hcz105_3 : wc.cell? ⟨gb181, 3, none⟩ = some (.int .i64 ((rd_T71 l0 a1).f3)) := (blk_cell BK181.out 3).trans rfl
            have hfz105_0 := blk_frozen BK181.out 0
            have hfz105_1 := blk_frozen BK181.out 1
            have hfz105_2 := blk_frozen BK181.out 2
            have hfz105_3 := blk_frozen BK181.out 3
            go_wp2_with (first | (go_at_call 43; (with_reducible refine (countermandref07_Block.calls kj71 _ _ l0 ((rd_T71 l0 a1).f1) t192 _ ?side1 ?side2 A100.out).mono ?_); (case side1 => repeat (first | exact (Kd.C_below HR0.out HB.out) | (with_reducible refine Kd.C_alloc ?_ _) | (with_reducible refine Kd.C_drewN ?_ _) | (with_reducible refine Kd.C_drew ?_))); (case side2 => exact HC0.out); rintro e w' ⟨rfl, ⟨nd, rfl⟩⟩))
            go_ret
            exact ⟨by first | rfl | (simp [errW_none, errW_some] <;> rfl) | (simp [*, errW_none, errW_some] <;> rfl), by repeat (first | (with_reducible first | exact HB.out | apply below_alloc | apply pw_below_drewN | apply below_drew1 | refine below_set ?_ GE181.out | refine below_set ?_ GE189.out) | exact HB.out)⟩
        rw [if_pos c86] at H
        have c86b0 : (((rd_T71 l0 a1).f1) == (l0.length : Int)) = true := beq_iff_eq.mpr c86
        have c86b1 : (((rd_T71 l0 a1).f1) != (l0.length : Int)) = false := bne_eq_false_iff_eq.mpr c86
        clear c86
        by_cases c87 : t190 ≥ 0
        · rw [if_pos c87] at H
          have c87b0 : decide (0 ≤ t190) = true := decide_eq_true c87
          clear c87
          focus
            obtain rfl := Option.some.inj H
            simp only [Option.some.injEq, Prod.mk.injEq] at H
            obtain ⟨rfl⟩ := H
            have hnb88 := NB181_189.out
            have hnc88 := NB189_181.out
            have hcz89_0 : wc.cell? ⟨gb181, 0, none⟩ = some (.int .i64 ((rd_T71 l0 a1).f0)) := (blk_cell BK181.out 0).trans rfl
            have hcz89_1 : wc.cell? ⟨gb181, 1, none⟩ = some (.int .i64 ((rd_T71 l0 a1).f1)) := (blk_cell BK181.out 1).trans rfl
            have hcz89_2 : wc.cell? ⟨gb181, 2, none⟩ = some (.int .i64 ((rd_T71 l0 a1).f2)) := (blk_cell BK181.out 2).trans rfl
            have hcz89_3 : wc.cell? ⟨gb181, 3, none⟩ = some (.int .i64 ((rd_T71 l0 a1).f3)) := (blk_cell BK181.out 3).trans rfl
            have hfz89_0 := blk_frozen BK181.out 0
            have hfz89_1 := blk_frozen BK181.out 1
            have hfz89_2 := blk_frozen BK181.out 2
            have hfz89_3 := blk_frozen BK181.out 3
            go_wp2
            go_ret
            exact ⟨by first | rfl | (simp [errW_none, errW_some] <;> rfl) | (simp [*, errW_none, errW_some] <;> rfl), by repeat (first | (with_reducible first | exact HB.out | apply below_alloc | apply pw_below_drewN | apply below_drew1 | refine below_set ?_ GE181.out | refine below_set ?_ GE189.out) | exact HB.out)⟩
        rw [if_neg c87] at H
        have c87b0 : decide (0 ≤ t190) = false := decide_eq_false c87
        clear c87
        by_cases c90 : ((rd_T71 l0 a1).f1) < (l0.length : Int)
        rotate_left
        · rw [if_neg c90] at H
          have c90b0 : decide (((rd_T71 l0 a1).f1) < (l0.length : Int)) = false := decide_eq_false c90
          clear c90
          focus
            have H' := Aside0.mk H
            clear H
            have hnb97 := NB181_189.out
            have hnc97 := NB189_181.out
            have hcz98_0 : wc.cell? ⟨gb181, 0, none⟩ = some (.int .i64 ((rd_T71 l0 a1).f0)) := (blk_cell BK181.out 0).trans rfl
            have hcz98_1 : wc.cell? ⟨gb181, 1, none⟩ = some (.int .i64 ((rd_T71 l0 a1).f1)) := (blk_cell BK181.out 1).trans rfl
            have hcz98_2 : wc.cell? ⟨gb181, 2, none⟩ = some (.int .i64 ((rd_T71 l0 a1).f2)) := (blk_cell BK181.out 2).trans rfl
            have hcz98_3 : wc.cell? ⟨gb181, 3, none⟩ = some (.int .i64 ((rd_T71 l0 a1).f3)) := (blk_cell BK181.out 3).trans rfl
            have hfz98_0 := blk_frozen BK181.out 0
            have hfz98_1 := blk_frozen BK181.out 1
            have hfz98_2 := blk_frozen BK181.out 2
            have hfz98_3 := blk_frozen BK181.out 3
            go_wp2
            go_meet
            case rel => exact ⟨_, H', ⟨by have := HJ5.out; have := HJ46.out; have := HJ71.out; first | omega | exact Nat.le_refl _⟩, ⟨by (with_reducible repeat (first | refine blk_drewN ?_ _ | refine blk_drew ?_ | refine blk_alloc ?_ _)); exact BK181.out⟩, ⟨by (with_reducible repeat (first | refine blk_drewN ?_ _ | refine blk_drew ?_ | refine blk_alloc ?_ _)); exact BK189.out⟩, ⟨by repeat (first | (with_reducible first | exact HB.out | apply below_alloc | apply pw_below_drewN | apply below_drew1 | refine below_set ?_ GE181.out | refine below_set ?_ GE189.out) | exact HB.out)⟩⟩
        rw [if_pos c90] at H
        have c90b0 : decide (((rd_T71 l0 a1).f1) < (l0.length : Int)) = true := decide_eq_true c90
        clear c90
        replace H := Option.bind_eq_some_iff.mp H
        obtain ⟨t191, A910, H⟩ := H
        replace H : (if t191 = t190 then (countermandref07_One.j3 kj71 l0 a1 t190 ((rd_T71 l0 a1).f0) ((rd_T71 l0 a1).f1) ((rd_T71 l0 a1).f2) ((rd_T71 l0 a1).f3)) else (some false)) = some r := H
        have A91 := Aside0.mk A910
        clear A910
        by_cases c92 : t191 = t190
        · rw [if_pos c92] at H
          have c92b0 : (t191 == t190) = true := beq_iff_eq.mpr c92
          have c92b1 : (t191 != t190) = false := bne_eq_false_iff_eq.mpr c92
          clear c92
          focus
            have H' := Aside0.mk H
            clear H
            have hnb93 := NB181_189.out
            have hnc93 := NB189_181.out
            have hcz94_0 : wc.cell? ⟨gb181, 0, none⟩ = some (.int .i64 ((rd_T71 l0 a1).f0)) := (blk_cell BK181.out 0).trans rfl
            have hcz94_1 : wc.cell? ⟨gb181, 1, none⟩ = some (.int .i64 ((rd_T71 l0 a1).f1)) := (blk_cell BK181.out 1).trans rfl
            have hcz94_2 : wc.cell? ⟨gb181, 2, none⟩ = some (.int .i64 ((rd_T71 l0 a1).f2)) := (blk_cell BK181.out 2).trans rfl
            have hcz94_3 : wc.cell? ⟨gb181, 3, none⟩ = some (.int .i64 ((rd_T71 l0 a1).f3)) := (blk_cell BK181.out 3).trans rfl
            have hfz94_0 := blk_frozen BK181.out 0
            have hfz94_1 := blk_frozen BK181.out 1
            have hfz94_2 := blk_frozen BK181.out 2
            have hfz94_3 := blk_frozen BK181.out 3
            go_wp2_with (first | (go_at_call 43; (with_reducible refine (countermandref07_Block.calls kj71 _ _ l0 ((rd_T71 l0 a1).f1) t191 _ ?side1 ?side2 A91.out).mono ?_); (case side1 => repeat (first | exact (Kd.C_below HR0.out HB.out) | (with_reducible refine Kd.C_alloc ?_ _) | (with_reducible refine Kd.C_drewN ?_ _) | (with_reducible refine Kd.C_drew ?_))); (case side2 => exact HC0.out); rintro e w' ⟨rfl, ⟨nd, rfl⟩⟩))
            go_meet
            case rel => exact ⟨_, H', ⟨by have := HJ5.out; have := HJ46.out; have := HJ71.out; first | omega | exact Nat.le_refl _⟩, ⟨by (with_reducible repeat (first | refine blk_drewN ?_ _ | refine blk_drew ?_ | refine blk_alloc ?_ _)); exact BK181.out⟩, ⟨by (with_reducible repeat (first | refine blk_drewN ?_ _ | refine blk_drew ?_ | refine blk_alloc ?_ _)); exact BK189.out⟩, ⟨by repeat (first | (with_reducible first | exact HB.out | apply below_alloc | apply pw_below_drewN | apply below_drew1 | refine below_set ?_ GE181.out | refine below_set ?_ GE189.out) | exact HB.out)⟩⟩
        rw [if_neg c92] at H
        have c92b0 : (t191 == t190) = false := beq_eq_false_iff_ne.mpr c92
        have c92b1 : (t191 != t190) = true := bne_iff_ne.mpr c92
        focus
          obtain rfl := Option.some.inj H
          simp only [Option.some.injEq, Prod.mk.injEq] at H
          obtain ⟨rfl⟩ := H
          have hnb95 := NB181_189.out
          have hnc95 := NB189_181.out
          have hcz96_0 : wc.cell? ⟨gb181, 0, none⟩ = some (.int .i64 ((rd_T71 l0 a1).f0)) := (blk_cell BK181.out 0).trans rfl
          have hcz96_1 : wc.cell? ⟨gb181, 1, none⟩ = some (.int .i64 ((rd_T71 l0 a1).f1)) := (blk_cell BK181.out 1).trans rfl
          have hcz96_2 : wc.cell? ⟨gb181, 2, none⟩ = some (.int .i64 ((rd_T71 l0 a1).f2)) := (blk_cell BK181.out 2).trans rfl
          have hcz96_3 : wc.cell? ⟨gb181, 3, none⟩ = some (.int .i64 ((rd_T71 l0 a1).f3)) := (blk_cell BK181.out 3).trans rfl
          have hfz96_0 := blk_frozen BK181.out 0
          have hfz96_1 := blk_frozen BK181.out 1
          have hfz96_2 := blk_frozen BK181.out 2
          have hfz96_3 := blk_frozen BK181.out 3
          go_wp2_with (first | (go_at_call 43; (with_reducible refine (countermandref07_Block.calls kj71 _ _ l0 ((rd_T71 l0 a1).f1) t191 _ ?side1 ?side2 A91.out).mono ?_); (case side1 => repeat (first | exact (Kd.C_below HR0.out HB.out) | (with_reducible refine Kd.C_alloc ?_ _) | (with_reducible refine Kd.C_drewN ?_ _) | (with_reducible refine Kd.C_drew ?_))); (case side2 => exact HC0.out); rintro e w' ⟨rfl, ⟨nd, rfl⟩⟩))
          go_ret
          exact ⟨by first | rfl | (simp [errW_none, errW_some] <;> rfl) | (simp [*, errW_none, errW_some] <;> rfl), by repeat (first | (with_reducible first | exact HB.out | apply below_alloc | apply pw_below_drewN | apply below_drew1 | refine below_set ?_ GE181.out | refine below_set ?_ GE189.out) | exact HB.out)⟩
      case rest =>
        clear HC78
        try clear c1
        try clear p1
        try clear q1
        try clear hx1
        try clear c2
        try clear p2
        try clear c3
        try clear c3b0
        try clear c4
        try clear c4b0
        try clear c5
        try clear c6
        try clear c7
        try clear c8
        try clear c9
        try clear c10
        try clear c11
        try clear c13
        try clear c14
        try clear c14b0
        try clear c15
        try clear c18
        try clear c18b0
        try clear p18
        try clear q18
        try clear hx18
        try clear c19
        try clear c22
        try clear c22b0
        try clear c23
        try clear c26
        try clear c26b0
        try clear c27
        try clear c30
        try clear c30b0
        try clear c31
        try clear c34
        try clear c34b0
        try clear c35
        try clear c38
        try clear c38b0
        try clear c38b1
        try clear c39
        try clear c42
        try clear c43
        try clear c45
        try clear c48
        try clear c48b0
        try clear c48b1
        try clear c49
        try clear c49b0
        try clear c50
        try clear c52
        try clear c52b0
        try clear c53
        try clear c55
        try clear c57
        try clear c57b0
        try clear c57b1
        try clear c58
        try clear c58b0
        try clear c59
        try clear c61
        try clear c61b0
        try clear c62
        try clear c64
        try clear c66
        try clear c66b0
        try clear c67
        try clear c69
        try clear c71
        try clear c73
        try clear c73b0
        try clear c73b1
        try clear c74
        try clear c76
        try clear c79
        try clear c80
        try clear c80b0
        try clear c81
        try clear c83
        try clear c83b0
        try clear c84
        try clear c86
        try clear c86b0
        try clear c86b1
        try clear c87
        try clear c87b0
        try clear c88
        try clear c90
        try clear c90b0
        try clear c92
        try clear c92b0
        try clear c92b1
        try clear c93
        try clear c95
        try clear c97
        try clear c99
        try clear c99b0
        try clear c101
        try clear c101b0
        try clear c101b1
        try clear c102
        try clear c104
        try clear c106
        try clear hcz103_0
        try clear hcz103_1
        try clear hcz103_2
        try clear hcz103_3
        try clear hcz105_0
        try clear hcz105_1
        try clear hcz105_2
        try clear hcz105_3
        try clear hcz107_0
        try clear hcz107_1
        try clear hcz107_2
        try clear hcz107_3
        try clear hcz12_0
        try clear hcz12_1
        try clear hcz12_2
        try clear hcz12_3
        try clear hcz12_4
        try clear hcz12_5
        try clear hcz16_0
        try clear hcz16_1
        try clear hcz16_2
        try clear hcz16_3
        try clear hcz17_0
        try clear hcz17_1
        try clear hcz17_2
        try clear hcz17_3
        try clear hcz17_4
        try clear hcz17_5
        try clear hcz20_0
        try clear hcz20_1
        try clear hcz20_2
        try clear hcz20_3
        try clear hcz21_0
        try clear hcz21_1
        try clear hcz21_2
        try clear hcz21_3
        try clear hcz21_4
        try clear hcz21_5
        try clear hcz24_0
        try clear hcz24_1
        try clear hcz24_2
        try clear hcz24_3
        try clear hcz25_0
        try clear hcz25_1
        try clear hcz25_2
        try clear hcz25_3
        try clear hcz25_4
        try clear hcz25_5
        try clear hcz28_0
        try clear hcz28_1
        try clear hcz28_2
        try clear hcz28_3
        try clear hcz29_0
        try clear hcz29_1
        try clear hcz29_2
        try clear hcz29_3
        try clear hcz29_4
        try clear hcz29_5
        try clear hcz32_0
        try clear hcz32_1
        try clear hcz32_2
        try clear hcz32_3
        try clear hcz33_0
        try clear hcz33_1
        try clear hcz33_2
        try clear hcz33_3
        try clear hcz33_4
        try clear hcz33_5
        try clear hcz36_0
        try clear hcz36_1
        try clear hcz36_2
        try clear hcz36_3
        try clear hcz37_0
        try clear hcz37_1
        try clear hcz37_2
        try clear hcz37_3
        try clear hcz37_4
        try clear hcz37_5
        try clear hcz40_0
        try clear hcz40_1
        try clear hcz40_2
        try clear hcz40_3
        try clear hcz41_0
        try clear hcz41_1
        try clear hcz41_2
        try clear hcz41_3
        try clear hcz41_4
        try clear hcz41_5
        try clear hcz43_0
        try clear hcz43_1
        try clear hcz43_2
        try clear hcz43_3
        try clear hcz44_0
        try clear hcz44_1
        try clear hcz44_2
        try clear hcz44_3
        try clear hcz44_4
        try clear hcz44_5
        try clear hcz51_0
        try clear hcz51_1
        try clear hcz51_2
        try clear hcz51_3
        try clear hcz54_0
        try clear hcz54_1
        try clear hcz54_2
        try clear hcz54_3
        try clear hcz56_0
        try clear hcz56_1
        try clear hcz56_2
        try clear hcz56_3
        try clear hcz60_0
        try clear hcz60_1
        try clear hcz60_2
        try clear hcz60_3
        try clear hcz63_0
        try clear hcz63_1
        try clear hcz63_2
        try clear hcz63_3
        try clear hcz65_0
        try clear hcz65_1
        try clear hcz65_2
        try clear hcz65_3
        try clear hcz68_0
        try clear hcz68_1
        try clear hcz68_2
        try clear hcz68_3
        try clear hcz70_0
        try clear hcz70_1
        try clear hcz70_2
        try clear hcz70_3
        try clear hcz75_0
        try clear hcz75_1
        try clear hcz75_2
        try clear hcz75_3
        try clear hcz77_0
        try clear hcz77_1
        try clear hcz77_2
        try clear hcz77_3
        try clear hcz82_0
        try clear hcz82_1
        try clear hcz82_2
        try clear hcz82_3
        try clear hcz85_0
        try clear hcz85_1
        try clear hcz85_2
        try clear hcz85_3
        try clear hcz89_0
        try clear hcz89_1
        try clear hcz89_2
        try clear hcz89_3
        try clear hcz8_0
        try clear hcz8_1
        try clear hcz8_2
        try clear hcz8_3
        try clear hcz94_0
        try clear hcz94_1
        try clear hcz94_2
        try clear hcz94_3
        try clear hcz96_0
        try clear hcz96_1
        try clear hcz96_2
        try clear hcz96_3
        try clear hcz98_0
        try clear hcz98_1
        try clear hcz98_2
        try clear hcz98_3
        try clear hfz103_0
        try clear hfz103_1
        try clear hfz103_2
        try clear hfz103_3
        try clear hfz105_0
        try clear hfz105_1
        try clear hfz105_2
        try clear hfz105_3
        try clear hfz107_0
        try clear hfz107_1
        try clear hfz107_2
        try clear hfz107_3
        try clear hfz12_0
        try clear hfz12_1
        try clear hfz12_2
        try clear hfz12_3
        try clear hfz12_4
        try clear hfz12_5
        try clear hfz16_0
        try clear hfz16_1
        try clear hfz16_2
        try clear hfz16_3
        try clear hfz17_0
        try clear hfz17_1
        try clear hfz17_2
        try clear hfz17_3
        try clear hfz17_4
        try clear hfz17_5
        try clear hfz20_0
        try clear hfz20_1
        try clear hfz20_2
        try clear hfz20_3
        try clear hfz21_0
        try clear hfz21_1
        try clear hfz21_2
        try clear hfz21_3
        try clear hfz21_4
        try clear hfz21_5
        try clear hfz24_0
        try clear hfz24_1
        try clear hfz24_2
        try clear hfz24_3
        try clear hfz25_0
        try clear hfz25_1
        try clear hfz25_2
        try clear hfz25_3
        try clear hfz25_4
        try clear hfz25_5
        try clear hfz28_0
        try clear hfz28_1
        try clear hfz28_2
        try clear hfz28_3
        try clear hfz29_0
        try clear hfz29_1
        try clear hfz29_2
        try clear hfz29_3
        try clear hfz29_4
        try clear hfz29_5
        try clear hfz32_0
        try clear hfz32_1
        try clear hfz32_2
        try clear hfz32_3
        try clear hfz33_0
        try clear hfz33_1
        try clear hfz33_2
        try clear hfz33_3
        try clear hfz33_4
        try clear hfz33_5
        try clear hfz36_0
        try clear hfz36_1
        try clear hfz36_2
        try clear hfz36_3
        try clear hfz37_0
        try clear hfz37_1
        try clear hfz37_2
        try clear hfz37_3
        try clear hfz37_4
        try clear hfz37_5
        try clear hfz40_0
        try clear hfz40_1
        try clear hfz40_2
        try clear hfz40_3
        try clear hfz41_0
        try clear hfz41_1
        try clear hfz41_2
        try clear hfz41_3
        try clear hfz41_4
        try clear hfz41_5
        try clear hfz43_0
        try clear hfz43_1
        try clear hfz43_2
        try clear hfz43_3
        try clear hfz44_0
        try clear hfz44_1
        try clear hfz44_2
        try clear hfz44_3
        try clear hfz44_4
        try clear hfz44_5
        try clear hfz51_0
        try clear hfz51_1
        try clear hfz51_2
        try clear hfz51_3
        try clear hfz54_0
        try clear hfz54_1
        try clear hfz54_2
        try clear hfz54_3
        try clear hfz56_0
        try clear hfz56_1
        try clear hfz56_2
        try clear hfz56_3
        try clear hfz60_0
        try clear hfz60_1
        try clear hfz60_2
        try clear hfz60_3
        try clear hfz63_0
        try clear hfz63_1
        try clear hfz63_2
        try clear hfz63_3
        try clear hfz65_0
        try clear hfz65_1
        try clear hfz65_2
        try clear hfz65_3
        try clear hfz68_0
        try clear hfz68_1
        try clear hfz68_2
        try clear hfz68_3
        try clear hfz70_0
        try clear hfz70_1
        try clear hfz70_2
        try clear hfz70_3
        try clear hfz75_0
        try clear hfz75_1
        try clear hfz75_2
        try clear hfz75_3
        try clear hfz77_0
        try clear hfz77_1
        try clear hfz77_2
        try clear hfz77_3
        try clear hfz82_0
        try clear hfz82_1
        try clear hfz82_2
        try clear hfz82_3
        try clear hfz85_0
        try clear hfz85_1
        try clear hfz85_2
        try clear hfz85_3
        try clear hfz89_0
        try clear hfz89_1
        try clear hfz89_2
        try clear hfz89_3
        try clear hfz8_0
        try clear hfz8_1
        try clear hfz8_2
        try clear hfz8_3
        try clear hfz94_0
        try clear hfz94_1
        try clear hfz94_2
        try clear hfz94_3
        try clear hfz96_0
        try clear hfz96_1
        try clear hfz96_2
        try clear hfz96_3
        try clear hfz98_0
        try clear hfz98_1
        try clear hfz98_2
        try clear hfz98_3
        try clear hx180_0
        try clear hx180_1
        try clear hx180_2
        try clear hx180_3
        try clear p1
        try clear p18
        try clear p180
        try clear p2
        try clear q1
        try clear q18
        try clear q180
        obtain ⟨kq, HA, HJ77, BK181, BK189, HB⟩ := hcut
        apply_assumption
        exact countermandref07_One.rest2 k c0 kj5 kj46 kj71 kq l0 a1 r w _ t182 t183 t184 t185 t186 t187 t190 ad180 gb181 gb189 _ _ _ _ _ _ _ _ _ _ _ _ _ _ _ _ _ _ _ _ _ _ _ _ _ _ _ _ _ _ _ _ _ _ _ _ _ _ _ _ _ _ _ _ _ _ _ _ _ _ _ _ _ _ _ _ _ _ _ _ _ _ _ _ _ _ _ _ _ _ _ _ _ _ _ _ _ _ _ _ _ _ _ _ _ _ _ _ _ _ _ _ _ _ _ _ _ _ _ _ _ _ _ _ _ _ _ _ _ _ _ _ _ _ _ _ _ _ _ _ _ _ _ _ _ _ _ _ _ _ _ _ _ _ _ _ _ _ _ _ _ _ _ _ _ _ _ _ _ _ _ _ _ _ _ _ _ _ _ _ _ _ _ _ _ _ _ _ _ _ _ _ _ _ _ _ _ _ _ _ _ _ _ _ _ _ _ _ _ _ _ _ _ _ _ HC0 HR0 GE181 GE189 NB181_189 NB189_181 HJ5 HJ46 HJ71 HA HJ77 BK181 BK189 HB
set_option maxHeartbeats 8000000 in
set_option maxRecDepth 1000000 in
theorem countermandref07_One.rest0 (k c0 kj5 : Nat) (l0 : List S71) (a1 : Int) (r : Bool) (w wc : World) (t182 t183 t184 t185 t186 t187 t190 : Int) (ad180 : Addr) (gb181 gb189 : Nat) (u2 u3 u4 u7 u8 u9 u10 u11 u12 u13 u14 u15 u16 u17 u18 u19 u20 u21 u22 u23 u24 u25 u26 u27 u28 u29 u30 u31 u32 u33 u34 u35 u36 u37 u38 u39 u40 u41 u42 u43 u44 u45 u46 u47 u48 u49 u50 u51 u52 u53 u54 u55 u56 u57 u58 u59 u60 u61 u62 u63 u64 u65 u66 u67 u68 u69 u70 u71 u72 u73 u74 u75 u76 u77 u78 u79 u80 u81 u82 u83 u84 u85 u86 u87 u88 u89 u90 u91 u92 u93 u94 u95 u96 u97 u98 u99 u100 u101 u102 u103 u104 u105 u106 u107 u108 u109 u110 u111 u112 u113 u114 u115 u116 u117 u118 u119 u120 u121 u122 u123 u124 u125 u126 u127 u128 u129 u130 u131 u132 u133 u134 u135 u136 u137 u138 u139 u140 u141 u142 u143 u144 u145 u146 u147 u148 u149 u150 u151 u152 u153 u154 u155 u156 u157 u158 u159 u160 u161 u162 u163 u164 u165 u166 u167 u168 u169 u170 u171 u172 u173 u174 u175 u176 u177 u178 u179 u180 u181 u182 u183 u184 u185 u186 u187 u188 u189 u190 u191 u192 u193 u194 u195 u196 u197 u198 u199 : Value)
    (HC0 : Aside0 (l0.length ≤ c0)) (HR0 : Aside0 (k71.C w (some ad180) l0.length l0)) (GE181 : Aside0 (w.heap.size ≤ gb181)) (GE189 : Aside0 (w.heap.size ≤ gb189)) (NB181_189 : Aside0 (gb181 ≠ gb189)) (NB189_181 : Aside0 (gb189 ≠ gb181))
    (HJ5 : Aside0 (kj5 + 1 ≤ k)) (A46 : Aside0 (countermandref07_Block.f kj5 l0 a1 = some t190)) (HC47 : Aside0 ((if ((rd_T71 l0 a1).f0) = 0 then (if t190 ≥ 0 then (countermandref07_One.j1 kj5 l0 a1 t190 true ((rd_T71 l0 a1).f0) ((rd_T71 l0 a1).f1) ((rd_T71 l0 a1).f2) ((rd_T71 l0 a1).f3)) else (if ((rd_T71 l0 a1).f0) > 4 then (countermandref07_One.j1 kj5 l0 a1 t190 (decide (t190 < 0)) ((rd_T71 l0 a1).f0) ((rd_T71 l0 a1).f1) ((rd_T71 l0 a1).f2) ((rd_T71 l0 a1).f3)) else (countermandref07_One.j1 kj5 l0 a1 t190 false ((rd_T71 l0 a1).f0) ((rd_T71 l0 a1).f1) ((rd_T71 l0 a1).f2) ((rd_T71 l0 a1).f3)))) else (if ((rd_T71 l0 a1).f0) = 4 then (if t190 ≥ 0 then (countermandref07_One.j1 kj5 l0 a1 t190 true ((rd_T71 l0 a1).f0) ((rd_T71 l0 a1).f1) ((rd_T71 l0 a1).f2) ((rd_T71 l0 a1).f3)) else (if ((rd_T71 l0 a1).f0) > 4 then (countermandref07_One.j1 kj5 l0 a1 t190 (decide (t190 < 0)) ((rd_T71 l0 a1).f0) ((rd_T71 l0 a1).f1) ((rd_T71 l0 a1).f2) ((rd_T71 l0 a1).f3)) else (countermandref07_One.j1 kj5 l0 a1 t190 false ((rd_T71 l0 a1).f0) ((rd_T71 l0 a1).f1) ((rd_T71 l0 a1).f2) ((rd_T71 l0 a1).f3)))) else (if ((rd_T71 l0 a1).f0) > 4 then (countermandref07_One.j1 kj5 l0 a1 t190 (decide (t190 < 0)) ((rd_T71 l0 a1).f0) ((rd_T71 l0 a1).f1) ((rd_T71 l0 a1).f2) ((rd_T71 l0 a1).f3)) else (countermandref07_One.j1 kj5 l0 a1 t190 false ((rd_T71 l0 a1).f0) ((rd_T71 l0 a1).f1) ((rd_T71 l0 a1).f2) ((rd_T71 l0 a1).f3))))) = some r))
    (BK181 : Aside0 (wc.heap[gb181]? = some (.cells #[.int .i64 ((rd_T71 l0 a1).f0), .int .i64 ((rd_T71 l0 a1).f1), .int .i64 ((rd_T71 l0 a1).f2), .int .i64 ((rd_T71 l0 a1).f3)] 71 (0, 0))))
    (BK189 : Aside0 (wc.heap[gb189]? = some (.cells #[.int .i64 t182, .int .i64 t183, .int .i64 t184, .int .i64 t185, .int .i64 t186, .int .i64 t187] 87 (0, 0)))) (HB : Aside0 (Below w.heap.size w wc)) :
    Code.wp Try.prog oneR0 (bodyPost Try.prog Try.f34 (fun e w' => e = .returned (.bool r) ∧ Below w.heap.size w w')) ⟨#[.slice (some ad180) l0.length c0, .int .i64 a1, u2, u3, u4, .pointer (some ⟨gb181, 0, none⟩), .pointer (some ⟨gb189, 0, none⟩), u7, u8, u9, u10, u11, u12, u13, u14, u15, u16, u17, u18, u19, u20, u21, u22, u23, u24, u25, u26, u27, u28, u29, u30, u31, u32, u33, u34, u35, u36, u37, u38, u39, u40, u41, u42, u43, u44, u45, u46, u47, u48, u49, u50, u51, u52, u53, u54, u55, u56, u57, u58, u59, u60, u61, u62, u63, u64, u65, u66, u67, u68, u69, u70, u71, u72, u73, u74, u75, u76, u77, u78, u79, u80, u81, u82, u83, u84, u85, u86, u87, u88, u89, u90, u91, u92, u93, u94, u95, u96, u97, u98, u99, u100, u101, u102, u103, u104, u105, u106, u107, u108, u109, u110, u111, u112, u113, u114, u115, u116, u117, u118, u119, u120, u121, u122, u123, u124, u125, u126, u127, u128, u129, u130, u131, u132, u133, u134, u135, u136, u137, u138, u139, u140, u141, u142, u143, u144, u145, u146, u147, u148, u149, u150, u151, u152, u153, u154, u155, u156, u157, u158, u159, u160, u161, u162, u163, u164, u165, u166, u167, u168, u169, u170, u171, u172, u173, u174, u175, u176, u177, u178, u179, u180, u181, u182, u183, u184, u185, u186, u187, u188, u189, u190, u191, u192, u193, u194, u195, u196, u197, u198, u199], []⟩ wc := by
  conv => arg 2; whnf
  conv => arg 4; dsimp only
  have hu71 := Try.underlying71
  have hu87 := Try.underlying87
  have hu86 := Try.underlying86
  go_upto_region 6 with (first | ((with_reducible refine gate_callee (f := 43) rfl ?_); refine goesL_ (some 85) rfl rfl Try.func43 (by kernel_rfl) rfl #[.slice (some ad180) l0.length c0, .int .i64 a1] rfl (by (try simp only [List.map_toArray, List.map_cons, List.map_nil]); first | done | rfl | (simp only [List.length_drop, List.length_take]; rfl)) ?_; (with_reducible refine (countermandref07_Block.calls kj5 _ _ l0 a1 t190 _ ?side1 ?side2 A46.out).mono ?_); (case side1 => repeat (first | exact (Kd.C_below HR0.out HB.out) | (with_reducible refine Kd.C_alloc ?_ _) | (with_reducible refine Kd.C_drewN ?_ _) | (with_reducible refine Kd.C_drew ?_))); (case side2 => exact HC0.out); rintro e w' ⟨rfl, ⟨nd, rfl⟩⟩; refine ⟨_, rfl, ?_⟩))
  (try simp only [Act.put, y1_34, y2_34, y3_34])
  go_cut [106] (fun v106 wc => ∃ (kq : Nat) (x106_46 : Bool), v106 = .bool x106_46 ∧ Aside0 (countermandref07_One.j1 kq l0 a1 t190 x106_46 ((rd_T71 l0 a1).f0) ((rd_T71 l0 a1).f1) ((rd_T71 l0 a1).f2) ((rd_T71 l0 a1).f3) = some r) ∧ Aside0 (kq ≤ kj5) ∧ Aside0 (wc.heap[gb181]? = some (.cells #[.int .i64 ((rd_T71 l0 a1).f0), .int .i64 ((rd_T71 l0 a1).f1), .int .i64 ((rd_T71 l0 a1).f2), .int .i64 ((rd_T71 l0 a1).f3)] 71 (0, 0))) ∧ Aside0 (wc.heap[gb189]? = some (.cells #[.int .i64 t182, .int .i64 t183, .int .i64 t184, .int .i64 t185, .int .i64 t186, .int .i64 t187] 87 (0, 0))) ∧ Aside0 (Below w.heap.size w wc))
  case first =>
    have H := HC47.out
    clear HC47
    by_cases c48 : ((rd_T71 l0 a1).f0) = 0
    · rw [if_pos c48] at H
      have c48b0 : (((rd_T71 l0 a1).f0) == 0) = true := beq_iff_eq.mpr c48
      have c48b1 : (((rd_T71 l0 a1).f0) != 0) = false := bne_eq_false_iff_eq.mpr c48
      clear c48
      (first | rw [c48b0] | (simp only [i64_w, i32_w]; rw [c48b0]) | skip)
      by_cases c49 : t190 ≥ 0
      · rw [if_pos c49] at H
        have c49b0 : decide (0 ≤ t190) = true := decide_eq_true c49
        clear c49
        focus
          have H' := Aside0.mk H
          clear H
          have hnb50 := NB181_189.out
          have hnc50 := NB189_181.out
          have hcz51_0 : wc.cell? ⟨gb181, 0, none⟩ = some (.int .i64 ((rd_T71 l0 a1).f0)) := (blk_cell BK181.out 0).trans rfl
          have hcz51_1 : wc.cell? ⟨gb181, 1, none⟩ = some (.int .i64 ((rd_T71 l0 a1).f1)) := (blk_cell BK181.out 1).trans rfl
          have hcz51_2 : wc.cell? ⟨gb181, 2, none⟩ = some (.int .i64 ((rd_T71 l0 a1).f2)) := (blk_cell BK181.out 2).trans rfl
          have hcz51_3 : wc.cell? ⟨gb181, 3, none⟩ = some (.int .i64 ((rd_T71 l0 a1).f3)) := (blk_cell BK181.out 3).trans rfl
          have hfz51_0 := blk_frozen BK181.out 0
          have hfz51_1 := blk_frozen BK181.out 1
          have hfz51_2 := blk_frozen BK181.out 2
          have hfz51_3 := blk_frozen BK181.out 3
          go_wp2
          go_meet
          case rel => exact ⟨_, (true), (by first | rfl | (simp; done) | (simp [*]; done)), H', ⟨by have := HJ5.out; first | omega | exact Nat.le_refl _⟩, ⟨by (with_reducible repeat (first | refine blk_drewN ?_ _ | refine blk_drew ?_ | refine blk_alloc ?_ _)); exact BK181.out⟩, ⟨by (with_reducible repeat (first | refine blk_drewN ?_ _ | refine blk_drew ?_ | refine blk_alloc ?_ _)); exact BK189.out⟩, ⟨by repeat (first | (with_reducible first | exact HB.out | apply below_alloc | apply pw_below_drewN | apply below_drew1 | refine below_set ?_ GE181.out | refine below_set ?_ GE189.out) | exact HB.out)⟩⟩
      rw [if_neg c49] at H
      have c49b0 : decide (0 ≤ t190) = false := decide_eq_false c49
      clear c49
      by_cases c52 : ((rd_T71 l0 a1).f0) > 4
      · rw [if_pos c52] at H
        have c52b0 : decide (4 < ((rd_T71 l0 a1).f0)) = true := decide_eq_true c52
        clear c52
        focus
          have H' := Aside0.mk H
          clear H
          have hnb53 := NB181_189.out
          have hnc53 := NB189_181.out
          have hcz54_0 : wc.cell? ⟨gb181, 0, none⟩ = some (.int .i64 ((rd_T71 l0 a1).f0)) := (blk_cell BK181.out 0).trans rfl
          have hcz54_1 : wc.cell? ⟨gb181, 1, none⟩ = some (.int .i64 ((rd_T71 l0 a1).f1)) := (blk_cell BK181.out 1).trans rfl
          have hcz54_2 : wc.cell? ⟨gb181, 2, none⟩ = some (.int .i64 ((rd_T71 l0 a1).f2)) := (blk_cell BK181.out 2).trans rfl
          have hcz54_3 : wc.cell? ⟨gb181, 3, none⟩ = some (.int .i64 ((rd_T71 l0 a1).f3)) := (blk_cell BK181.out 3).trans rfl
          have hfz54_0 := blk_frozen BK181.out 0
          have hfz54_1 := blk_frozen BK181.out 1
          have hfz54_2 := blk_frozen BK181.out 2
          have hfz54_3 := blk_frozen BK181.out 3
          go_wp2
          go_meet
          case rel => exact ⟨_, (decide (t190 < 0)), (by first | rfl | (simp; done) | (simp [*]; done)), H', ⟨by have := HJ5.out; first | omega | exact Nat.le_refl _⟩, ⟨by (with_reducible repeat (first | refine blk_drewN ?_ _ | refine blk_drew ?_ | refine blk_alloc ?_ _)); exact BK181.out⟩, ⟨by (with_reducible repeat (first | refine blk_drewN ?_ _ | refine blk_drew ?_ | refine blk_alloc ?_ _)); exact BK189.out⟩, ⟨by repeat (first | (with_reducible first | exact HB.out | apply below_alloc | apply pw_below_drewN | apply below_drew1 | refine below_set ?_ GE181.out | refine below_set ?_ GE189.out) | exact HB.out)⟩⟩
      rw [if_neg c52] at H
      have c52b0 : decide (4 < ((rd_T71 l0 a1).f0)) = false := decide_eq_false c52
      clear c52
      focus
        have H' := Aside0.mk H
        clear H
        have hnb55 := NB181_189.out
        have hnc55 := NB189_181.out
        have hcz56_0 : wc.cell? ⟨gb181, 0, none⟩ = some (.int .i64 ((rd_T71 l0 a1).f0)) := (blk_cell BK181.out 0).trans rfl
        have hcz56_1 : wc.cell? ⟨gb181, 1, none⟩ = some (.int .i64 ((rd_T71 l0 a1).f1)) := (blk_cell BK181.out 1).trans rfl
        have hcz56_2 : wc.cell? ⟨gb181, 2, none⟩ = some (.int .i64 ((rd_T71 l0 a1).f2)) := (blk_cell BK181.out 2).trans rfl
        have hcz56_3 : wc.cell? ⟨gb181, 3, none⟩ = some (.int .i64 ((rd_T71 l0 a1).f3)) := (blk_cell BK181.out 3).trans rfl
        have hfz56_0 := blk_frozen BK181.out 0
        have hfz56_1 := blk_frozen BK181.out 1
        have hfz56_2 := blk_frozen BK181.out 2
        have hfz56_3 := blk_frozen BK181.out 3
        go_wp2
        go_meet
        case rel => exact ⟨_, (false), (by first | rfl | (simp; done) | (simp [*]; done)), H', ⟨by have := HJ5.out; first | omega | exact Nat.le_refl _⟩, ⟨by (with_reducible repeat (first | refine blk_drewN ?_ _ | refine blk_drew ?_ | refine blk_alloc ?_ _)); exact BK181.out⟩, ⟨by (with_reducible repeat (first | refine blk_drewN ?_ _ | refine blk_drew ?_ | refine blk_alloc ?_ _)); exact BK189.out⟩, ⟨by repeat (first | (with_reducible first | exact HB.out | apply below_alloc | apply pw_below_drewN | apply below_drew1 | refine below_set ?_ GE181.out | refine below_set ?_ GE189.out) | exact HB.out)⟩⟩
    rw [if_neg c48] at H
    have c48b0 : (((rd_T71 l0 a1).f0) == 0) = false := beq_eq_false_iff_ne.mpr c48
    have c48b1 : (((rd_T71 l0 a1).f0) != 0) = true := bne_iff_ne.mpr c48
    (first | rw [c48b0] | (simp only [i64_w, i32_w]; rw [c48b0]) | skip)
    by_cases c57 : ((rd_T71 l0 a1).f0) = 4
    rotate_left
    · rw [if_neg c57] at H
      have c57b0 : (((rd_T71 l0 a1).f0) == 4) = false := beq_eq_false_iff_ne.mpr c57
      have c57b1 : (((rd_T71 l0 a1).f0) != 4) = true := bne_iff_ne.mpr c57
      by_cases c66 : ((rd_T71 l0 a1).f0) > 4
      · rw [if_pos c66] at H
        have c66b0 : decide (4 < ((rd_T71 l0 a1).f0)) = true := decide_eq_true c66
        clear c66
        focus
          have H' := Aside0.mk H
          clear H
          have hnb67 := NB181_189.out
          have hnc67 := NB189_181.out
          have hcz68_0 : wc.cell? ⟨gb181, 0, none⟩ = some (.int .i64 ((rd_T71 l0 a1).f0)) := (blk_cell BK181.out 0).trans rfl
          have hcz68_1 : wc.cell? ⟨gb181, 1, none⟩ = some (.int .i64 ((rd_T71 l0 a1).f1)) := (blk_cell BK181.out 1).trans rfl
          have hcz68_2 : wc.cell? ⟨gb181, 2, none⟩ = some (.int .i64 ((rd_T71 l0 a1).f2)) := (blk_cell BK181.out 2).trans rfl
          have hcz68_3 : wc.cell? ⟨gb181, 3, none⟩ = some (.int .i64 ((rd_T71 l0 a1).f3)) := (blk_cell BK181.out 3).trans rfl
          have hfz68_0 := blk_frozen BK181.out 0
          have hfz68_1 := blk_frozen BK181.out 1
          have hfz68_2 := blk_frozen BK181.out 2
          have hfz68_3 := blk_frozen BK181.out 3
          go_wp2
          go_meet
          case rel => exact ⟨_, (decide (t190 < 0)), (by first | rfl | (simp; done) | (simp [*]; done)), H', ⟨by have := HJ5.out; first | omega | exact Nat.le_refl _⟩, ⟨by (with_reducible repeat (first | refine blk_drewN ?_ _ | refine blk_drew ?_ | refine blk_alloc ?_ _)); exact BK181.out⟩, ⟨by (with_reducible repeat (first | refine blk_drewN ?_ _ | refine blk_drew ?_ | refine blk_alloc ?_ _)); exact BK189.out⟩, ⟨by repeat (first | (with_reducible first | exact HB.out | apply below_alloc | apply pw_below_drewN | apply below_drew1 | refine below_set ?_ GE181.out | refine below_set ?_ GE189.out) | exact HB.out)⟩⟩
      rw [if_neg c66] at H
      have c66b0 : decide (4 < ((rd_T71 l0 a1).f0)) = false := decide_eq_false c66
      clear c66
      focus
        have H' := Aside0.mk H
        clear H
        have hnb69 := NB181_189.out
        have hnc69 := NB189_181.out
        have hcz70_0 : wc.cell? ⟨gb181, 0, none⟩ = some (.int .i64 ((rd_T71 l0 a1).f0)) := (blk_cell BK181.out 0).trans rfl
        have hcz70_1 : wc.cell? ⟨gb181, 1, none⟩ = some (.int .i64 ((rd_T71 l0 a1).f1)) := (blk_cell BK181.out 1).trans rfl
        have hcz70_2 : wc.cell? ⟨gb181, 2, none⟩ = some (.int .i64 ((rd_T71 l0 a1).f2)) := (blk_cell BK181.out 2).trans rfl
        have hcz70_3 : wc.cell? ⟨gb181, 3, none⟩ = some (.int .i64 ((rd_T71 l0 a1).f3)) := (blk_cell BK181.out 3).trans rfl
        have hfz70_0 := blk_frozen BK181.out 0
        have hfz70_1 := blk_frozen BK181.out 1
        have hfz70_2 := blk_frozen BK181.out 2
        have hfz70_3 := blk_frozen BK181.out 3
        go_wp2
        go_meet
        case rel => exact ⟨_, (false), (by first | rfl | (simp; done) | (simp [*]; done)), H', ⟨by have := HJ5.out; first | omega | exact Nat.le_refl _⟩, ⟨by (with_reducible repeat (first | refine blk_drewN ?_ _ | refine blk_drew ?_ | refine blk_alloc ?_ _)); exact BK181.out⟩, ⟨by (with_reducible repeat (first | refine blk_drewN ?_ _ | refine blk_drew ?_ | refine blk_alloc ?_ _)); exact BK189.out⟩, ⟨by repeat (first | (with_reducible first | exact HB.out | apply below_alloc | apply pw_below_drewN | apply below_drew1 | refine below_set ?_ GE181.out | refine below_set ?_ GE189.out) | exact HB.out)⟩⟩
    rw [if_pos c57] at H
    have c57b0 : (((rd_T71 l0 a1).f0) == 4) = true := beq_iff_eq.mpr c57
    have c57b1 : (((rd_T71 l0 a1).f0) != 4) = false := bne_eq_false_iff_eq.mpr c57
    clear c57
    by_cases c58 : t190 ≥ 0
    · rw [if_pos c58] at H
      have c58b0 : decide (0 ≤ t190) = true := decide_eq_true c58
      clear c58
      focus
        have H' := Aside0.mk H
        clear H
        have hnb59 := NB181_189.out
        have hnc59 := NB189_181.out
        have hcz60_0 : wc.cell? ⟨gb181, 0, none⟩ = some (.int .i64 ((rd_T71 l0 a1).f0)) := (blk_cell BK181.out 0).trans rfl
        have hcz60_1 : wc.cell? ⟨gb181, 1, none⟩ = some (.int .i64 ((rd_T71 l0 a1).f1)) := (blk_cell BK181.out 1).trans rfl
        have hcz60_2 : wc.cell? ⟨gb181, 2, none⟩ = some (.int .i64 ((rd_T71 l0 a1).f2)) := (blk_cell BK181.out 2).trans rfl
        have hcz60_3 : wc.cell? ⟨gb181, 3, none⟩ = some (.int .i64 ((rd_T71 l0 a1).f3)) := (blk_cell BK181.out 3).trans rfl
        have hfz60_0 := blk_frozen BK181.out 0
        have hfz60_1 := blk_frozen BK181.out 1
        have hfz60_2 := blk_frozen BK181.out 2
        have hfz60_3 := blk_frozen BK181.out 3
        go_wp2
        go_meet
        case rel => exact ⟨_, (true), (by first | rfl | (simp; done) | (simp [*]; done)), H', ⟨by have := HJ5.out; first | omega | exact Nat.le_refl _⟩, ⟨by (with_reducible repeat (first | refine blk_drewN ?_ _ | refine blk_drew ?_ | refine blk_alloc ?_ _)); exact BK181.out⟩, ⟨by (with_reducible repeat (first | refine blk_drewN ?_ _ | refine blk_drew ?_ | refine blk_alloc ?_ _)); exact BK189.out⟩, ⟨by repeat (first | (with_reducible first | exact HB.out | apply below_alloc | apply pw_below_drewN | apply below_drew1 | refine below_set ?_ GE181.out | refine below_set ?_ GE189.out) | exact HB.out)⟩⟩
    rw [if_neg c58] at H
    have c58b0 : decide (0 ≤ t190) = false := decide_eq_false c58
    clear c58
    by_cases c61 : ((rd_T71 l0 a1).f0) > 4
    · rw [if_pos c61] at H
      have c61b0 : decide (4 < ((rd_T71 l0 a1).f0)) = true := decide_eq_true c61
      clear c61
      focus
        have H' := Aside0.mk H
        clear H
        have hnb62 := NB181_189.out
        have hnc62 := NB189_181.out
        have hcz63_0 : wc.cell? ⟨gb181, 0, none⟩ = some (.int .i64 ((rd_T71 l0 a1).f0)) := (blk_cell BK181.out 0).trans rfl
        have hcz63_1 : wc.cell? ⟨gb181, 1, none⟩ = some (.int .i64 ((rd_T71 l0 a1).f1)) := (blk_cell BK181.out 1).trans rfl
        have hcz63_2 : wc.cell? ⟨gb181, 2, none⟩ = some (.int .i64 ((rd_T71 l0 a1).f2)) := (blk_cell BK181.out 2).trans rfl
        have hcz63_3 : wc.cell? ⟨gb181, 3, none⟩ = some (.int .i64 ((rd_T71 l0 a1).f3)) := (blk_cell BK181.out 3).trans rfl
        have hfz63_0 := blk_frozen BK181.out 0
        have hfz63_1 := blk_frozen BK181.out 1
        have hfz63_2 := blk_frozen BK181.out 2
        have hfz63_3 := blk_frozen BK181.out 3
        go_wp2
        go_meet
        case rel => exact ⟨_, (decide (t190 < 0)), (by first | rfl | (simp; done) | (simp [*]; done)), H', ⟨by have := HJ5.out; first | omega | exact Nat.le_refl _⟩, ⟨by (with_reducible repeat (first | refine blk_drewN ?_ _ | refine blk_drew ?_ | refine blk_alloc ?_ _)); exact BK181.out⟩, ⟨by (with_reducible repeat (first | refine blk_drewN ?_ _ | refine blk_drew ?_ | refine blk_alloc ?_ _)); exact BK189.out⟩, ⟨by repeat (first | (with_reducible first | exact HB.out | apply below_alloc | apply pw_below_drewN | apply below_drew1 | refine below_set ?_ GE181.out | refine below_set ?_ GE189.out) | exact HB.out)⟩⟩
    rw [if_neg c61] at H
    have c61b0 : decide (4 < ((rd_T71 l0 a1).f0)) = false := decide_eq_false c61
    clear c61
    focus
      have H' := Aside0.mk H
      clear H
      have hnb64 := NB181_189.out
      have hnc64 := NB189_181.out
      have hcz65_0 : wc.cell? ⟨gb181, 0, none⟩ = some (.int .i64 ((rd_T71 l0 a1).f0)) := (blk_cell BK181.out 0).trans rfl
      have hcz65_1 : wc.cell? ⟨gb181, 1, none⟩ = some (.int .i64 ((rd_T71 l0 a1).f1)) := (blk_cell BK181.out 1).trans rfl
      have hcz65_2 : wc.cell? ⟨gb181, 2, none⟩ = some (.int .i64 ((rd_T71 l0 a1).f2)) := (blk_cell BK181.out 2).trans rfl
      have hcz65_3 : wc.cell? ⟨gb181, 3, none⟩ = some (.int .i64 ((rd_T71 l0 a1).f3)) := (blk_cell BK181.out 3).trans rfl
      have hfz65_0 := blk_frozen BK181.out 0
      have hfz65_1 := blk_frozen BK181.out 1
      have hfz65_2 := blk_frozen BK181.out 2
      have hfz65_3 := blk_frozen BK181.out 3
      go_wp2
      go_meet
      case rel => exact ⟨_, (false), (by first | rfl | (simp; done) | (simp [*]; done)), H', ⟨by have := HJ5.out; first | omega | exact Nat.le_refl _⟩, ⟨by (with_reducible repeat (first | refine blk_drewN ?_ _ | refine blk_drew ?_ | refine blk_alloc ?_ _)); exact BK181.out⟩, ⟨by (with_reducible repeat (first | refine blk_drewN ?_ _ | refine blk_drew ?_ | refine blk_alloc ?_ _)); exact BK189.out⟩, ⟨by repeat (first | (with_reducible first | exact HB.out | apply below_alloc | apply pw_below_drewN | apply below_drew1 | refine below_set ?_ GE181.out | refine below_set ?_ GE189.out) | exact HB.out)⟩⟩
  case rest =>
    clear HC47
    try clear c1
    try clear p1
    try clear q1
    try clear hx1
    try clear c2
    try clear p2
    try clear c3
    try clear c3b0
    try clear c4
    try clear c4b0
    try clear c5
    try clear c6
    try clear c11
    try clear c13
    try clear c14
    try clear c14b0
    try clear c15
    try clear c18
    try clear c18b0
    try clear p18
    try clear q18
    try clear hx18
    try clear c19
    try clear c22
    try clear c22b0
    try clear c23
    try clear c26
    try clear c26b0
    try clear c27
    try clear c30
    try clear c30b0
    try clear c31
    try clear c34
    try clear c34b0
    try clear c35
    try clear c38
    try clear c38b0
    try clear c38b1
    try clear c39
    try clear c42
    try clear c43
    try clear c45
    try clear c48
    try clear c48b0
    try clear c48b1
    try clear c49
    try clear c49b0
    try clear c50
    try clear c52
    try clear c52b0
    try clear c53
    try clear c55
    try clear c57
    try clear c57b0
    try clear c57b1
    try clear c58
    try clear c58b0
    try clear c59
    try clear c61
    try clear c61b0
    try clear c62
    try clear c64
    try clear c66
    try clear c66b0
    try clear c67
    try clear c69
    try clear hcz12_0
    try clear hcz12_1
    try clear hcz12_2
    try clear hcz12_3
    try clear hcz12_4
    try clear hcz12_5
    try clear hcz16_0
    try clear hcz16_1
    try clear hcz16_2
    try clear hcz16_3
    try clear hcz17_0
    try clear hcz17_1
    try clear hcz17_2
    try clear hcz17_3
    try clear hcz17_4
    try clear hcz17_5
    try clear hcz20_0
    try clear hcz20_1
    try clear hcz20_2
    try clear hcz20_3
    try clear hcz21_0
    try clear hcz21_1
    try clear hcz21_2
    try clear hcz21_3
    try clear hcz21_4
    try clear hcz21_5
    try clear hcz24_0
    try clear hcz24_1
    try clear hcz24_2
    try clear hcz24_3
    try clear hcz25_0
    try clear hcz25_1
    try clear hcz25_2
    try clear hcz25_3
    try clear hcz25_4
    try clear hcz25_5
    try clear hcz28_0
    try clear hcz28_1
    try clear hcz28_2
    try clear hcz28_3
    try clear hcz29_0
    try clear hcz29_1
    try clear hcz29_2
    try clear hcz29_3
    try clear hcz29_4
    try clear hcz29_5
    try clear hcz32_0
    try clear hcz32_1
    try clear hcz32_2
    try clear hcz32_3
    try clear hcz33_0
    try clear hcz33_1
    try clear hcz33_2
    try clear hcz33_3
    try clear hcz33_4
    try clear hcz33_5
    try clear hcz36_0
    try clear hcz36_1
    try clear hcz36_2
    try clear hcz36_3
    try clear hcz37_0
    try clear hcz37_1
    try clear hcz37_2
    try clear hcz37_3
    try clear hcz37_4
    try clear hcz37_5
    try clear hcz40_0
    try clear hcz40_1
    try clear hcz40_2
    try clear hcz40_3
    try clear hcz41_0
    try clear hcz41_1
    try clear hcz41_2
    try clear hcz41_3
    try clear hcz41_4
    try clear hcz41_5
    try clear hcz43_0
    try clear hcz43_1
    try clear hcz43_2
    try clear hcz43_3
    try clear hcz44_0
    try clear hcz44_1
    try clear hcz44_2
    try clear hcz44_3
    try clear hcz44_4
    try clear hcz44_5
    try clear hcz51_0
    try clear hcz51_1
    try clear hcz51_2
    try clear hcz51_3
    try clear hcz54_0
    try clear hcz54_1
    try clear hcz54_2
    try clear hcz54_3
    try clear hcz56_0
    try clear hcz56_1
    try clear hcz56_2
    try clear hcz56_3
    try clear hcz60_0
    try clear hcz60_1
    try clear hcz60_2
    try clear hcz60_3
    try clear hcz63_0
    try clear hcz63_1
    try clear hcz63_2
    try clear hcz63_3
    try clear hcz65_0
    try clear hcz65_1
    try clear hcz65_2
    try clear hcz65_3
    try clear hcz68_0
    try clear hcz68_1
    try clear hcz68_2
    try clear hcz68_3
    try clear hcz70_0
    try clear hcz70_1
    try clear hcz70_2
    try clear hcz70_3
    try clear hcz8_0
    try clear hcz8_1
    try clear hcz8_2
    try clear hcz8_3
    try clear hfz12_0
    try clear hfz12_1
    try clear hfz12_2
    try clear hfz12_3
    try clear hfz12_4
    try clear hfz12_5
    try clear hfz16_0
    try clear hfz16_1
    try clear hfz16_2
    try clear hfz16_3
    try clear hfz17_0
    try clear hfz17_1
    try clear hfz17_2
    try clear hfz17_3
    try clear hfz17_4
    try clear hfz17_5
    try clear hfz20_0
    try clear hfz20_1
    try clear hfz20_2
    try clear hfz20_3
    try clear hfz21_0
    try clear hfz21_1
    try clear hfz21_2
    try clear hfz21_3
    try clear hfz21_4
    try clear hfz21_5
    try clear hfz24_0
    try clear hfz24_1
    try clear hfz24_2
    try clear hfz24_3
    try clear hfz25_0
    try clear hfz25_1
    try clear hfz25_2
    try clear hfz25_3
    try clear hfz25_4
    try clear hfz25_5
    try clear hfz28_0
    try clear hfz28_1
    try clear hfz28_2
    try clear hfz28_3
    try clear hfz29_0
    try clear hfz29_1
    try clear hfz29_2
    try clear hfz29_3
    try clear hfz29_4
    try clear hfz29_5
    try clear hfz32_0
    try clear hfz32_1
    try clear hfz32_2
    try clear hfz32_3
    try clear hfz33_0
    try clear hfz33_1
    try clear hfz33_2
    try clear hfz33_3
    try clear hfz33_4
    try clear hfz33_5
    try clear hfz36_0
    try clear hfz36_1
    try clear hfz36_2
    try clear hfz36_3
    try clear hfz37_0
    try clear hfz37_1
    try clear hfz37_2
    try clear hfz37_3
    try clear hfz37_4
    try clear hfz37_5
    try clear hfz40_0
    try clear hfz40_1
    try clear hfz40_2
    try clear hfz40_3
    try clear hfz41_0
    try clear hfz41_1
    try clear hfz41_2
    try clear hfz41_3
    try clear hfz41_4
    try clear hfz41_5
    try clear hfz43_0
    try clear hfz43_1
    try clear hfz43_2
    try clear hfz43_3
    try clear hfz44_0
    try clear hfz44_1
    try clear hfz44_2
    try clear hfz44_3
    try clear hfz44_4
    try clear hfz44_5
    try clear hfz51_0
    try clear hfz51_1
    try clear hfz51_2
    try clear hfz51_3
    try clear hfz54_0
    try clear hfz54_1
    try clear hfz54_2
    try clear hfz54_3
    try clear hfz56_0
    try clear hfz56_1
    try clear hfz56_2
    try clear hfz56_3
    try clear hfz60_0
    try clear hfz60_1
    try clear hfz60_2
    try clear hfz60_3
    try clear hfz63_0
    try clear hfz63_1
    try clear hfz63_2
    try clear hfz63_3
    try clear hfz65_0
    try clear hfz65_1
    try clear hfz65_2
    try clear hfz65_3
    try clear hfz68_0
    try clear hfz68_1
    try clear hfz68_2
    try clear hfz68_3
    try clear hfz70_0
    try clear hfz70_1
    try clear hfz70_2
    try clear hfz70_3
    try clear hfz8_0
    try clear hfz8_1
    try clear hfz8_2
    try clear hfz8_3
    try clear hx180_0
    try clear hx180_1
    try clear hx180_2
    try clear hx180_3
    try clear p1
    try clear p18
    try clear p180
    try clear p2
    try clear q1
    try clear q18
    try clear q180
    obtain ⟨kq, x106_46, rfl, HA, HJ46, BK181, BK189, HB⟩ := hcut
    cases kq with
    | zero => exact absurd HA.out (by simp [countermandref07_One.j1])
    | succ kj46 =>
      have H := HA.out
      clear HA
      simp only [countermandref07_One.j1] at H
      by_cases c71 : x106_46 = true
      · subst c71
        have H1 : (some false) = some r := by rw [if_pos rfl] at H; exact H
        clear H
        have H := H1
        clear H1
        focus
          obtain rfl := Option.some.inj H
          simp only [Option.some.injEq, Prod.mk.injEq] at H
          obtain ⟨rfl⟩ := H
          go_wp2
          go_ret
          exact ⟨by first | rfl | (simp [errW_none, errW_some] <;> rfl) | (simp [*, errW_none, errW_some] <;> rfl), by repeat (first | (with_reducible first | exact HB.out | apply below_alloc | apply pw_below_drewN | apply below_drew1 | refine below_set ?_ GE181.out | refine below_set ?_ GE189.out) | exact HB.out)⟩
      replace c71 := Bool.eq_false_iff.mpr c71
      subst c71
      have H1 : (if ((rd_T71 l0 a1).f0) = 3 then (countermandref07_One.j2 kj46 l0 a1 t190 true ((rd_T71 l0 a1).f0) ((rd_T71 l0 a1).f1) ((rd_T71 l0 a1).f2) ((rd_T71 l0 a1).f3)) else (countermandref07_One.j2 kj46 l0 a1 t190 (((rd_T71 l0 a1).f0) == 20) ((rd_T71 l0 a1).f0) ((rd_T71 l0 a1).f1) ((rd_T71 l0 a1).f2) ((rd_T71 l0 a1).f3))) = some r := by rw [if_neg (show ¬ (false = true) by decide)] at H; exact H
      clear H
      have H := H1
      clear H1
      have HC72 := Aside0.mk H
      clear H
      rename_i K1 aK1 K0 aK0
      have aK1' := Aside0.mk aK1
      clear aK1
      go_wp2
      exact aK1'.out _ _ (countermandref07_One.rest1 k c0 kj5 kj46 l0 a1 r w _ t182 t183 t184 t185 t186 t187 t190 ad180 gb181 gb189 _ _ _ _ _ _ _ _ _ _ _ _ _ _ _ _ _ _ _ _ _ _ _ _ _ _ _ _ _ _ _ _ _ _ _ _ _ _ _ _ _ _ _ _ _ _ _ _ _ _ _ _ _ _ _ _ _ _ _ _ _ _ _ _ _ _ _ _ _ _ _ _ _ _ _ _ _ _ _ _ _ _ _ _ _ _ _ _ _ _ _ _ _ _ _ _ _ _ _ _ _ _ _ _ _ _ _ _ _ _ _ _ _ _ _ _ _ _ _ _ _ _ _ _ _ _ _ _ _ _ _ _ _ _ _ _ _ _ _ _ _ _ _ _ _ _ _ _ _ _ _ _ _ _ _ _ _ _ _ _ _ _ _ _ _ _ _ _ _ _ _ _ _ _ _ _ _ _ _ _ _ _ _ _ _ _ _ _ _ _ _ _ _ _ _ HC0 HR0 GE181 GE189 NB181_189 NB189_181 HJ5 HJ46 HC72 BK181 BK189 HB)
set_option maxHeartbeats 8000000 in
set_option maxRecDepth 100000 in
theorem countermandref07_One.calls (k : Nat) (A0 : Option Addr) (c0 : Nat) (l0 : List (S71)) (a1 : Int) (r : Bool) (w : World) (hr0 : Kd.C k71 w A0 l0.length l0) (hc0 : l0.length ≤ c0) (h : countermandref07_One.f k l0 a1 = some r) :
    Calls Try.prog 34 #[.slice A0 l0.length c0, .int .i64 a1] w fun e w' => e = .returned (.bool r) ∧ Below w.heap.size w w' := by
  have hu71 := Try.underlying71
  have hu87 := Try.underlying87
  have hu86 := Try.underlying86
  have HR0 := Aside0.mk hr0
  have HC0 := Aside0.mk hc0
  clear hr0 hc0
  have HB := Aside0.mk (Below.refl w.heap.size w)
  have H : (if 0 ≤ a1 then (if a1 < (l0.length : Int) then ((countermandref07_limits.f k ((rd_T71 l0 a1).f0)).bind fun bt182 => (if bt182.2.2.2.2.2.2 = true then (if ((rd_T71 l0 a1).f1) < bt182.1 then (countermandref07_One.j0 k l0 a1 true ((rd_T71 l0 a1).f0) ((rd_T71 l0 a1).f1) ((rd_T71 l0 a1).f2) ((rd_T71 l0 a1).f3)) else (if ((rd_T71 l0 a1).f1) > bt182.2.1 then (countermandref07_One.j0 k l0 a1 true ((rd_T71 l0 a1).f0) ((rd_T71 l0 a1).f1) ((rd_T71 l0 a1).f2) ((rd_T71 l0 a1).f3)) else (if ((rd_T71 l0 a1).f2) < bt182.2.2.1 then (countermandref07_One.j0 k l0 a1 true ((rd_T71 l0 a1).f0) ((rd_T71 l0 a1).f1) ((rd_T71 l0 a1).f2) ((rd_T71 l0 a1).f3)) else (if ((rd_T71 l0 a1).f2) > bt182.2.2.2.1 then (countermandref07_One.j0 k l0 a1 true ((rd_T71 l0 a1).f0) ((rd_T71 l0 a1).f1) ((rd_T71 l0 a1).f2) ((rd_T71 l0 a1).f3)) else (if ((rd_T71 l0 a1).f3) < bt182.2.2.2.2.1 then (countermandref07_One.j0 k l0 a1 true ((rd_T71 l0 a1).f0) ((rd_T71 l0 a1).f1) ((rd_T71 l0 a1).f2) ((rd_T71 l0 a1).f3)) else (if ((rd_T71 l0 a1).f3) > bt182.2.2.2.2.2.1 then (countermandref07_One.j0 k l0 a1 true ((rd_T71 l0 a1).f0) ((rd_T71 l0 a1).f1) ((rd_T71 l0 a1).f2) ((rd_T71 l0 a1).f3)) else (if ((rd_T71 l0 a1).f0) = 12 then (countermandref07_One.j0 k l0 a1 (((rd_T71 l0 a1).f1) == ((rd_T71 l0 a1).f2)) ((rd_T71 l0 a1).f0) ((rd_T71 l0 a1).f1) ((rd_T71 l0 a1).f2) ((rd_T71 l0 a1).f3)) else (countermandref07_One.j0 k l0 a1 false ((rd_T71 l0 a1).f0) ((rd_T71 l0 a1).f1) ((rd_T71 l0 a1).f2) ((rd_T71 l0 a1).f3))))))))) else (countermandref07_One.j0 k l0 a1 true ((rd_T71 l0 a1).f0) ((rd_T71 l0 a1).f1) ((rd_T71 l0 a1).f2) ((rd_T71 l0 a1).f3)))) else (none)) else (none)) = some r := h
  clear h
  by_cases c3 : 0 ≤ a1
  rotate_left
  · rw [if_neg c3] at H
    exact absurd H (by simp)

  rw [if_pos c3] at H
  have c3b0 : decide (0 ≤ a1) = true := decide_eq_true c3
  clear c3
  by_cases c4 : a1 < (l0.length : Int)
  rotate_left
  · rw [if_neg c4] at H
    exact absurd H (by simp)
  rw [if_pos c4] at H
  have c4b0 : decide (a1 < (l0.length : Int)) = true := decide_eq_true c4
  clear c4
  replace H := Option.bind_eq_some_iff.mp H
  obtain ⟨⟨t182, t183, t184, t185, t186, t187, t188⟩, A50, H⟩ := H
  replace H : (if t188 = true then (if ((rd_T71 l0 a1).f1) < t182 then (countermandref07_One.j0 k l0 a1 true ((rd_T71 l0 a1).f0) ((rd_T71 l0 a1).f1) ((rd_T71 l0 a1).f2) ((rd_T71 l0 a1).f3)) else (if ((rd_T71 l0 a1).f1) > t183 then (countermandref07_One.j0 k l0 a1 true ((rd_T71 l0 a1).f0) ((rd_T71 l0 a1).f1) ((rd_T71 l0 a1).f2) ((rd_T71 l0 a1).f3)) else (if ((rd_T71 l0 a1).f2) < t184 then (countermandref07_One.j0 k l0 a1 true ((rd_T71 l0 a1).f0) ((rd_T71 l0 a1).f1) ((rd_T71 l0 a1).f2) ((rd_T71 l0 a1).f3)) else (if ((rd_T71 l0 a1).f2) > t185 then (countermandref07_One.j0 k l0 a1 true ((rd_T71 l0 a1).f0) ((rd_T71 l0 a1).f1) ((rd_T71 l0 a1).f2) ((rd_T71 l0 a1).f3)) else (if ((rd_T71 l0 a1).f3) < t186 then (countermandref07_One.j0 k l0 a1 true ((rd_T71 l0 a1).f0) ((rd_T71 l0 a1).f1) ((rd_T71 l0 a1).f2) ((rd_T71 l0 a1).f3)) else (if ((rd_T71 l0 a1).f3) > t187 then (countermandref07_One.j0 k l0 a1 true ((rd_T71 l0 a1).f0) ((rd_T71 l0 a1).f1) ((rd_T71 l0 a1).f2) ((rd_T71 l0 a1).f3)) else (if ((rd_T71 l0 a1).f0) = 12 then (countermandref07_One.j0 k l0 a1 (((rd_T71 l0 a1).f1) == ((rd_T71 l0 a1).f2)) ((rd_T71 l0 a1).f0) ((rd_T71 l0 a1).f1) ((rd_T71 l0 a1).f2) ((rd_T71 l0 a1).f3)) else (countermandref07_One.j0 k l0 a1 false ((rd_T71 l0 a1).f0) ((rd_T71 l0 a1).f1) ((rd_T71 l0 a1).f2) ((rd_T71 l0 a1).f3))))))))) else (countermandref07_One.j0 k l0 a1 true ((rd_T71 l0 a1).f0) ((rd_T71 l0 a1).f1) ((rd_T71 l0 a1).f2) ((rd_T71 l0 a1).f3))) = some r := H
  have A5 := Aside0.mk A50
  clear A50
  have HC6 := Aside0.mk H
  clear H
  have p180 : 0 ≤ (a1 : Int) := of_decide_eq_true (by first | (with_reducible assumption) | assumption)
  have q180 : a1 < (l0.length : Int) := of_decide_eq_true (by first | (with_reducible assumption) | assumption)
  obtain ⟨ad180, e180, hx180_0, hx180_1, hx180_2, hx180_3⟩ := at_T71 HR0.out a1 p180 q180
  cases e180
  replace p180 := eq_true p180
  replace q180 := eq_true q180
  go_enter Try.func34, Try.ntmps34
  go_upto_region 3 with (first | ((with_reducible refine gate_dst (N := 5) rfl ?_); (try (refine gate_guard (by rfl) ?_; dsimp only)); refine box_event ?hg (N := 5) ?hd (cs := #[.int .i64 0, .int .i64 0, .int .i64 0, .int .i64 0]) (t := 71) ?hr ?_; (case hd => rfl); (case hg => rfl); (case hr => first | (go_simp; done) | (go_simp; rfl)); intro gb181 hg w7 hbox hb; have n0_ := Aside0.mk (below_step (by repeat (first | (with_reducible first | exact HB.out | apply below_alloc | apply pw_below_drewN | apply below_drew1) | exact HB.out)) hb); have n1_ := Aside0.mk (hbox); have n2_ := Aside0.mk ((by rw [hg]; exact (below_size (by repeat (first | (with_reducible first | exact HB.out | apply below_alloc | apply pw_below_drewN | apply below_drew1) | exact HB.out))) : w.heap.size ≤ gb181)); have n3_ := Aside0.mk ((by rw [hg]; exact (below_size (by repeat (first | (with_reducible first | exact HB.out | apply below_alloc | apply pw_below_drewN | apply below_drew1) | exact HB.out))) : w.heap.size ≤ gb181)); clear HB; have HB := n0_; have BK181 := n1_; have GW181 := n2_; have GE181 := n3_; clear n0_ n1_ n2_ n3_; clear hb hbox hg; have hcz8_0 : w7.cell? ⟨gb181, 0, none⟩ = some (.int .i64 0) := (blk_cell BK181.out 0).trans rfl; have hcz8_1 : w7.cell? ⟨gb181, 1, none⟩ = some (.int .i64 0) := (blk_cell BK181.out 1).trans rfl; have hcz8_2 : w7.cell? ⟨gb181, 2, none⟩ = some (.int .i64 0) := (blk_cell BK181.out 2).trans rfl; have hcz8_3 : w7.cell? ⟨gb181, 3, none⟩ = some (.int .i64 0) := (blk_cell BK181.out 3).trans rfl; have hfz8_0 := blk_frozen BK181.out 0; have hfz8_1 := blk_frozen BK181.out 1; have hfz8_2 := blk_frozen BK181.out 2; have hfz8_3 := blk_frozen BK181.out 3) | ((with_reducible refine gate_callee (f := 42) rfl ?_); refine goesL_ (some 18) rfl rfl Try.func42 (by kernel_rfl) rfl #[.int .i64 ((rd_T71 l0 a1).f0)] rfl (by (try simp only [List.map_toArray, List.map_cons, List.map_nil]); first | done | rfl | (simp only [List.length_drop, List.length_take]; rfl)) ?_; (with_reducible refine (countermandref07_limits.calls k ((rd_T71 l0 a1).f0) t182 t183 t184 t185 t186 t187 t188 _ A5.out).mono ?_); rintro e w9 ⟨rfl, hb⟩; refine ⟨_, rfl, ?_⟩; have n0_ := Aside0.mk (blk_below (g := gb181) (o := .cells #[.int .i64 ((rd_T71 l0 a1).f0), .int .i64 ((rd_T71 l0 a1).f1), .int .i64 ((rd_T71 l0 a1).f2), .int .i64 ((rd_T71 l0 a1).f3)] 71 (0, 0)) (by (with_reducible repeat (first | refine blk_drewN ?_ _ | refine blk_drew ?_ | refine blk_alloc ?_ _)); refine blk_put (cs := #[.int .i64 ((rd_T71 l0 a1).f0), .int .i64 ((rd_T71 l0 a1).f1), .int .i64 ((rd_T71 l0 a1).f2), .int .i64 0]) ?_ 3 _ rfl; (with_reducible repeat (first | refine blk_drewN ?_ _ | refine blk_drew ?_ | refine blk_alloc ?_ _)); refine blk_put (cs := #[.int .i64 ((rd_T71 l0 a1).f0), .int .i64 ((rd_T71 l0 a1).f1), .int .i64 0, .int .i64 0]) ?_ 2 _ rfl; (with_reducible repeat (first | refine blk_drewN ?_ _ | refine blk_drew ?_ | refine blk_alloc ?_ _)); refine blk_put (cs := #[.int .i64 ((rd_T71 l0 a1).f0), .int .i64 0, .int .i64 0, .int .i64 0]) ?_ 1 _ rfl; (with_reducible repeat (first | refine blk_drewN ?_ _ | refine blk_drew ?_ | refine blk_alloc ?_ _)); refine blk_put (cs := #[.int .i64 0, .int .i64 0, .int .i64 0, .int .i64 0]) ?_ 0 _ rfl; (with_reducible repeat (first | refine blk_drewN ?_ _ | refine blk_drew ?_ | refine blk_alloc ?_ _)); exact BK181.out) hb); have n1_ := Aside0.mk (below_step (by repeat (first | (with_reducible first | exact HB.out | apply below_alloc | apply pw_below_drewN | apply below_drew1 | refine below_set ?_ GE181.out) | exact HB.out)) hb); clear BK181; clear HB; have BK181 := n0_; have HB := n1_; clear n0_ n1_; (try clear hb); (try clear hb2); (try clear hk); (try clear hi)) | ((with_reducible refine gate_dst (N := 6) rfl ?_); (try (refine gate_guard (by rfl) ?_; dsimp only)); refine box_event ?hg (N := 6) ?hd (cs := #[.int .i64 0, .int .i64 0, .int .i64 0, .int .i64 0, .int .i64 0, .int .i64 0]) (t := 87) ?hr ?_; (case hd => rfl); (case hg => rfl); (case hr => first | (go_simp; done) | (go_simp; rfl)); intro gb189 hg w10 hbox hb; have n0_ := Aside0.mk (blk_below (g := gb181) (o := .cells #[.int .i64 ((rd_T71 l0 a1).f0), .int .i64 ((rd_T71 l0 a1).f1), .int .i64 ((rd_T71 l0 a1).f2), .int .i64 ((rd_T71 l0 a1).f3)] 71 (0, 0)) (by (with_reducible repeat (first | refine blk_drewN ?_ _ | refine blk_drew ?_ | refine blk_alloc ?_ _)); exact BK181.out) hb); have n1_ := Aside0.mk (below_step (by repeat (first | (with_reducible first | exact HB.out | apply below_alloc | apply pw_below_drewN | apply below_drew1 | refine below_set ?_ GE181.out) | exact HB.out)) hb); have n2_ := Aside0.mk (hbox); have n3_ := Aside0.mk ((by rw [hg]; exact (below_size (by repeat (first | (with_reducible first | exact HB.out | apply below_alloc | apply pw_below_drewN | apply below_drew1 | refine below_set ?_ GE181.out) | exact HB.out))) : w.heap.size ≤ gb189)); have n4_ := Aside0.mk ((by rw [hg]; exact (below_size (by repeat (first | (with_reducible first | exact HB.out | apply below_alloc | apply pw_below_drewN | apply below_drew1 | refine below_set ?_ GE181.out) | exact HB.out))) : w.heap.size ≤ gb189)); have n5_ := Aside0.mk ((by rw [hg]; exact Nat.ne_of_lt (blk_lt (g := gb181) (o := .cells #[.int .i64 ((rd_T71 l0 a1).f0), .int .i64 ((rd_T71 l0 a1).f1), .int .i64 ((rd_T71 l0 a1).f2), .int .i64 ((rd_T71 l0 a1).f3)] 71 (0, 0)) (by (with_reducible repeat (first | refine blk_drewN ?_ _ | refine blk_drew ?_ | refine blk_alloc ?_ _)); exact BK181.out)) : gb181 ≠ gb189)); have n6_ := Aside0.mk ((by rw [hg]; exact Nat.ne_of_gt (blk_lt (g := gb181) (o := .cells #[.int .i64 ((rd_T71 l0 a1).f0), .int .i64 ((rd_T71 l0 a1).f1), .int .i64 ((rd_T71 l0 a1).f2), .int .i64 ((rd_T71 l0 a1).f3)] 71 (0, 0)) (by (with_reducible repeat (first | refine blk_drewN ?_ _ | refine blk_drew ?_ | refine blk_alloc ?_ _)); exact BK181.out)) : gb189 ≠ gb181)); clear BK181; clear HB; have BK181 := n0_; have HB := n1_; have BK189 := n2_; have GW189 := n3_; have GE189 := n4_; have NB181_189 := n5_; have NB189_181 := n6_; clear n0_ n1_ n2_ n3_ n4_ n5_ n6_; clear hb hbox hg; have hnb11 := NB189_181.out; have hnc11 := NB181_189.out; have hcz12_0 : w10.cell? ⟨gb189, 0, none⟩ = some (.int .i64 0) := (blk_cell BK189.out 0).trans rfl; have hcz12_1 : w10.cell? ⟨gb189, 1, none⟩ = some (.int .i64 0) := (blk_cell BK189.out 1).trans rfl; have hcz12_2 : w10.cell? ⟨gb189, 2, none⟩ = some (.int .i64 0) := (blk_cell BK189.out 2).trans rfl; have hcz12_3 : w10.cell? ⟨gb189, 3, none⟩ = some (.int .i64 0) := (blk_cell BK189.out 3).trans rfl; have hcz12_4 : w10.cell? ⟨gb189, 4, none⟩ = some (.int .i64 0) := (blk_cell BK189.out 4).trans rfl; have hcz12_5 : w10.cell? ⟨gb189, 5, none⟩ = some (.int .i64 0) := (blk_cell BK189.out 5).trans rfl; have hfz12_0 := blk_frozen BK189.out 0; have hfz12_1 := blk_frozen BK189.out 1; have hfz12_2 := blk_frozen BK189.out 2; have hfz12_3 := blk_frozen BK189.out 3; have hfz12_4 := blk_frozen BK189.out 4; have hfz12_5 := blk_frozen BK189.out 5))
  (try simp only [Act.put, y1_34, y2_34, y3_34])
  go_cut [82] (fun v82 wc => ∃ (kq : Nat) (x82_5 : Bool), v82 = .bool x82_5 ∧ Aside0 (countermandref07_One.j0 kq l0 a1 x82_5 ((rd_T71 l0 a1).f0) ((rd_T71 l0 a1).f1) ((rd_T71 l0 a1).f2) ((rd_T71 l0 a1).f3) = some r) ∧ Aside0 (kq ≤ k) ∧ Aside0 (wc.heap[gb181]? = some (.cells #[.int .i64 ((rd_T71 l0 a1).f0), .int .i64 ((rd_T71 l0 a1).f1), .int .i64 ((rd_T71 l0 a1).f2), .int .i64 ((rd_T71 l0 a1).f3)] 71 (0, 0))) ∧ Aside0 (wc.heap[gb189]? = some (.cells #[.int .i64 t182, .int .i64 t183, .int .i64 t184, .int .i64 t185, .int .i64 t186, .int .i64 t187] 87 (0, 0))) ∧ Aside0 (Below w.heap.size w wc))
  case first =>
    have H := HC6.out
    clear HC6
    by_cases c13 : t188 = true
    rotate_left
    · replace c13 := Bool.eq_false_iff.mpr c13
      subst c13
      have H1 : (countermandref07_One.j0 k l0 a1 true ((rd_T71 l0 a1).f0) ((rd_T71 l0 a1).f1) ((rd_T71 l0 a1).f2) ((rd_T71 l0 a1).f3)) = some r := by rw [if_neg (show ¬ (false = true) by decide)] at H; exact H
      clear H
      have H := H1
      clear H1
      focus
        have H' := Aside0.mk H
        clear H
        go_wp2
        go_meet
        case rel => exact ⟨_, (true), (by first | rfl | (simp; done) | (simp [*]; done)), H', ⟨by first | omega | exact Nat.le_refl _⟩, ⟨by (with_reducible repeat (first | refine blk_drewN ?_ _ | refine blk_drew ?_ | refine blk_alloc ?_ _)); refine blk_far ?_ NB181_189.out _; (with_reducible repeat (first | refine blk_drewN ?_ _ | refine blk_drew ?_ | refine blk_alloc ?_ _)); refine blk_far ?_ NB181_189.out _; (with_reducible repeat (first | refine blk_drewN ?_ _ | refine blk_drew ?_ | refine blk_alloc ?_ _)); refine blk_far ?_ NB181_189.out _; (with_reducible repeat (first | refine blk_drewN ?_ _ | refine blk_drew ?_ | refine blk_alloc ?_ _)); refine blk_far ?_ NB181_189.out _; (with_reducible repeat (first | refine blk_drewN ?_ _ | refine blk_drew ?_ | refine blk_alloc ?_ _)); refine blk_far ?_ NB181_189.out _; (with_reducible repeat (first | refine blk_drewN ?_ _ | refine blk_drew ?_ | refine blk_alloc ?_ _)); refine blk_far ?_ NB181_189.out _; (with_reducible repeat (first | refine blk_drewN ?_ _ | refine blk_drew ?_ | refine blk_alloc ?_ _)); exact BK181.out⟩, ⟨by (with_reducible repeat (first | refine blk_drewN ?_ _ | refine blk_drew ?_ | refine blk_alloc ?_ _)); refine blk_put (cs := #[.int .i64 t182, .int .i64 t183, .int .i64 t184, .int .i64 t185, .int .i64 t186, .int .i64 0]) ?_ 5 _ rfl; (with_reducible repeat (first | refine blk_drewN ?_ _ | refine blk_drew ?_ | refine blk_alloc ?_ _)); refine blk_put (cs := #[.int .i64 t182, .int .i64 t183, .int .i64 t184, .int .i64 t185, .int .i64 0, .int .i64 0]) ?_ 4 _ rfl; (with_reducible repeat (first | refine blk_drewN ?_ _ | refine blk_drew ?_ | refine blk_alloc ?_ _)); refine blk_put (cs := #[.int .i64 t182, .int .i64 t183, .int .i64 t184, .int .i64 0, .int .i64 0, .int .i64 0]) ?_ 3 _ rfl; (with_reducible repeat (first | refine blk_drewN ?_ _ | refine blk_drew ?_ | refine blk_alloc ?_ _)); refine blk_put (cs := #[.int .i64 t182, .int .i64 t183, .int .i64 0, .int .i64 0, .int .i64 0, .int .i64 0]) ?_ 2 _ rfl; (with_reducible repeat (first | refine blk_drewN ?_ _ | refine blk_drew ?_ | refine blk_alloc ?_ _)); refine blk_put (cs := #[.int .i64 t182, .int .i64 0, .int .i64 0, .int .i64 0, .int .i64 0, .int .i64 0]) ?_ 1 _ rfl; (with_reducible repeat (first | refine blk_drewN ?_ _ | refine blk_drew ?_ | refine blk_alloc ?_ _)); refine blk_put (cs := #[.int .i64 0, .int .i64 0, .int .i64 0, .int .i64 0, .int .i64 0, .int .i64 0]) ?_ 0 _ rfl; (with_reducible repeat (first | refine blk_drewN ?_ _ | refine blk_drew ?_ | refine blk_alloc ?_ _)); exact BK189.out⟩, ⟨by repeat (first | (with_reducible first | exact HB.out | apply below_alloc | apply pw_below_drewN | apply below_drew1 | refine below_set ?_ GE181.out | refine below_set ?_ GE189.out) | exact HB.out)⟩⟩
    subst c13
    have H1 : (if ((rd_T71 l0 a1).f1) < t182 then (countermandref07_One.j0 k l0 a1 true ((rd_T71 l0 a1).f0) ((rd_T71 l0 a1).f1) ((rd_T71 l0 a1).f2) ((rd_T71 l0 a1).f3)) else (if ((rd_T71 l0 a1).f1) > t183 then (countermandref07_One.j0 k l0 a1 true ((rd_T71 l0 a1).f0) ((rd_T71 l0 a1).f1) ((rd_T71 l0 a1).f2) ((rd_T71 l0 a1).f3)) else (if ((rd_T71 l0 a1).f2) < t184 then (countermandref07_One.j0 k l0 a1 true ((rd_T71 l0 a1).f0) ((rd_T71 l0 a1).f1) ((rd_T71 l0 a1).f2) ((rd_T71 l0 a1).f3)) else (if ((rd_T71 l0 a1).f2) > t185 then (countermandref07_One.j0 k l0 a1 true ((rd_T71 l0 a1).f0) ((rd_T71 l0 a1).f1) ((rd_T71 l0 a1).f2) ((rd_T71 l0 a1).f3)) else (if ((rd_T71 l0 a1).f3) < t186 then (countermandref07_One.j0 k l0 a1 true ((rd_T71 l0 a1).f0) ((rd_T71 l0 a1).f1) ((rd_T71 l0 a1).f2) ((rd_T71 l0 a1).f3)) else (if ((rd_T71 l0 a1).f3) > t187 then (countermandref07_One.j0 k l0 a1 true ((rd_T71 l0 a1).f0) ((rd_T71 l0 a1).f1) ((rd_T71 l0 a1).f2) ((rd_T71 l0 a1).f3)) else (if ((rd_T71 l0 a1).f0) = 12 then (countermandref07_One.j0 k l0 a1 (((rd_T71 l0 a1).f1) == ((rd_T71 l0 a1).f2)) ((rd_T71 l0 a1).f0) ((rd_T71 l0 a1).f1) ((rd_T71 l0 a1).f2) ((rd_T71 l0 a1).f3)) else (countermandref07_One.j0 k l0 a1 false ((rd_T71 l0 a1).f0) ((rd_T71 l0 a1).f1) ((rd_T71 l0 a1).f2) ((rd_T71 l0 a1).f3))))))))) = some r := by rw [if_pos rfl] at H; exact H
    clear H
    have H := H1
    clear H1
    by_cases c14 : ((rd_T71 l0 a1).f1) < t182
    · rw [if_pos c14] at H
      have c14b0 : decide (((rd_T71 l0 a1).f1) < t182) = true := decide_eq_true c14
      clear c14
      (first | rw [c14b0] | (simp only [i64_w, i32_w]; rw [c14b0]) | skip)
      focus
        have H' := Aside0.mk H
        clear H
        have hnb15 := NB181_189.out
        have hnc15 := NB189_181.out
        have hcz16_0 : w10.cell? ⟨gb181, 0, none⟩ = some (.int .i64 ((rd_T71 l0 a1).f0)) := (blk_cell BK181.out 0).trans rfl
        have hcz16_1 : w10.cell? ⟨gb181, 1, none⟩ = some (.int .i64 ((rd_T71 l0 a1).f1)) := (blk_cell BK181.out 1).trans rfl
        have hcz16_2 : w10.cell? ⟨gb181, 2, none⟩ = some (.int .i64 ((rd_T71 l0 a1).f2)) := (blk_cell BK181.out 2).trans rfl
        have hcz16_3 : w10.cell? ⟨gb181, 3, none⟩ = some (.int .i64 ((rd_T71 l0 a1).f3)) := (blk_cell BK181.out 3).trans rfl
        have hfz16_0 := blk_frozen BK181.out 0
        have hfz16_1 := blk_frozen BK181.out 1
        have hfz16_2 := blk_frozen BK181.out 2
        have hfz16_3 := blk_frozen BK181.out 3
        have hcz17_0 : w10.cell? ⟨gb189, 0, none⟩ = some (.int .i64 0) := (blk_cell BK189.out 0).trans rfl
        have hcz17_1 : w10.cell? ⟨gb189, 1, none⟩ = some (.int .i64 0) := (blk_cell BK189.out 1).trans rfl
        have hcz17_2 : w10.cell? ⟨gb189, 2, none⟩ = some (.int .i64 0) := (blk_cell BK189.out 2).trans rfl
        have hcz17_3 : w10.cell? ⟨gb189, 3, none⟩ = some (.int .i64 0) := (blk_cell BK189.out 3).trans rfl
        have hcz17_4 : w10.cell? ⟨gb189, 4, none⟩ = some (.int .i64 0) := (blk_cell BK189.out 4).trans rfl
        have hcz17_5 : w10.cell? ⟨gb189, 5, none⟩ = some (.int .i64 0) := (blk_cell BK189.out 5).trans rfl
        have hfz17_0 := blk_frozen BK189.out 0
        have hfz17_1 := blk_frozen BK189.out 1
        have hfz17_2 := blk_frozen BK189.out 2
        have hfz17_3 := blk_frozen BK189.out 3
        have hfz17_4 := blk_frozen BK189.out 4
        have hfz17_5 := blk_frozen BK189.out 5
        go_wp2
        go_meet
        case rel => exact ⟨_, (true), (by first | rfl | (simp; done) | (simp [*]; done)), H', ⟨by first | omega | exact Nat.le_refl _⟩, ⟨by (with_reducible repeat (first | refine blk_drewN ?_ _ | refine blk_drew ?_ | refine blk_alloc ?_ _)); refine blk_far ?_ NB181_189.out _; (with_reducible repeat (first | refine blk_drewN ?_ _ | refine blk_drew ?_ | refine blk_alloc ?_ _)); refine blk_far ?_ NB181_189.out _; (with_reducible repeat (first | refine blk_drewN ?_ _ | refine blk_drew ?_ | refine blk_alloc ?_ _)); refine blk_far ?_ NB181_189.out _; (with_reducible repeat (first | refine blk_drewN ?_ _ | refine blk_drew ?_ | refine blk_alloc ?_ _)); refine blk_far ?_ NB181_189.out _; (with_reducible repeat (first | refine blk_drewN ?_ _ | refine blk_drew ?_ | refine blk_alloc ?_ _)); refine blk_far ?_ NB181_189.out _; (with_reducible repeat (first | refine blk_drewN ?_ _ | refine blk_drew ?_ | refine blk_alloc ?_ _)); refine blk_far ?_ NB181_189.out _; (with_reducible repeat (first | refine blk_drewN ?_ _ | refine blk_drew ?_ | refine blk_alloc ?_ _)); exact BK181.out⟩, ⟨by (with_reducible repeat (first | refine blk_drewN ?_ _ | refine blk_drew ?_ | refine blk_alloc ?_ _)); refine blk_put (cs := #[.int .i64 t182, .int .i64 t183, .int .i64 t184, .int .i64 t185, .int .i64 t186, .int .i64 0]) ?_ 5 _ rfl; (with_reducible repeat (first | refine blk_drewN ?_ _ | refine blk_drew ?_ | refine blk_alloc ?_ _)); refine blk_put (cs := #[.int .i64 t182, .int .i64 t183, .int .i64 t184, .int .i64 t185, .int .i64 0, .int .i64 0]) ?_ 4 _ rfl; (with_reducible repeat (first | refine blk_drewN ?_ _ | refine blk_drew ?_ | refine blk_alloc ?_ _)); refine blk_put (cs := #[.int .i64 t182, .int .i64 t183, .int .i64 t184, .int .i64 0, .int .i64 0, .int .i64 0]) ?_ 3 _ rfl; (with_reducible repeat (first | refine blk_drewN ?_ _ | refine blk_drew ?_ | refine blk_alloc ?_ _)); refine blk_put (cs := #[.int .i64 t182, .int .i64 t183, .int .i64 0, .int .i64 0, .int .i64 0, .int .i64 0]) ?_ 2 _ rfl; (with_reducible repeat (first | refine blk_drewN ?_ _ | refine blk_drew ?_ | refine blk_alloc ?_ _)); refine blk_put (cs := #[.int .i64 t182, .int .i64 0, .int .i64 0, .int .i64 0, .int .i64 0, .int .i64 0]) ?_ 1 _ rfl; (with_reducible repeat (first | refine blk_drewN ?_ _ | refine blk_drew ?_ | refine blk_alloc ?_ _)); refine blk_put (cs := #[.int .i64 0, .int .i64 0, .int .i64 0, .int .i64 0, .int .i64 0, .int .i64 0]) ?_ 0 _ rfl; (with_reducible repeat (first | refine blk_drewN ?_ _ | refine blk_drew ?_ | refine blk_alloc ?_ _)); exact BK189.out⟩, ⟨by repeat (first | (with_reducible first | exact HB.out | apply below_alloc | apply pw_below_drewN | apply below_drew1 | refine below_set ?_ GE181.out | refine below_set ?_ GE189.out) | exact HB.out)⟩⟩
    rw [if_neg c14] at H
    have c14b0 : decide (((rd_T71 l0 a1).f1) < t182) = false := decide_eq_false c14
    clear c14
    (first | rw [c14b0] | (simp only [i64_w, i32_w]; rw [c14b0]) | skip)
    by_cases c18 : ((rd_T71 l0 a1).f1) > t183
    · rw [if_pos c18] at H
      have c18b0 : decide (t183 < ((rd_T71 l0 a1).f1)) = true := decide_eq_true c18
      clear c18
      focus
        have H' := Aside0.mk H
        clear H
        have hnb19 := NB181_189.out
        have hnc19 := NB189_181.out
        have hcz20_0 : w10.cell? ⟨gb181, 0, none⟩ = some (.int .i64 ((rd_T71 l0 a1).f0)) := (blk_cell BK181.out 0).trans rfl
        have hcz20_1 : w10.cell? ⟨gb181, 1, none⟩ = some (.int .i64 ((rd_T71 l0 a1).f1)) := (blk_cell BK181.out 1).trans rfl
        have hcz20_2 : w10.cell? ⟨gb181, 2, none⟩ = some (.int .i64 ((rd_T71 l0 a1).f2)) := (blk_cell BK181.out 2).trans rfl
        have hcz20_3 : w10.cell? ⟨gb181, 3, none⟩ = some (.int .i64 ((rd_T71 l0 a1).f3)) := (blk_cell BK181.out 3).trans rfl
        have hfz20_0 := blk_frozen BK181.out 0
        have hfz20_1 := blk_frozen BK181.out 1
        have hfz20_2 := blk_frozen BK181.out 2
        have hfz20_3 := blk_frozen BK181.out 3
        have hcz21_0 : w10.cell? ⟨gb189, 0, none⟩ = some (.int .i64 0) := (blk_cell BK189.out 0).trans rfl
        have hcz21_1 : w10.cell? ⟨gb189, 1, none⟩ = some (.int .i64 0) := (blk_cell BK189.out 1).trans rfl
        have hcz21_2 : w10.cell? ⟨gb189, 2, none⟩ = some (.int .i64 0) := (blk_cell BK189.out 2).trans rfl
        have hcz21_3 : w10.cell? ⟨gb189, 3, none⟩ = some (.int .i64 0) := (blk_cell BK189.out 3).trans rfl
        have hcz21_4 : w10.cell? ⟨gb189, 4, none⟩ = some (.int .i64 0) := (blk_cell BK189.out 4).trans rfl
        have hcz21_5 : w10.cell? ⟨gb189, 5, none⟩ = some (.int .i64 0) := (blk_cell BK189.out 5).trans rfl
        have hfz21_0 := blk_frozen BK189.out 0
        have hfz21_1 := blk_frozen BK189.out 1
        have hfz21_2 := blk_frozen BK189.out 2
        have hfz21_3 := blk_frozen BK189.out 3
        have hfz21_4 := blk_frozen BK189.out 4
        have hfz21_5 := blk_frozen BK189.out 5
        go_wp2
        go_meet
        case rel => exact ⟨_, (true), (by first | rfl | (simp; done) | (simp [*]; done)), H', ⟨by first | omega | exact Nat.le_refl _⟩, ⟨by (with_reducible repeat (first | refine blk_drewN ?_ _ | refine blk_drew ?_ | refine blk_alloc ?_ _)); refine blk_far ?_ NB181_189.out _; (with_reducible repeat (first | refine blk_drewN ?_ _ | refine blk_drew ?_ | refine blk_alloc ?_ _)); refine blk_far ?_ NB181_189.out _; (with_reducible repeat (first | refine blk_drewN ?_ _ | refine blk_drew ?_ | refine blk_alloc ?_ _)); refine blk_far ?_ NB181_189.out _; (with_reducible repeat (first | refine blk_drewN ?_ _ | refine blk_drew ?_ | refine blk_alloc ?_ _)); refine blk_far ?_ NB181_189.out _; (with_reducible repeat (first | refine blk_drewN ?_ _ | refine blk_drew ?_ | refine blk_alloc ?_ _)); refine blk_far ?_ NB181_189.out _; (with_reducible repeat (first | refine blk_drewN ?_ _ | refine blk_drew ?_ | refine blk_alloc ?_ _)); refine blk_far ?_ NB181_189.out _; (with_reducible repeat (first | refine blk_drewN ?_ _ | refine blk_drew ?_ | refine blk_alloc ?_ _)); exact BK181.out⟩, ⟨by (with_reducible repeat (first | refine blk_drewN ?_ _ | refine blk_drew ?_ | refine blk_alloc ?_ _)); refine blk_put (cs := #[.int .i64 t182, .int .i64 t183, .int .i64 t184, .int .i64 t185, .int .i64 t186, .int .i64 0]) ?_ 5 _ rfl; (with_reducible repeat (first | refine blk_drewN ?_ _ | refine blk_drew ?_ | refine blk_alloc ?_ _)); refine blk_put (cs := #[.int .i64 t182, .int .i64 t183, .int .i64 t184, .int .i64 t185, .int .i64 0, .int .i64 0]) ?_ 4 _ rfl; (with_reducible repeat (first | refine blk_drewN ?_ _ | refine blk_drew ?_ | refine blk_alloc ?_ _)); refine blk_put (cs := #[.int .i64 t182, .int .i64 t183, .int .i64 t184, .int .i64 0, .int .i64 0, .int .i64 0]) ?_ 3 _ rfl; (with_reducible repeat (first | refine blk_drewN ?_ _ | refine blk_drew ?_ | refine blk_alloc ?_ _)); refine blk_put (cs := #[.int .i64 t182, .int .i64 t183, .int .i64 0, .int .i64 0, .int .i64 0, .int .i64 0]) ?_ 2 _ rfl; (with_reducible repeat (first | refine blk_drewN ?_ _ | refine blk_drew ?_ | refine blk_alloc ?_ _)); refine blk_put (cs := #[.int .i64 t182, .int .i64 0, .int .i64 0, .int .i64 0, .int .i64 0, .int .i64 0]) ?_ 1 _ rfl; (with_reducible repeat (first | refine blk_drewN ?_ _ | refine blk_drew ?_ | refine blk_alloc ?_ _)); refine blk_put (cs := #[.int .i64 0, .int .i64 0, .int .i64 0, .int .i64 0, .int .i64 0, .int .i64 0]) ?_ 0 _ rfl; (with_reducible repeat (first | refine blk_drewN ?_ _ | refine blk_drew ?_ | refine blk_alloc ?_ _)); exact BK189.out⟩, ⟨by repeat (first | (with_reducible first | exact HB.out | apply below_alloc | apply pw_below_drewN | apply below_drew1 | refine below_set ?_ GE181.out | refine below_set ?_ GE189.out) | exact HB.out)⟩⟩
    rw [if_neg c18] at H
    have c18b0 : decide (t183 < ((rd_T71 l0 a1).f1)) = false := decide_eq_false c18
    clear c18
    by_cases c22 : ((rd_T71 l0 a1).f2) < t184
    · rw [if_pos c22] at H
      have c22b0 : decide (((rd_T71 l0 a1).f2) < t184) = true := decide_eq_true c22
      clear c22
      focus
        have H' := Aside0.mk H
        clear H
        have hnb23 := NB181_189.out
        have hnc23 := NB189_181.out
        have hcz24_0 : w10.cell? ⟨gb181, 0, none⟩ = some (.int .i64 ((rd_T71 l0 a1).f0)) := (blk_cell BK181.out 0).trans rfl
        have hcz24_1 : w10.cell? ⟨gb181, 1, none⟩ = some (.int .i64 ((rd_T71 l0 a1).f1)) := (blk_cell BK181.out 1).trans rfl
        have hcz24_2 : w10.cell? ⟨gb181, 2, none⟩ = some (.int .i64 ((rd_T71 l0 a1).f2)) := (blk_cell BK181.out 2).trans rfl
        have hcz24_3 : w10.cell? ⟨gb181, 3, none⟩ = some (.int .i64 ((rd_T71 l0 a1).f3)) := (blk_cell BK181.out 3).trans rfl
        have hfz24_0 := blk_frozen BK181.out 0
        have hfz24_1 := blk_frozen BK181.out 1
        have hfz24_2 := blk_frozen BK181.out 2
        have hfz24_3 := blk_frozen BK181.out 3
        have hcz25_0 : w10.cell? ⟨gb189, 0, none⟩ = some (.int .i64 0) := (blk_cell BK189.out 0).trans rfl
        have hcz25_1 : w10.cell? ⟨gb189, 1, none⟩ = some (.int .i64 0) := (blk_cell BK189.out 1).trans rfl
        have hcz25_2 : w10.cell? ⟨gb189, 2, none⟩ = some (.int .i64 0) := (blk_cell BK189.out 2).trans rfl
        have hcz25_3 : w10.cell? ⟨gb189, 3, none⟩ = some (.int .i64 0) := (blk_cell BK189.out 3).trans rfl
        have hcz25_4 : w10.cell? ⟨gb189, 4, none⟩ = some (.int .i64 0) := (blk_cell BK189.out 4).trans rfl
        have hcz25_5 : w10.cell? ⟨gb189, 5, none⟩ = some (.int .i64 0) := (blk_cell BK189.out 5).trans rfl
        have hfz25_0 := blk_frozen BK189.out 0
        have hfz25_1 := blk_frozen BK189.out 1
        have hfz25_2 := blk_frozen BK189.out 2
        have hfz25_3 := blk_frozen BK189.out 3
        have hfz25_4 := blk_frozen BK189.out 4
        have hfz25_5 := blk_frozen BK189.out 5
        go_wp2
        go_meet
        case rel => exact ⟨_, (true), (by first | rfl | (simp; done) | (simp [*]; done)), H', ⟨by first | omega | exact Nat.le_refl _⟩, ⟨by (with_reducible repeat (first | refine blk_drewN ?_ _ | refine blk_drew ?_ | refine blk_alloc ?_ _)); refine blk_far ?_ NB181_189.out _; (with_reducible repeat (first | refine blk_drewN ?_ _ | refine blk_drew ?_ | refine blk_alloc ?_ _)); refine blk_far ?_ NB181_189.out _; (with_reducible repeat (first | refine blk_drewN ?_ _ | refine blk_drew ?_ | refine blk_alloc ?_ _)); refine blk_far ?_ NB181_189.out _; (with_reducible repeat (first | refine blk_drewN ?_ _ | refine blk_drew ?_ | refine blk_alloc ?_ _)); refine blk_far ?_ NB181_189.out _; (with_reducible repeat (first | refine blk_drewN ?_ _ | refine blk_drew ?_ | refine blk_alloc ?_ _)); refine blk_far ?_ NB181_189.out _; (with_reducible repeat (first | refine blk_drewN ?_ _ | refine blk_drew ?_ | refine blk_alloc ?_ _)); refine blk_far ?_ NB181_189.out _; (with_reducible repeat (first | refine blk_drewN ?_ _ | refine blk_drew ?_ | refine blk_alloc ?_ _)); exact BK181.out⟩, ⟨by (with_reducible repeat (first | refine blk_drewN ?_ _ | refine blk_drew ?_ | refine blk_alloc ?_ _)); refine blk_put (cs := #[.int .i64 t182, .int .i64 t183, .int .i64 t184, .int .i64 t185, .int .i64 t186, .int .i64 0]) ?_ 5 _ rfl; (with_reducible repeat (first | refine blk_drewN ?_ _ | refine blk_drew ?_ | refine blk_alloc ?_ _)); refine blk_put (cs := #[.int .i64 t182, .int .i64 t183, .int .i64 t184, .int .i64 t185, .int .i64 0, .int .i64 0]) ?_ 4 _ rfl; (with_reducible repeat (first | refine blk_drewN ?_ _ | refine blk_drew ?_ | refine blk_alloc ?_ _)); refine blk_put (cs := #[.int .i64 t182, .int .i64 t183, .int .i64 t184, .int .i64 0, .int .i64 0, .int .i64 0]) ?_ 3 _ rfl; (with_reducible repeat (first | refine blk_drewN ?_ _ | refine blk_drew ?_ | refine blk_alloc ?_ _)); refine blk_put (cs := #[.int .i64 t182, .int .i64 t183, .int .i64 0, .int .i64 0, .int .i64 0, .int .i64 0]) ?_ 2 _ rfl; (with_reducible repeat (first | refine blk_drewN ?_ _ | refine blk_drew ?_ | refine blk_alloc ?_ _)); refine blk_put (cs := #[.int .i64 t182, .int .i64 0, .int .i64 0, .int .i64 0, .int .i64 0, .int .i64 0]) ?_ 1 _ rfl; (with_reducible repeat (first | refine blk_drewN ?_ _ | refine blk_drew ?_ | refine blk_alloc ?_ _)); refine blk_put (cs := #[.int .i64 0, .int .i64 0, .int .i64 0, .int .i64 0, .int .i64 0, .int .i64 0]) ?_ 0 _ rfl; (with_reducible repeat (first | refine blk_drewN ?_ _ | refine blk_drew ?_ | refine blk_alloc ?_ _)); exact BK189.out⟩, ⟨by repeat (first | (with_reducible first | exact HB.out | apply below_alloc | apply pw_below_drewN | apply below_drew1 | refine below_set ?_ GE181.out | refine below_set ?_ GE189.out) | exact HB.out)⟩⟩
    rw [if_neg c22] at H
    have c22b0 : decide (((rd_T71 l0 a1).f2) < t184) = false := decide_eq_false c22
    clear c22
    by_cases c26 : ((rd_T71 l0 a1).f2) > t185
    · rw [if_pos c26] at H
      have c26b0 : decide (t185 < ((rd_T71 l0 a1).f2)) = true := decide_eq_true c26
      clear c26
      focus
        have H' := Aside0.mk H
        clear H
        have hnb27 := NB181_189.out
        have hnc27 := NB189_181.out
        have hcz28_0 : w10.cell? ⟨gb181, 0, none⟩ = some (.int .i64 ((rd_T71 l0 a1).f0)) := (blk_cell BK181.out 0).trans rfl
        have hcz28_1 : w10.cell? ⟨gb181, 1, none⟩ = some (.int .i64 ((rd_T71 l0 a1).f1)) := (blk_cell BK181.out 1).trans rfl
        have hcz28_2 : w10.cell? ⟨gb181, 2, none⟩ = some (.int .i64 ((rd_T71 l0 a1).f2)) := (blk_cell BK181.out 2).trans rfl
        have hcz28_3 : w10.cell? ⟨gb181, 3, none⟩ = some (.int .i64 ((rd_T71 l0 a1).f3)) := (blk_cell BK181.out 3).trans rfl
        have hfz28_0 := blk_frozen BK181.out 0
        have hfz28_1 := blk_frozen BK181.out 1
        have hfz28_2 := blk_frozen BK181.out 2
        have hfz28_3 := blk_frozen BK181.out 3
        have hcz29_0 : w10.cell? ⟨gb189, 0, none⟩ = some (.int .i64 0) := (blk_cell BK189.out 0).trans rfl
        have hcz29_1 : w10.cell? ⟨gb189, 1, none⟩ = some (.int .i64 0) := (blk_cell BK189.out 1).trans rfl
        have hcz29_2 : w10.cell? ⟨gb189, 2, none⟩ = some (.int .i64 0) := (blk_cell BK189.out 2).trans rfl
        have hcz29_3 : w10.cell? ⟨gb189, 3, none⟩ = some (.int .i64 0) := (blk_cell BK189.out 3).trans rfl
        have hcz29_4 : w10.cell? ⟨gb189, 4, none⟩ = some (.int .i64 0) := (blk_cell BK189.out 4).trans rfl
        have hcz29_5 : w10.cell? ⟨gb189, 5, none⟩ = some (.int .i64 0) := (blk_cell BK189.out 5).trans rfl
        have hfz29_0 := blk_frozen BK189.out 0
        have hfz29_1 := blk_frozen BK189.out 1
        have hfz29_2 := blk_frozen BK189.out 2
        have hfz29_3 := blk_frozen BK189.out 3
        have hfz29_4 := blk_frozen BK189.out 4
        have hfz29_5 := blk_frozen BK189.out 5
        go_wp2
        go_meet
        case rel => exact ⟨_, (true), (by first | rfl | (simp; done) | (simp [*]; done)), H', ⟨by first | omega | exact Nat.le_refl _⟩, ⟨by (with_reducible repeat (first | refine blk_drewN ?_ _ | refine blk_drew ?_ | refine blk_alloc ?_ _)); refine blk_far ?_ NB181_189.out _; (with_reducible repeat (first | refine blk_drewN ?_ _ | refine blk_drew ?_ | refine blk_alloc ?_ _)); refine blk_far ?_ NB181_189.out _; (with_reducible repeat (first | refine blk_drewN ?_ _ | refine blk_drew ?_ | refine blk_alloc ?_ _)); refine blk_far ?_ NB181_189.out _; (with_reducible repeat (first | refine blk_drewN ?_ _ | refine blk_drew ?_ | refine blk_alloc ?_ _)); refine blk_far ?_ NB181_189.out _; (with_reducible repeat (first | refine blk_drewN ?_ _ | refine blk_drew ?_ | refine blk_alloc ?_ _)); refine blk_far ?_ NB181_189.out _; (with_reducible repeat (first | refine blk_drewN ?_ _ | refine blk_drew ?_ | refine blk_alloc ?_ _)); refine blk_far ?_ NB181_189.out _; (with_reducible repeat (first | refine blk_drewN ?_ _ | refine blk_drew ?_ | refine blk_alloc ?_ _)); exact BK181.out⟩, ⟨by (with_reducible repeat (first | refine blk_drewN ?_ _ | refine blk_drew ?_ | refine blk_alloc ?_ _)); refine blk_put (cs := #[.int .i64 t182, .int .i64 t183, .int .i64 t184, .int .i64 t185, .int .i64 t186, .int .i64 0]) ?_ 5 _ rfl; (with_reducible repeat (first | refine blk_drewN ?_ _ | refine blk_drew ?_ | refine blk_alloc ?_ _)); refine blk_put (cs := #[.int .i64 t182, .int .i64 t183, .int .i64 t184, .int .i64 t185, .int .i64 0, .int .i64 0]) ?_ 4 _ rfl; (with_reducible repeat (first | refine blk_drewN ?_ _ | refine blk_drew ?_ | refine blk_alloc ?_ _)); refine blk_put (cs := #[.int .i64 t182, .int .i64 t183, .int .i64 t184, .int .i64 0, .int .i64 0, .int .i64 0]) ?_ 3 _ rfl; (with_reducible repeat (first | refine blk_drewN ?_ _ | refine blk_drew ?_ | refine blk_alloc ?_ _)); refine blk_put (cs := #[.int .i64 t182, .int .i64 t183, .int .i64 0, .int .i64 0, .int .i64 0, .int .i64 0]) ?_ 2 _ rfl; (with_reducible repeat (first | refine blk_drewN ?_ _ | refine blk_drew ?_ | refine blk_alloc ?_ _)); refine blk_put (cs := #[.int .i64 t182, .int .i64 0, .int .i64 0, .int .i64 0, .int .i64 0, .int .i64 0]) ?_ 1 _ rfl; (with_reducible repeat (first | refine blk_drewN ?_ _ | refine blk_drew ?_ | refine blk_alloc ?_ _)); refine blk_put (cs := #[.int .i64 0, .int .i64 0, .int .i64 0, .int .i64 0, .int .i64 0, .int .i64 0]) ?_ 0 _ rfl; (with_reducible repeat (first | refine blk_drewN ?_ _ | refine blk_drew ?_ | refine blk_alloc ?_ _)); exact BK189.out⟩, ⟨by repeat (first | (with_reducible first | exact HB.out | apply below_alloc | apply pw_below_drewN | apply below_drew1 | refine below_set ?_ GE181.out | refine below_set ?_ GE189.out) | exact HB.out)⟩⟩
    rw [if_neg c26] at H
    have c26b0 : decide (t185 < ((rd_T71 l0 a1).f2)) = false := decide_eq_false c26
    clear c26
    by_cases c30 : ((rd_T71 l0 a1).f3) < t186
    · rw [if_pos c30] at H
      have c30b0 : decide (((rd_T71 l0 a1).f3) < t186) = true := decide_eq_true c30
      clear c30
      focus
        have H' := Aside0.mk H
        clear H
        have hnb31 := NB181_189.out
        have hnc31 := NB189_181.out
        have hcz32_0 : w10.cell? ⟨gb181, 0, none⟩ = some (.int .i64 ((rd_T71 l0 a1).f0)) := (blk_cell BK181.out 0).trans rfl
        have hcz32_1 : w10.cell? ⟨gb181, 1, none⟩ = some (.int .i64 ((rd_T71 l0 a1).f1)) := (blk_cell BK181.out 1).trans rfl
        have hcz32_2 : w10.cell? ⟨gb181, 2, none⟩ = some (.int .i64 ((rd_T71 l0 a1).f2)) := (blk_cell BK181.out 2).trans rfl
        have hcz32_3 : w10.cell? ⟨gb181, 3, none⟩ = some (.int .i64 ((rd_T71 l0 a1).f3)) := (blk_cell BK181.out 3).trans rfl
        have hfz32_0 := blk_frozen BK181.out 0
        have hfz32_1 := blk_frozen BK181.out 1
        have hfz32_2 := blk_frozen BK181.out 2
        have hfz32_3 := blk_frozen BK181.out 3
        have hcz33_0 : w10.cell? ⟨gb189, 0, none⟩ = some (.int .i64 0) := (blk_cell BK189.out 0).trans rfl
        have hcz33_1 : w10.cell? ⟨gb189, 1, none⟩ = some (.int .i64 0) := (blk_cell BK189.out 1).trans rfl
        have hcz33_2 : w10.cell? ⟨gb189, 2, none⟩ = some (.int .i64 0) := (blk_cell BK189.out 2).trans rfl
        have hcz33_3 : w10.cell? ⟨gb189, 3, none⟩ = some (.int .i64 0) := (blk_cell BK189.out 3).trans rfl
        have hcz33_4 : w10.cell? ⟨gb189, 4, none⟩ = some (.int .i64 0) := (blk_cell BK189.out 4).trans rfl
        have hcz33_5 : w10.cell? ⟨gb189, 5, none⟩ = some (.int .i64 0) := (blk_cell BK189.out 5).trans rfl
        have hfz33_0 := blk_frozen BK189.out 0
        have hfz33_1 := blk_frozen BK189.out 1
        have hfz33_2 := blk_frozen BK189.out 2
        have hfz33_3 := blk_frozen BK189.out 3
        have hfz33_4 := blk_frozen BK189.out 4
        have hfz33_5 := blk_frozen BK189.out 5
        go_wp2
        go_meet
        case rel => exact ⟨_, (true), (by first | rfl | (simp; done) | (simp [*]; done)), H', ⟨by first | omega | exact Nat.le_refl _⟩, ⟨by (with_reducible repeat (first | refine blk_drewN ?_ _ | refine blk_drew ?_ | refine blk_alloc ?_ _)); refine blk_far ?_ NB181_189.out _; (with_reducible repeat (first | refine blk_drewN ?_ _ | refine blk_drew ?_ | refine blk_alloc ?_ _)); refine blk_far ?_ NB181_189.out _; (with_reducible repeat (first | refine blk_drewN ?_ _ | refine blk_drew ?_ | refine blk_alloc ?_ _)); refine blk_far ?_ NB181_189.out _; (with_reducible repeat (first | refine blk_drewN ?_ _ | refine blk_drew ?_ | refine blk_alloc ?_ _)); refine blk_far ?_ NB181_189.out _; (with_reducible repeat (first | refine blk_drewN ?_ _ | refine blk_drew ?_ | refine blk_alloc ?_ _)); refine blk_far ?_ NB181_189.out _; (with_reducible repeat (first | refine blk_drewN ?_ _ | refine blk_drew ?_ | refine blk_alloc ?_ _)); refine blk_far ?_ NB181_189.out _; (with_reducible repeat (first | refine blk_drewN ?_ _ | refine blk_drew ?_ | refine blk_alloc ?_ _)); exact BK181.out⟩, ⟨by (with_reducible repeat (first | refine blk_drewN ?_ _ | refine blk_drew ?_ | refine blk_alloc ?_ _)); refine blk_put (cs := #[.int .i64 t182, .int .i64 t183, .int .i64 t184, .int .i64 t185, .int .i64 t186, .int .i64 0]) ?_ 5 _ rfl; (with_reducible repeat (first | refine blk_drewN ?_ _ | refine blk_drew ?_ | refine blk_alloc ?_ _)); refine blk_put (cs := #[.int .i64 t182, .int .i64 t183, .int .i64 t184, .int .i64 t185, .int .i64 0, .int .i64 0]) ?_ 4 _ rfl; (with_reducible repeat (first | refine blk_drewN ?_ _ | refine blk_drew ?_ | refine blk_alloc ?_ _)); refine blk_put (cs := #[.int .i64 t182, .int .i64 t183, .int .i64 t184, .int .i64 0, .int .i64 0, .int .i64 0]) ?_ 3 _ rfl; (with_reducible repeat (first | refine blk_drewN ?_ _ | refine blk_drew ?_ | refine blk_alloc ?_ _)); refine blk_put (cs := #[.int .i64 t182, .int .i64 t183, .int .i64 0, .int .i64 0, .int .i64 0, .int .i64 0]) ?_ 2 _ rfl; (with_reducible repeat (first | refine blk_drewN ?_ _ | refine blk_drew ?_ | refine blk_alloc ?_ _)); refine blk_put (cs := #[.int .i64 t182, .int .i64 0, .int .i64 0, .int .i64 0, .int .i64 0, .int .i64 0]) ?_ 1 _ rfl; (with_reducible repeat (first | refine blk_drewN ?_ _ | refine blk_drew ?_ | refine blk_alloc ?_ _)); refine blk_put (cs := #[.int .i64 0, .int .i64 0, .int .i64 0, .int .i64 0, .int .i64 0, .int .i64 0]) ?_ 0 _ rfl; (with_reducible repeat (first | refine blk_drewN ?_ _ | refine blk_drew ?_ | refine blk_alloc ?_ _)); exact BK189.out⟩, ⟨by repeat (first | (with_reducible first | exact HB.out | apply below_alloc | apply pw_below_drewN | apply below_drew1 | refine below_set ?_ GE181.out | refine below_set ?_ GE189.out) | exact HB.out)⟩⟩
    rw [if_neg c30] at H
    have c30b0 : decide (((rd_T71 l0 a1).f3) < t186) = false := decide_eq_false c30
    clear c30
    by_cases c34 : ((rd_T71 l0 a1).f3) > t187
    · rw [if_pos c34] at H
      have c34b0 : decide (t187 < ((rd_T71 l0 a1).f3)) = true := decide_eq_true c34
      clear c34
      focus
        have H' := Aside0.mk H
        clear H
        have hnb35 := NB181_189.out
        have hnc35 := NB189_181.out
        have hcz36_0 : w10.cell? ⟨gb181, 0, none⟩ = some (.int .i64 ((rd_T71 l0 a1).f0)) := (blk_cell BK181.out 0).trans rfl
        have hcz36_1 : w10.cell? ⟨gb181, 1, none⟩ = some (.int .i64 ((rd_T71 l0 a1).f1)) := (blk_cell BK181.out 1).trans rfl
        have hcz36_2 : w10.cell? ⟨gb181, 2, none⟩ = some (.int .i64 ((rd_T71 l0 a1).f2)) := (blk_cell BK181.out 2).trans rfl
        have hcz36_3 : w10.cell? ⟨gb181, 3, none⟩ = some (.int .i64 ((rd_T71 l0 a1).f3)) := (blk_cell BK181.out 3).trans rfl
        have hfz36_0 := blk_frozen BK181.out 0
        have hfz36_1 := blk_frozen BK181.out 1
        have hfz36_2 := blk_frozen BK181.out 2
        have hfz36_3 := blk_frozen BK181.out 3
        have hcz37_0 : w10.cell? ⟨gb189, 0, none⟩ = some (.int .i64 0) := (blk_cell BK189.out 0).trans rfl
        have hcz37_1 : w10.cell? ⟨gb189, 1, none⟩ = some (.int .i64 0) := (blk_cell BK189.out 1).trans rfl
        have hcz37_2 : w10.cell? ⟨gb189, 2, none⟩ = some (.int .i64 0) := (blk_cell BK189.out 2).trans rfl
        have hcz37_3 : w10.cell? ⟨gb189, 3, none⟩ = some (.int .i64 0) := (blk_cell BK189.out 3).trans rfl
        have hcz37_4 : w10.cell? ⟨gb189, 4, none⟩ = some (.int .i64 0) := (blk_cell BK189.out 4).trans rfl
        have hcz37_5 : w10.cell? ⟨gb189, 5, none⟩ = some (.int .i64 0) := (blk_cell BK189.out 5).trans rfl
        have hfz37_0 := blk_frozen BK189.out 0
        have hfz37_1 := blk_frozen BK189.out 1
        have hfz37_2 := blk_frozen BK189.out 2
        have hfz37_3 := blk_frozen BK189.out 3
        have hfz37_4 := blk_frozen BK189.out 4
        have hfz37_5 := blk_frozen BK189.out 5
        go_wp2
        go_meet
        case rel => exact ⟨_, (true), (by first | rfl | (simp; done) | (simp [*]; done)), H', ⟨by first | omega | exact Nat.le_refl _⟩, ⟨by (with_reducible repeat (first | refine blk_drewN ?_ _ | refine blk_drew ?_ | refine blk_alloc ?_ _)); refine blk_far ?_ NB181_189.out _; (with_reducible repeat (first | refine blk_drewN ?_ _ | refine blk_drew ?_ | refine blk_alloc ?_ _)); refine blk_far ?_ NB181_189.out _; (with_reducible repeat (first | refine blk_drewN ?_ _ | refine blk_drew ?_ | refine blk_alloc ?_ _)); refine blk_far ?_ NB181_189.out _; (with_reducible repeat (first | refine blk_drewN ?_ _ | refine blk_drew ?_ | refine blk_alloc ?_ _)); refine blk_far ?_ NB181_189.out _; (with_reducible repeat (first | refine blk_drewN ?_ _ | refine blk_drew ?_ | refine blk_alloc ?_ _)); refine blk_far ?_ NB181_189.out _; (with_reducible repeat (first | refine blk_drewN ?_ _ | refine blk_drew ?_ | refine blk_alloc ?_ _)); refine blk_far ?_ NB181_189.out _; (with_reducible repeat (first | refine blk_drewN ?_ _ | refine blk_drew ?_ | refine blk_alloc ?_ _)); exact BK181.out⟩, ⟨by (with_reducible repeat (first | refine blk_drewN ?_ _ | refine blk_drew ?_ | refine blk_alloc ?_ _)); refine blk_put (cs := #[.int .i64 t182, .int .i64 t183, .int .i64 t184, .int .i64 t185, .int .i64 t186, .int .i64 0]) ?_ 5 _ rfl; (with_reducible repeat (first | refine blk_drewN ?_ _ | refine blk_drew ?_ | refine blk_alloc ?_ _)); refine blk_put (cs := #[.int .i64 t182, .int .i64 t183, .int .i64 t184, .int .i64 t185, .int .i64 0, .int .i64 0]) ?_ 4 _ rfl; (with_reducible repeat (first | refine blk_drewN ?_ _ | refine blk_drew ?_ | refine blk_alloc ?_ _)); refine blk_put (cs := #[.int .i64 t182, .int .i64 t183, .int .i64 t184, .int .i64 0, .int .i64 0, .int .i64 0]) ?_ 3 _ rfl; (with_reducible repeat (first | refine blk_drewN ?_ _ | refine blk_drew ?_ | refine blk_alloc ?_ _)); refine blk_put (cs := #[.int .i64 t182, .int .i64 t183, .int .i64 0, .int .i64 0, .int .i64 0, .int .i64 0]) ?_ 2 _ rfl; (with_reducible repeat (first | refine blk_drewN ?_ _ | refine blk_drew ?_ | refine blk_alloc ?_ _)); refine blk_put (cs := #[.int .i64 t182, .int .i64 0, .int .i64 0, .int .i64 0, .int .i64 0, .int .i64 0]) ?_ 1 _ rfl; (with_reducible repeat (first | refine blk_drewN ?_ _ | refine blk_drew ?_ | refine blk_alloc ?_ _)); refine blk_put (cs := #[.int .i64 0, .int .i64 0, .int .i64 0, .int .i64 0, .int .i64 0, .int .i64 0]) ?_ 0 _ rfl; (with_reducible repeat (first | refine blk_drewN ?_ _ | refine blk_drew ?_ | refine blk_alloc ?_ _)); exact BK189.out⟩, ⟨by repeat (first | (with_reducible first | exact HB.out | apply below_alloc | apply pw_below_drewN | apply below_drew1 | refine below_set ?_ GE181.out | refine below_set ?_ GE189.out) | exact HB.out)⟩⟩
    rw [if_neg c34] at H
    have c34b0 : decide (t187 < ((rd_T71 l0 a1).f3)) = false := decide_eq_false c34
    clear c34
    by_cases c38 : ((rd_T71 l0 a1).f0) = 12
    rotate_left
    · rw [if_neg c38] at H
      have c38b0 : (((rd_T71 l0 a1).f0) == 12) = false := beq_eq_false_iff_ne.mpr c38
      have c38b1 : (((rd_T71 l0 a1).f0) != 12) = true := bne_iff_ne.mpr c38
      focus
        have H' := Aside0.mk H
        clear H
        have hnb42 := NB181_189.out
        have hnc42 := NB189_181.out
        have hcz43_0 : w10.cell? ⟨gb181, 0, none⟩ = some (.int .i64 ((rd_T71 l0 a1).f0)) := (blk_cell BK181.out 0).trans rfl
        have hcz43_1 : w10.cell? ⟨gb181, 1, none⟩ = some (.int .i64 ((rd_T71 l0 a1).f1)) := (blk_cell BK181.out 1).trans rfl
        have hcz43_2 : w10.cell? ⟨gb181, 2, none⟩ = some (.int .i64 ((rd_T71 l0 a1).f2)) := (blk_cell BK181.out 2).trans rfl
        have hcz43_3 : w10.cell? ⟨gb181, 3, none⟩ = some (.int .i64 ((rd_T71 l0 a1).f3)) := (blk_cell BK181.out 3).trans rfl
        have hfz43_0 := blk_frozen BK181.out 0
        have hfz43_1 := blk_frozen BK181.out 1
        have hfz43_2 := blk_frozen BK181.out 2
        have hfz43_3 := blk_frozen BK181.out 3
        have hcz44_0 : w10.cell? ⟨gb189, 0, none⟩ = some (.int .i64 0) := (blk_cell BK189.out 0).trans rfl
        have hcz44_1 : w10.cell? ⟨gb189, 1, none⟩ = some (.int .i64 0) := (blk_cell BK189.out 1).trans rfl
        have hcz44_2 : w10.cell? ⟨gb189, 2, none⟩ = some (.int .i64 0) := (blk_cell BK189.out 2).trans rfl
        have hcz44_3 : w10.cell? ⟨gb189, 3, none⟩ = some (.int .i64 0) := (blk_cell BK189.out 3).trans rfl
        have hcz44_4 : w10.cell? ⟨gb189, 4, none⟩ = some (.int .i64 0) := (blk_cell BK189.out 4).trans rfl
        have hcz44_5 : w10.cell? ⟨gb189, 5, none⟩ = some (.int .i64 0) := (blk_cell BK189.out 5).trans rfl
        have hfz44_0 := blk_frozen BK189.out 0
        have hfz44_1 := blk_frozen BK189.out 1
        have hfz44_2 := blk_frozen BK189.out 2
        have hfz44_3 := blk_frozen BK189.out 3
        have hfz44_4 := blk_frozen BK189.out 4
        have hfz44_5 := blk_frozen BK189.out 5
        go_wp2
        go_meet
        case rel => exact ⟨_, (false), (by first | rfl | (simp; done) | (simp [*]; done)), H', ⟨by first | omega | exact Nat.le_refl _⟩, ⟨by (with_reducible repeat (first | refine blk_drewN ?_ _ | refine blk_drew ?_ | refine blk_alloc ?_ _)); refine blk_far ?_ NB181_189.out _; (with_reducible repeat (first | refine blk_drewN ?_ _ | refine blk_drew ?_ | refine blk_alloc ?_ _)); refine blk_far ?_ NB181_189.out _; (with_reducible repeat (first | refine blk_drewN ?_ _ | refine blk_drew ?_ | refine blk_alloc ?_ _)); refine blk_far ?_ NB181_189.out _; (with_reducible repeat (first | refine blk_drewN ?_ _ | refine blk_drew ?_ | refine blk_alloc ?_ _)); refine blk_far ?_ NB181_189.out _; (with_reducible repeat (first | refine blk_drewN ?_ _ | refine blk_drew ?_ | refine blk_alloc ?_ _)); refine blk_far ?_ NB181_189.out _; (with_reducible repeat (first | refine blk_drewN ?_ _ | refine blk_drew ?_ | refine blk_alloc ?_ _)); refine blk_far ?_ NB181_189.out _; (with_reducible repeat (first | refine blk_drewN ?_ _ | refine blk_drew ?_ | refine blk_alloc ?_ _)); exact BK181.out⟩, ⟨by (with_reducible repeat (first | refine blk_drewN ?_ _ | refine blk_drew ?_ | refine blk_alloc ?_ _)); refine blk_put (cs := #[.int .i64 t182, .int .i64 t183, .int .i64 t184, .int .i64 t185, .int .i64 t186, .int .i64 0]) ?_ 5 _ rfl; (with_reducible repeat (first | refine blk_drewN ?_ _ | refine blk_drew ?_ | refine blk_alloc ?_ _)); refine blk_put (cs := #[.int .i64 t182, .int .i64 t183, .int .i64 t184, .int .i64 t185, .int .i64 0, .int .i64 0]) ?_ 4 _ rfl; (with_reducible repeat (first | refine blk_drewN ?_ _ | refine blk_drew ?_ | refine blk_alloc ?_ _)); refine blk_put (cs := #[.int .i64 t182, .int .i64 t183, .int .i64 t184, .int .i64 0, .int .i64 0, .int .i64 0]) ?_ 3 _ rfl; (with_reducible repeat (first | refine blk_drewN ?_ _ | refine blk_drew ?_ | refine blk_alloc ?_ _)); refine blk_put (cs := #[.int .i64 t182, .int .i64 t183, .int .i64 0, .int .i64 0, .int .i64 0, .int .i64 0]) ?_ 2 _ rfl; (with_reducible repeat (first | refine blk_drewN ?_ _ | refine blk_drew ?_ | refine blk_alloc ?_ _)); refine blk_put (cs := #[.int .i64 t182, .int .i64 0, .int .i64 0, .int .i64 0, .int .i64 0, .int .i64 0]) ?_ 1 _ rfl; (with_reducible repeat (first | refine blk_drewN ?_ _ | refine blk_drew ?_ | refine blk_alloc ?_ _)); refine blk_put (cs := #[.int .i64 0, .int .i64 0, .int .i64 0, .int .i64 0, .int .i64 0, .int .i64 0]) ?_ 0 _ rfl; (with_reducible repeat (first | refine blk_drewN ?_ _ | refine blk_drew ?_ | refine blk_alloc ?_ _)); exact BK189.out⟩, ⟨by repeat (first | (with_reducible first | exact HB.out | apply below_alloc | apply pw_below_drewN | apply below_drew1 | refine below_set ?_ GE181.out | refine below_set ?_ GE189.out) | exact HB.out)⟩⟩
    rw [if_pos c38] at H
    have c38b0 : (((rd_T71 l0 a1).f0) == 12) = true := beq_iff_eq.mpr c38
    have c38b1 : (((rd_T71 l0 a1).f0) != 12) = false := bne_eq_false_iff_eq.mpr c38
    clear c38
    focus
      have H' := Aside0.mk H
      clear H
      have hnb39 := NB181_189.out
      have hnc39 := NB189_181.out
      have hcz40_0 : w10.cell? ⟨gb181, 0, none⟩ = some (.int .i64 ((rd_T71 l0 a1).f0)) := (blk_cell BK181.out 0).trans rfl
      have hcz40_1 : w10.cell? ⟨gb181, 1, none⟩ = some (.int .i64 ((rd_T71 l0 a1).f1)) := (blk_cell BK181.out 1).trans rfl
      have hcz40_2 : w10.cell? ⟨gb181, 2, none⟩ = some (.int .i64 ((rd_T71 l0 a1).f2)) := (blk_cell BK181.out 2).trans rfl
      have hcz40_3 : w10.cell? ⟨gb181, 3, none⟩ = some (.int .i64 ((rd_T71 l0 a1).f3)) := (blk_cell BK181.out 3).trans rfl
      have hfz40_0 := blk_frozen BK181.out 0
      have hfz40_1 := blk_frozen BK181.out 1
      have hfz40_2 := blk_frozen BK181.out 2
      have hfz40_3 := blk_frozen BK181.out 3
      have hcz41_0 : w10.cell? ⟨gb189, 0, none⟩ = some (.int .i64 0) := (blk_cell BK189.out 0).trans rfl
      have hcz41_1 : w10.cell? ⟨gb189, 1, none⟩ = some (.int .i64 0) := (blk_cell BK189.out 1).trans rfl
      have hcz41_2 : w10.cell? ⟨gb189, 2, none⟩ = some (.int .i64 0) := (blk_cell BK189.out 2).trans rfl
      have hcz41_3 : w10.cell? ⟨gb189, 3, none⟩ = some (.int .i64 0) := (blk_cell BK189.out 3).trans rfl
      have hcz41_4 : w10.cell? ⟨gb189, 4, none⟩ = some (.int .i64 0) := (blk_cell BK189.out 4).trans rfl
      have hcz41_5 : w10.cell? ⟨gb189, 5, none⟩ = some (.int .i64 0) := (blk_cell BK189.out 5).trans rfl
      have hfz41_0 := blk_frozen BK189.out 0
      have hfz41_1 := blk_frozen BK189.out 1
      have hfz41_2 := blk_frozen BK189.out 2
      have hfz41_3 := blk_frozen BK189.out 3
      have hfz41_4 := blk_frozen BK189.out 4
      have hfz41_5 := blk_frozen BK189.out 5
      go_wp2
      go_meet
      case rel => exact ⟨_, ((((rd_T71 l0 a1).f1) == ((rd_T71 l0 a1).f2))), (by first | rfl | (simp; done) | (simp [*]; done)), H', ⟨by first | omega | exact Nat.le_refl _⟩, ⟨by (with_reducible repeat (first | refine blk_drewN ?_ _ | refine blk_drew ?_ | refine blk_alloc ?_ _)); refine blk_far ?_ NB181_189.out _; (with_reducible repeat (first | refine blk_drewN ?_ _ | refine blk_drew ?_ | refine blk_alloc ?_ _)); refine blk_far ?_ NB181_189.out _; (with_reducible repeat (first | refine blk_drewN ?_ _ | refine blk_drew ?_ | refine blk_alloc ?_ _)); refine blk_far ?_ NB181_189.out _; (with_reducible repeat (first | refine blk_drewN ?_ _ | refine blk_drew ?_ | refine blk_alloc ?_ _)); refine blk_far ?_ NB181_189.out _; (with_reducible repeat (first | refine blk_drewN ?_ _ | refine blk_drew ?_ | refine blk_alloc ?_ _)); refine blk_far ?_ NB181_189.out _; (with_reducible repeat (first | refine blk_drewN ?_ _ | refine blk_drew ?_ | refine blk_alloc ?_ _)); refine blk_far ?_ NB181_189.out _; (with_reducible repeat (first | refine blk_drewN ?_ _ | refine blk_drew ?_ | refine blk_alloc ?_ _)); exact BK181.out⟩, ⟨by (with_reducible repeat (first | refine blk_drewN ?_ _ | refine blk_drew ?_ | refine blk_alloc ?_ _)); refine blk_put (cs := #[.int .i64 t182, .int .i64 t183, .int .i64 t184, .int .i64 t185, .int .i64 t186, .int .i64 0]) ?_ 5 _ rfl; (with_reducible repeat (first | refine blk_drewN ?_ _ | refine blk_drew ?_ | refine blk_alloc ?_ _)); refine blk_put (cs := #[.int .i64 t182, .int .i64 t183, .int .i64 t184, .int .i64 t185, .int .i64 0, .int .i64 0]) ?_ 4 _ rfl; (with_reducible repeat (first | refine blk_drewN ?_ _ | refine blk_drew ?_ | refine blk_alloc ?_ _)); refine blk_put (cs := #[.int .i64 t182, .int .i64 t183, .int .i64 t184, .int .i64 0, .int .i64 0, .int .i64 0]) ?_ 3 _ rfl; (with_reducible repeat (first | refine blk_drewN ?_ _ | refine blk_drew ?_ | refine blk_alloc ?_ _)); refine blk_put (cs := #[.int .i64 t182, .int .i64 t183, .int .i64 0, .int .i64 0, .int .i64 0, .int .i64 0]) ?_ 2 _ rfl; (with_reducible repeat (first | refine blk_drewN ?_ _ | refine blk_drew ?_ | refine blk_alloc ?_ _)); refine blk_put (cs := #[.int .i64 t182, .int .i64 0, .int .i64 0, .int .i64 0, .int .i64 0, .int .i64 0]) ?_ 1 _ rfl; (with_reducible repeat (first | refine blk_drewN ?_ _ | refine blk_drew ?_ | refine blk_alloc ?_ _)); refine blk_put (cs := #[.int .i64 0, .int .i64 0, .int .i64 0, .int .i64 0, .int .i64 0, .int .i64 0]) ?_ 0 _ rfl; (with_reducible repeat (first | refine blk_drewN ?_ _ | refine blk_drew ?_ | refine blk_alloc ?_ _)); exact BK189.out⟩, ⟨by repeat (first | (with_reducible first | exact HB.out | apply below_alloc | apply pw_below_drewN | apply below_drew1 | refine below_set ?_ GE181.out | refine below_set ?_ GE189.out) | exact HB.out)⟩⟩
  case rest =>
    clear HC6
    try clear c1
    try clear p1
    try clear q1
    try clear hx1
    try clear c2
    try clear p2
    try clear c3
    try clear c3b0
    try clear c4
    try clear c4b0
    try clear c11
    try clear c13
    try clear c14
    try clear c14b0
    try clear c15
    try clear c18
    try clear c18b0
    try clear p18
    try clear q18
    try clear hx18
    try clear c19
    try clear c22
    try clear c22b0
    try clear c23
    try clear c26
    try clear c26b0
    try clear c27
    try clear c30
    try clear c30b0
    try clear c31
    try clear c34
    try clear c34b0
    try clear c35
    try clear c38
    try clear c38b0
    try clear c38b1
    try clear c39
    try clear c42
    try clear hcz12_0
    try clear hcz12_1
    try clear hcz12_2
    try clear hcz12_3
    try clear hcz12_4
    try clear hcz12_5
    try clear hcz16_0
    try clear hcz16_1
    try clear hcz16_2
    try clear hcz16_3
    try clear hcz17_0
    try clear hcz17_1
    try clear hcz17_2
    try clear hcz17_3
    try clear hcz17_4
    try clear hcz17_5
    try clear hcz20_0
    try clear hcz20_1
    try clear hcz20_2
    try clear hcz20_3
    try clear hcz21_0
    try clear hcz21_1
    try clear hcz21_2
    try clear hcz21_3
    try clear hcz21_4
    try clear hcz21_5
    try clear hcz24_0
    try clear hcz24_1
    try clear hcz24_2
    try clear hcz24_3
    try clear hcz25_0
    try clear hcz25_1
    try clear hcz25_2
    try clear hcz25_3
    try clear hcz25_4
    try clear hcz25_5
    try clear hcz28_0
    try clear hcz28_1
    try clear hcz28_2
    try clear hcz28_3
    try clear hcz29_0
    try clear hcz29_1
    try clear hcz29_2
    try clear hcz29_3
    try clear hcz29_4
    try clear hcz29_5
    try clear hcz32_0
    try clear hcz32_1
    try clear hcz32_2
    try clear hcz32_3
    try clear hcz33_0
    try clear hcz33_1
    try clear hcz33_2
    try clear hcz33_3
    try clear hcz33_4
    try clear hcz33_5
    try clear hcz36_0
    try clear hcz36_1
    try clear hcz36_2
    try clear hcz36_3
    try clear hcz37_0
    try clear hcz37_1
    try clear hcz37_2
    try clear hcz37_3
    try clear hcz37_4
    try clear hcz37_5
    try clear hcz40_0
    try clear hcz40_1
    try clear hcz40_2
    try clear hcz40_3
    try clear hcz41_0
    try clear hcz41_1
    try clear hcz41_2
    try clear hcz41_3
    try clear hcz41_4
    try clear hcz41_5
    try clear hcz43_0
    try clear hcz43_1
    try clear hcz43_2
    try clear hcz43_3
    try clear hcz44_0
    try clear hcz44_1
    try clear hcz44_2
    try clear hcz44_3
    try clear hcz44_4
    try clear hcz44_5
    try clear hcz8_0
    try clear hcz8_1
    try clear hcz8_2
    try clear hcz8_3
    try clear hfz12_0
    try clear hfz12_1
    try clear hfz12_2
    try clear hfz12_3
    try clear hfz12_4
    try clear hfz12_5
    try clear hfz16_0
    try clear hfz16_1
    try clear hfz16_2
    try clear hfz16_3
    try clear hfz17_0
    try clear hfz17_1
    try clear hfz17_2
    try clear hfz17_3
    try clear hfz17_4
    try clear hfz17_5
    try clear hfz20_0
    try clear hfz20_1
    try clear hfz20_2
    try clear hfz20_3
    try clear hfz21_0
    try clear hfz21_1
    try clear hfz21_2
    try clear hfz21_3
    try clear hfz21_4
    try clear hfz21_5
    try clear hfz24_0
    try clear hfz24_1
    try clear hfz24_2
    try clear hfz24_3
    try clear hfz25_0
    try clear hfz25_1
    try clear hfz25_2
    try clear hfz25_3
    try clear hfz25_4
    try clear hfz25_5
    try clear hfz28_0
    try clear hfz28_1
    try clear hfz28_2
    try clear hfz28_3
    try clear hfz29_0
    try clear hfz29_1
    try clear hfz29_2
    try clear hfz29_3
    try clear hfz29_4
    try clear hfz29_5
    try clear hfz32_0
    try clear hfz32_1
    try clear hfz32_2
    try clear hfz32_3
    try clear hfz33_0
    try clear hfz33_1
    try clear hfz33_2
    try clear hfz33_3
    try clear hfz33_4
    try clear hfz33_5
    try clear hfz36_0
    try clear hfz36_1
    try clear hfz36_2
    try clear hfz36_3
    try clear hfz37_0
    try clear hfz37_1
    try clear hfz37_2
    try clear hfz37_3
    try clear hfz37_4
    try clear hfz37_5
    try clear hfz40_0
    try clear hfz40_1
    try clear hfz40_2
    try clear hfz40_3
    try clear hfz41_0
    try clear hfz41_1
    try clear hfz41_2
    try clear hfz41_3
    try clear hfz41_4
    try clear hfz41_5
    try clear hfz43_0
    try clear hfz43_1
    try clear hfz43_2
    try clear hfz43_3
    try clear hfz44_0
    try clear hfz44_1
    try clear hfz44_2
    try clear hfz44_3
    try clear hfz44_4
    try clear hfz44_5
    try clear hfz8_0
    try clear hfz8_1
    try clear hfz8_2
    try clear hfz8_3
    try clear hx180_0
    try clear hx180_1
    try clear hx180_2
    try clear hx180_3
    try clear p180
    try clear q180
    obtain ⟨kq, x82_5, rfl, HA, HJ5, BK181, BK189, HB⟩ := hcut
    cases kq with
    | zero => exact absurd HA.out (by simp [countermandref07_One.j0])
    | succ kj5 =>
      have H := HA.out
      clear HA
      simp only [countermandref07_One.j0] at H
      by_cases c45 : x82_5 = true
      · subst c45
        have H1 : (some false) = some r := by rw [if_pos rfl] at H; exact H
        clear H
        have H := H1
        clear H1
        focus
          obtain rfl := Option.some.inj H
          simp only [Option.some.injEq, Prod.mk.injEq] at H
          obtain ⟨rfl⟩ := H
          go_wp2
          go_ret
          exact ⟨by first | rfl | (simp [errW_none, errW_some] <;> rfl) | (simp [*, errW_none, errW_some] <;> rfl), by repeat (first | (with_reducible first | exact HB.out | apply below_alloc | apply pw_below_drewN | apply below_drew1 | refine below_set ?_ GE181.out | refine below_set ?_ GE189.out) | exact HB.out)⟩
      replace c45 := Bool.eq_false_iff.mpr c45
      subst c45
      have H1 : ((countermandref07_Block.f kj5 l0 a1).bind fun t190 => (if ((rd_T71 l0 a1).f0) = 0 then (if t190 ≥ 0 then (countermandref07_One.j1 kj5 l0 a1 t190 true ((rd_T71 l0 a1).f0) ((rd_T71 l0 a1).f1) ((rd_T71 l0 a1).f2) ((rd_T71 l0 a1).f3)) else (if ((rd_T71 l0 a1).f0) > 4 then (countermandref07_One.j1 kj5 l0 a1 t190 (decide (t190 < 0)) ((rd_T71 l0 a1).f0) ((rd_T71 l0 a1).f1) ((rd_T71 l0 a1).f2) ((rd_T71 l0 a1).f3)) else (countermandref07_One.j1 kj5 l0 a1 t190 false ((rd_T71 l0 a1).f0) ((rd_T71 l0 a1).f1) ((rd_T71 l0 a1).f2) ((rd_T71 l0 a1).f3)))) else (if ((rd_T71 l0 a1).f0) = 4 then (if t190 ≥ 0 then (countermandref07_One.j1 kj5 l0 a1 t190 true ((rd_T71 l0 a1).f0) ((rd_T71 l0 a1).f1) ((rd_T71 l0 a1).f2) ((rd_T71 l0 a1).f3)) else (if ((rd_T71 l0 a1).f0) > 4 then (countermandref07_One.j1 kj5 l0 a1 t190 (decide (t190 < 0)) ((rd_T71 l0 a1).f0) ((rd_T71 l0 a1).f1) ((rd_T71 l0 a1).f2) ((rd_T71 l0 a1).f3)) else (countermandref07_One.j1 kj5 l0 a1 t190 false ((rd_T71 l0 a1).f0) ((rd_T71 l0 a1).f1) ((rd_T71 l0 a1).f2) ((rd_T71 l0 a1).f3)))) else (if ((rd_T71 l0 a1).f0) > 4 then (countermandref07_One.j1 kj5 l0 a1 t190 (decide (t190 < 0)) ((rd_T71 l0 a1).f0) ((rd_T71 l0 a1).f1) ((rd_T71 l0 a1).f2) ((rd_T71 l0 a1).f3)) else (countermandref07_One.j1 kj5 l0 a1 t190 false ((rd_T71 l0 a1).f0) ((rd_T71 l0 a1).f1) ((rd_T71 l0 a1).f2) ((rd_T71 l0 a1).f3)))))) = some r := by rw [if_neg (show ¬ (false = true) by decide)] at H; exact H
      clear H
      have H := H1
      clear H1
      replace H := Option.bind_eq_some_iff.mp H
      obtain ⟨t190, A460, H⟩ := H
      replace H : (if ((rd_T71 l0 a1).f0) = 0 then (if t190 ≥ 0 then (countermandref07_One.j1 kj5 l0 a1 t190 true ((rd_T71 l0 a1).f0) ((rd_T71 l0 a1).f1) ((rd_T71 l0 a1).f2) ((rd_T71 l0 a1).f3)) else (if ((rd_T71 l0 a1).f0) > 4 then (countermandref07_One.j1 kj5 l0 a1 t190 (decide (t190 < 0)) ((rd_T71 l0 a1).f0) ((rd_T71 l0 a1).f1) ((rd_T71 l0 a1).f2) ((rd_T71 l0 a1).f3)) else (countermandref07_One.j1 kj5 l0 a1 t190 false ((rd_T71 l0 a1).f0) ((rd_T71 l0 a1).f1) ((rd_T71 l0 a1).f2) ((rd_T71 l0 a1).f3)))) else (if ((rd_T71 l0 a1).f0) = 4 then (if t190 ≥ 0 then (countermandref07_One.j1 kj5 l0 a1 t190 true ((rd_T71 l0 a1).f0) ((rd_T71 l0 a1).f1) ((rd_T71 l0 a1).f2) ((rd_T71 l0 a1).f3)) else (if ((rd_T71 l0 a1).f0) > 4 then (countermandref07_One.j1 kj5 l0 a1 t190 (decide (t190 < 0)) ((rd_T71 l0 a1).f0) ((rd_T71 l0 a1).f1) ((rd_T71 l0 a1).f2) ((rd_T71 l0 a1).f3)) else (countermandref07_One.j1 kj5 l0 a1 t190 false ((rd_T71 l0 a1).f0) ((rd_T71 l0 a1).f1) ((rd_T71 l0 a1).f2) ((rd_T71 l0 a1).f3)))) else (if ((rd_T71 l0 a1).f0) > 4 then (countermandref07_One.j1 kj5 l0 a1 t190 (decide (t190 < 0)) ((rd_T71 l0 a1).f0) ((rd_T71 l0 a1).f1) ((rd_T71 l0 a1).f2) ((rd_T71 l0 a1).f3)) else (countermandref07_One.j1 kj5 l0 a1 t190 false ((rd_T71 l0 a1).f0) ((rd_T71 l0 a1).f1) ((rd_T71 l0 a1).f2) ((rd_T71 l0 a1).f3))))) = some r := H
      have A46 := Aside0.mk A460
      clear A460
      have HC47 := Aside0.mk H
      clear H
      rename_i K1 aK1 K0 aK0
      have aK1' := Aside0.mk aK1
      clear aK1
      go_wp2
      exact aK1'.out _ _ (countermandref07_One.rest0 k c0 kj5 l0 a1 r w _ t182 t183 t184 t185 t186 t187 t190 ad180 gb181 gb189 _ _ _ _ _ _ _ _ _ _ _ _ _ _ _ _ _ _ _ _ _ _ _ _ _ _ _ _ _ _ _ _ _ _ _ _ _ _ _ _ _ _ _ _ _ _ _ _ _ _ _ _ _ _ _ _ _ _ _ _ _ _ _ _ _ _ _ _ _ _ _ _ _ _ _ _ _ _ _ _ _ _ _ _ _ _ _ _ _ _ _ _ _ _ _ _ _ _ _ _ _ _ _ _ _ _ _ _ _ _ _ _ _ _ _ _ _ _ _ _ _ _ _ _ _ _ _ _ _ _ _ _ _ _ _ _ _ _ _ _ _ _ _ _ _ _ _ _ _ _ _ _ _ _ _ _ _ _ _ _ _ _ _ _ _ _ _ _ _ _ _ _ _ _ _ _ _ _ _ _ _ _ _ _ _ _ _ _ _ _ _ _ _ _ _ _ HC0 HR0 GE181 GE189 NB181_189 NB189_181 HJ5 A46 HC47 BK181 BK189 HB)
end Go.Proofs.Ytfoefgckjaafnaa.PCodeChecks
