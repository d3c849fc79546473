/- Written by a program of this session, which began as the kit's print and is turned in wip/printer: the plain form of each function, and that the Go code comes to it. -/
import Derived.Test.YtfoefgckjaafnaaPCodeShiftsx0
import Derived.Test.YtfoefgckjaafnaaPCodeShiftsx2
import Derived.Test.YtfoefgckjaafnaaPCodeShiftsx4
import Derived.Test.YtfoefgckjaafnaaPCodeShiftsx5
namespace Go.Proofs.Ytfoefgckjaafnaa.PCodeShifts
open Go.RowKit Go.Proofs.YtfoefgckjaafnaaW.PrintWords Go.Proofs.YtfoefgckjaafnaaW.PrintLast Go.Proofs.YtfoefgckjaafnaaW.PrintMore
attribute [local go_sem] max2_int min2_int max_two min_two max_three min_three max_four min_four   -- for this text's walks alone
set_option linter.unusedVariables false
set_option linter.unusedSimpArgs false

/-! ### code_Check: function 30 -/
mutual
def code_Check.l0 : Nat → List (S71) → List Int → Bool → Int → List (S71) → Int → Int → Option (Int × Int)
  | 0, _, _, _, _, _, _, _ => none
  | k + 1, x0, x4, x6, x7, x20, x21, x22 => if x22 < x21 then (if 0 ≤ x22 then (if x22 < (x20.length : Int) then ((code_fields.f k ((rd_T71 x20 x22).f0) ((rd_T71 x20 x22).f1) ((rd_T71 x20 x22).f2) ((rd_T71 x20 x22).f3)).bind fun t148 => (if t148 = true then (if x22 < (x4.length : Int) then ((code_placed.f k ((rd_T71 x20 x22).f0) (decide ((rd x4 x22) ≥ 0))).bind fun t150 => (code_Check.j1 k x0 x4 x6 x7 x22 x20 x21 x22 (!t150) ((rd_T71 x20 x22).f0) ((rd_T71 x20 x22).f1) ((rd_T71 x20 x22).f2) ((rd_T71 x20 x22).f3))) else (none)) else (code_Check.j1 k x0 x4 x6 x7 x22 x20 x21 x22 true ((rd_T71 x20 x22).f0) ((rd_T71 x20 x22).f1) ((rd_T71 x20 x22).f2) ((rd_T71 x20 x22).f3)))) else (none)) else (none)) else (some (0, 0))
def code_Check.j1 : Nat → List (S71) → List Int → Bool → Int → Int → List (S71) → Int → Int → Bool → Int → Int → Int → Int → Option (Int × Int)
  | 0, _, _, _, _, _, _, _, _, _, _, _, _, _ => none
  | k + 1, x0, x4, x6, x7, x8, x20, x21, x22, x40, x148000, x148001, x148002, x148003 => if x40 = true then (some (x8, 11)) else (if x148000 = 3 then (code_Check.j2 k x0 x4 x6 x7 x8 x20 x21 x22 x148000 (x148000 == 3) x148000 x148001 x148002 x148003) else (code_Check.j2 k x0 x4 x6 x7 x8 x20 x21 x22 x148000 (x148000 == 20) x148000 x148001 x148002 x148003))
def code_Check.j3 : Nat → List (S71) → List Int → Bool → Int → Int → List (S71) → Int → Int → Int → Int → Int → Int → Option (Int × Int)
  | 0, _, _, _, _, _, _, _, _, _, _, _, _ => none
  | k + 1, x0, x4, x6, x7, x8, x20, x21, x22, x148000, x148001, x148002, x148003 => if x148000 = 20 then (code_Check.j4 k x0 x4 x6 (wrap64 (x7 + 1)) x8 x20 x21 x22 x148000 x148001 x148002 x148003) else (code_Check.j4 k x0 x4 x6 x7 x8 x20 x21 x22 x148000 x148001 x148002 x148003)
def code_Check.j4 : Nat → List (S71) → List Int → Bool → Int → Int → List (S71) → Int → Int → Int → Int → Int → Int → Option (Int × Int)
  | 0, _, _, _, _, _, _, _, _, _, _, _, _ => none
  | k + 1, x0, x4, x6, x7, x8, x20, x21, x22, x148000, x148001, x148002, x148003 => if x7 > 3 then (some (x8, 11)) else (if x6 = true then (if x148000 = 14 then (some (x8, 11)) else (if x148000 = 19 then (some (x8, 11)) else (if x148000 = 20 then (some (x8, 11)) else (if x148000 = 21 then (some (x8, 11)) else (code_Check.l0 k x0 x4 true x7 x20 x21 (wrap64 (x22 + 1))))))) else (code_Check.l0 k x0 x4 (x148000 == 21) x7 x20 x21 (wrap64 (x22 + 1))))
def code_Check.j2 : Nat → List (S71) → List Int → Bool → Int → Int → List (S71) → Int → Int → Int → Bool → Int → Int → Int → Int → Option (Int × Int)
  | 0, _, _, _, _, _, _, _, _, _, _, _, _, _, _ => none
  | k + 1, x0, x4, x6, x7, x8, x20, x21, x22, x43, x44, x148000, x148001, x148002, x148003 => if x44 = true then ((code_lands.f k x0 x4 x8).bind fun t151 => (if t151 = true then (code_Check.j3 k x0 x4 x6 x7 x8 x20 x21 x22 x148000 x148001 x148002 x148003) else (some (x8, 11)))) else (if x43 = 4 then (code_Check.j3 k x0 x4 false 0 x8 x20 x21 x22 x148000 x148001 x148002 x148003) else (code_Check.j3 k x0 x4 x6 x7 x8 x20 x21 x22 x148000 x148001 x148002 x148003))
end
def code_Check.f (k : Nat) (l0 : List (S71)) : Option (Int × Int) := if (l0.length : Int) > 48 then (some (0, 3)) else ((code_spans.f k l0).bind fun bt142 => (if bt142.2 = true then (code_Check.l0 k l0 bt142.1 false 0 l0 (l0.length : Int) 0) else (some (0, 11))))
theorem code_Check.mono_l : ∀ k, (∀ y0 y1 y2 y3 y4 y5 y6, LeO (code_Check.l0 k y0 y1 y2 y3 y4 y5 y6) (code_Check.l0 (k + 1) y0 y1 y2 y3 y4 y5 y6)) ∧ (∀ y0 y1 y2 y3 y4 y5 y6 y7 y8 y9 y10 y11 y12, LeO (code_Check.j1 k y0 y1 y2 y3 y4 y5 y6 y7 y8 y9 y10 y11 y12) (code_Check.j1 (k + 1) y0 y1 y2 y3 y4 y5 y6 y7 y8 y9 y10 y11 y12)) ∧ (∀ y0 y1 y2 y3 y4 y5 y6 y7 y8 y9 y10 y11, LeO (code_Check.j3 k y0 y1 y2 y3 y4 y5 y6 y7 y8 y9 y10 y11) (code_Check.j3 (k + 1) y0 y1 y2 y3 y4 y5 y6 y7 y8 y9 y10 y11)) ∧ (∀ y0 y1 y2 y3 y4 y5 y6 y7 y8 y9 y10 y11, LeO (code_Check.j4 k y0 y1 y2 y3 y4 y5 y6 y7 y8 y9 y10 y11) (code_Check.j4 (k + 1) y0 y1 y2 y3 y4 y5 y6 y7 y8 y9 y10 y11)) ∧ (∀ y0 y1 y2 y3 y4 y5 y6 y7 y8 y9 y10 y11 y12 y13, LeO (code_Check.j2 k y0 y1 y2 y3 y4 y5 y6 y7 y8 y9 y10 y11 y12 y13) (code_Check.j2 (k + 1) y0 y1 y2 y3 y4 y5 y6 y7 y8 y9 y10 y11 y12 y13))
  | 0 => ⟨fun _ _ _ _ _ _ _ r h => by simp [code_Check.l0] at h, fun _ _ _ _ _ _ _ _ _ _ _ _ _ r h => by simp [code_Check.j1] at h, fun _ _ _ _ _ _ _ _ _ _ _ _ r h => by simp [code_Check.j3] at h, fun _ _ _ _ _ _ _ _ _ _ _ _ r h => by simp [code_Check.j4] at h, fun _ _ _ _ _ _ _ _ _ _ _ _ _ _ r h => by simp [code_Check.j2] at h⟩
  | k + 1 => by
    obtain ⟨ih0, ih1, ih2, ih3, ih4⟩ := code_Check.mono_l k
    refine ⟨?_, ?_, ?_, ?_, ?_⟩
    · intro y0 y1 y2 y3 y4 y5 y6
      unfold code_Check.l0
      repeat' first
      | (with_reducible exact ih0 _ _ _ _ _ _ _)
      | (with_reducible exact ih1 _ _ _ _ _ _ _ _ _ _ _ _ _)
      | (with_reducible exact ih2 _ _ _ _ _ _ _ _ _ _ _ _)
      | (with_reducible exact ih3 _ _ _ _ _ _ _ _ _ _ _ _)
      | (with_reducible exact ih4 _ _ _ _ _ _ _ _ _ _ _ _ _ _)
      | (with_reducible exact code_fields.mono _ _ _ _ _)
      | (with_reducible exact code_lands.mono _ _ _ _)
      | (with_reducible exact code_placed.mono _ _ _)
      | (with_reducible exact code_spans.mono _ _)
      | (with_reducible exact LeO.refl _)
      | (with_reducible exact LeO.none _)
      | (with_reducible refine LeO.ite ?_ ?_)
      | (with_reducible refine LeO.bind ?_ (fun _ => ?_))
      | exact ih0 _ _ _ _ _ _ _
      | exact ih1 _ _ _ _ _ _ _ _ _ _ _ _ _
      | exact ih2 _ _ _ _ _ _ _ _ _ _ _ _
      | exact ih3 _ _ _ _ _ _ _ _ _ _ _ _
      | exact ih4 _ _ _ _ _ _ _ _ _ _ _ _ _ _
      | exact code_fields.mono _ _ _ _ _
      | exact code_lands.mono _ _ _ _
      | exact code_placed.mono _ _ _
      | exact code_spans.mono _ _
      | exact LeO.none _
      | refine LeO.ite ?_ ?_
      | refine LeO.bind ?_ (fun _ => ?_)
    · intro y0 y1 y2 y3 y4 y5 y6 y7 y8 y9 y10 y11 y12
      unfold code_Check.j1
      repeat' first
      | (with_reducible exact ih0 _ _ _ _ _ _ _)
      | (with_reducible exact ih1 _ _ _ _ _ _ _ _ _ _ _ _ _)
      | (with_reducible exact ih2 _ _ _ _ _ _ _ _ _ _ _ _)
      | (with_reducible exact ih3 _ _ _ _ _ _ _ _ _ _ _ _)
      | (with_reducible exact ih4 _ _ _ _ _ _ _ _ _ _ _ _ _ _)
      | (with_reducible exact code_fields.mono _ _ _ _ _)
      | (with_reducible exact code_lands.mono _ _ _ _)
      | (with_reducible exact code_placed.mono _ _ _)
      | (with_reducible exact code_spans.mono _ _)
      | (with_reducible exact LeO.refl _)
      | (with_reducible exact LeO.none _)
      | (with_reducible refine LeO.ite ?_ ?_)
      | (with_reducible refine LeO.bind ?_ (fun _ => ?_))
      | exact ih0 _ _ _ _ _ _ _
      | exact ih1 _ _ _ _ _ _ _ _ _ _ _ _ _
      | exact ih2 _ _ _ _ _ _ _ _ _ _ _ _
      | exact ih3 _ _ _ _ _ _ _ _ _ _ _ _
      | exact ih4 _ _ _ _ _ _ _ _ _ _ _ _ _ _
      | exact code_fields.mono _ _ _ _ _
      | exact code_lands.mono _ _ _ _
      | exact code_placed.mono _ _ _
      | exact code_spans.mono _ _
      | exact LeO.none _
      | refine LeO.ite ?_ ?_
      | refine LeO.bind ?_ (fun _ => ?_)
    · intro y0 y1 y2 y3 y4 y5 y6 y7 y8 y9 y10 y11
      unfold code_Check.j3
      repeat' first
      | (with_reducible exact ih0 _ _ _ _ _ _ _)
      | (with_reducible exact ih1 _ _ _ _ _ _ _ _ _ _ _ _ _)
      | (with_reducible exact ih2 _ _ _ _ _ _ _ _ _ _ _ _)
      | (with_reducible exact ih3 _ _ _ _ _ _ _ _ _ _ _ _)
      | (with_reducible exact ih4 _ _ _ _ _ _ _ _ _ _ _ _ _ _)
      | (with_reducible exact code_fields.mono _ _ _ _ _)
      | (with_reducible exact code_lands.mono _ _ _ _)
      | (with_reducible exact code_placed.mono _ _ _)
      | (with_reducible exact code_spans.mono _ _)
      | (with_reducible exact LeO.refl _)
      | (with_reducible exact LeO.none _)
      | (with_reducible refine LeO.ite ?_ ?_)
      | (with_reducible refine LeO.bind ?_ (fun _ => ?_))
      | exact ih0 _ _ _ _ _ _ _
      | exact ih1 _ _ _ _ _ _ _ _ _ _ _ _ _
      | exact ih2 _ _ _ _ _ _ _ _ _ _ _ _
      | exact ih3 _ _ _ _ _ _ _ _ _ _ _ _
      | exact ih4 _ _ _ _ _ _ _ _ _ _ _ _ _ _
      | exact code_fields.mono _ _ _ _ _
      | exact code_lands.mono _ _ _ _
      | exact code_placed.mono _ _ _
      | exact code_spans.mono _ _
      | exact LeO.none _
      | refine LeO.ite ?_ ?_
      | refine LeO.bind ?_ (fun _ => ?_)
    · intro y0 y1 y2 y3 y4 y5 y6 y7 y8 y9 y10 y11
      unfold code_Check.j4
      repeat' first
      | (with_reducible exact ih0 _ _ _ _ _ _ _)
      | (with_reducible exact ih1 _ _ _ _ _ _ _ _ _ _ _ _ _)
      | (with_reducible exact ih2 _ _ _ _ _ _ _ _ _ _ _ _)
      | (with_reducible exact ih3 _ _ _ _ _ _ _ _ _ _ _ _)
      | (with_reducible exact ih4 _ _ _ _ _ _ _ _ _ _ _ _ _ _)
      | (with_reducible exact code_fields.mono _ _ _ _ _)
      | (with_reducible exact code_lands.mono _ _ _ _)
      | (with_reducible exact code_placed.mono _ _ _)
      | (with_reducible exact code_spans.mono _ _)
      | (with_reducible exact LeO.refl _)
      | (with_reducible exact LeO.none _)
      | (with_reducible refine LeO.ite ?_ ?_)
      | (with_reducible refine LeO.bind ?_ (fun _ => ?_))
      | exact ih0 _ _ _ _ _ _ _
      | exact ih1 _ _ _ _ _ _ _ _ _ _ _ _ _
      | exact ih2 _ _ _ _ _ _ _ _ _ _ _ _
      | exact ih3 _ _ _ _ _ _ _ _ _ _ _ _
      | exact ih4 _ _ _ _ _ _ _ _ _ _ _ _ _ _
      | exact code_fields.mono _ _ _ _ _
      | exact code_lands.mono _ _ _ _
      | exact code_placed.mono _ _ _
      | exact code_spans.mono _ _
      | exact LeO.none _
      | refine LeO.ite ?_ ?_
      | refine LeO.bind ?_ (fun _ => ?_)
    · intro y0 y1 y2 y3 y4 y5 y6 y7 y8 y9 y10 y11 y12 y13
      unfold code_Check.j2
      repeat' first
      | (with_reducible exact ih0 _ _ _ _ _ _ _)
      | (with_reducible exact ih1 _ _ _ _ _ _ _ _ _ _ _ _ _)
      | (with_reducible exact ih2 _ _ _ _ _ _ _ _ _ _ _ _)
      | (with_reducible exact ih3 _ _ _ _ _ _ _ _ _ _ _ _)
      | (with_reducible exact ih4 _ _ _ _ _ _ _ _ _ _ _ _ _ _)
      | (with_reducible exact code_fields.mono _ _ _ _ _)
      | (with_reducible exact code_lands.mono _ _ _ _)
      | (with_reducible exact code_placed.mono _ _ _)
      | (with_reducible exact code_spans.mono _ _)
      | (with_reducible exact LeO.refl _)
      | (with_reducible exact LeO.none _)
      | (with_reducible refine LeO.ite ?_ ?_)
      | (with_reducible refine LeO.bind ?_ (fun _ => ?_))
      | exact ih0 _ _ _ _ _ _ _
      | exact ih1 _ _ _ _ _ _ _ _ _ _ _ _ _
      | exact ih2 _ _ _ _ _ _ _ _ _ _ _ _
      | exact ih3 _ _ _ _ _ _ _ _ _ _ _ _
      | exact ih4 _ _ _ _ _ _ _ _ _ _ _ _ _ _
      | exact code_fields.mono _ _ _ _ _
      | exact code_lands.mono _ _ _ _
      | exact code_placed.mono _ _ _
      | exact code_spans.mono _ _
      | exact LeO.none _
      | refine LeO.ite ?_ ?_
      | refine LeO.bind ?_ (fun _ => ?_)
theorem code_Check.mono : ∀ a0 k, LeO (code_Check.f k a0) (code_Check.f (k + 1) a0) := by
  intro a0 k
  obtain ⟨ih0, ih1, ih2, ih3, ih4⟩ := code_Check.mono_l k
  unfold code_Check.f
  repeat' first
      | (with_reducible exact ih0 _ _ _ _ _ _ _)
      | (with_reducible exact ih1 _ _ _ _ _ _ _ _ _ _ _ _ _)
      | (with_reducible exact ih2 _ _ _ _ _ _ _ _ _ _ _ _)
      | (with_reducible exact ih3 _ _ _ _ _ _ _ _ _ _ _ _)
      | (with_reducible exact ih4 _ _ _ _ _ _ _ _ _ _ _ _ _ _)
      | (with_reducible exact code_fields.mono _ _ _ _ _)
      | (with_reducible exact code_lands.mono _ _ _ _)
      | (with_reducible exact code_placed.mono _ _ _)
      | (with_reducible exact code_spans.mono _ _)
      | (with_reducible exact LeO.refl _)
      | (with_reducible exact LeO.none _)
      | (with_reducible refine LeO.ite ?_ ?_)
      | (with_reducible refine LeO.bind ?_ (fun _ => ?_))
      | exact ih0 _ _ _ _ _ _ _
      | exact ih1 _ _ _ _ _ _ _ _ _ _ _ _ _
      | exact ih2 _ _ _ _ _ _ _ _ _ _ _ _
      | exact ih3 _ _ _ _ _ _ _ _ _ _ _ _
      | exact ih4 _ _ _ _ _ _ _ _ _ _ _ _ _ _
      | exact code_fields.mono _ _ _ _ _
      | exact code_lands.mono _ _ _ _
      | exact code_placed.mono _ _ _
      | exact code_spans.mono _ _
      | exact LeO.none _
      | refine LeO.ite ?_ ?_
      | refine LeO.bind ?_ (fun _ => ?_)
def code_Check.T10 : Bool × List (List Nat × List Nat) := (true, [([], []), ([0], [0]), ([1], [1]), ([2, 1], [2]), ([3], [3]), ([4, 3], [3, 4]), ([3], [3]), ([3], [3]), ([6, 7, 3], [3, 6, 7]), ([8, 3], [3, 8]), ([9, 3], [3, 9]), ([5, 10, 3, 3], [3, 5, 10]), ([11, 3], [3, 11]), ([3, 12], [3, 12])])
def code_Check.B10 : List Nat := [0, 1, 3, 7, 15, 31, 15, 15, 207, 463, 975, 2047, 4095, 8191]
theorem code_Check.tab10 : rtab .any (opsOf Try.f30 10) = code_Check.T10 := by kernel_rfl
theorem code_Check.bits10 : waitsOk code_Check.T10.2 code_Check.B10 = true := by kernel_rfl
set_option maxHeartbeats 8000000 in
set_option maxRecDepth 100000 in
theorem code_Check.calls (k : Nat) (A0 : Option Addr) (c0 : Nat) (l0 : List (S71)) (r1 : Int) (r2 : Int) (w : World) (hr0 : Kd.C k71 w A0 l0.length l0) (hc0 : l0.length ≤ c0) (h : code_Check.f k l0 = some (r1, r2)) :
    Calls Try.prog 30 #[.slice A0 l0.length c0] w fun e w' => e = .returned (.tuple #[.int .i64 r1, .int .i64 r2]) ∧ Below w.heap.size w w' := by
  have hu71 := Try.underlying71
  have HR0 := Aside0.mk hr0
  have HC0 := Aside0.mk hc0
  clear hr0 hc0
  have HB := Aside0.mk (Below.refl w.heap.size w)
  have H : (if (l0.length : Int) > 48 then (some (0, 3)) else ((code_spans.f k l0).bind fun bt142 => (if bt142.2 = true then (code_Check.l0 k l0 bt142.1 false 0 l0 (l0.length : Int) 0) else (some (0, 11))))) = some (r1, r2) := h
  clear h
  by_cases c2 : (l0.length : Int) > 48
  · rw [if_pos c2] at H
    have c2b0 : decide (48 < (l0.length : Int)) = true := decide_eq_true c2
    have c2b1 : decide (48 < l0.length) = true := decide_eq_true (by omega)
    clear c2
    simp only [Option.some.injEq, Prod.mk.injEq] at H
    obtain ⟨rfl, rfl⟩ := H
    go_enter Try.func30, Try.ntmps30
    go_wp2
    go_ret2
    exact ⟨by first | rfl | (simp [errW_none, errW_some] <;> rfl) | (simp [*, errW_none, errW_some] <;> rfl), by repeat (first | (with_reducible first | exact HB.out | apply below_alloc | apply pw_below_drewN | apply below_drew1) | exact HB.out)⟩
  · rw [if_neg c2] at H
    have c2b0 : decide (48 < (l0.length : Int)) = false := decide_eq_false c2
    have c2b1 : decide (48 < l0.length) = false := decide_eq_false (by omega)
    clear c2
    replace H := Option.bind_eq_some_iff.mp H
    obtain ⟨⟨t142, t143⟩, A30, H⟩ := H
    replace H : (if t143 = true then (code_Check.l0 k l0 t142 false 0 l0 (l0.length : Int) 0) else (some (0, 11))) = some (r1, r2) := H
    have A3 := Aside0.mk A30
    clear A30
    by_cases c4 : t143 = true
    · subst c4
      have H1 : (code_Check.l0 k l0 t142 false 0 l0 (l0.length : Int) 0) = some (r1, r2) := by rw [if_pos rfl] at H; exact H
      clear H
      have H := H1
      clear H1
      have H' := Aside0.mk H
      clear H
      go_enter Try.func30, Try.ntmps30
      go_wp2_with (first | ((with_reducible refine gate_callee (f := 38) rfl ?_); refine goesL_ (some 15) rfl rfl Try.func38 (by kernel_rfl) rfl #[.slice A0 l0.length c0] rfl (by (try simp only [List.map_toArray, List.map_cons, List.map_nil]); first | done | rfl | (simp only [List.length_drop, List.length_take]; rfl)) ?_; (with_reducible refine (code_spans.calls k _ _ l0 t142 true _ ?side1 ?side2 A3.out).mono ?_); (case side1 => repeat (first | exact HR0.out | (with_reducible refine Kd.C_alloc ?_ _) | (with_reducible refine Kd.C_drewN ?_ _) | (with_reducible refine Kd.C_drew ?_))); (case side2 => exact HC0.out); rintro e w5 ⟨v144, rfl, ho0, hb⟩; refine ⟨_, rfl, ?_⟩; have n0_ := Aside0.mk (Kd.R_lower ho0 (below_size (by repeat (first | (with_reducible first | exact HB.out | apply below_alloc | apply pw_below_drewN | apply below_drew1) | exact HB.out)))); have n1_ := Aside0.mk (below_step (by repeat (first | (with_reducible first | exact HB.out | apply below_alloc | apply pw_below_drewN | apply below_drew1) | exact HB.out)) hb); clear HB; have HO145 := n0_; have HB := n1_; clear n0_ n1_; (try clear hb); (try clear hb2); (try clear hk); (try clear hi); (try clear ho0)))
      go_loopg [6, 7, 22] k (fun kq v6 v7 v22 w' => ∃ (x6_1 : Bool) (x7_1 : Int) (x22_1 : Int), v6 = .bool x6_1 ∧ v7 = .int .i64 x7_1 ∧ v22 = .int .i64 x22_1 ∧ Aside0 (code_Check.l0 kq l0 t142 x6_1 x7_1 l0 (l0.length : Int) x22_1 = some (r1, r2)) ∧ Aside0 (kq ≤ k) ∧ Aside0 (Kd.R (Kd.int .i64) 3 w' w.heap.size (fun _ => True) v144 t142) ∧ Aside0 (Below w.heap.size w w'))
      case atStart => exact ⟨(false), (0), (0), (by first | rfl | (simp; done) | (simp [*]; done)), (by first | rfl | (simp; done) | (simp [*]; done)), (by first | rfl | (simp; done) | (simp [*]; done)), H', ⟨Nat.le_refl _⟩, ⟨by (with_reducible repeat (first | apply Kd.R_alloc | apply Kd.R_drewN | apply Kd.R_drew)); exact HO145.out⟩, ⟨by repeat (first | (with_reducible first | exact HB.out | apply below_alloc | apply pw_below_drewN | apply below_drew1) | exact HB.out)⟩⟩
      case round =>
        clear H'
        try clear c2
        try clear c2b0
        try clear c2b1
        try clear p2
        try clear c3
        try clear c4
        obtain ⟨x6_1, x7_1, x22_1, rfl, rfl, rfl, HA, HK1, HO_4, HB⟩ := hrel
        cases gk with
        | zero => exact absurd HA.out (by simp [code_Check.l0])
        | succ k1 =>
          have H := HA.out
          clear HA
          simp only [code_Check.l0] at H
          by_cases c6 : x22_1 < (l0.length : Int)
          · rw [if_pos c6] at H
            have c6b0 : decide (x22_1 < (l0.length : Int)) = true := decide_eq_true c6
            clear c6
            by_cases c7 : 0 ≤ x22_1
            · rw [if_pos c7] at H
              have c7b0 : decide (0 ≤ x22_1) = true := decide_eq_true c7
              clear c7
              by_cases c8 : x22_1 < (l0.length : Int)
              · rw [if_pos c8] at H
                have c8b0 : decide (x22_1 < (l0.length : Int)) = true := decide_eq_true c8
                clear c8
                have HC9 := Aside0.mk H
                clear H
                have p146 : 0 ≤ (x22_1 : Int) := of_decide_eq_true (by first | (with_reducible assumption) | assumption)
                have q146 : x22_1 < (l0.length : Int) := of_decide_eq_true (by first | (with_reducible assumption) | assumption)
                obtain ⟨ad146, e146, hx146_0, hx146_1, hx146_2, hx146_3⟩ := at_T71 HR0.out x22_1 p146 q146
                cases e146
                replace hx146_0 := (HB.out.cell (World.block_lt_of_cell? w _ hx146_0)).trans hx146_0
                replace hx146_1 := (HB.out.cell (World.block_lt_of_cell? w _ hx146_1)).trans hx146_1
                replace hx146_2 := (HB.out.cell (World.block_lt_of_cell? w _ hx146_2)).trans hx146_2
                replace hx146_3 := (HB.out.cell (World.block_lt_of_cell? w _ hx146_3)).trans hx146_3
                replace p146 := eq_true p146
                replace q146 := eq_true q146
                go_upto_region 10 with (first | ((with_reducible refine gate_dst (N := 9) rfl ?_); refine box_event ?hg (N := 9) ?hd (cs := #[.int .i64 0, .int .i64 0, .int .i64 0, .int .i64 0]) (t := 71) ?hr ?_; (case hd => rfl); (case hg => rfl); (case hr => first | (go_simp; done) | (go_simp; rfl)); intro gb147 hg w10 hbox hb; have n0_ := Aside0.mk (Kd.R_below (by (with_reducible repeat (first | apply Kd.R_alloc | apply Kd.R_drewN | apply Kd.R_drew)); exact HO_4.out) hb); have n1_ := Aside0.mk (below_step (by repeat (first | (with_reducible first | exact HB.out | apply below_alloc | apply pw_below_drewN | apply below_drew1) | exact HB.out)) hb); have n2_ := Aside0.mk (hbox); have n3_ := Aside0.mk ((by rw [hg]; exact (below_size (by repeat (first | (with_reducible first | exact HB.out | apply below_alloc | apply pw_below_drewN | apply below_drew1) | exact HB.out))) : w.heap.size ≤ gb147)); have n4_ := Aside0.mk ((by rw [hg]; exact (below_size (by repeat (first | (with_reducible first | exact HB.out | apply below_alloc | apply pw_below_drewN | apply below_drew1) | exact HB.out))) : w.heap.size ≤ gb147)); clear HO_4; clear HB; have HO_4 := n0_; have HB := n1_; have BK147 := n2_; have GW147 := n3_; have GE147 := n4_; clear n0_ n1_ n2_ n3_ n4_; clear hb hbox hg; have hcz11_0 : w10.cell? ⟨gb147, 0, none⟩ = some (.int .i64 0) := (blk_cell BK147.out 0).trans rfl; have hcz11_1 : w10.cell? ⟨gb147, 1, none⟩ = some (.int .i64 0) := (blk_cell BK147.out 1).trans rfl; have hcz11_2 : w10.cell? ⟨gb147, 2, none⟩ = some (.int .i64 0) := (blk_cell BK147.out 2).trans rfl; have hcz11_3 : w10.cell? ⟨gb147, 3, none⟩ = some (.int .i64 0) := (blk_cell BK147.out 3).trans rfl; have hfz11_0 := blk_frozen BK147.out 0; have hfz11_1 := blk_frozen BK147.out 1; have hfz11_2 := blk_frozen BK147.out 2; have hfz11_3 := blk_frozen BK147.out 3))
                (try simp only [Act.put, List.setIfInBounds_toArray, List.set_cons_zero, List.set_cons_succ])
                go_cut [40] (fun v40 wc => ∃ (kq : Nat) (x40_8 : Bool), v40 = .bool x40_8 ∧ Aside0 (code_Check.j1 kq l0 t142 x6_1 x7_1 x22_1 l0 (l0.length : Int) x22_1 x40_8 ((rd_T71 l0 x22_1).f0) ((rd_T71 l0 x22_1).f1) ((rd_T71 l0 x22_1).f2) ((rd_T71 l0 x22_1).f3) = some (r1, r2)) ∧ Aside0 (kq ≤ k1) ∧ Aside0 (Kd.R (Kd.int .i64) 3 wc w.heap.size (fun _ => True) v144 t142) ∧ Aside0 (wc.heap[gb147]? = some (.cells #[.int .i64 ((rd_T71 l0 x22_1).f0), .int .i64 ((rd_T71 l0 x22_1).f1), .int .i64 ((rd_T71 l0 x22_1).f2), .int .i64 ((rd_T71 l0 x22_1).f3)] 71 (0, 0))) ∧ Aside0 (Below w.heap.size w wc))
                case first =>
                  have H := HC9.out
                  clear HC9
                  replace H := Option.bind_eq_some_iff.mp H
                  obtain ⟨t148, A120, H⟩ := H
                  replace H : (if t148 = true then (if x22_1 < (t142.length : Int) then ((code_placed.f k1 ((rd_T71 l0 x22_1).f0) (decide ((rd t142 x22_1) ≥ 0))).bind fun t150 => (code_Check.j1 k1 l0 t142 x6_1 x7_1 x22_1 l0 (l0.length : Int) x22_1 (!t150) ((rd_T71 l0 x22_1).f0) ((rd_T71 l0 x22_1).f1) ((rd_T71 l0 x22_1).f2) ((rd_T71 l0 x22_1).f3))) else (none)) else (code_Check.j1 k1 l0 t142 x6_1 x7_1 x22_1 l0 (l0.length : Int) x22_1 true ((rd_T71 l0 x22_1).f0) ((rd_T71 l0 x22_1).f1) ((rd_T71 l0 x22_1).f2) ((rd_T71 l0 x22_1).f3))) = some (r1, r2) := H
                  have A12 := Aside0.mk A120
                  clear A120
                  by_cases c13 : t148 = true
                  · subst c13
                    have H1 : (if x22_1 < (t142.length : Int) then ((code_placed.f k1 ((rd_T71 l0 x22_1).f0) (decide ((rd t142 x22_1) ≥ 0))).bind fun t150 => (code_Check.j1 k1 l0 t142 x6_1 x7_1 x22_1 l0 (l0.length : Int) x22_1 (!t150) ((rd_T71 l0 x22_1).f0) ((rd_T71 l0 x22_1).f1) ((rd_T71 l0 x22_1).f2) ((rd_T71 l0 x22_1).f3))) else (none)) = some (r1, r2) := by rw [if_pos rfl] at H; exact H
                    clear H
                    have H := H1
                    clear H1
                    by_cases c14 : x22_1 < (t142.length : Int)
                    · rw [if_pos c14] at H
                      have c14b0 : decide (x22_1 < (t142.length : Int)) = true := decide_eq_true c14
                      clear c14
                      (first | rw [c14b0] | (simp only [i64_w, i32_w]; rw [c14b0]) | skip)
                      replace H := Option.bind_eq_some_iff.mp H
                      obtain ⟨t150, A150, H⟩ := H
                      replace H : (code_Check.j1 k1 l0 t142 x6_1 x7_1 x22_1 l0 (l0.length : Int) x22_1 (!t150) ((rd_T71 l0 x22_1).f0) ((rd_T71 l0 x22_1).f1) ((rd_T71 l0 x22_1).f2) ((rd_T71 l0 x22_1).f3)) = some (r1, r2) := H
                      have A15 := Aside0.mk A150
                      clear A150
                      have H' := Aside0.mk H
                      clear H
                      try go_wp2
                      have n0_ : Aside0 (Kd.R (Kd.int .i64) 3 ((((w10.setCell ⟨gb147, 0, none⟩ (.int .i64 ((rd_T71 l0 x22_1).f0))).setCell ⟨gb147, 1, none⟩ (.int .i64 ((rd_T71 l0 x22_1).f1))).setCell ⟨gb147, 2, none⟩ (.int .i64 ((rd_T71 l0 x22_1).f2))).setCell ⟨gb147, 3, none⟩ (.int .i64 ((rd_T71 l0 x22_1).f3))) w.heap.size (fun _ => True) v144 t142) := ⟨by (with_reducible repeat (first | apply Kd.R_alloc | apply Kd.R_drewN | apply Kd.R_drew)); exact Kd.R_mono (Kd.R_far (p := ⟨gb147, 3, none⟩) (Kd.R_far (p := ⟨gb147, 2, none⟩) (Kd.R_far (p := ⟨gb147, 1, none⟩) (Kd.R_far (p := ⟨gb147, 0, none⟩) (Kd.R_types HO_4.out BK147.out (by decide)) (fun _ hk => hk.2) (.int .i64 ((rd_T71 l0 x22_1).f0))) (fun _ hk => hk.2) (.int .i64 ((rd_T71 l0 x22_1).f1))) (fun _ hk => hk.2) (.int .i64 ((rd_T71 l0 x22_1).f2))) (fun _ hk => hk.2) (.int .i64 ((rd_T71 l0 x22_1).f3))) (fun _ hk => trivial)⟩
                      have n1_ : Aside0 (((((w10.setCell ⟨gb147, 0, none⟩ (.int .i64 ((rd_T71 l0 x22_1).f0))).setCell ⟨gb147, 1, none⟩ (.int .i64 ((rd_T71 l0 x22_1).f1))).setCell ⟨gb147, 2, none⟩ (.int .i64 ((rd_T71 l0 x22_1).f2))).setCell ⟨gb147, 3, none⟩ (.int .i64 ((rd_T71 l0 x22_1).f3))).heap[gb147]? = some (.cells #[.int .i64 ((rd_T71 l0 x22_1).f0), .int .i64 ((rd_T71 l0 x22_1).f1), .int .i64 ((rd_T71 l0 x22_1).f2), .int .i64 ((rd_T71 l0 x22_1).f3)] 71 (0, 0))) := ⟨by (with_reducible repeat (first | refine blk_drewN ?_ _ | refine blk_drew ?_ | refine blk_alloc ?_ _)); refine blk_put (cs := #[.int .i64 ((rd_T71 l0 x22_1).f0), .int .i64 ((rd_T71 l0 x22_1).f1), .int .i64 ((rd_T71 l0 x22_1).f2), .int .i64 0]) ?_ 3 _ rfl; (with_reducible repeat (first | refine blk_drewN ?_ _ | refine blk_drew ?_ | refine blk_alloc ?_ _)); refine blk_put (cs := #[.int .i64 ((rd_T71 l0 x22_1).f0), .int .i64 ((rd_T71 l0 x22_1).f1), .int .i64 0, .int .i64 0]) ?_ 2 _ rfl; (with_reducible repeat (first | refine blk_drewN ?_ _ | refine blk_drew ?_ | refine blk_alloc ?_ _)); refine blk_put (cs := #[.int .i64 ((rd_T71 l0 x22_1).f0), .int .i64 0, .int .i64 0, .int .i64 0]) ?_ 1 _ rfl; (with_reducible repeat (first | refine blk_drewN ?_ _ | refine blk_drew ?_ | refine blk_alloc ?_ _)); refine blk_put (cs := #[.int .i64 0, .int .i64 0, .int .i64 0, .int .i64 0]) ?_ 0 _ rfl; (with_reducible repeat (first | refine blk_drewN ?_ _ | refine blk_drew ?_ | refine blk_alloc ?_ _)); exact BK147.out⟩
                      have n2_ : Aside0 (Below w.heap.size w ((((w10.setCell ⟨gb147, 0, none⟩ (.int .i64 ((rd_T71 l0 x22_1).f0))).setCell ⟨gb147, 1, none⟩ (.int .i64 ((rd_T71 l0 x22_1).f1))).setCell ⟨gb147, 2, none⟩ (.int .i64 ((rd_T71 l0 x22_1).f2))).setCell ⟨gb147, 3, none⟩ (.int .i64 ((rd_T71 l0 x22_1).f3)))) := ⟨by repeat (first | (with_reducible first | exact HB.out | apply below_alloc | apply pw_below_drewN | apply below_drew1 | refine below_set ?_ GE147.out) | exact HB.out)⟩
                      (try clear HO_4)
                      (try clear BK147)
                      (try clear HB)
                      generalize ((((w10.setCell ⟨gb147, 0, none⟩ (.int .i64 ((rd_T71 l0 x22_1).f0))).setCell ⟨gb147, 1, none⟩ (.int .i64 ((rd_T71 l0 x22_1).f1))).setCell ⟨gb147, 2, none⟩ (.int .i64 ((rd_T71 l0 x22_1).f2))).setCell ⟨gb147, 3, none⟩ (.int .i64 ((rd_T71 l0 x22_1).f3))) = w16 at n0_ n1_ n2_ ⊢
                      have HO_4 := n0_
                      have BK147 := n1_
                      have HB := n2_
                      clear n0_ n1_ n2_
                      have n0_ := Aside0.mk (Kd.R_drew HO_4.out)
                      have n1_ := Aside0.mk (blk_drew BK147.out)
                      have n2_ := Aside0.mk (below_drew1 HB.out)
                      clear HO_4
                      clear BK147
                      clear HB
                      have HO_4 := n0_
                      have BK147 := n1_
                      have HB := n2_
                      clear n0_ n1_ n2_
                      have p149 : 0 ≤ (x22_1 : Int) := of_decide_eq_true (by first | (with_reducible assumption) | assumption)
                      have q149 : x22_1 < (t142.length : Int) := of_decide_eq_true (by first | (with_reducible assumption) | assumption)
                      try (obtain ⟨Ao149, co149, eo149⟩ := Kd.R_slice HO_4.out; subst eo149)
                      obtain ⟨ad149, e149, hx149_0⟩ := Kd.at_int (Kd.R_reads' HO_4.out).2.2 x22_1 p149 q149
                      cases e149
                      replace p149 := eq_true p149
                      replace q149 := eq_true q149
                      refine start_ (n := 14) (S := fun w' => w'.cell? ⟨gb147, 0, none⟩ = some (.int .i64 ((rd_T71 l0 x22_1).f0)) ∧ w'.cell? ⟨gb147, 1, none⟩ = some (.int .i64 ((rd_T71 l0 x22_1).f1)) ∧ w'.cell? ⟨gb147, 2, none⟩ = some (.int .i64 ((rd_T71 l0 x22_1).f2)) ∧ w'.cell? ⟨gb147, 3, none⟩ = some (.int .i64 ((rd_T71 l0 x22_1).f3)) ∧ w'.cell? (ad149.add (x22_1).toNat) = some (.int .i64 (rd t142 x22_1))) (ds := []) #[false, false, false, false, false, false, false, false, false, false, false, false, false, false] (by kernel_rfl) rfl rfl ⟨(blk_cell BK147.out 0).trans rfl, (blk_cell BK147.out 1).trans rfl, (blk_cell BK147.out 2).trans rfl, (blk_cell BK147.out 3).trans rfl, hx149_0⟩ (fun hHeld => ?_); refine with_tabW code_Check.tab10 code_Check.bits10 (fun HT_ HW_ => ?_)
                      generalize w16.drew = w17 at HO_4 BK147 HB hx149_0 hHeld ⊢
                      refine take_ (i := 0) (N := some 27) (v := ?_) (a' := ?_) #[true, false, false, false, false, false, false, false, false, false, false, false, false, false] rfl rfl (take_ofW HT_.out HW_.out (by kernel_rfl)) (fun _ _ _ h => h) (Or.inl ⟨by rfl, ?_⟩) hHeld ?_ ?_
                      rotate_left
                      · rintro w' ⟨s0, s1, s2, s3, s4⟩
                        go_simp
                        with_reducible rfl
                      rotate_left
                      · simp only [Act.put, List.setIfInBounds_toArray, List.set_cons_zero, List.set_cons_succ, i64_w, i32_w]
                        rfl
                      refine one_ (i := 1) (N := some 28) #[true, true, false, false, false, false, false, false, false, false, false, false, false, false] rfl rfl (one_of HT_.out (by kernel_rfl)) (by decide) (fun K hK => ?_)
                      refine goes_ Try.func39 (by kernel_rfl) rfl #[.agg #[.int .i64 ((rd_T71 l0 x22_1).f0), .int .i64 ((rd_T71 l0 x22_1).f1), .int .i64 ((rd_T71 l0 x22_1).f2), .int .i64 ((rd_T71 l0 x22_1).f3)]] (by rfl) rfl rfl (by (try simp only [List.map_toArray, List.map_cons, List.map_nil]); first | done | rfl | (simp only [List.length_drop, List.length_take]; rfl)) ?_
                      with_reducible refine (code_fields.calls k1 ((rd_T71 l0 x22_1).f0) ((rd_T71 l0 x22_1).f1) ((rd_T71 l0 x22_1).f2) ((rd_T71 l0 x22_1).f3) true _ A12.out).mono ?_
                      rintro e w18 ⟨rfl, hb⟩
                      have HS4_ := (hb.cell (World.block_lt_of_cell? _ _ (hHeld.2.2.2.2))).trans (hHeld.2.2.2.2)
                      refine ⟨_, rfl, ?_⟩
                      have n0_ := Aside0.mk (Kd.R_below (by (with_reducible repeat (first | apply Kd.R_alloc | apply Kd.R_drewN | apply Kd.R_drew)); exact HO_4.out) hb)
                      have n1_ := Aside0.mk (blk_below (g := gb147) (o := .cells #[.int .i64 ((rd_T71 l0 x22_1).f0), .int .i64 ((rd_T71 l0 x22_1).f1), .int .i64 ((rd_T71 l0 x22_1).f2), .int .i64 ((rd_T71 l0 x22_1).f3)] 71 (0, 0)) (by (with_reducible repeat (first | refine blk_drewN ?_ _ | refine blk_drew ?_ | refine blk_alloc ?_ _)); exact BK147.out) hb)
                      have n2_ := Aside0.mk (below_step (by repeat (first | (with_reducible first | exact HB.out | apply below_alloc | apply pw_below_drewN | apply below_drew1 | refine below_set ?_ GE147.out) | exact HB.out)) hb)
                      clear HO_4
                      clear BK147
                      clear HB
                      have HO_4 := n0_
                      have BK147 := n1_
                      have HB := n2_
                      clear n0_ n1_ n2_
                      (try clear hb)
                      (try clear hb2)
                      (try clear hk)
                      (try clear hi)
                      obtain ⟨Ao19, co19, eo19⟩ := Kd.R_slice HO_4.out
                      (first | subst eo19 | (injection eo19 with f1_ f2_ f3_; have f4_ := f1_.symm; have f5_ := f3_.symm; clear f1_ f2_ f3_; subst f4_; subst f5_))
                      refine hK.out _ _ ⟨(blk_cell BK147.out 0).trans rfl, (blk_cell BK147.out 1).trans rfl, (blk_cell BK147.out 2).trans rfl, (blk_cell BK147.out 3).trans rfl, HS4_⟩ (fun hHeld => ?_)
                      clear hK K
                      refine norm_ (a' := ?_) ?_ ?_
                      rotate_left
                      · show Act.put _ (some 28) _ = _
                        simp only [Act.put, List.setIfInBounds_toArray, List.set_cons_zero, List.set_cons_succ, i64_w, i32_w]
                        rfl
                      refine pure_ (i := 2) (N := some 29) (v := ?_) (a' := ?_) #[true, true, true, false, false, false, false, false, false, false, false, false, false, false] rfl rfl (any_of HT_.out (by kernel_rfl)) (fun _ _ _ h => h) (Or.inl ⟨by rfl, ?_⟩) ?_ ?_
                      rotate_left
                      · intro w'
                        go_simp
                        with_reducible rfl
                      rotate_left
                      · simp only [Act.put, List.setIfInBounds_toArray, List.set_cons_zero, List.set_cons_succ, i64_w, i32_w]
                        rfl
                      refine pure_ (i := 3) (N := some 30) (v := ?_) (a' := ?_) #[true, true, true, true, false, false, false, false, false, false, false, false, false, false] rfl rfl (any_of HT_.out (by kernel_rfl)) (fun _ _ _ h => h) (Or.inl ⟨by rfl, ?_⟩) ?_ ?_
                      rotate_left
                      · intro w'
                        go_simp
                        with_reducible rfl
                      rotate_left
                      · simp only [Act.put, List.setIfInBounds_toArray, List.set_cons_zero, List.set_cons_succ, i64_w, i32_w]
                        rfl
                      refine pure_ (i := 4) (N := some 31) (v := ?_) (a' := ?_) #[true, true, true, true, true, false, false, false, false, false, false, false, false, false] rfl rfl (any_of HT_.out (by kernel_rfl)) (fun _ _ _ h => h) (Or.inl ⟨by rfl, ?_⟩) ?_ ?_
                      rotate_left
                      · intro w'
                        go_simp
                        with_reducible rfl
                      rotate_left
                      · simp only [Act.put, List.setIfInBounds_toArray, List.set_cons_zero, List.set_cons_succ, i64_w, i32_w]
                        rfl
                      refine pure_ (i := 6) (N := some 33) (v := ?_) (a' := ?_) #[true, true, true, true, true, false, true, false, false, false, false, false, false, false] rfl rfl (any_of HT_.out (by kernel_rfl)) (fun _ _ _ h => h) (Or.inl ⟨by rfl, ?_⟩) ?_ ?_
                      rotate_left
                      · intro w'
                        go_simp
                        with_reducible rfl
                      rotate_left
                      · simp only [Act.put, List.setIfInBounds_toArray, List.set_cons_zero, List.set_cons_succ, i64_w, i32_w]
                        rfl
                      refine pure_ (i := 7) (N := some 34) (v := ?_) (a' := ?_) #[true, true, true, true, true, false, true, true, false, false, false, false, false, false] rfl rfl (any_of HT_.out (by kernel_rfl)) (fun _ _ _ h => h) (Or.inl ⟨by rfl, ?_⟩) ?_ ?_
                      rotate_left
                      · intro w'
                        go_simp
                        with_reducible rfl
                      rotate_left
                      · simp only [Act.put, List.setIfInBounds_toArray, List.set_cons_zero, List.set_cons_succ, i64_w, i32_w]
                        rfl
                      refine pure_ (i := 8) (N := some 35) (v := ?_) (a' := ?_) #[true, true, true, true, true, false, true, true, true, false, false, false, false, false] rfl rfl (any_of HT_.out (by kernel_rfl)) (fun _ _ _ h => h) (Or.inl ⟨by rfl, ?_⟩) ?_ ?_
                      rotate_left
                      · intro w'
                        go_simp
                        with_reducible rfl
                      rotate_left
                      · simp only [Act.put, List.setIfInBounds_toArray, List.set_cons_zero, List.set_cons_succ, i64_w, i32_w]
                        rfl
                      refine take_ (i := 5) (N := some 32) (v := ?_) (a' := ?_) #[true, true, true, true, true, true, true, true, true, false, false, false, false, false] rfl rfl (take_ofW HT_.out HW_.out (by kernel_rfl)) (fun _ _ _ h => h) (Or.inl ⟨by rfl, ?_⟩) hHeld ?_ ?_
                      rotate_left
                      · rintro w' ⟨s0, s1, s2, s3, s4⟩
                        go_simp
                        with_reducible rfl
                      rotate_left
                      · simp only [Act.put, List.setIfInBounds_toArray, List.set_cons_zero, List.set_cons_succ, i64_w, i32_w]
                        rfl
                      refine take_ (i := 9) (N := some 36) (v := ?_) (a' := ?_) #[true, true, true, true, true, true, true, true, true, true, false, false, false, false] rfl rfl (take_ofW HT_.out HW_.out (by kernel_rfl)) (fun _ _ _ h => h) (Or.inl ⟨by rfl, ?_⟩) hHeld ?_ ?_
                      rotate_left
                      · rintro w' ⟨s0, s1, s2, s3, s4⟩
                        go_simp
                        with_reducible rfl
                      rotate_left
                      · simp only [Act.put, List.setIfInBounds_toArray, List.set_cons_zero, List.set_cons_succ, i64_w, i32_w]
                        rfl
                      refine pure_ (i := 10) (N := some 37) (v := ?_) (a' := ?_) #[true, true, true, true, true, true, true, true, true, true, true, false, false, false] rfl rfl (any_of HT_.out (by kernel_rfl)) (fun _ _ _ h => h) (Or.inl ⟨by rfl, ?_⟩) ?_ ?_
                      rotate_left
                      · intro w'
                        go_simp
                        with_reducible rfl
                      rotate_left
                      · simp only [Act.put, List.setIfInBounds_toArray, List.set_cons_zero, List.set_cons_succ, i64_w, i32_w]
                        rfl
                      refine one_ (i := 11) (N := some 38) #[true, true, true, true, true, true, true, true, true, true, true, true, false, false] rfl rfl (one_of HT_.out (by kernel_rfl)) (by decide) (fun K hK => ?_)
                      refine goes_ Try.func40 (by kernel_rfl) rfl #[.int .i64 ((rd_T71 l0 x22_1).f0), .bool (decide ((rd t142 x22_1) ≥ 0))] (by rfl) rfl rfl (by (try simp only [List.map_toArray, List.map_cons, List.map_nil]); first | done | rfl | (simp only [List.length_drop, List.length_take]; rfl)) ?_
                      with_reducible refine (code_placed.calls k1 ((rd_T71 l0 x22_1).f0) (decide ((rd t142 x22_1) ≥ 0)) t150 _ A15.out).mono ?_
                      rintro e w' ⟨rfl, ⟨nd, rfl⟩⟩
                      refine ⟨_, rfl, ?_⟩
                      refine hK.out _ _ ⟨(blk_cell BK147.out 0).trans rfl, (blk_cell BK147.out 1).trans rfl, (blk_cell BK147.out 2).trans rfl, (blk_cell BK147.out 3).trans rfl, hHeld.2.2.2.2⟩ (fun hHeld => ?_)
                      clear hK K
                      refine norm_ (a' := ?_) ?_ ?_
                      rotate_left
                      · show Act.put _ (some 38) _ = _
                        simp only [Act.put, List.setIfInBounds_toArray, List.set_cons_zero, List.set_cons_succ, i64_w, i32_w]
                        rfl
                      refine pure_ (i := 12) (N := some 39) (v := ?_) (a' := ?_) #[true, true, true, true, true, true, true, true, true, true, true, true, true, false] rfl rfl (any_of HT_.out (by kernel_rfl)) (fun _ _ _ h => h) (Or.inl ⟨by rfl, ?_⟩) ?_ ?_
                      rotate_left
                      · intro w'
                        go_simp
                        with_reducible rfl
                      rotate_left
                      · simp only [Act.put, List.setIfInBounds_toArray, List.set_cons_zero, List.set_cons_succ, i64_w, i32_w]
                        rfl
                      refine pure_ (i := 13) (N := some 40) (v := ?_) (a' := ?_) #[true, true, true, true, true, true, true, true, true, true, true, true, true, true] rfl rfl (any_of HT_.out (by kernel_rfl)) (fun _ _ _ h => h) (Or.inl ⟨by rfl, ?_⟩) ?_ ?_
                      rotate_left
                      · intro w'
                        go_simp
                        with_reducible rfl
                      rotate_left
                      · simp only [Act.put, List.setIfInBounds_toArray, List.set_cons_zero, List.set_cons_succ, i64_w, i32_w]
                        rfl
                      refine done_ (done_of HT_.out (by kernel_rfl)) ?_
                      try go_wp2
                      go_meet
                      case rel => exact ⟨_, (!t150), (by first | rfl | (simp; done) | (simp [*]; done)), H', ⟨by have := HK1.out; first | omega | exact Nat.le_refl _⟩, ⟨by (with_reducible repeat (first | apply Kd.R_alloc | apply Kd.R_drewN | apply Kd.R_drew)); exact HO_4.out⟩, ⟨by (with_reducible repeat (first | refine blk_drewN ?_ _ | refine blk_drew ?_ | refine blk_alloc ?_ _)); exact BK147.out⟩, ⟨by repeat (first | (with_reducible first | exact HB.out | apply below_alloc | apply pw_below_drewN | apply below_drew1 | refine below_set ?_ GE147.out) | exact HB.out)⟩⟩
                    · rw [if_neg c14] at H
                      exact absurd H (by simp)
                  · replace c13 := Bool.eq_false_iff.mpr c13
                    subst c13
                    have H1 : (code_Check.j1 k1 l0 t142 x6_1 x7_1 x22_1 l0 (l0.length : Int) x22_1 true ((rd_T71 l0 x22_1).f0) ((rd_T71 l0 x22_1).f1) ((rd_T71 l0 x22_1).f2) ((rd_T71 l0 x22_1).f3)) = some (r1, r2) := by rw [if_neg (show ¬ (false = true) by decide)] at H; exact H
                    clear H
                    have H := H1
                    clear H1
                    have H' := Aside0.mk H
                    clear H
                    try go_wp2
                    have n0_ : Aside0 (Kd.R (Kd.int .i64) 3 ((((w10.setCell ⟨gb147, 0, none⟩ (.int .i64 ((rd_T71 l0 x22_1).f0))).setCell ⟨gb147, 1, none⟩ (.int .i64 ((rd_T71 l0 x22_1).f1))).setCell ⟨gb147, 2, none⟩ (.int .i64 ((rd_T71 l0 x22_1).f2))).setCell ⟨gb147, 3, none⟩ (.int .i64 ((rd_T71 l0 x22_1).f3))) w.heap.size (fun _ => True) v144 t142) := ⟨by (with_reducible repeat (first | apply Kd.R_alloc | apply Kd.R_drewN | apply Kd.R_drew)); exact Kd.R_mono (Kd.R_far (p := ⟨gb147, 3, none⟩) (Kd.R_far (p := ⟨gb147, 2, none⟩) (Kd.R_far (p := ⟨gb147, 1, none⟩) (Kd.R_far (p := ⟨gb147, 0, none⟩) (Kd.R_types HO_4.out BK147.out (by decide)) (fun _ hk => hk.2) (.int .i64 ((rd_T71 l0 x22_1).f0))) (fun _ hk => hk.2) (.int .i64 ((rd_T71 l0 x22_1).f1))) (fun _ hk => hk.2) (.int .i64 ((rd_T71 l0 x22_1).f2))) (fun _ hk => hk.2) (.int .i64 ((rd_T71 l0 x22_1).f3))) (fun _ hk => trivial)⟩
                    have n1_ : Aside0 (((((w10.setCell ⟨gb147, 0, none⟩ (.int .i64 ((rd_T71 l0 x22_1).f0))).setCell ⟨gb147, 1, none⟩ (.int .i64 ((rd_T71 l0 x22_1).f1))).setCell ⟨gb147, 2, none⟩ (.int .i64 ((rd_T71 l0 x22_1).f2))).setCell ⟨gb147, 3, none⟩ (.int .i64 ((rd_T71 l0 x22_1).f3))).heap[gb147]? = some (.cells #[.int .i64 ((rd_T71 l0 x22_1).f0), .int .i64 ((rd_T71 l0 x22_1).f1), .int .i64 ((rd_T71 l0 x22_1).f2), .int .i64 ((rd_T71 l0 x22_1).f3)] 71 (0, 0))) := ⟨by (with_reducible repeat (first | refine blk_drewN ?_ _ | refine blk_drew ?_ | refine blk_alloc ?_ _)); refine blk_put (cs := #[.int .i64 ((rd_T71 l0 x22_1).f0), .int .i64 ((rd_T71 l0 x22_1).f1), .int .i64 ((rd_T71 l0 x22_1).f2), .int .i64 0]) ?_ 3 _ rfl; (with_reducible repeat (first | refine blk_drewN ?_ _ | refine blk_drew ?_ | refine blk_alloc ?_ _)); refine blk_put (cs := #[.int .i64 ((rd_T71 l0 x22_1).f0), .int .i64 ((rd_T71 l0 x22_1).f1), .int .i64 0, .int .i64 0]) ?_ 2 _ rfl; (with_reducible repeat (first | refine blk_drewN ?_ _ | refine blk_drew ?_ | refine blk_alloc ?_ _)); refine blk_put (cs := #[.int .i64 ((rd_T71 l0 x22_1).f0), .int .i64 0, .int .i64 0, .int .i64 0]) ?_ 1 _ rfl; (with_reducible repeat (first | refine blk_drewN ?_ _ | refine blk_drew ?_ | refine blk_alloc ?_ _)); refine blk_put (cs := #[.int .i64 0, .int .i64 0, .int .i64 0, .int .i64 0]) ?_ 0 _ rfl; (with_reducible repeat (first | refine blk_drewN ?_ _ | refine blk_drew ?_ | refine blk_alloc ?_ _)); exact BK147.out⟩
                    have n2_ : Aside0 (Below w.heap.size w ((((w10.setCell ⟨gb147, 0, none⟩ (.int .i64 ((rd_T71 l0 x22_1).f0))).setCell ⟨gb147, 1, none⟩ (.int .i64 ((rd_T71 l0 x22_1).f1))).setCell ⟨gb147, 2, none⟩ (.int .i64 ((rd_T71 l0 x22_1).f2))).setCell ⟨gb147, 3, none⟩ (.int .i64 ((rd_T71 l0 x22_1).f3)))) := ⟨by repeat (first | (with_reducible first | exact HB.out | apply below_alloc | apply pw_below_drewN | apply below_drew1 | refine below_set ?_ GE147.out) | exact HB.out)⟩
                    (try clear HO_4)
                    (try clear BK147)
                    (try clear HB)
                    generalize ((((w10.setCell ⟨gb147, 0, none⟩ (.int .i64 ((rd_T71 l0 x22_1).f0))).setCell ⟨gb147, 1, none⟩ (.int .i64 ((rd_T71 l0 x22_1).f1))).setCell ⟨gb147, 2, none⟩ (.int .i64 ((rd_T71 l0 x22_1).f2))).setCell ⟨gb147, 3, none⟩ (.int .i64 ((rd_T71 l0 x22_1).f3))) = w20 at n0_ n1_ n2_ ⊢
                    have HO_4 := n0_
                    have BK147 := n1_
                    have HB := n2_
                    clear n0_ n1_ n2_
                    have n0_ := Aside0.mk (Kd.R_drew HO_4.out)
                    have n1_ := Aside0.mk (blk_drew BK147.out)
                    have n2_ := Aside0.mk (below_drew1 HB.out)
                    clear HO_4
                    clear BK147
                    clear HB
                    have HO_4 := n0_
                    have BK147 := n1_
                    have HB := n2_
                    clear n0_ n1_ n2_
                    refine start_ (n := 14) (S := fun w' => w'.cell? ⟨gb147, 0, none⟩ = some (.int .i64 ((rd_T71 l0 x22_1).f0)) ∧ w'.cell? ⟨gb147, 1, none⟩ = some (.int .i64 ((rd_T71 l0 x22_1).f1)) ∧ w'.cell? ⟨gb147, 2, none⟩ = some (.int .i64 ((rd_T71 l0 x22_1).f2)) ∧ w'.cell? ⟨gb147, 3, none⟩ = some (.int .i64 ((rd_T71 l0 x22_1).f3))) (ds := []) #[false, false, false, false, false, false, false, false, false, false, false, false, false, false] (by kernel_rfl) rfl rfl ⟨(blk_cell BK147.out 0).trans rfl, (blk_cell BK147.out 1).trans rfl, (blk_cell BK147.out 2).trans rfl, (blk_cell BK147.out 3).trans rfl⟩ (fun hHeld => ?_); refine with_tabW code_Check.tab10 code_Check.bits10 (fun HT_ HW_ => ?_)
                    generalize w20.drew = w21 at HO_4 BK147 HB hHeld ⊢
                    refine take_ (i := 0) (N := some 27) (v := ?_) (a' := ?_) #[true, false, false, false, false, false, false, false, false, false, false, false, false, false] rfl rfl (take_ofW HT_.out HW_.out (by kernel_rfl)) (fun _ _ _ h => h) (Or.inl ⟨by rfl, ?_⟩) hHeld ?_ ?_
                    rotate_left
                    · rintro w' ⟨s0, s1, s2, s3⟩
                      go_simp
                      with_reducible rfl
                    rotate_left
                    · simp only [Act.put, List.setIfInBounds_toArray, List.set_cons_zero, List.set_cons_succ, i64_w, i32_w]
                      rfl
                    refine one_ (i := 1) (N := some 28) #[true, true, false, false, false, false, false, false, false, false, false, false, false, false] rfl rfl (one_of HT_.out (by kernel_rfl)) (by decide) (fun K hK => ?_)
                    refine goes_ Try.func39 (by kernel_rfl) rfl #[.agg #[.int .i64 ((rd_T71 l0 x22_1).f0), .int .i64 ((rd_T71 l0 x22_1).f1), .int .i64 ((rd_T71 l0 x22_1).f2), .int .i64 ((rd_T71 l0 x22_1).f3)]] (by rfl) rfl rfl (by (try simp only [List.map_toArray, List.map_cons, List.map_nil]); first | done | rfl | (simp only [List.length_drop, List.length_take]; rfl)) ?_
                    with_reducible refine (code_fields.calls k1 ((rd_T71 l0 x22_1).f0) ((rd_T71 l0 x22_1).f1) ((rd_T71 l0 x22_1).f2) ((rd_T71 l0 x22_1).f3) false _ A12.out).mono ?_
                    rintro e w22 ⟨rfl, hb⟩
                    refine ⟨_, rfl, ?_⟩
                    have n0_ := Aside0.mk (Kd.R_below (by (with_reducible repeat (first | apply Kd.R_alloc | apply Kd.R_drewN | apply Kd.R_drew)); exact HO_4.out) hb)
                    have n1_ := Aside0.mk (blk_below (g := gb147) (o := .cells #[.int .i64 ((rd_T71 l0 x22_1).f0), .int .i64 ((rd_T71 l0 x22_1).f1), .int .i64 ((rd_T71 l0 x22_1).f2), .int .i64 ((rd_T71 l0 x22_1).f3)] 71 (0, 0)) (by (with_reducible repeat (first | refine blk_drewN ?_ _ | refine blk_drew ?_ | refine blk_alloc ?_ _)); exact BK147.out) hb)
                    have n2_ := Aside0.mk (below_step (by repeat (first | (with_reducible first | exact HB.out | apply below_alloc | apply pw_below_drewN | apply below_drew1 | refine below_set ?_ GE147.out) | exact HB.out)) hb)
                    clear HO_4
                    clear BK147
                    clear HB
                    have HO_4 := n0_
                    have BK147 := n1_
                    have HB := n2_
                    clear n0_ n1_ n2_
                    (try clear hb)
                    (try clear hb2)
                    (try clear hk)
                    (try clear hi)
                    refine hK.out _ _ ⟨(blk_cell BK147.out 0).trans rfl, (blk_cell BK147.out 1).trans rfl, (blk_cell BK147.out 2).trans rfl, (blk_cell BK147.out 3).trans rfl⟩ (fun hHeld => ?_)
                    clear hK K
                    refine norm_ (a' := ?_) ?_ ?_
                    rotate_left
                    · show Act.put _ (some 28) _ = _
                      simp only [Act.put, List.setIfInBounds_toArray, List.set_cons_zero, List.set_cons_succ, i64_w, i32_w]
                      rfl
                    refine pure_ (i := 2) (N := some 29) (v := ?_) (a' := ?_) #[true, true, true, false, false, false, false, false, false, false, false, false, false, false] rfl rfl (any_of HT_.out (by kernel_rfl)) (fun _ _ _ h => h) (Or.inl ⟨by rfl, ?_⟩) ?_ ?_
                    rotate_left
                    · intro w'
                      go_simp
                      with_reducible rfl
                    rotate_left
                    · simp only [Act.put, List.setIfInBounds_toArray, List.set_cons_zero, List.set_cons_succ, i64_w, i32_w]
                      rfl
                    refine pure_ (i := 3) (N := some 30) (v := ?_) (a' := ?_) #[true, true, true, true, false, false, false, false, false, false, false, false, false, false] rfl rfl (any_of HT_.out (by kernel_rfl)) (fun _ _ _ h => h) (Or.inl ⟨by rfl, ?_⟩) ?_ ?_
                    rotate_left
                    · intro w'
                      go_simp
                      with_reducible rfl
                    rotate_left
                    · simp only [Act.put, List.setIfInBounds_toArray, List.set_cons_zero, List.set_cons_succ, i64_w, i32_w]
                      rfl
                    refine pure_ (i := 4) (N := some 31) (v := undef) (a' := ?_) #[true, true, true, true, true, false, false, false, false, false, false, false, false, false] rfl rfl (any_of HT_.out (by kernel_rfl)) (fun _ _ _ h => h) (Or.inr ⟨by rfl, rfl⟩) ?_ ?_
                    rotate_left
                    · simp only [Act.put, List.setIfInBounds_toArray, List.set_cons_zero, List.set_cons_succ, i64_w, i32_w]
                      rfl
                    refine pure_ (i := 5) (N := some 32) (v := undef) (a' := ?_) #[true, true, true, true, true, true, false, false, false, false, false, false, false, false] rfl rfl (any_of HT_.out (by kernel_rfl)) (fun _ _ _ h => h) (Or.inr ⟨by rfl, rfl⟩) ?_ ?_
                    rotate_left
                    · simp only [Act.put, List.setIfInBounds_toArray, List.set_cons_zero, List.set_cons_succ, i64_w, i32_w]
                      rfl
                    refine pure_ (i := 6) (N := some 33) (v := undef) (a' := ?_) #[true, true, true, true, true, true, true, false, false, false, false, false, false, false] rfl rfl (any_of HT_.out (by kernel_rfl)) (fun _ _ _ h => h) (Or.inr ⟨by rfl, rfl⟩) ?_ ?_
                    rotate_left
                    · simp only [Act.put, List.setIfInBounds_toArray, List.set_cons_zero, List.set_cons_succ, i64_w, i32_w]
                      rfl
                    refine pure_ (i := 7) (N := some 34) (v := undef) (a' := ?_) #[true, true, true, true, true, true, true, true, false, false, false, false, false, false] rfl rfl (any_of HT_.out (by kernel_rfl)) (fun _ _ _ h => h) (Or.inr ⟨by rfl, rfl⟩) ?_ ?_
                    rotate_left
                    · simp only [Act.put, List.setIfInBounds_toArray, List.set_cons_zero, List.set_cons_succ, i64_w, i32_w]
                      rfl
                    refine pure_ (i := 8) (N := some 35) (v := undef) (a' := ?_) #[true, true, true, true, true, true, true, true, true, false, false, false, false, false] rfl rfl (any_of HT_.out (by kernel_rfl)) (fun _ _ _ h => h) (Or.inr ⟨by rfl, rfl⟩) ?_ ?_
                    rotate_left
                    · simp only [Act.put, List.setIfInBounds_toArray, List.set_cons_zero, List.set_cons_succ, i64_w, i32_w]
                      rfl
                    refine pure_ (i := 9) (N := some 36) (v := undef) (a' := ?_) #[true, true, true, true, true, true, true, true, true, true, false, false, false, false] rfl rfl (any_of HT_.out (by kernel_rfl)) (fun _ _ _ h => h) (Or.inr ⟨by rfl, rfl⟩) ?_ ?_
                    rotate_left
                    · simp only [Act.put, List.setIfInBounds_toArray, List.set_cons_zero, List.set_cons_succ, i64_w, i32_w]
                      rfl
                    refine pure_ (i := 10) (N := some 37) (v := undef) (a' := ?_) #[true, true, true, true, true, true, true, true, true, true, true, false, false, false] rfl rfl (any_of HT_.out (by kernel_rfl)) (fun _ _ _ h => h) (Or.inr ⟨by rfl, rfl⟩) ?_ ?_
                    rotate_left
                    · simp only [Act.put, List.setIfInBounds_toArray, List.set_cons_zero, List.set_cons_succ, i64_w, i32_w]
                      rfl
                    refine pure_ (i := 11) (N := some 38) (v := undef) (a' := ?_) #[true, true, true, true, true, true, true, true, true, true, true, true, false, false] rfl rfl (any_of HT_.out (by kernel_rfl)) (fun _ _ _ h => h) (Or.inr ⟨by rfl, rfl⟩) ?_ ?_
                    rotate_left
                    · simp only [Act.put, List.setIfInBounds_toArray, List.set_cons_zero, List.set_cons_succ, i64_w, i32_w]
                      rfl
                    refine pure_ (i := 12) (N := some 39) (v := undef) (a' := ?_) #[true, true, true, true, true, true, true, true, true, true, true, true, true, false] rfl rfl (any_of HT_.out (by kernel_rfl)) (fun _ _ _ h => h) (Or.inr ⟨by rfl, rfl⟩) ?_ ?_
                    rotate_left
                    · simp only [Act.put, List.setIfInBounds_toArray, List.set_cons_zero, List.set_cons_succ, i64_w, i32_w]
                      rfl
                    refine pure_ (i := 13) (N := some 40) (v := ?_) (a' := ?_) #[true, true, true, true, true, true, true, true, true, true, true, true, true, true] rfl rfl (any_of HT_.out (by kernel_rfl)) (fun _ _ _ h => h) (Or.inl ⟨by rfl, ?_⟩) ?_ ?_
                    rotate_left
                    · intro w'
                      go_simp
                      with_reducible rfl
                    rotate_left
                    · simp only [Act.put, List.setIfInBounds_toArray, List.set_cons_zero, List.set_cons_succ, i64_w, i32_w]
                      rfl
                    refine done_ (done_of HT_.out (by kernel_rfl)) ?_
                    try go_wp2
                    go_meet
                    case rel => exact ⟨_, (true), (by first | rfl | (simp; done) | (simp [*]; done)), H', ⟨by have := HK1.out; first | omega | exact Nat.le_refl _⟩, ⟨by (with_reducible repeat (first | apply Kd.R_alloc | apply Kd.R_drewN | apply Kd.R_drew)); exact HO_4.out⟩, ⟨by (with_reducible repeat (first | refine blk_drewN ?_ _ | refine blk_drew ?_ | refine blk_alloc ?_ _)); exact BK147.out⟩, ⟨by repeat (first | (with_reducible first | exact HB.out | apply below_alloc | apply pw_below_drewN | apply below_drew1 | refine below_set ?_ GE147.out) | exact HB.out)⟩⟩
                case rest =>
                  clear HC9
                  try clear c1
                  try clear p1
                  try clear q1
                  try clear hx1
                  try clear c2
                  try clear c2b0
                  try clear c2b1
                  try clear p2
                  try clear c3
                  try clear c4
                  try clear c6
                  try clear c6b0
                  try clear c7
                  try clear c7b0
                  try clear c8
                  try clear c8b0
                  try clear c13
                  try clear c14
                  try clear c14b0
                  try clear p14
                  try clear q14
                  try clear hx14
                  try clear hcz11_0
                  try clear hcz11_1
                  try clear hcz11_2
                  try clear hcz11_3
                  try clear hfz11_0
                  try clear hfz11_1
                  try clear hfz11_2
                  try clear hfz11_3
                  try clear hx146_0
                  try clear hx146_1
                  try clear hx146_2
                  try clear hx146_3
                  try clear hx149_0
                  try clear p146
                  try clear p149
                  try clear p2
                  try clear q146
                  try clear q149
                  obtain ⟨kq, x40_8, rfl, HA, HJ8, HO_4, BK147, HB⟩ := hcut
                  cases kq with
                  | zero => exact absurd HA.out (by simp [code_Check.j1])
                  | succ kj8 =>
                    have H := HA.out
                    clear HA
                    simp only [code_Check.j1] at H
                    by_cases c23 : x40_8 = true
                    · subst c23
                      have H1 : (some (x22_1, 11)) = some (r1, r2) := by rw [if_pos rfl] at H; exact H
                      clear H
                      have H := H1
                      clear H1
                      simp only [Option.some.injEq, Prod.mk.injEq] at H
                      obtain ⟨rfl, rfl⟩ := H
                      go_wp2
                      go_ret2
                      exact ⟨by first | rfl | (simp [errW_none, errW_some] <;> rfl) | (simp [*, errW_none, errW_some] <;> rfl), by repeat (first | (with_reducible first | exact HB.out | apply below_alloc | apply pw_below_drewN | apply below_drew1 | refine below_set ?_ GE147.out) | exact HB.out)⟩
                    · replace c23 := Bool.eq_false_iff.mpr c23
                      subst c23
                      have H1 : (if ((rd_T71 l0 x22_1).f0) = 3 then (code_Check.j2 kj8 l0 t142 x6_1 x7_1 x22_1 l0 (l0.length : Int) x22_1 ((rd_T71 l0 x22_1).f0) (((rd_T71 l0 x22_1).f0) == 3) ((rd_T71 l0 x22_1).f0) ((rd_T71 l0 x22_1).f1) ((rd_T71 l0 x22_1).f2) ((rd_T71 l0 x22_1).f3)) else (code_Check.j2 kj8 l0 t142 x6_1 x7_1 x22_1 l0 (l0.length : Int) x22_1 ((rd_T71 l0 x22_1).f0) (((rd_T71 l0 x22_1).f0) == 20) ((rd_T71 l0 x22_1).f0) ((rd_T71 l0 x22_1).f1) ((rd_T71 l0 x22_1).f2) ((rd_T71 l0 x22_1).f3))) = some (r1, r2) := by rw [if_neg (show ¬ (false = true) by decide)] at H; exact H
                      clear H
                      have H := H1
                      clear H1
                      have HC24 := Aside0.mk H
                      clear H
                      have hcz25_0 : wc.cell? ⟨gb147, 0, none⟩ = some (.int .i64 ((rd_T71 l0 x22_1).f0)) := (blk_cell BK147.out 0).trans rfl
                      have hcz25_1 : wc.cell? ⟨gb147, 1, none⟩ = some (.int .i64 ((rd_T71 l0 x22_1).f1)) := (blk_cell BK147.out 1).trans rfl
                      have hcz25_2 : wc.cell? ⟨gb147, 2, none⟩ = some (.int .i64 ((rd_T71 l0 x22_1).f2)) := (blk_cell BK147.out 2).trans rfl
                      have hcz25_3 : wc.cell? ⟨gb147, 3, none⟩ = some (.int .i64 ((rd_T71 l0 x22_1).f3)) := (blk_cell BK147.out 3).trans rfl
                      have hfz25_0 := blk_frozen BK147.out 0
                      have hfz25_1 := blk_frozen BK147.out 1
                      have hfz25_2 := blk_frozen BK147.out 2
                      have hfz25_3 := blk_frozen BK147.out 3
                      go_upto_block 2 with (fail)
                      go_cut [6, 7] (fun v6 v7 wc => ∃ (kq : Nat) (x6_23 : Bool) (x7_23 : Int), v6 = .bool x6_23 ∧ v7 = .int .i64 x7_23 ∧ Aside0 (code_Check.j3 kq l0 t142 x6_23 x7_23 x22_1 l0 (l0.length : Int) x22_1 ((rd_T71 l0 x22_1).f0) ((rd_T71 l0 x22_1).f1) ((rd_T71 l0 x22_1).f2) ((rd_T71 l0 x22_1).f3) = some (r1, r2)) ∧ Aside0 (kq ≤ kj8) ∧ Aside0 (Kd.R (Kd.int .i64) 3 wc w.heap.size (fun _ => True) v144 t142) ∧ Aside0 (wc.heap[gb147]? = some (.cells #[.int .i64 ((rd_T71 l0 x22_1).f0), .int .i64 ((rd_T71 l0 x22_1).f1), .int .i64 ((rd_T71 l0 x22_1).f2), .int .i64 ((rd_T71 l0 x22_1).f3)] 71 (0, 0))) ∧ Aside0 (Below w.heap.size w wc))
                      case first =>
                        have H := HC24.out
                        clear HC24
                        have HC26 := Aside0.mk H
                        clear H
                        go_upto_if 44 with (fail)
                        go_cut [44] (fun v44 wc => ∃ (kq : Nat) (x44_25 : Bool), v44 = .bool x44_25 ∧ Aside0 (code_Check.j2 kq l0 t142 x6_1 x7_1 x22_1 l0 (l0.length : Int) x22_1 ((rd_T71 l0 x22_1).f0) x44_25 ((rd_T71 l0 x22_1).f0) ((rd_T71 l0 x22_1).f1) ((rd_T71 l0 x22_1).f2) ((rd_T71 l0 x22_1).f3) = some (r1, r2)) ∧ Aside0 (kq ≤ kj8) ∧ Aside0 (Kd.R (Kd.int .i64) 3 wc w.heap.size (fun _ => True) v144 t142) ∧ Aside0 (wc.heap[gb147]? = some (.cells #[.int .i64 ((rd_T71 l0 x22_1).f0), .int .i64 ((rd_T71 l0 x22_1).f1), .int .i64 ((rd_T71 l0 x22_1).f2), .int .i64 ((rd_T71 l0 x22_1).f3)] 71 (0, 0))) ∧ Aside0 (Below w.heap.size w wc))
                        case first =>
                          have H := HC26.out
                          clear HC26
                          by_cases c27 : ((rd_T71 l0 x22_1).f0) = 3
                          · rw [if_pos c27] at H
                            have c27b0 : (((rd_T71 l0 x22_1).f0) == 3) = true := beq_iff_eq.mpr c27
                            have c27b1 : (((rd_T71 l0 x22_1).f0) != 3) = false := bne_eq_false_iff_eq.mpr c27
                            clear c27
                            (first | rw [c27b0] | (simp only [i64_w, i32_w]; rw [c27b0]) | skip)
                            have H' := Aside0.mk H
                            clear H
                            go_wp2
                            go_meet
                            case rel => exact ⟨_, ((((rd_T71 l0 x22_1).f0) == 3)), (by first | rfl | (simp; done) | (simp [*]; done)), H', ⟨by have := HK1.out; have := HJ8.out; first | omega | exact Nat.le_refl _⟩, ⟨by (with_reducible repeat (first | apply Kd.R_alloc | apply Kd.R_drewN | apply Kd.R_drew)); exact HO_4.out⟩, ⟨by (with_reducible repeat (first | refine blk_drewN ?_ _ | refine blk_drew ?_ | refine blk_alloc ?_ _)); exact BK147.out⟩, ⟨by repeat (first | (with_reducible first | exact HB.out | apply below_alloc | apply pw_below_drewN | apply below_drew1 | refine below_set ?_ GE147.out) | exact HB.out)⟩⟩
                          · rw [if_neg c27] at H
                            have c27b0 : (((rd_T71 l0 x22_1).f0) == 3) = false := beq_eq_false_iff_ne.mpr c27
                            have c27b1 : (((rd_T71 l0 x22_1).f0) != 3) = true := bne_iff_ne.mpr c27
                            (first | rw [c27b0] | (simp only [i64_w, i32_w]; rw [c27b0]) | skip)
                            have H' := Aside0.mk H
                            clear H
                            go_wp2
                            go_meet
                            case rel => exact ⟨_, ((((rd_T71 l0 x22_1).f0) == 20)), (by first | rfl | (simp; done) | (simp [*]; done)), H', ⟨by have := HK1.out; have := HJ8.out; first | omega | exact Nat.le_refl _⟩, ⟨by (with_reducible repeat (first | apply Kd.R_alloc | apply Kd.R_drewN | apply Kd.R_drew)); exact HO_4.out⟩, ⟨by (with_reducible repeat (first | refine blk_drewN ?_ _ | refine blk_drew ?_ | refine blk_alloc ?_ _)); exact BK147.out⟩, ⟨by repeat (first | (with_reducible first | exact HB.out | apply below_alloc | apply pw_below_drewN | apply below_drew1 | refine below_set ?_ GE147.out) | exact HB.out)⟩⟩
                        case rest =>
                          clear HC26
                          try clear c1
                          try clear p1
                          try clear q1
                          try clear hx1
                          try clear c2
                          try clear c2b0
                          try clear c2b1
                          try clear p2
                          try clear c3
                          try clear c4
                          try clear c6
                          try clear c6b0
                          try clear c7
                          try clear c7b0
                          try clear c8
                          try clear c8b0
                          try clear c13
                          try clear c14
                          try clear c14b0
                          try clear p14
                          try clear q14
                          try clear hx14
                          try clear c23
                          try clear c27
                          try clear c27b0
                          try clear c27b1
                          try clear hcz11_0
                          try clear hcz11_1
                          try clear hcz11_2
                          try clear hcz11_3
                          try clear hcz25_0
                          try clear hcz25_1
                          try clear hcz25_2
                          try clear hcz25_3
                          try clear hfz11_0
                          try clear hfz11_1
                          try clear hfz11_2
                          try clear hfz11_3
                          try clear hfz25_0
                          try clear hfz25_1
                          try clear hfz25_2
                          try clear hfz25_3
                          try clear hx146_0
                          try clear hx146_1
                          try clear hx146_2
                          try clear hx146_3
                          try clear hx149_0
                          try clear p1
                          try clear p14
                          try clear p146
                          try clear p149
                          try clear p2
                          try clear q1
                          try clear q14
                          try clear q146
                          try clear q149
                          obtain ⟨kq, x44_25, rfl, HA, HJ25, HO_4, BK147, HB⟩ := hcut
                          cases kq with
                          | zero => exact absurd HA.out (by simp [code_Check.j2])
                          | succ kj25 =>
                            have H := HA.out
                            clear HA
                            simp only [code_Check.j2] at H
                            by_cases c28 : x44_25 = true
                            · subst c28
                              have H1 : ((code_lands.f kj25 l0 t142 x22_1).bind fun t151 => (if t151 = true then (code_Check.j3 kj25 l0 t142 x6_1 x7_1 x22_1 l0 (l0.length : Int) x22_1 ((rd_T71 l0 x22_1).f0) ((rd_T71 l0 x22_1).f1) ((rd_T71 l0 x22_1).f2) ((rd_T71 l0 x22_1).f3)) else (some (x22_1, 11)))) = some (r1, r2) := by rw [if_pos rfl] at H; exact H
                              clear H
                              have H := H1
                              clear H1
                              replace H := Option.bind_eq_some_iff.mp H
                              obtain ⟨t151, A290, H⟩ := H
                              replace H : (if t151 = true then (code_Check.j3 kj25 l0 t142 x6_1 x7_1 x22_1 l0 (l0.length : Int) x22_1 ((rd_T71 l0 x22_1).f0) ((rd_T71 l0 x22_1).f1) ((rd_T71 l0 x22_1).f2) ((rd_T71 l0 x22_1).f3)) else (some (x22_1, 11))) = some (r1, r2) := H
                              have A29 := Aside0.mk A290
                              clear A290
                              by_cases c30 : t151 = true
                              · subst c30
                                have H1 : (code_Check.j3 kj25 l0 t142 x6_1 x7_1 x22_1 l0 (l0.length : Int) x22_1 ((rd_T71 l0 x22_1).f0) ((rd_T71 l0 x22_1).f1) ((rd_T71 l0 x22_1).f2) ((rd_T71 l0 x22_1).f3)) = some (r1, r2) := by rw [if_pos rfl] at H; exact H
                                clear H
                                have H := H1
                                clear H1
                                have H' := Aside0.mk H
                                clear H
                                obtain ⟨Ao31, co31, eo31⟩ := Kd.R_slice HO_4.out
                                subst eo31
                                go_wp2_with (first | ((with_reducible refine gate_callee (f := 41) rfl ?_); refine goesL_ (some 50) rfl rfl Try.func41 (by kernel_rfl) rfl #[.slice (some ad146) l0.length c0, .slice Ao31 t142.length co31, .int .i64 x22_1] rfl (by (try simp only [List.map_toArray, List.map_cons, List.map_nil]); first | done | rfl | (simp only [List.length_drop, List.length_take]; rfl)) ?_; (with_reducible refine (code_lands.calls kj25 _ _ l0 _ _ t142 x22_1 true _ ?side1 ?side2 ?side3 ?side4 A29.out).mono ?_); (case side1 => repeat (first | exact (Kd.C_below HR0.out HB.out) | (with_reducible refine Kd.C_alloc ?_ _) | (with_reducible refine Kd.C_drewN ?_ _) | (with_reducible refine Kd.C_drew ?_))); (case side2 => exact HC0.out); (case side3 => repeat (first | exact (Kd.R_reads' HO_4.out).2.2 | (with_reducible refine Kd.C_alloc ?_ _) | (with_reducible refine Kd.C_drewN ?_ _) | (with_reducible refine Kd.C_drew ?_))); (case side4 => exact (Kd.R_reads' HO_4.out).2.1); rintro e w' ⟨rfl, ⟨nd, rfl⟩⟩; refine ⟨_, rfl, ?_⟩))
                                go_meet
                                case rel => exact ⟨_, (x6_1), (x7_1), (by first | rfl | (simp; done) | (simp [*]; done)), (by first | rfl | (simp; done) | (simp [*]; done)), H', ⟨by have := HK1.out; have := HJ8.out; have := HJ25.out; first | omega | exact Nat.le_refl _⟩, ⟨by (with_reducible repeat (first | apply Kd.R_alloc | apply Kd.R_drewN | apply Kd.R_drew)); exact HO_4.out⟩, ⟨by (with_reducible repeat (first | refine blk_drewN ?_ _ | refine blk_drew ?_ | refine blk_alloc ?_ _)); exact BK147.out⟩, ⟨by repeat (first | (with_reducible first | exact HB.out | apply below_alloc | apply pw_below_drewN | apply below_drew1 | refine below_set ?_ GE147.out) | exact HB.out)⟩⟩
                              · replace c30 := Bool.eq_false_iff.mpr c30
                                subst c30
                                have H1 : (some (x22_1, 11)) = some (r1, r2) := by rw [if_neg (show ¬ (false = true) by decide)] at H; exact H
                                clear H
                                have H := H1
                                clear H1
                                simp only [Option.some.injEq, Prod.mk.injEq] at H
                                obtain ⟨rfl, rfl⟩ := H
                                obtain ⟨Ao32, co32, eo32⟩ := Kd.R_slice HO_4.out
                                subst eo32
                                go_wp2_with (first | ((with_reducible refine gate_callee (f := 41) rfl ?_); refine goesL_ (some 50) rfl rfl Try.func41 (by kernel_rfl) rfl #[.slice (some ad146) l0.length c0, .slice Ao32 t142.length co32, .int .i64 x22_1] rfl (by (try simp only [List.map_toArray, List.map_cons, List.map_nil]); first | done | rfl | (simp only [List.length_drop, List.length_take]; rfl)) ?_; (with_reducible refine (code_lands.calls kj25 _ _ l0 _ _ t142 x22_1 false _ ?side1 ?side2 ?side3 ?side4 A29.out).mono ?_); (case side1 => repeat (first | exact (Kd.C_below HR0.out HB.out) | (with_reducible refine Kd.C_alloc ?_ _) | (with_reducible refine Kd.C_drewN ?_ _) | (with_reducible refine Kd.C_drew ?_))); (case side2 => exact HC0.out); (case side3 => repeat (first | exact (Kd.R_reads' HO_4.out).2.2 | (with_reducible refine Kd.C_alloc ?_ _) | (with_reducible refine Kd.C_drewN ?_ _) | (with_reducible refine Kd.C_drew ?_))); (case side4 => exact (Kd.R_reads' HO_4.out).2.1); rintro e w' ⟨rfl, ⟨nd, rfl⟩⟩; refine ⟨_, rfl, ?_⟩))
                                go_ret2
                                exact ⟨by first | rfl | (simp [errW_none, errW_some] <;> rfl) | (simp [*, errW_none, errW_some] <;> rfl), by repeat (first | (with_reducible first | exact HB.out | apply below_alloc | apply pw_below_drewN | apply below_drew1 | refine below_set ?_ GE147.out) | exact HB.out)⟩
                            · replace c28 := Bool.eq_false_iff.mpr c28
                              subst c28
                              have H1 : (if ((rd_T71 l0 x22_1).f0) = 4 then (code_Check.j3 kj25 l0 t142 false 0 x22_1 l0 (l0.length : Int) x22_1 ((rd_T71 l0 x22_1).f0) ((rd_T71 l0 x22_1).f1) ((rd_T71 l0 x22_1).f2) ((rd_T71 l0 x22_1).f3)) else (code_Check.j3 kj25 l0 t142 x6_1 x7_1 x22_1 l0 (l0.length : Int) x22_1 ((rd_T71 l0 x22_1).f0) ((rd_T71 l0 x22_1).f1) ((rd_T71 l0 x22_1).f2) ((rd_T71 l0 x22_1).f3))) = some (r1, r2) := by rw [if_neg (show ¬ (false = true) by decide)] at H; exact H
                              clear H
                              have H := H1
                              clear H1
                              by_cases c33 : ((rd_T71 l0 x22_1).f0) = 4
                              · rw [if_pos c33] at H
                                have c33b0 : (((rd_T71 l0 x22_1).f0) == 4) = true := beq_iff_eq.mpr c33
                                have c33b1 : (((rd_T71 l0 x22_1).f0) != 4) = false := bne_eq_false_iff_eq.mpr c33
                                clear c33
                                have H' := Aside0.mk H
                                clear H
                                go_wp2
                                go_meet
                                case rel => exact ⟨_, (false), (0), (by first | rfl | (simp; done) | (simp [*]; done)), (by first | rfl | (simp; done) | (simp [*]; done)), H', ⟨by have := HK1.out; have := HJ8.out; have := HJ25.out; first | omega | exact Nat.le_refl _⟩, ⟨by (with_reducible repeat (first | apply Kd.R_alloc | apply Kd.R_drewN | apply Kd.R_drew)); exact HO_4.out⟩, ⟨by (with_reducible repeat (first | refine blk_drewN ?_ _ | refine blk_drew ?_ | refine blk_alloc ?_ _)); exact BK147.out⟩, ⟨by repeat (first | (with_reducible first | exact HB.out | apply below_alloc | apply pw_below_drewN | apply below_drew1 | refine below_set ?_ GE147.out) | exact HB.out)⟩⟩
                              · rw [if_neg c33] at H
                                have c33b0 : (((rd_T71 l0 x22_1).f0) == 4) = false := beq_eq_false_iff_ne.mpr c33
                                have c33b1 : (((rd_T71 l0 x22_1).f0) != 4) = true := bne_iff_ne.mpr c33
                                have H' := Aside0.mk H
                                clear H
                                go_wp2
                                go_meet
                                case rel => exact ⟨_, (x6_1), (x7_1), (by first | rfl | (simp; done) | (simp [*]; done)), (by first | rfl | (simp; done) | (simp [*]; done)), H', ⟨by have := HK1.out; have := HJ8.out; have := HJ25.out; first | omega | exact Nat.le_refl _⟩, ⟨by (with_reducible repeat (first | apply Kd.R_alloc | apply Kd.R_drewN | apply Kd.R_drew)); exact HO_4.out⟩, ⟨by (with_reducible repeat (first | refine blk_drewN ?_ _ | refine blk_drew ?_ | refine blk_alloc ?_ _)); exact BK147.out⟩, ⟨by repeat (first | (with_reducible first | exact HB.out | apply below_alloc | apply pw_below_drewN | apply below_drew1 | refine below_set ?_ GE147.out) | exact HB.out)⟩⟩
                      case rest =>
                        clear HC24
                        try clear c1
                        try clear p1
                        try clear q1
                        try clear hx1
                        try clear c2
                        try clear c2b0
                        try clear c2b1
                        try clear p2
                        try clear c3
                        try clear c4
                        try clear c6
                        try clear c6b0
                        try clear c7
                        try clear c7b0
                        try clear c8
                        try clear c8b0
                        try clear c13
                        try clear c14
                        try clear c14b0
                        try clear p14
                        try clear q14
                        try clear hx14
                        try clear c23
                        try clear c27
                        try clear c27b0
                        try clear c27b1
                        try clear c28
                        try clear c30
                        try clear c33
                        try clear c33b0
                        try clear c33b1
                        try clear hcz11_0
                        try clear hcz11_1
                        try clear hcz11_2
                        try clear hcz11_3
                        try clear hcz25_0
                        try clear hcz25_1
                        try clear hcz25_2
                        try clear hcz25_3
                        try clear hfz11_0
                        try clear hfz11_1
                        try clear hfz11_2
                        try clear hfz11_3
                        try clear hfz25_0
                        try clear hfz25_1
                        try clear hfz25_2
                        try clear hfz25_3
                        try clear hx146_0
                        try clear hx146_1
                        try clear hx146_2
                        try clear hx146_3
                        try clear hx149_0
                        try clear p1
                        try clear p14
                        try clear p146
                        try clear p149
                        try clear p2
                        try clear q1
                        try clear q14
                        try clear q146
                        try clear q149
                        obtain ⟨kq, x6_23, x7_23, rfl, rfl, HA, HJ23, HO_4, BK147, HB⟩ := hcut
                        cases kq with
                        | zero => exact absurd HA.out (by simp [code_Check.j3])
                        | succ kj23 =>
                          have H := HA.out
                          clear HA
                          simp only [code_Check.j3] at H
                          have HC34 := Aside0.mk H
                          clear H
                          have hcz35_0 : wc.cell? ⟨gb147, 0, none⟩ = some (.int .i64 ((rd_T71 l0 x22_1).f0)) := (blk_cell BK147.out 0).trans rfl
                          have hcz35_1 : wc.cell? ⟨gb147, 1, none⟩ = some (.int .i64 ((rd_T71 l0 x22_1).f1)) := (blk_cell BK147.out 1).trans rfl
                          have hcz35_2 : wc.cell? ⟨gb147, 2, none⟩ = some (.int .i64 ((rd_T71 l0 x22_1).f2)) := (blk_cell BK147.out 2).trans rfl
                          have hcz35_3 : wc.cell? ⟨gb147, 3, none⟩ = some (.int .i64 ((rd_T71 l0 x22_1).f3)) := (blk_cell BK147.out 3).trans rfl
                          have hfz35_0 := blk_frozen BK147.out 0
                          have hfz35_1 := blk_frozen BK147.out 1
                          have hfz35_2 := blk_frozen BK147.out 2
                          have hfz35_3 := blk_frozen BK147.out 3
                          go_upto_if 57 with (fail)
                          go_cut [7] (fun v7 wc => ∃ (kq : Nat) (x7_33 : Int), v7 = .int .i64 x7_33 ∧ Aside0 (code_Check.j4 kq l0 t142 x6_23 x7_33 x22_1 l0 (l0.length : Int) x22_1 ((rd_T71 l0 x22_1).f0) ((rd_T71 l0 x22_1).f1) ((rd_T71 l0 x22_1).f2) ((rd_T71 l0 x22_1).f3) = some (r1, r2)) ∧ Aside0 (kq ≤ kj23) ∧ Aside0 (Kd.R (Kd.int .i64) 3 wc w.heap.size (fun _ => True) v144 t142) ∧ Aside0 (wc.heap[gb147]? = some (.cells #[.int .i64 ((rd_T71 l0 x22_1).f0), .int .i64 ((rd_T71 l0 x22_1).f1), .int .i64 ((rd_T71 l0 x22_1).f2), .int .i64 ((rd_T71 l0 x22_1).f3)] 71 (0, 0))) ∧ Aside0 (Below w.heap.size w wc))
                          case first =>
                            have H := HC34.out
                            clear HC34
                            by_cases c36 : ((rd_T71 l0 x22_1).f0) = 20
                            · rw [if_pos c36] at H
                              have c36b0 : (((rd_T71 l0 x22_1).f0) == 20) = true := beq_iff_eq.mpr c36
                              have c36b1 : (((rd_T71 l0 x22_1).f0) != 20) = false := bne_eq_false_iff_eq.mpr c36
                              clear c36
                              (first | rw [c36b0] | (simp only [i64_w, i32_w]; rw [c36b0]) | skip)
                              have H' := Aside0.mk H
                              clear H
                              go_wp2
                              go_meet
                              case rel => exact ⟨_, (wrap64 (x7_23 + 1)), (by first | rfl | (simp; done) | (simp [*]; done)), H', ⟨by have := HK1.out; have := HJ8.out; have := HJ23.out; first | omega | exact Nat.le_refl _⟩, ⟨by (with_reducible repeat (first | apply Kd.R_alloc | apply Kd.R_drewN | apply Kd.R_drew)); exact HO_4.out⟩, ⟨by (with_reducible repeat (first | refine blk_drewN ?_ _ | refine blk_drew ?_ | refine blk_alloc ?_ _)); exact BK147.out⟩, ⟨by repeat (first | (with_reducible first | exact HB.out | apply below_alloc | apply pw_below_drewN | apply below_drew1 | refine below_set ?_ GE147.out) | exact HB.out)⟩⟩
                            · rw [if_neg c36] at H
                              have c36b0 : (((rd_T71 l0 x22_1).f0) == 20) = false := beq_eq_false_iff_ne.mpr c36
                              have c36b1 : (((rd_T71 l0 x22_1).f0) != 20) = true := bne_iff_ne.mpr c36
                              (first | rw [c36b0] | (simp only [i64_w, i32_w]; rw [c36b0]) | skip)
                              have H' := Aside0.mk H
                              clear H
                              go_wp2
                              go_meet
                              case rel => exact ⟨_, (x7_23), (by first | rfl | (simp; done) | (simp [*]; done)), H', ⟨by have := HK1.out; have := HJ8.out; have := HJ23.out; first | omega | exact Nat.le_refl _⟩, ⟨by (with_reducible repeat (first | apply Kd.R_alloc | apply Kd.R_drewN | apply Kd.R_drew)); exact HO_4.out⟩, ⟨by (with_reducible repeat (first | refine blk_drewN ?_ _ | refine blk_drew ?_ | refine blk_alloc ?_ _)); exact BK147.out⟩, ⟨by repeat (first | (with_reducible first | exact HB.out | apply below_alloc | apply pw_below_drewN | apply below_drew1 | refine below_set ?_ GE147.out) | exact HB.out)⟩⟩
                          case rest =>
                            clear HC34
                            try clear c1
                            try clear p1
                            try clear q1
                            try clear hx1
                            try clear c2
                            try clear c2b0
                            try clear c2b1
                            try clear p2
                            try clear c3
                            try clear c4
                            try clear c6
                            try clear c6b0
                            try clear p6
                            try clear c7
                            try clear c7b0
                            try clear c8
                            try clear c8b0
                            try clear c13
                            try clear c14
                            try clear c14b0
                            try clear p14
                            try clear q14
                            try clear hx14
                            try clear c23
                            try clear c27
                            try clear c27b0
                            try clear c27b1
                            try clear c28
                            try clear c30
                            try clear c33
                            try clear c33b0
                            try clear c33b1
                            try clear c36
                            try clear c36b0
                            try clear c36b1
                            try clear hcz11_0
                            try clear hcz11_1
                            try clear hcz11_2
                            try clear hcz11_3
                            try clear hcz25_0
                            try clear hcz25_1
                            try clear hcz25_2
                            try clear hcz25_3
                            try clear hcz35_0
                            try clear hcz35_1
                            try clear hcz35_2
                            try clear hcz35_3
                            try clear hfz11_0
                            try clear hfz11_1
                            try clear hfz11_2
                            try clear hfz11_3
                            try clear hfz25_0
                            try clear hfz25_1
                            try clear hfz25_2
                            try clear hfz25_3
                            try clear hfz35_0
                            try clear hfz35_1
                            try clear hfz35_2
                            try clear hfz35_3
                            try clear hx146_0
                            try clear hx146_1
                            try clear hx146_2
                            try clear hx146_3
                            try clear hx149_0
                            try clear p1
                            try clear p14
                            try clear p146
                            try clear p149
                            try clear p2
                            try clear q1
                            try clear q14
                            try clear q146
                            try clear q149
                            obtain ⟨kq, x7_33, rfl, HA, HJ33, HO_4, BK147, HB⟩ := hcut
                            cases kq with
                            | zero => exact absurd HA.out (by simp [code_Check.j4])
                            | succ kj33 =>
                              have H := HA.out
                              clear HA
                              simp only [code_Check.j4] at H
                              by_cases c37 : x7_33 > 3
                              · rw [if_pos c37] at H
                                have c37b0 : decide (3 < x7_33) = true := decide_eq_true c37
                                clear c37
                                simp only [Option.some.injEq, Prod.mk.injEq] at H
                                obtain ⟨rfl, rfl⟩ := H
                                go_wp2
                                go_ret2
                                exact ⟨by first | rfl | (simp [errW_none, errW_some] <;> rfl) | (simp [*, errW_none, errW_some] <;> rfl), by repeat (first | (with_reducible first | exact HB.out | apply below_alloc | apply pw_below_drewN | apply below_drew1 | refine below_set ?_ GE147.out) | exact HB.out)⟩
                              · rw [if_neg c37] at H
                                have c37b0 : decide (3 < x7_33) = false := decide_eq_false c37
                                clear c37
                                by_cases c38 : x6_23 = true
                                · subst c38
                                  have H1 : (if ((rd_T71 l0 x22_1).f0) = 14 then (some (x22_1, 11)) else (if ((rd_T71 l0 x22_1).f0) = 19 then (some (x22_1, 11)) else (if ((rd_T71 l0 x22_1).f0) = 20 then (some (x22_1, 11)) else (if ((rd_T71 l0 x22_1).f0) = 21 then (some (x22_1, 11)) else (code_Check.l0 kj33 l0 t142 true x7_33 l0 (l0.length : Int) (wrap64 (x22_1 + 1))))))) = some (r1, r2) := by rw [if_pos rfl] at H; exact H
                                  clear H
                                  have H := H1
                                  clear H1
                                  by_cases c39 : ((rd_T71 l0 x22_1).f0) = 14
                                  · rw [if_pos c39] at H
                                    have c39b0 : (((rd_T71 l0 x22_1).f0) == 14) = true := beq_iff_eq.mpr c39
                                    have c39b1 : (((rd_T71 l0 x22_1).f0) != 14) = false := bne_eq_false_iff_eq.mpr c39
                                    clear c39
                                    simp only [Option.some.injEq, Prod.mk.injEq] at H
                                    obtain ⟨rfl, rfl⟩ := H
                                    have hcz40_0 : wc.cell? ⟨gb147, 0, none⟩ = some (.int .i64 ((rd_T71 l0 x22_1).f0)) := (blk_cell BK147.out 0).trans rfl
                                    have hcz40_1 : wc.cell? ⟨gb147, 1, none⟩ = some (.int .i64 ((rd_T71 l0 x22_1).f1)) := (blk_cell BK147.out 1).trans rfl
                                    have hcz40_2 : wc.cell? ⟨gb147, 2, none⟩ = some (.int .i64 ((rd_T71 l0 x22_1).f2)) := (blk_cell BK147.out 2).trans rfl
                                    have hcz40_3 : wc.cell? ⟨gb147, 3, none⟩ = some (.int .i64 ((rd_T71 l0 x22_1).f3)) := (blk_cell BK147.out 3).trans rfl
                                    have hfz40_0 := blk_frozen BK147.out 0
                                    have hfz40_1 := blk_frozen BK147.out 1
                                    have hfz40_2 := blk_frozen BK147.out 2
                                    have hfz40_3 := blk_frozen BK147.out 3
                                    go_wp2
                                    go_ret2
                                    exact ⟨by first | rfl | (simp [errW_none, errW_some] <;> rfl) | (simp [*, errW_none, errW_some] <;> rfl), by repeat (first | (with_reducible first | exact HB.out | apply below_alloc | apply pw_below_drewN | apply below_drew1 | refine below_set ?_ GE147.out) | exact HB.out)⟩
                                  · rw [if_neg c39] at H
                                    have c39b0 : (((rd_T71 l0 x22_1).f0) == 14) = false := beq_eq_false_iff_ne.mpr c39
                                    have c39b1 : (((rd_T71 l0 x22_1).f0) != 14) = true := bne_iff_ne.mpr c39
                                    by_cases c41 : ((rd_T71 l0 x22_1).f0) = 19
                                    · rw [if_pos c41] at H
                                      have c41b0 : (((rd_T71 l0 x22_1).f0) == 19) = true := beq_iff_eq.mpr c41
                                      have c41b1 : (((rd_T71 l0 x22_1).f0) != 19) = false := bne_eq_false_iff_eq.mpr c41
                                      clear c41
                                      simp only [Option.some.injEq, Prod.mk.injEq] at H
                                      obtain ⟨rfl, rfl⟩ := H
                                      have hcz42_0 : wc.cell? ⟨gb147, 0, none⟩ = some (.int .i64 ((rd_T71 l0 x22_1).f0)) := (blk_cell BK147.out 0).trans rfl
                                      have hcz42_1 : wc.cell? ⟨gb147, 1, none⟩ = some (.int .i64 ((rd_T71 l0 x22_1).f1)) := (blk_cell BK147.out 1).trans rfl
                                      have hcz42_2 : wc.cell? ⟨gb147, 2, none⟩ = some (.int .i64 ((rd_T71 l0 x22_1).f2)) := (blk_cell BK147.out 2).trans rfl
                                      have hcz42_3 : wc.cell? ⟨gb147, 3, none⟩ = some (.int .i64 ((rd_T71 l0 x22_1).f3)) := (blk_cell BK147.out 3).trans rfl
                                      have hfz42_0 := blk_frozen BK147.out 0
                                      have hfz42_1 := blk_frozen BK147.out 1
                                      have hfz42_2 := blk_frozen BK147.out 2
                                      have hfz42_3 := blk_frozen BK147.out 3
                                      go_wp2
                                      go_ret2
                                      exact ⟨by first | rfl | (simp [errW_none, errW_some] <;> rfl) | (simp [*, errW_none, errW_some] <;> rfl), by repeat (first | (with_reducible first | exact HB.out | apply below_alloc | apply pw_below_drewN | apply below_drew1 | refine below_set ?_ GE147.out) | exact HB.out)⟩
                                    · rw [if_neg c41] at H
                                      have c41b0 : (((rd_T71 l0 x22_1).f0) == 19) = false := beq_eq_false_iff_ne.mpr c41
                                      have c41b1 : (((rd_T71 l0 x22_1).f0) != 19) = true := bne_iff_ne.mpr c41
                                      by_cases c43 : ((rd_T71 l0 x22_1).f0) = 20
                                      · rw [if_pos c43] at H
                                        have c43b0 : (((rd_T71 l0 x22_1).f0) == 20) = true := beq_iff_eq.mpr c43
                                        have c43b1 : (((rd_T71 l0 x22_1).f0) != 20) = false := bne_eq_false_iff_eq.mpr c43
                                        clear c43
                                        simp only [Option.some.injEq, Prod.mk.injEq] at H
                                        obtain ⟨rfl, rfl⟩ := H
                                        have hcz44_0 : wc.cell? ⟨gb147, 0, none⟩ = some (.int .i64 ((rd_T71 l0 x22_1).f0)) := (blk_cell BK147.out 0).trans rfl
                                        have hcz44_1 : wc.cell? ⟨gb147, 1, none⟩ = some (.int .i64 ((rd_T71 l0 x22_1).f1)) := (blk_cell BK147.out 1).trans rfl
                                        have hcz44_2 : wc.cell? ⟨gb147, 2, none⟩ = some (.int .i64 ((rd_T71 l0 x22_1).f2)) := (blk_cell BK147.out 2).trans rfl
                                        have hcz44_3 : wc.cell? ⟨gb147, 3, none⟩ = some (.int .i64 ((rd_T71 l0 x22_1).f3)) := (blk_cell BK147.out 3).trans rfl
                                        have hfz44_0 := blk_frozen BK147.out 0
                                        have hfz44_1 := blk_frozen BK147.out 1
                                        have hfz44_2 := blk_frozen BK147.out 2
                                        have hfz44_3 := blk_frozen BK147.out 3
                                        go_wp2
                                        go_ret2
                                        exact ⟨by first | rfl | (simp [errW_none, errW_some] <;> rfl) | (simp [*, errW_none, errW_some] <;> rfl), by repeat (first | (with_reducible first | exact HB.out | apply below_alloc | apply pw_below_drewN | apply below_drew1 | refine below_set ?_ GE147.out) | exact HB.out)⟩
                                      · rw [if_neg c43] at H
                                        have c43b0 : (((rd_T71 l0 x22_1).f0) == 20) = false := beq_eq_false_iff_ne.mpr c43
                                        have c43b1 : (((rd_T71 l0 x22_1).f0) != 20) = true := bne_iff_ne.mpr c43
                                        by_cases c45 : ((rd_T71 l0 x22_1).f0) = 21
                                        · rw [if_pos c45] at H
                                          have c45b0 : (((rd_T71 l0 x22_1).f0) == 21) = true := beq_iff_eq.mpr c45
                                          have c45b1 : (((rd_T71 l0 x22_1).f0) != 21) = false := bne_eq_false_iff_eq.mpr c45
                                          clear c45
                                          simp only [Option.some.injEq, Prod.mk.injEq] at H
                                          obtain ⟨rfl, rfl⟩ := H
                                          have hcz46_0 : wc.cell? ⟨gb147, 0, none⟩ = some (.int .i64 ((rd_T71 l0 x22_1).f0)) := (blk_cell BK147.out 0).trans rfl
                                          have hcz46_1 : wc.cell? ⟨gb147, 1, none⟩ = some (.int .i64 ((rd_T71 l0 x22_1).f1)) := (blk_cell BK147.out 1).trans rfl
                                          have hcz46_2 : wc.cell? ⟨gb147, 2, none⟩ = some (.int .i64 ((rd_T71 l0 x22_1).f2)) := (blk_cell BK147.out 2).trans rfl
                                          have hcz46_3 : wc.cell? ⟨gb147, 3, none⟩ = some (.int .i64 ((rd_T71 l0 x22_1).f3)) := (blk_cell BK147.out 3).trans rfl
                                          have hfz46_0 := blk_frozen BK147.out 0
                                          have hfz46_1 := blk_frozen BK147.out 1
                                          have hfz46_2 := blk_frozen BK147.out 2
                                          have hfz46_3 := blk_frozen BK147.out 3
                                          go_wp2
                                          go_ret2
                                          exact ⟨by first | rfl | (simp [errW_none, errW_some] <;> rfl) | (simp [*, errW_none, errW_some] <;> rfl), by repeat (first | (with_reducible first | exact HB.out | apply below_alloc | apply pw_below_drewN | apply below_drew1 | refine below_set ?_ GE147.out) | exact HB.out)⟩
                                        · rw [if_neg c45] at H
                                          have c45b0 : (((rd_T71 l0 x22_1).f0) == 21) = false := beq_eq_false_iff_ne.mpr c45
                                          have c45b1 : (((rd_T71 l0 x22_1).f0) != 21) = true := bne_iff_ne.mpr c45
                                          have H' := Aside0.mk H
                                          clear H
                                          have hcz47_0 : wc.cell? ⟨gb147, 0, none⟩ = some (.int .i64 ((rd_T71 l0 x22_1).f0)) := (blk_cell BK147.out 0).trans rfl
                                          have hcz47_1 : wc.cell? ⟨gb147, 1, none⟩ = some (.int .i64 ((rd_T71 l0 x22_1).f1)) := (blk_cell BK147.out 1).trans rfl
                                          have hcz47_2 : wc.cell? ⟨gb147, 2, none⟩ = some (.int .i64 ((rd_T71 l0 x22_1).f2)) := (blk_cell BK147.out 2).trans rfl
                                          have hcz47_3 : wc.cell? ⟨gb147, 3, none⟩ = some (.int .i64 ((rd_T71 l0 x22_1).f3)) := (blk_cell BK147.out 3).trans rfl
                                          have hfz47_0 := blk_frozen BK147.out 0
                                          have hfz47_1 := blk_frozen BK147.out 1
                                          have hfz47_2 := blk_frozen BK147.out 2
                                          have hfz47_3 := blk_frozen BK147.out 3
                                          go_wp2
                                          go_roundg kj33
                                          case measure => have := HK1.out; have := HJ8.out; have := HJ23.out; have := HJ33.out; omega
                                          case rel => exact ⟨(true), (x7_33), (wrap64 (x22_1 + 1)), (by first | rfl | (simp; done) | (simp [*]; done)), (by first | rfl | (simp; done) | (simp [*]; done)), (by first | rfl | (simp; done) | (simp [*]; done)), H', ⟨by have := HK1.out; have := HJ8.out; have := HJ23.out; have := HJ33.out; omega⟩, ⟨by (with_reducible repeat (first | apply Kd.R_alloc | apply Kd.R_drewN | apply Kd.R_drew)); exact HO_4.out⟩, ⟨by repeat (first | (with_reducible first | exact HB.out | apply below_alloc | apply pw_below_drewN | apply below_drew1 | refine below_set ?_ GE147.out) | exact HB.out)⟩⟩
                                · replace c38 := Bool.eq_false_iff.mpr c38
                                  subst c38
                                  have H1 : (code_Check.l0 kj33 l0 t142 (((rd_T71 l0 x22_1).f0) == 21) x7_33 l0 (l0.length : Int) (wrap64 (x22_1 + 1))) = some (r1, r2) := by rw [if_neg (show ¬ (false = true) by decide)] at H; exact H
                                  clear H
                                  have H := H1
                                  clear H1
                                  have H' := Aside0.mk H
                                  clear H
                                  have hcz48_0 : wc.cell? ⟨gb147, 0, none⟩ = some (.int .i64 ((rd_T71 l0 x22_1).f0)) := (blk_cell BK147.out 0).trans rfl
                                  have hcz48_1 : wc.cell? ⟨gb147, 1, none⟩ = some (.int .i64 ((rd_T71 l0 x22_1).f1)) := (blk_cell BK147.out 1).trans rfl
                                  have hcz48_2 : wc.cell? ⟨gb147, 2, none⟩ = some (.int .i64 ((rd_T71 l0 x22_1).f2)) := (blk_cell BK147.out 2).trans rfl
                                  have hcz48_3 : wc.cell? ⟨gb147, 3, none⟩ = some (.int .i64 ((rd_T71 l0 x22_1).f3)) := (blk_cell BK147.out 3).trans rfl
                                  have hfz48_0 := blk_frozen BK147.out 0
                                  have hfz48_1 := blk_frozen BK147.out 1
                                  have hfz48_2 := blk_frozen BK147.out 2
                                  have hfz48_3 := blk_frozen BK147.out 3
                                  go_wp2
                                  go_roundg kj33
                                  case measure => have := HK1.out; have := HJ8.out; have := HJ23.out; have := HJ33.out; omega
                                  case rel => exact ⟨((((rd_T71 l0 x22_1).f0) == 21)), (x7_33), (wrap64 (x22_1 + 1)), (by first | rfl | (simp; done) | (simp [*]; done)), (by first | rfl | (simp; done) | (simp [*]; done)), (by first | rfl | (simp; done) | (simp [*]; done)), H', ⟨by have := HK1.out; have := HJ8.out; have := HJ23.out; have := HJ33.out; omega⟩, ⟨by (with_reducible repeat (first | apply Kd.R_alloc | apply Kd.R_drewN | apply Kd.R_drew)); exact HO_4.out⟩, ⟨by repeat (first | (with_reducible first | exact HB.out | apply below_alloc | apply pw_below_drewN | apply below_drew1 | refine below_set ?_ GE147.out) | exact HB.out)⟩⟩
              · rw [if_neg c8] at H
                exact absurd H (by simp)
            · rw [if_neg c7] at H
              exact absurd H (by simp)
          · rw [if_neg c6] at H
            have c6b0 : decide (x22_1 < (l0.length : Int)) = false := decide_eq_false c6
            clear c6
            simp only [Option.some.injEq, Prod.mk.injEq] at H
            obtain ⟨rfl, rfl⟩ := H
            go_wp2
            go_ret2
            exact ⟨by first | rfl | (simp [errW_none, errW_some] <;> rfl) | (simp [*, errW_none, errW_some] <;> rfl), by repeat (first | (with_reducible first | exact HB.out | apply below_alloc | apply pw_below_drewN | apply below_drew1) | exact HB.out)⟩
    · replace c4 := Bool.eq_false_iff.mpr c4
      subst c4
      have H1 : (some (0, 11)) = some (r1, r2) := by rw [if_neg (show ¬ (false = true) by decide)] at H; exact H
      clear H
      have H := H1
      clear H1
      simp only [Option.some.injEq, Prod.mk.injEq] at H
      obtain ⟨rfl, rfl⟩ := H
      go_enter Try.func30, Try.ntmps30
      go_wp2_with (first | ((with_reducible refine gate_callee (f := 38) rfl ?_); refine goesL_ (some 15) rfl rfl Try.func38 (by kernel_rfl) rfl #[.slice A0 l0.length c0] rfl (by (try simp only [List.map_toArray, List.map_cons, List.map_nil]); first | done | rfl | (simp only [List.length_drop, List.length_take]; rfl)) ?_; (with_reducible refine (code_spans.calls k _ _ l0 t142 false _ ?side1 ?side2 A3.out).mono ?_); (case side1 => repeat (first | exact HR0.out | (with_reducible refine Kd.C_alloc ?_ _) | (with_reducible refine Kd.C_drewN ?_ _) | (with_reducible refine Kd.C_drew ?_))); (case side2 => exact HC0.out); rintro e w49 ⟨v144, rfl, ho0, hb⟩; refine ⟨_, rfl, ?_⟩; have n0_ := Aside0.mk (Kd.R_lower ho0 (below_size (by repeat (first | (with_reducible first | exact HB.out | apply below_alloc | apply pw_below_drewN | apply below_drew1) | exact HB.out)))); have n1_ := Aside0.mk (below_step (by repeat (first | (with_reducible first | exact HB.out | apply below_alloc | apply pw_below_drewN | apply below_drew1) | exact HB.out)) hb); clear HB; have HO145 := n0_; have HB := n1_; clear n0_ n1_; (try clear hb); (try clear hb2); (try clear hk); (try clear hi); (try clear ho0)))
      go_ret2
      exact ⟨by first | rfl | (simp [errW_none, errW_some] <;> rfl) | (simp [*, errW_none, errW_some] <;> rfl), by repeat (first | (with_reducible first | exact HB.out | apply below_alloc | apply pw_below_drewN | apply below_drew1) | exact HB.out)⟩

end Go.Proofs.Ytfoefgckjaafnaa.PCodeShifts
