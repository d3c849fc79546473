/- Written by a program of this session, which began as the kit's print and is turned in wip/printer: the plain form of each function, and that the Go code comes to it. -/
import Derived.Test.YtfoefgckjaafnaaPCodeShiftsx0
namespace Go.Proofs.Ytfoefgckjaafnaa.PCodeShifts
open Go.RowKit Go.Proofs.YtfoefgckjaafnaaW.PrintWords Go.Proofs.YtfoefgckjaafnaaW.PrintLast Go.Proofs.YtfoefgckjaafnaaW.PrintMore
attribute [local go_sem] max2_int min2_int max_two min_two max_three min_three max_four min_four   -- for this text's walks alone
set_option linter.unusedVariables false
set_option linter.unusedSimpArgs false

/-! ### code_lands: function 41 -/
def code_lands.j0 : Nat → List (S71) → List Int → Int → Int → Bool → Option (Bool)
  | 0, _, _, _, _, _ => none
  | k + 1, x0, x1, x2, x7, x21 => if x21 = true then (some false) else (if x7 = (x0.length : Int) then (if 0 ≤ x2 then (if x2 < (x1.length : Int) then (some (decide ((rd x1 x2) < 0))) else (none)) else (none)) else (if 0 ≤ x7 then (if x7 < (x1.length : Int) then (if 0 ≤ x2 then (if x2 < (x1.length : Int) then (some ((rd x1 x7) == (rd x1 x2))) else (none)) else (none)) else (none)) else (none)))
def code_lands.f (k : Nat) (l0 : List (S71)) (l1 : List Int) (a2 : Int) : Option (Bool) := if 0 ≤ a2 then (if a2 < (l0.length : Int) then (if ((rd_T71 l0 a2).f1) ≤ a2 then (code_lands.j0 k l0 l1 a2 ((rd_T71 l0 a2).f1) true) else (code_lands.j0 k l0 l1 a2 ((rd_T71 l0 a2).f1) (decide (((rd_T71 l0 a2).f1) > (l0.length : Int))))) else (none)) else (none)
theorem code_lands.mono_l : ∀ k, (∀ y0 y1 y2 y3 y4, LeO (code_lands.j0 k y0 y1 y2 y3 y4) (code_lands.j0 (k + 1) y0 y1 y2 y3 y4))
  | 0 => fun _ _ _ _ _ r h => by simp [code_lands.j0] at h
  | k + 1 => by
    have ih0 := code_lands.mono_l k
    · intro y0 y1 y2 y3 y4
      unfold code_lands.j0
      repeat' first
      | (with_reducible exact ih0 _ _ _ _ _)
      | (with_reducible exact LeO.refl _)
      | (with_reducible exact LeO.none _)
      | (with_reducible refine LeO.ite ?_ ?_)
      | (with_reducible refine LeO.bind ?_ (fun _ => ?_))
      | exact ih0 _ _ _ _ _
      | exact LeO.none _
      | refine LeO.ite ?_ ?_
      | refine LeO.bind ?_ (fun _ => ?_)
theorem code_lands.mono : ∀ a0 a1 a2 k, LeO (code_lands.f k a0 a1 a2) (code_lands.f (k + 1) a0 a1 a2) := by
  intro a0 a1 a2 k
  have ih0 := code_lands.mono_l k
  unfold code_lands.f
  repeat' first
      | (with_reducible exact ih0 _ _ _ _ _)
      | (with_reducible exact LeO.refl _)
      | (with_reducible exact LeO.none _)
      | (with_reducible refine LeO.ite ?_ ?_)
      | (with_reducible refine LeO.bind ?_ (fun _ => ?_))
      | exact ih0 _ _ _ _ _
      | exact LeO.none _
      | refine LeO.ite ?_ ?_
      | refine LeO.bind ?_ (fun _ => ?_)
set_option maxHeartbeats 8000000 in
set_option maxRecDepth 100000 in
theorem code_lands.calls (k : Nat) (A0 : Option Addr) (c0 : Nat) (l0 : List (S71)) (A1 : Option Addr) (c1 : Nat) (l1 : List Int) (a2 : Int) (r : Bool) (w : World) (hr0 : Kd.C k71 w A0 l0.length l0) (hc0 : l0.length ≤ c0) (hr1 : Kd.C (Kd.int .i64) w A1 l1.length l1) (hc1 : l1.length ≤ c1) (h : code_lands.f k l0 l1 a2 = some r) :
    Calls Try.prog 41 #[.slice A0 l0.length c0, .slice A1 l1.length c1, .int .i64 a2] w fun e w' => e = .returned (.bool r) ∧ Drawn0 w w' := by
  have HR0 := Aside0.mk hr0
  have HC0 := Aside0.mk hc0
  clear hr0 hc0
  have HR1 := Aside0.mk hr1
  have HC1 := Aside0.mk hc1
  clear hr1 hc1
  have H : (if 0 ≤ a2 then (if a2 < (l0.length : Int) then (if ((rd_T71 l0 a2).f1) ≤ a2 then (code_lands.j0 k l0 l1 a2 ((rd_T71 l0 a2).f1) true) else (code_lands.j0 k l0 l1 a2 ((rd_T71 l0 a2).f1) (decide (((rd_T71 l0 a2).f1) > (l0.length : Int))))) else (none)) else (none)) = some r := h
  clear h
  by_cases c4 : 0 ≤ a2
  · rw [if_pos c4] at H
    have c4b0 : decide (0 ≤ a2) = true := decide_eq_true c4
    clear c4
    by_cases c5 : a2 < (l0.length : Int)
    · rw [if_pos c5] at H
      have c5b0 : decide (a2 < (l0.length : Int)) = true := decide_eq_true c5
      clear c5
      have HC6 := Aside0.mk H
      clear H
      have p138 : 0 ≤ (a2 : Int) := of_decide_eq_true (by first | (with_reducible assumption) | assumption)
      have q138 : a2 < (l0.length : Int) := of_decide_eq_true (by first | (with_reducible assumption) | assumption)
      obtain ⟨ad138, e138, hx138_0, hx138_1, hx138_2, hx138_3⟩ := at_T71 HR0.out a2 p138 q138
      cases e138
      replace p138 := eq_true p138
      replace q138 := eq_true q138
      go_enter Try.func41, Try.ntmps41
      go_upto_region 2 with (fail)
      repeat (go_quiet (fail); go_upto_region 2 with (fail))
      go_cut [21] (fun v21 wc => ∃ (kq : Nat) (x21_5 : Bool), v21 = .bool x21_5 ∧ Aside0 (code_lands.j0 kq l0 l1 a2 ((rd_T71 l0 a2).f1) x21_5 = some r) ∧ Aside0 (kq ≤ k) ∧ Drawn0 w wc)
      case first =>
        have H := HC6.out
        clear HC6
        by_cases c7 : ((rd_T71 l0 a2).f1) ≤ a2
        · rw [if_pos c7] at H
          have c7b0 : decide (((rd_T71 l0 a2).f1) ≤ a2) = true := decide_eq_true c7
          clear c7
          (first | rw [c7b0] | (simp only [i64_w, i32_w]; rw [c7b0]) | skip)
          have H' := Aside0.mk H
          clear H
          go_wp2
          repeat (go_quiet (fail); try go_wp2)
          go_meet
          case rel => exact ⟨_, (true), (by first | rfl | (simp; done) | (simp [*]; done)), H', ⟨by first | omega | exact Nat.le_refl _⟩, by repeat (first | exact Drawn0.refl _ | apply Drawn0.step)⟩
        · rw [if_neg c7] at H
          have c7b0 : decide (((rd_T71 l0 a2).f1) ≤ a2) = false := decide_eq_false c7
          clear c7
          (first | rw [c7b0] | (simp only [i64_w, i32_w]; rw [c7b0]) | skip)
          have H' := Aside0.mk H
          clear H
          go_wp2
          repeat (go_quiet (fail); try go_wp2)
          go_meet
          case rel => exact ⟨_, (decide (((rd_T71 l0 a2).f1) > (l0.length : Int))), (by first | rfl | (simp; done) | (simp [*]; done)), H', ⟨by first | omega | exact Nat.le_refl _⟩, by repeat (first | exact Drawn0.refl _ | apply Drawn0.step)⟩
      case rest =>
        clear HC6
        try clear c1
        try clear p1
        try clear q1
        try clear hx1
        try clear p2
        try clear c4
        try clear c4b0
        try clear c5
        try clear c5b0
        try clear c7
        try clear c7b0
        try clear hx138_0
        try clear hx138_1
        try clear hx138_2
        try clear hx138_3
        try clear p138
        try clear q138
        obtain ⟨kq, x21_5, rfl, HA, HJ5, ⟨mc5, rfl⟩⟩ := hcut
        cases kq with
        | zero => exact absurd HA.out (by simp [code_lands.j0])
        | succ kj5 =>
          have H := HA.out
          clear HA
          simp only [code_lands.j0] at H
          by_cases c8 : x21_5 = true
          · subst c8
            have H1 : (some false) = some r := by rw [if_pos rfl] at H; exact H
            clear H
            have H := H1
            clear H1
            obtain rfl := Option.some.inj H
            simp only [Option.some.injEq, Prod.mk.injEq] at H
            obtain ⟨rfl⟩ := H
            go_wp2
            repeat (go_quiet (fail); try go_wp2)
            go_ret
            exact ⟨by first | rfl | (simp; done) | (simp [*]; done), by repeat (first | exact Drawn0.refl _ | apply Drawn0.step)⟩
          · replace c8 := Bool.eq_false_iff.mpr c8
            subst c8
            have H1 : (if ((rd_T71 l0 a2).f1) = (l0.length : Int) then (if 0 ≤ a2 then (if a2 < (l1.length : Int) then (some (decide ((rd l1 a2) < 0))) else (none)) else (none)) else (if 0 ≤ ((rd_T71 l0 a2).f1) then (if ((rd_T71 l0 a2).f1) < (l1.length : Int) then (if 0 ≤ a2 then (if a2 < (l1.length : Int) then (some ((rd l1 ((rd_T71 l0 a2).f1)) == (rd l1 a2))) else (none)) else (none)) else (none)) else (none))) = some r := by rw [if_neg (show ¬ (false = true) by decide)] at H; exact H
            clear H
            have H := H1
            clear H1
            by_cases c9 : ((rd_T71 l0 a2).f1) = (l0.length : Int)
            · rw [if_pos c9] at H
              have c9b0 : (((rd_T71 l0 a2).f1) == (l0.length : Int)) = true := beq_iff_eq.mpr c9
              have c9b1 : (((rd_T71 l0 a2).f1) != (l0.length : Int)) = false := bne_eq_false_iff_eq.mpr c9
              clear c9
              by_cases c10 : 0 ≤ a2
              · rw [if_pos c10] at H
                have c10b0 : decide (0 ≤ a2) = true := decide_eq_true c10
                clear c10
                by_cases c11 : a2 < (l1.length : Int)
                · rw [if_pos c11] at H
                  have c11b0 : decide (a2 < (l1.length : Int)) = true := decide_eq_true c11
                  clear c11
                  obtain rfl := Option.some.inj H
                  simp only [Option.some.injEq, Prod.mk.injEq] at H
                  obtain ⟨rfl⟩ := H
                  have p139 : 0 ≤ (a2 : Int) := of_decide_eq_true (by first | (with_reducible assumption) | assumption)
                  have q139 : a2 < (l1.length : Int) := of_decide_eq_true (by first | (with_reducible assumption) | assumption)
                  obtain ⟨ad139, e139, hx139_0⟩ := Kd.at_int HR1.out a2 p139 q139
                  cases e139
                  replace p139 := eq_true p139
                  replace q139 := eq_true q139
                  go_wp2
                  repeat (go_quiet (fail); try go_wp2)
                  go_ret
                  exact ⟨by first | rfl | (simp; done) | (simp [*]; done), by repeat (first | exact Drawn0.refl _ | apply Drawn0.step)⟩
                · rw [if_neg c11] at H
                  exact absurd H (by simp)
              · rw [if_neg c10] at H
                exact absurd H (by simp)
            · rw [if_neg c9] at H
              have c9b0 : (((rd_T71 l0 a2).f1) == (l0.length : Int)) = false := beq_eq_false_iff_ne.mpr c9
              have c9b1 : (((rd_T71 l0 a2).f1) != (l0.length : Int)) = true := bne_iff_ne.mpr c9
              by_cases c12 : 0 ≤ ((rd_T71 l0 a2).f1)
              · rw [if_pos c12] at H
                have c12b0 : decide (0 ≤ ((rd_T71 l0 a2).f1)) = true := decide_eq_true c12
                clear c12
                by_cases c13 : ((rd_T71 l0 a2).f1) < (l1.length : Int)
                · rw [if_pos c13] at H
                  have c13b0 : decide (((rd_T71 l0 a2).f1) < (l1.length : Int)) = true := decide_eq_true c13
                  clear c13
                  by_cases c14 : 0 ≤ a2
                  · rw [if_pos c14] at H
                    have c14b0 : decide (0 ≤ a2) = true := decide_eq_true c14
                    clear c14
                    by_cases c15 : a2 < (l1.length : Int)
                    · rw [if_pos c15] at H
                      have c15b0 : decide (a2 < (l1.length : Int)) = true := decide_eq_true c15
                      clear c15
                      obtain rfl := Option.some.inj H
                      simp only [Option.some.injEq, Prod.mk.injEq] at H
                      obtain ⟨rfl⟩ := H
                      have p140 : 0 ≤ (((rd_T71 l0 a2).f1) : Int) := of_decide_eq_true (by first | (with_reducible assumption) | assumption)
                      have q140 : ((rd_T71 l0 a2).f1) < (l1.length : Int) := of_decide_eq_true (by first | (with_reducible assumption) | assumption)
                      obtain ⟨ad140, e140, hx140_0⟩ := Kd.at_int HR1.out ((rd_T71 l0 a2).f1) p140 q140
                      cases e140
                      replace p140 := eq_true p140
                      replace q140 := eq_true q140
                      have p141 : 0 ≤ (a2 : Int) := of_decide_eq_true (by first | (with_reducible assumption) | assumption)
                      have q141 : a2 < (l1.length : Int) := of_decide_eq_true (by first | (with_reducible assumption) | assumption)
                      obtain ⟨ad141, e141, hx141_0⟩ := Kd.at_int HR1.out a2 p141 q141
                      obtain rfl : ad140 = ad141 := (by injection e141)
                      replace p141 := eq_true p141
                      replace q141 := eq_true q141
                      go_wp2
                      repeat (go_quiet (fail); try go_wp2)
                      go_ret
                      exact ⟨by first | rfl | (simp; done) | (simp [*]; done), by repeat (first | exact Drawn0.refl _ | apply Drawn0.step)⟩
                    · rw [if_neg c15] at H
                      exact absurd H (by simp)
                  · rw [if_neg c14] at H
                    exact absurd H (by simp)
                · rw [if_neg c13] at H
                  exact absurd H (by simp)
              · rw [if_neg c12] at H
                exact absurd H (by simp)
    · rw [if_neg c5] at H
      exact absurd H (by simp)
  · rw [if_neg c4] at H
    exact absurd H (by simp)

end Go.Proofs.Ytfoefgckjaafnaa.PCodeShifts
