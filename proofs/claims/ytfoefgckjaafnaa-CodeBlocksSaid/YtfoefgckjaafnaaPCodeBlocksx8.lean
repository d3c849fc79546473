/- Written by a program of this session, which began as the kit's print and is turned in wip/printer: the plain form of each function, and that the Go code comes to it. -/
import Derived.Test.YtfoefgckjaafnaaPCodeBlocksx0
import Derived.Test.YtfoefgckjaafnaaPCodeBlocksx6
import Derived.Test.YtfoefgckjaafnaaPCodeBlocksx7
namespace Go.Proofs.Ytfoefgckjaafnaa.PCodeBlocks
open Go.RowKit Go.Proofs.YtfoefgckjaafnaaW.PrintWords Go.Proofs.YtfoefgckjaafnaaW.PrintLast Go.Proofs.YtfoefgckjaafnaaW.PrintMore
attribute [local go_sem] max2_int min2_int max_two min_two max_three min_three max_four min_four   -- for this text's walks alone
set_option linter.unusedVariables false
set_option linter.unusedSimpArgs false

/-! ### countermandlaw07_CodeBlocks: function 9 -/
mutual
def countermandlaw07_CodeBlocks.j0 : Nat → List (S71) → Int → Bool → Option (Bool)
  | 0, _, _, _ => none
  | k + 1, x0, x1, x38 => if x38 = true then (some true) else (if 0 ≤ x1 then (if x1 ≤ (x0.length : Int) then ((some (x0.drop (x1 : Int).toNat : List (S71))).bind fun y172 => (countermandlaw07_CodeBlocks.l0 k x1 ([] : List (S71)) y172 (y172.length : Int) 0)) else (none)) else (none))
def countermandlaw07_CodeBlocks.l0 : Nat → Int → List (S71) → List (S71) → Int → Int → Option (Bool)
  | 0, _, _, _, _, _ => none
  | k + 1, x1, x7, x41, x42, x43 => if x43 < x42 then (if 0 ≤ x43 then (if x43 < (x41.length : Int) then (if ((rd_T71 x41 x43).f0) = 3 then (countermandlaw07_CodeBlocks.j2 k x1 x7 x41 x42 x43 true ((rd_T71 x41 x43).f0) ((rd_T71 x41 x43).f1) ((rd_T71 x41 x43).f2) ((rd_T71 x41 x43).f3)) else (countermandlaw07_CodeBlocks.j2 k x1 x7 x41 x42 x43 (((rd_T71 x41 x43).f0) == 20) ((rd_T71 x41 x43).f0) ((rd_T71 x41 x43).f1) ((rd_T71 x41 x43).f2) ((rd_T71 x41 x43).f3))) else (none)) else (none)) else ((code_Check.f k x7).bind fun bt176 => (if bt176.2 = 0 then ((code_Blocks.f k x7).bind fun t178 => (some (t178 == 1))) else (some false)))
def countermandlaw07_CodeBlocks.j2 : Nat → Int → List (S71) → List (S71) → Int → Int → Bool → Int → Int → Int → Int → Option (Bool)
  | 0, _, _, _, _, _, _, _, _, _, _ => none
  | k + 1, x1, x7, x41, x42, x43, x54, x181000, x181001, x181002, x181003 => if x54 = true then (if x7.length < 4398046511104 then ((some (x7 ++ [(⟨x181000, wrap64 (x181001 - x1), x181002, x181003⟩ : S71)] : List (S71))).bind fun y181 => (if x181000 = 5 then ((code_Check.f k y181).bind fun bt184 => (if bt184.2 = 0 then ((code_Blocks.f k y181).bind fun t186 => (some (t186 == 1))) else (some false))) else (countermandlaw07_CodeBlocks.l0 k x1 y181 x41 x42 (wrap64 (x43 + 1))))) else (none)) else (if x7.length < 4398046511104 then ((some (x7 ++ [(⟨x181000, x181001, x181002, x181003⟩ : S71)] : List (S71))).bind fun y187 => (if x181000 = 5 then ((code_Check.f k y187).bind fun bt190 => (if bt190.2 = 0 then ((code_Blocks.f k y187).bind fun t192 => (some (t192 == 1))) else (some false))) else (countermandlaw07_CodeBlocks.l0 k x1 y187 x41 x42 (wrap64 (x43 + 1))))) else (none))
end
def countermandlaw07_CodeBlocks.f (k : Nat) (l0 : List (S71)) (a1 : Int) : Option (Bool) := (countermandlaw07_alive.f k).bind fun t168 => (if t168 = true then ((code_Check.f k l0).bind fun bt169 => (if bt169.2 = 0 then (if a1 < 0 then (countermandlaw07_CodeBlocks.j0 k l0 a1 true) else (if a1 ≥ (l0.length : Int) then (countermandlaw07_CodeBlocks.j0 k l0 a1 true) else (if 0 ≤ a1 then (if a1 < (l0.length : Int) then (countermandlaw07_CodeBlocks.j0 k l0 a1 (((rd_T71 l0 a1).f0) != 4)) else (none)) else (none)))) else (countermandlaw07_CodeBlocks.j0 k l0 a1 true))) else (some false))
theorem countermandlaw07_CodeBlocks.mono_l : ∀ k, (∀ y0 y1 y2, LeO (countermandlaw07_CodeBlocks.j0 k y0 y1 y2) (countermandlaw07_CodeBlocks.j0 (k + 1) y0 y1 y2)) ∧ (∀ y0 y1 y2 y3 y4, LeO (countermandlaw07_CodeBlocks.l0 k y0 y1 y2 y3 y4) (countermandlaw07_CodeBlocks.l0 (k + 1) y0 y1 y2 y3 y4)) ∧ (∀ y0 y1 y2 y3 y4 y5 y6 y7 y8 y9, LeO (countermandlaw07_CodeBlocks.j2 k y0 y1 y2 y3 y4 y5 y6 y7 y8 y9) (countermandlaw07_CodeBlocks.j2 (k + 1) y0 y1 y2 y3 y4 y5 y6 y7 y8 y9))
  | 0 => ⟨fun _ _ _ r h => by simp [countermandlaw07_CodeBlocks.j0] at h, fun _ _ _ _ _ r h => by simp [countermandlaw07_CodeBlocks.l0] at h, fun _ _ _ _ _ _ _ _ _ _ r h => by simp [countermandlaw07_CodeBlocks.j2] at h⟩
  | k + 1 => by
    obtain ⟨ih0, ih1, ih2⟩ := countermandlaw07_CodeBlocks.mono_l k
    refine ⟨?_, ?_, ?_⟩
    · intro y0 y1 y2
      unfold countermandlaw07_CodeBlocks.j0
      repeat' first
      | (with_reducible exact ih0 _ _ _)
      | (with_reducible exact ih1 _ _ _ _ _)
      | (with_reducible exact ih2 _ _ _ _ _ _ _ _ _ _)
      | (with_reducible exact code_Blocks.mono _ _)
      | (with_reducible exact code_Check.mono _ _)
      | (with_reducible exact countermandlaw07_alive.mono _)
      | (with_reducible exact LeO.refl _)
      | (with_reducible exact LeO.none _)
      | (with_reducible refine LeO.ite ?_ ?_)
      | (with_reducible refine LeO.bind ?_ (fun _ => ?_))
      | exact ih0 _ _ _
      | exact ih1 _ _ _ _ _
      | exact ih2 _ _ _ _ _ _ _ _ _ _
      | exact code_Blocks.mono _ _
      | exact code_Check.mono _ _
      | exact countermandlaw07_alive.mono _
      | exact LeO.none _
      | refine LeO.ite ?_ ?_
      | refine LeO.bind ?_ (fun _ => ?_)
    · intro y0 y1 y2 y3 y4
      unfold countermandlaw07_CodeBlocks.l0
      repeat' first
      | (with_reducible exact ih0 _ _ _)
      | (with_reducible exact ih1 _ _ _ _ _)
      | (with_reducible exact ih2 _ _ _ _ _ _ _ _ _ _)
      | (with_reducible exact code_Blocks.mono _ _)
      | (with_reducible exact code_Check.mono _ _)
      | (with_reducible exact countermandlaw07_alive.mono _)
      | (with_reducible exact LeO.refl _)
      | (with_reducible exact LeO.none _)
      | (with_reducible refine LeO.ite ?_ ?_)
      | (with_reducible refine LeO.bind ?_ (fun _ => ?_))
      | exact ih0 _ _ _
      | exact ih1 _ _ _ _ _
      | exact ih2 _ _ _ _ _ _ _ _ _ _
      | exact code_Blocks.mono _ _
      | exact code_Check.mono _ _
      | exact countermandlaw07_alive.mono _
      | exact LeO.none _
      | refine LeO.ite ?_ ?_
      | refine LeO.bind ?_ (fun _ => ?_)
    · intro y0 y1 y2 y3 y4 y5 y6 y7 y8 y9
      unfold countermandlaw07_CodeBlocks.j2
      repeat' first
      | (with_reducible exact ih0 _ _ _)
      | (with_reducible exact ih1 _ _ _ _ _)
      | (with_reducible exact ih2 _ _ _ _ _ _ _ _ _ _)
      | (with_reducible exact code_Blocks.mono _ _)
      | (with_reducible exact code_Check.mono _ _)
      | (with_reducible exact countermandlaw07_alive.mono _)
      | (with_reducible exact LeO.refl _)
      | (with_reducible exact LeO.none _)
      | (with_reducible refine LeO.ite ?_ ?_)
      | (with_reducible refine LeO.bind ?_ (fun _ => ?_))
      | exact ih0 _ _ _
      | exact ih1 _ _ _ _ _
      | exact ih2 _ _ _ _ _ _ _ _ _ _
      | exact code_Blocks.mono _ _
      | exact code_Check.mono _ _
      | exact countermandlaw07_alive.mono _
      | exact LeO.none _
      | refine LeO.ite ?_ ?_
      | refine LeO.bind ?_ (fun _ => ?_)
theorem countermandlaw07_CodeBlocks.mono : ∀ a0 a1 k, LeO (countermandlaw07_CodeBlocks.f k a0 a1) (countermandlaw07_CodeBlocks.f (k + 1) a0 a1) := by
  intro a0 a1 k
  obtain ⟨ih0, ih1, ih2⟩ := countermandlaw07_CodeBlocks.mono_l k
  unfold countermandlaw07_CodeBlocks.f
  repeat' first
      | (with_reducible exact ih0 _ _ _)
      | (with_reducible exact ih1 _ _ _ _ _)
      | (with_reducible exact ih2 _ _ _ _ _ _ _ _ _ _)
      | (with_reducible exact code_Blocks.mono _ _)
      | (with_reducible exact code_Check.mono _ _)
      | (with_reducible exact countermandlaw07_alive.mono _)
      | (with_reducible exact LeO.refl _)
      | (with_reducible exact LeO.none _)
      | (with_reducible refine LeO.ite ?_ ?_)
      | (with_reducible refine LeO.bind ?_ (fun _ => ?_))
      | exact ih0 _ _ _
      | exact ih1 _ _ _ _ _
      | exact ih2 _ _ _ _ _ _ _ _ _ _
      | exact code_Blocks.mono _ _
      | exact code_Check.mono _ _
      | exact countermandlaw07_alive.mono _
      | exact LeO.none _
      | refine LeO.ite ?_ ?_
      | refine LeO.bind ?_ (fun _ => ?_)
set_option maxHeartbeats 8000000 in
set_option maxRecDepth 100000 in
theorem countermandlaw07_CodeBlocks.calls (k : Nat) (A0 : Option Addr) (c0 : Nat) (l0 : List (S71)) (a1 : Int) (r : Bool) (w : World) (hr0 : Kd.C k71 w A0 l0.length l0) (hc0 : l0.length ≤ c0) (h : countermandlaw07_CodeBlocks.f k l0 a1 = some r) :
    Calls Try.prog 9 #[.slice A0 l0.length c0, .int .i64 a1] w fun e w' => e = .returned (.bool r) ∧ Below w.heap.size w w' := by
  have hu71 := Try.underlying71
  have HR0 := Aside0.mk hr0
  have HC0 := Aside0.mk hc0
  clear hr0 hc0
  have HB := Aside0.mk (Below.refl w.heap.size w)
  have H : ((countermandlaw07_alive.f k).bind fun t168 => (if t168 = true then ((code_Check.f k l0).bind fun bt169 => (if bt169.2 = 0 then (if a1 < 0 then (countermandlaw07_CodeBlocks.j0 k l0 a1 true) else (if a1 ≥ (l0.length : Int) then (countermandlaw07_CodeBlocks.j0 k l0 a1 true) else (if 0 ≤ a1 then (if a1 < (l0.length : Int) then (countermandlaw07_CodeBlocks.j0 k l0 a1 (((rd_T71 l0 a1).f0) != 4)) else (none)) else (none)))) else (countermandlaw07_CodeBlocks.j0 k l0 a1 true))) else (some false))) = some r := h
  clear h
  replace H := Option.bind_eq_some_iff.mp H
  obtain ⟨t168, A30, H⟩ := H
  replace H : (if t168 = true then ((code_Check.f k l0).bind fun bt169 => (if bt169.2 = 0 then (if a1 < 0 then (countermandlaw07_CodeBlocks.j0 k l0 a1 true) else (if a1 ≥ (l0.length : Int) then (countermandlaw07_CodeBlocks.j0 k l0 a1 true) else (if 0 ≤ a1 then (if a1 < (l0.length : Int) then (countermandlaw07_CodeBlocks.j0 k l0 a1 (((rd_T71 l0 a1).f0) != 4)) else (none)) else (none)))) else (countermandlaw07_CodeBlocks.j0 k l0 a1 true))) else (some false)) = some r := H
  have A3 := Aside0.mk A30
  clear A30
  by_cases c4 : t168 = true
  · subst c4
    have H1 : ((code_Check.f k l0).bind fun bt169 => (if bt169.2 = 0 then (if a1 < 0 then (countermandlaw07_CodeBlocks.j0 k l0 a1 true) else (if a1 ≥ (l0.length : Int) then (countermandlaw07_CodeBlocks.j0 k l0 a1 true) else (if 0 ≤ a1 then (if a1 < (l0.length : Int) then (countermandlaw07_CodeBlocks.j0 k l0 a1 (((rd_T71 l0 a1).f0) != 4)) else (none)) else (none)))) else (countermandlaw07_CodeBlocks.j0 k l0 a1 true))) = some r := by rw [if_pos rfl] at H; exact H
    clear H
    have H := H1
    clear H1
    replace H := Option.bind_eq_some_iff.mp H
    obtain ⟨⟨t169, t170⟩, A50, H⟩ := H
    replace H : (if t170 = 0 then (if a1 < 0 then (countermandlaw07_CodeBlocks.j0 k l0 a1 true) else (if a1 ≥ (l0.length : Int) then (countermandlaw07_CodeBlocks.j0 k l0 a1 true) else (if 0 ≤ a1 then (if a1 < (l0.length : Int) then (countermandlaw07_CodeBlocks.j0 k l0 a1 (((rd_T71 l0 a1).f0) != 4)) else (none)) else (none)))) else (countermandlaw07_CodeBlocks.j0 k l0 a1 true)) = some r := H
    have A5 := Aside0.mk A50
    clear A50
    have HC6 := Aside0.mk H
    clear H
    go_enter Try.func9, Try.ntmps9
    go_upto_region 4 with (first | ((with_reducible refine gate_callee (f := 29) rfl ?_); refine goesL_ (some 12) rfl rfl Try.func29 (by kernel_rfl) rfl #[] rfl (by (try simp only [List.map_toArray, List.map_cons, List.map_nil]); first | done | rfl | (simp only [List.length_drop, List.length_take]; rfl)) ?_; (with_reducible refine (countermandlaw07_alive.calls k  true _ A3.out).mono ?_); rintro e w7 ⟨rfl, hb⟩; refine ⟨_, rfl, ?_⟩; have n0_ := Aside0.mk (below_step (by repeat (first | (with_reducible first | exact HB.out | apply below_alloc | apply pw_below_drewN | apply below_drew1) | exact HB.out)) hb); clear HB; have HB := n0_; clear n0_; (try clear hb); (try clear hb2); (try clear hk); (try clear hi)) | ((with_reducible refine gate_callee (f := 30) rfl ?_); refine goesL_ (some 16) rfl rfl Try.func30 (by kernel_rfl) rfl #[.slice A0 l0.length c0] rfl (by (try simp only [List.map_toArray, List.map_cons, List.map_nil]); first | done | rfl | (simp only [List.length_drop, List.length_take]; rfl)) ?_; (with_reducible refine (code_Check.calls k _ _ l0 t169 t170 _ ?side1 ?side2 A5.out).mono ?_); (case side1 => repeat (first | exact (Kd.C_below HR0.out HB.out) | (with_reducible refine Kd.C_alloc ?_ _) | (with_reducible refine Kd.C_drewN ?_ _) | (with_reducible refine Kd.C_drew ?_))); (case side2 => exact HC0.out); rintro e w8 ⟨rfl, hb⟩; refine ⟨_, rfl, ?_⟩; have n0_ := Aside0.mk (below_step (by repeat (first | (with_reducible first | exact HB.out | apply below_alloc | apply pw_below_drewN | apply below_drew1) | exact HB.out)) hb); clear HB; have HB := n0_; clear n0_; (try clear hb); (try clear hb2); (try clear hk); (try clear hi)))
    (try simp only [Act.put, List.setIfInBounds_toArray, List.set_cons_zero, List.set_cons_succ])
    go_cut [38] (fun v38 wc => ∃ (kq : Nat) (x38_5 : Bool), v38 = .bool x38_5 ∧ Aside0 (countermandlaw07_CodeBlocks.j0 kq l0 a1 x38_5 = some r) ∧ Aside0 (kq ≤ k) ∧ Aside0 (Below w.heap.size w wc))
    case first =>
      have H := HC6.out
      clear HC6
      by_cases c9 : t170 = 0
      · rw [if_pos c9] at H
        have c9b0 : (t170 == 0) = true := beq_iff_eq.mpr c9
        have c9b1 : (t170 != 0) = false := bne_eq_false_iff_eq.mpr c9
        clear c9
        (first | rw [c9b0] | (simp only [i64_w, i32_w]; rw [c9b0]) | skip)
        by_cases c10 : a1 < 0
        · rw [if_pos c10] at H
          have c10b0 : decide (a1 < 0) = true := decide_eq_true c10
          clear c10
          have H' := Aside0.mk H
          clear H
          go_wp2
          go_meet
          case rel => exact ⟨_, (true), (by first | rfl | (simp; done) | (simp [*]; done)), H', ⟨by first | omega | exact Nat.le_refl _⟩, ⟨by repeat (first | (with_reducible first | exact HB.out | apply below_alloc | apply pw_below_drewN | apply below_drew1) | exact HB.out)⟩⟩
        · rw [if_neg c10] at H
          have c10b0 : decide (a1 < 0) = false := decide_eq_false c10
          clear c10
          by_cases c11 : a1 ≥ (l0.length : Int)
          · rw [if_pos c11] at H
            have c11b0 : decide ((l0.length : Int) ≤ a1) = true := decide_eq_true c11
            clear c11
            have H' := Aside0.mk H
            clear H
            go_wp2
            go_meet
            case rel => exact ⟨_, (true), (by first | rfl | (simp; done) | (simp [*]; done)), H', ⟨by first | omega | exact Nat.le_refl _⟩, ⟨by repeat (first | (with_reducible first | exact HB.out | apply below_alloc | apply pw_below_drewN | apply below_drew1) | exact HB.out)⟩⟩
          · rw [if_neg c11] at H
            have c11b0 : decide ((l0.length : Int) ≤ a1) = false := decide_eq_false c11
            clear c11
            by_cases c12 : 0 ≤ a1
            · rw [if_pos c12] at H
              have c12b0 : decide (0 ≤ a1) = true := decide_eq_true c12
              clear c12
              by_cases c13 : a1 < (l0.length : Int)
              · rw [if_pos c13] at H
                have c13b0 : decide (a1 < (l0.length : Int)) = true := decide_eq_true c13
                clear c13
                have H' := Aside0.mk H
                clear H
                have p171 : 0 ≤ (a1 : Int) := of_decide_eq_true (by first | (with_reducible assumption) | assumption)
                have q171 : a1 < (l0.length : Int) := of_decide_eq_true (by first | (with_reducible assumption) | assumption)
                obtain ⟨ad171, e171, hx171_0, hx171_1, hx171_2, hx171_3⟩ := at_T71 HR0.out a1 p171 q171
                cases e171
                replace hx171_0 := (HB.out.cell (World.block_lt_of_cell? w _ hx171_0)).trans hx171_0
                replace hx171_1 := (HB.out.cell (World.block_lt_of_cell? w _ hx171_1)).trans hx171_1
                replace hx171_2 := (HB.out.cell (World.block_lt_of_cell? w _ hx171_2)).trans hx171_2
                replace hx171_3 := (HB.out.cell (World.block_lt_of_cell? w _ hx171_3)).trans hx171_3
                replace p171 := eq_true p171
                replace q171 := eq_true q171
                go_wp2
                go_meet
                case rel => exact ⟨_, ((((rd_T71 l0 a1).f0) != 4)), (by first | rfl | (simp; done) | (simp [*]; done)), H', ⟨by first | omega | exact Nat.le_refl _⟩, ⟨by repeat (first | (with_reducible first | exact HB.out | apply below_alloc | apply pw_below_drewN | apply below_drew1) | exact HB.out)⟩⟩
              · rw [if_neg c13] at H
                exact absurd H (by simp)
            · rw [if_neg c12] at H
              exact absurd H (by simp)
      · rw [if_neg c9] at H
        have c9b0 : (t170 == 0) = false := beq_eq_false_iff_ne.mpr c9
        have c9b1 : (t170 != 0) = true := bne_iff_ne.mpr c9
        (first | rw [c9b0] | (simp only [i64_w, i32_w]; rw [c9b0]) | skip)
        have H' := Aside0.mk H
        clear H
        go_wp2
        go_meet
        case rel => exact ⟨_, (true), (by first | rfl | (simp; done) | (simp [*]; done)), H', ⟨by first | omega | exact Nat.le_refl _⟩, ⟨by repeat (first | (with_reducible first | exact HB.out | apply below_alloc | apply pw_below_drewN | apply below_drew1) | exact HB.out)⟩⟩
    case rest =>
      clear HC6
      try clear c1
      try clear p1
      try clear q1
      try clear hx1
      try clear c2
      try clear p2
      try clear c3
      try clear c4
      try clear c9
      try clear c9b0
      try clear c9b1
      try clear c10
      try clear c10b0
      try clear c11
      try clear c11b0
      try clear c12
      try clear c12b0
      try clear c13
      try clear c13b0
      try clear hx171_0
      try clear hx171_1
      try clear hx171_2
      try clear hx171_3
      try clear p171
      try clear q171
      obtain ⟨kq, x38_5, rfl, HA, HJ5, HB⟩ := hcut
      cases kq with
      | zero => exact absurd HA.out (by simp [countermandlaw07_CodeBlocks.j0])
      | succ kj5 =>
        have H := HA.out
        clear HA
        simp only [countermandlaw07_CodeBlocks.j0] at H
        by_cases c14 : x38_5 = true
        · subst c14
          have H1 : (some true) = some r := by rw [if_pos rfl] at H; exact H
          clear H
          have H := H1
          clear H1
          obtain rfl := Option.some.inj H
          go_wp2
          go_ret
          exact ⟨by first | rfl | (simp [errW_none, errW_some] <;> rfl) | (simp [*, errW_none, errW_some] <;> rfl), by repeat (first | (with_reducible first | exact HB.out | apply below_alloc | apply pw_below_drewN | apply below_drew1) | exact HB.out)⟩
        · replace c14 := Bool.eq_false_iff.mpr c14
          subst c14
          have H1 : (if 0 ≤ a1 then (if a1 ≤ (l0.length : Int) then ((some (l0.drop (a1 : Int).toNat : List (S71))).bind fun y172 => (countermandlaw07_CodeBlocks.l0 kj5 a1 ([] : List (S71)) y172 (y172.length : Int) 0)) else (none)) else (none)) = some r := by rw [if_neg (show ¬ (false = true) by decide)] at H; exact H
          clear H
          have H := H1
          clear H1
          by_cases c15 : 0 ≤ a1
          · rw [if_pos c15] at H
            have c15b0 := eq_true c15
            have c15b1 : decide (0 ≤ a1) = true := decide_eq_true c15
            clear c15
            by_cases c16 : a1 ≤ (l0.length : Int)
            · rw [if_pos c16] at H
              have c16b0 := eq_true c16
              have c16b1 : decide (a1 ≤ (l0.length : Int)) = true := decide_eq_true c16
              clear c16
              obtain ⟨y172, hy172⟩ : ∃ y_ : List (S71), y_ = (l0.drop (a1 : Int).toNat) := ⟨_, rfl⟩
              replace H : (countermandlaw07_CodeBlocks.l0 kj5 a1 ([] : List (S71)) y172 (y172.length : Int) 0) = some r := by first | (rw [hy172]; with_reducible exact H) | (have H2_ := (Option.bind_some _ _).symm.trans H; rw [hy172]; with_reducible exact H2_) | (have H2_ := (Option.bind_some _ _).symm.trans H; with_reducible exact H2_) | with_reducible exact H | (rw [hy172]; exact H) | exact H
              have Ny172 := Aside0.mk hy172
              clear hy172
              have H' := Aside0.mk H
              clear H
              have q17 : (a1 : Int) ≤ ((l0.length : Int) : Int) := of_decide_eq_true (by first | (with_reducible assumption) | assumption)
              obtain ⟨i017, hi017, _, hsz17, _⟩ := info_parts info71
              have hroom17 : l0.length ≤ c0 := HC0.out
              have hC17 : Kd.C k71 _ A0 l0.length l0 := HR0.out
              have q017 : (0 : Int) ≤ (a1 : Int) := of_decide_eq_true (by first | (with_reducible assumption) | assumption)
              have hcut17 := cut_from (P := Try.prog) 63 71 .i64 Try.underlying63 hi017 4 hsz17 A0 l0.length c0 a1 q017 q17
              have hr17 := Kd.C_drop (m := (a1 : Int).toNat) (c := c0) hC17 (by omega) hroom17
              obtain ⟨A17, hA17⟩ : ∃ A1, A1 = (if c0 = (a1 : Int).toNat then A0 else (A0 : Option Addr).map (·.add ((a1 : Int).toNat * 4))) := ⟨_, rfl⟩
              obtain ⟨c17, hc17⟩ : ∃ c1, c1 = c0 - (a1 : Int).toNat := ⟨_, rfl⟩
              have hy17 : y172.length = l0.length - (a1 : Int).toNat := (by rw [Ny172.out, List.length_drop] <;> omega)
              rw [show (l0).drop (a1 : Int).toNat = y172 from Ny172.out.symm] at hr17
              replace hr17 : Kd.C k71 _ A17 y172.length y172 := (by rw [hA17]; exact hr17)
              rw [← hy17, ← hA17, ← hc17] at hcut17
              have HR175 := Aside0.mk hr17
              have HC175 := Aside0.mk (show y172.length ≤ c17 from by rw [hy17, hc17]; exact Nat.sub_le_sub_right hroom17 _)
              clear hr17 hC17 hroom17 hi017 hsz17 hc17
              have KY17 := Aside0.mk hy17
              have KA17 := Aside0.mk hA17
              clear hy17 hA17
              replace q17 := eq_true q17
              go_wp2
              go_loopg [7, 43] kj5 (fun kq v7 v43 w' => ∃ (x7_2 : List (S71)) (x43_2 : Int), v43 = .int .i64 x43_2 ∧ Aside0 (countermandlaw07_CodeBlocks.l0 kq a1 x7_2 y172 (y172.length : Int) x43_2 = some r) ∧ Aside0 (kq ≤ kj5) ∧ Aside0 (Kd.R k71 71 w' w.heap.size (fun _ => True) v7 x7_2) ∧ Aside0 (Below w.heap.size w w'))
              case atStart => exact ⟨(([] : List (S71))), (0), (by first | rfl | (simp; done) | (simp [*]; done)), H', ⟨Nat.le_refl _⟩, ⟨by first | exact Kd.R_nil _ _ _ _ _ | exact Kd.N_nil _ _ _ _ _ | exact Kd.V_nil _ _ _ _ _ | exact Kd.Q_nil _ _ _ _ _ | exact Kd.S_nil _ _ _ _ _⟩, ⟨by repeat (first | (with_reducible first | exact HB.out | apply below_alloc | apply pw_below_drewN | apply below_drew1) | exact HB.out)⟩⟩
              case round =>
                clear H'
                try clear c1
                try clear p1
                try clear q1
                try clear hx1
                try clear c2
                try clear p2
                try clear c3
                try clear c4
                try clear c9
                try clear c9b0
                try clear c9b1
                try clear c10
                try clear c10b0
                try clear c11
                try clear c11b0
                try clear c12
                try clear c12b0
                try clear c13
                try clear c13b0
                try clear c14
                try clear c15
                try clear c15b0
                try clear c15b1
                try clear c16
                try clear c16b0
                try clear c16b1
                try clear c17
                try clear p17
                try clear q17
                try clear hx17
                try clear hx171_0
                try clear hx171_1
                try clear hx171_2
                try clear hx171_3
                try clear p1
                try clear p171
                try clear p2
                try clear q017
                try clear q1
                try clear q17
                try clear q171
                obtain ⟨x7_2, x43_2, rfl, HA, HK2, HO_7, HB⟩ := hrel
                cases gk with
                | zero => exact absurd HA.out (by simp [countermandlaw07_CodeBlocks.l0])
                | succ k2 =>
                  have H := HA.out
                  clear HA
                  simp only [countermandlaw07_CodeBlocks.l0] at H
                  by_cases c18 : x43_2 < (y172.length : Int)
                  · rw [if_pos c18] at H
                    have c18b0 : decide (x43_2 < (y172.length : Int)) = true := decide_eq_true c18
                    clear c18
                    by_cases c19 : 0 ≤ x43_2
                    · rw [if_pos c19] at H
                      have c19b0 : decide (0 ≤ x43_2) = true := decide_eq_true c19
                      clear c19
                      by_cases c20 : x43_2 < (y172.length : Int)
                      · rw [if_pos c20] at H
                        have c20b0 : decide (x43_2 < (y172.length : Int)) = true := decide_eq_true c20
                        clear c20
                        have HC21 := Aside0.mk H
                        clear H
                        have p179 : 0 ≤ (x43_2 : Int) := of_decide_eq_true (by first | (with_reducible assumption) | assumption)
                        have q179 : x43_2 < (y172.length : Int) := of_decide_eq_true (by first | (with_reducible assumption) | assumption)
                        obtain ⟨ad179, e179, hx179_0, hx179_1, hx179_2, hx179_3⟩ := at_T71 HR175.out x43_2 p179 q179
                        cases e179
                        replace hx179_0 := (HB.out.cell (World.block_lt_of_cell? w _ hx179_0)).trans hx179_0
                        replace hx179_1 := (HB.out.cell (World.block_lt_of_cell? w _ hx179_1)).trans hx179_1
                        replace hx179_2 := (HB.out.cell (World.block_lt_of_cell? w _ hx179_2)).trans hx179_2
                        replace hx179_3 := (HB.out.cell (World.block_lt_of_cell? w _ hx179_3)).trans hx179_3
                        replace p179 := eq_true p179
                        replace q179 := eq_true q179
                        go_upto_region 10 with (first | ((with_reducible refine gate_dst (N := 9) rfl ?_); (try (refine gate_guard (by rfl) ?_; dsimp only)); refine box_event ?hg (N := 9) ?hd (cs := #[.int .i64 0, .int .i64 0, .int .i64 0, .int .i64 0]) (t := 71) ?hr ?_; (case hd => rfl); (case hg => rfl); (case hr => first | (go_simp; done) | (go_simp; rfl)); intro gb180 hg w22 hbox hb; have n0_ := Aside0.mk (Kd.R_below (Kd.R_elderB (by (with_reducible repeat (first | apply Kd.R_alloc | apply Kd.R_drewN | apply Kd.R_drew)); exact HO_7.out) gb180 (Nat.le_of_eq hg.symm)) hb); have n1_ := Aside0.mk (below_step (by repeat (first | (with_reducible first | exact HB.out | apply below_alloc | apply pw_below_drewN | apply below_drew1) | exact HB.out)) hb); have n2_ := Aside0.mk (hbox); have n3_ := Aside0.mk ((by rw [hg]; exact (below_size (by repeat (first | (with_reducible first | exact HB.out | apply below_alloc | apply pw_below_drewN | apply below_drew1) | exact HB.out))) : w.heap.size ≤ gb180)); have n4_ := Aside0.mk ((by rw [hg]; exact (below_size (by repeat (first | (with_reducible first | exact HB.out | apply below_alloc | apply pw_below_drewN | apply below_drew1) | exact HB.out))) : w.heap.size ≤ gb180)); clear HO_7; clear HB; have HO_7 := n0_; have HB := n1_; have BK180 := n2_; have GW180 := n3_; have GE180 := n4_; clear n0_ n1_ n2_ n3_ n4_; clear hb hbox hg; have hcz23_0 : w22.cell? ⟨gb180, 0, none⟩ = some (.int .i64 0) := (blk_cell BK180.out 0).trans rfl; have hcz23_1 : w22.cell? ⟨gb180, 1, none⟩ = some (.int .i64 0) := (blk_cell BK180.out 1).trans rfl; have hcz23_2 : w22.cell? ⟨gb180, 2, none⟩ = some (.int .i64 0) := (blk_cell BK180.out 2).trans rfl; have hcz23_3 : w22.cell? ⟨gb180, 3, none⟩ = some (.int .i64 0) := (blk_cell BK180.out 3).trans rfl; have hfz23_0 := blk_frozen BK180.out 0; have hfz23_1 := blk_frozen BK180.out 1; have hfz23_2 := blk_frozen BK180.out 2; have hfz23_3 := blk_frozen BK180.out 3))
                        (try simp only [Act.put, List.setIfInBounds_toArray, List.set_cons_zero, List.set_cons_succ])
                        go_cut [54] (fun v54 wc => ∃ (kq : Nat) (x54_20 : Bool), v54 = .bool x54_20 ∧ Aside0 (countermandlaw07_CodeBlocks.j2 kq a1 x7_2 y172 (y172.length : Int) x43_2 x54_20 ((rd_T71 y172 x43_2).f0) ((rd_T71 y172 x43_2).f1) ((rd_T71 y172 x43_2).f2) ((rd_T71 y172 x43_2).f3) = some r) ∧ Aside0 (kq ≤ k2) ∧ Aside0 (Kd.R k71 71 wc w.heap.size (fun k_ => k_ ≠ gb180) u7 x7_2) ∧ Aside0 (wc.heap[gb180]? = some (.cells #[.int .i64 ((rd_T71 y172 x43_2).f0), .int .i64 ((rd_T71 y172 x43_2).f1), .int .i64 ((rd_T71 y172 x43_2).f2), .int .i64 ((rd_T71 y172 x43_2).f3)] 71 (0, 0))) ∧ Aside0 (Below w.heap.size w wc))
                        case first =>
                          have H := HC21.out
                          clear HC21
                          by_cases c24 : ((rd_T71 y172 x43_2).f0) = 3
                          · rw [if_pos c24] at H
                            have c24b0 : (((rd_T71 y172 x43_2).f0) == 3) = true := beq_iff_eq.mpr c24
                            have c24b1 : (((rd_T71 y172 x43_2).f0) != 3) = false := bne_eq_false_iff_eq.mpr c24
                            clear c24
                            (first | rw [c24b0] | (simp only [i64_w, i32_w]; rw [c24b0]) | skip)
                            have H' := Aside0.mk H
                            clear H
                            have hcz25_0 : w22.cell? ⟨gb180, 0, none⟩ = some (.int .i64 0) := (blk_cell BK180.out 0).trans rfl
                            have hcz25_1 : w22.cell? ⟨gb180, 1, none⟩ = some (.int .i64 0) := (blk_cell BK180.out 1).trans rfl
                            have hcz25_2 : w22.cell? ⟨gb180, 2, none⟩ = some (.int .i64 0) := (blk_cell BK180.out 2).trans rfl
                            have hcz25_3 : w22.cell? ⟨gb180, 3, none⟩ = some (.int .i64 0) := (blk_cell BK180.out 3).trans rfl
                            have hfz25_0 := blk_frozen BK180.out 0
                            have hfz25_1 := blk_frozen BK180.out 1
                            have hfz25_2 := blk_frozen BK180.out 2
                            have hfz25_3 := blk_frozen BK180.out 3
                            go_wp2
                            go_meet
                            case rel => exact ⟨_, (true), (by first | rfl | (simp; done) | (simp [*]; done)), H', ⟨by have := HJ5.out; have := HK2.out; first | omega | exact Nat.le_refl _⟩, ⟨by (with_reducible repeat (first | apply Kd.R_alloc | apply Kd.R_drewN | apply Kd.R_drew)); exact Kd.R_mono (Kd.R_far (p := ⟨gb180, 3, none⟩) (Kd.R_far (p := ⟨gb180, 2, none⟩) (Kd.R_far (p := ⟨gb180, 1, none⟩) (Kd.R_far (p := ⟨gb180, 0, none⟩) (Kd.R_mono HO_7.out (fun k_ hk => (⟨hk, hk.2⟩ : _ ∧ k_ ≠ gb180))) (fun _ hk => hk.2) (.int .i64 ((rd_T71 y172 x43_2).f0))) (fun _ hk => hk.2) (.int .i64 ((rd_T71 y172 x43_2).f1))) (fun _ hk => hk.2) (.int .i64 ((rd_T71 y172 x43_2).f2))) (fun _ hk => hk.2) (.int .i64 ((rd_T71 y172 x43_2).f3))) (fun _ hk => hk.1.2)⟩, ⟨by (with_reducible repeat (first | refine blk_drewN ?_ _ | refine blk_drew ?_ | refine blk_alloc ?_ _)); refine blk_put (cs := #[.int .i64 ((rd_T71 y172 x43_2).f0), .int .i64 ((rd_T71 y172 x43_2).f1), .int .i64 ((rd_T71 y172 x43_2).f2), .int .i64 0]) ?_ 3 _ rfl; (with_reducible repeat (first | refine blk_drewN ?_ _ | refine blk_drew ?_ | refine blk_alloc ?_ _)); refine blk_put (cs := #[.int .i64 ((rd_T71 y172 x43_2).f0), .int .i64 ((rd_T71 y172 x43_2).f1), .int .i64 0, .int .i64 0]) ?_ 2 _ rfl; (with_reducible repeat (first | refine blk_drewN ?_ _ | refine blk_drew ?_ | refine blk_alloc ?_ _)); refine blk_put (cs := #[.int .i64 ((rd_T71 y172 x43_2).f0), .int .i64 0, .int .i64 0, .int .i64 0]) ?_ 1 _ rfl; (with_reducible repeat (first | refine blk_drewN ?_ _ | refine blk_drew ?_ | refine blk_alloc ?_ _)); refine blk_put (cs := #[.int .i64 0, .int .i64 0, .int .i64 0, .int .i64 0]) ?_ 0 _ rfl; (with_reducible repeat (first | refine blk_drewN ?_ _ | refine blk_drew ?_ | refine blk_alloc ?_ _)); exact BK180.out⟩, ⟨by repeat (first | (with_reducible first | exact HB.out | apply below_alloc | apply pw_below_drewN | apply below_drew1 | refine below_set ?_ GE180.out) | exact HB.out)⟩⟩
                          · rw [if_neg c24] at H
                            have c24b0 : (((rd_T71 y172 x43_2).f0) == 3) = false := beq_eq_false_iff_ne.mpr c24
                            have c24b1 : (((rd_T71 y172 x43_2).f0) != 3) = true := bne_iff_ne.mpr c24
                            (first | rw [c24b0] | (simp only [i64_w, i32_w]; rw [c24b0]) | skip)
                            have H' := Aside0.mk H
                            clear H
                            have hcz26_0 : w22.cell? ⟨gb180, 0, none⟩ = some (.int .i64 0) := (blk_cell BK180.out 0).trans rfl
                            have hcz26_1 : w22.cell? ⟨gb180, 1, none⟩ = some (.int .i64 0) := (blk_cell BK180.out 1).trans rfl
                            have hcz26_2 : w22.cell? ⟨gb180, 2, none⟩ = some (.int .i64 0) := (blk_cell BK180.out 2).trans rfl
                            have hcz26_3 : w22.cell? ⟨gb180, 3, none⟩ = some (.int .i64 0) := (blk_cell BK180.out 3).trans rfl
                            have hfz26_0 := blk_frozen BK180.out 0
                            have hfz26_1 := blk_frozen BK180.out 1
                            have hfz26_2 := blk_frozen BK180.out 2
                            have hfz26_3 := blk_frozen BK180.out 3
                            go_wp2
                            go_meet
                            case rel => exact ⟨_, ((((rd_T71 y172 x43_2).f0) == 20)), (by first | rfl | (simp; done) | (simp [*]; done)), H', ⟨by have := HJ5.out; have := HK2.out; first | omega | exact Nat.le_refl _⟩, ⟨by (with_reducible repeat (first | apply Kd.R_alloc | apply Kd.R_drewN | apply Kd.R_drew)); exact Kd.R_mono (Kd.R_far (p := ⟨gb180, 3, none⟩) (Kd.R_far (p := ⟨gb180, 2, none⟩) (Kd.R_far (p := ⟨gb180, 1, none⟩) (Kd.R_far (p := ⟨gb180, 0, none⟩) (Kd.R_mono HO_7.out (fun k_ hk => (⟨hk, hk.2⟩ : _ ∧ k_ ≠ gb180))) (fun _ hk => hk.2) (.int .i64 ((rd_T71 y172 x43_2).f0))) (fun _ hk => hk.2) (.int .i64 ((rd_T71 y172 x43_2).f1))) (fun _ hk => hk.2) (.int .i64 ((rd_T71 y172 x43_2).f2))) (fun _ hk => hk.2) (.int .i64 ((rd_T71 y172 x43_2).f3))) (fun _ hk => hk.1.2)⟩, ⟨by (with_reducible repeat (first | refine blk_drewN ?_ _ | refine blk_drew ?_ | refine blk_alloc ?_ _)); refine blk_put (cs := #[.int .i64 ((rd_T71 y172 x43_2).f0), .int .i64 ((rd_T71 y172 x43_2).f1), .int .i64 ((rd_T71 y172 x43_2).f2), .int .i64 0]) ?_ 3 _ rfl; (with_reducible repeat (first | refine blk_drewN ?_ _ | refine blk_drew ?_ | refine blk_alloc ?_ _)); refine blk_put (cs := #[.int .i64 ((rd_T71 y172 x43_2).f0), .int .i64 ((rd_T71 y172 x43_2).f1), .int .i64 0, .int .i64 0]) ?_ 2 _ rfl; (with_reducible repeat (first | refine blk_drewN ?_ _ | refine blk_drew ?_ | refine blk_alloc ?_ _)); refine blk_put (cs := #[.int .i64 ((rd_T71 y172 x43_2).f0), .int .i64 0, .int .i64 0, .int .i64 0]) ?_ 1 _ rfl; (with_reducible repeat (first | refine blk_drewN ?_ _ | refine blk_drew ?_ | refine blk_alloc ?_ _)); refine blk_put (cs := #[.int .i64 0, .int .i64 0, .int .i64 0, .int .i64 0]) ?_ 0 _ rfl; (with_reducible repeat (first | refine blk_drewN ?_ _ | refine blk_drew ?_ | refine blk_alloc ?_ _)); exact BK180.out⟩, ⟨by repeat (first | (with_reducible first | exact HB.out | apply below_alloc | apply pw_below_drewN | apply below_drew1 | refine below_set ?_ GE180.out) | exact HB.out)⟩⟩
                        case rest =>
                          clear HC21
                          try clear c1
                          try clear p1
                          try clear q1
                          try clear hx1
                          try clear c2
                          try clear p2
                          try clear c3
                          try clear c4
                          try clear c9
                          try clear c9b0
                          try clear c9b1
                          try clear c10
                          try clear c10b0
                          try clear c11
                          try clear c11b0
                          try clear c12
                          try clear c12b0
                          try clear c13
                          try clear c13b0
                          try clear c14
                          try clear c15
                          try clear c15b0
                          try clear c15b1
                          try clear c16
                          try clear c16b0
                          try clear c16b1
                          try clear c17
                          try clear p17
                          try clear q17
                          try clear hx17
                          try clear c18
                          try clear c18b0
                          try clear c19
                          try clear c19b0
                          try clear c20
                          try clear c20b0
                          try clear c24
                          try clear c24b0
                          try clear c24b1
                          try clear hcz23_0
                          try clear hcz23_1
                          try clear hcz23_2
                          try clear hcz23_3
                          try clear hcz25_0
                          try clear hcz25_1
                          try clear hcz25_2
                          try clear hcz25_3
                          try clear hcz26_0
                          try clear hcz26_1
                          try clear hcz26_2
                          try clear hcz26_3
                          try clear hfz23_0
                          try clear hfz23_1
                          try clear hfz23_2
                          try clear hfz23_3
                          try clear hfz25_0
                          try clear hfz25_1
                          try clear hfz25_2
                          try clear hfz25_3
                          try clear hfz26_0
                          try clear hfz26_1
                          try clear hfz26_2
                          try clear hfz26_3
                          try clear hx171_0
                          try clear hx171_1
                          try clear hx171_2
                          try clear hx171_3
                          try clear hx179_0
                          try clear hx179_1
                          try clear hx179_2
                          try clear hx179_3
                          try clear p1
                          try clear p17
                          try clear p171
                          try clear p179
                          try clear p2
                          try clear q017
                          try clear q1
                          try clear q17
                          try clear q171
                          try clear q179
                          obtain ⟨kq, x54_20, rfl, HA, HJ20, HO_7, BK180, HB⟩ := hcut
                          cases kq with
                          | zero => exact absurd HA.out (by simp [countermandlaw07_CodeBlocks.j2])
                          | succ kj20 =>
                            have H := HA.out
                            clear HA
                            simp only [countermandlaw07_CodeBlocks.j2] at H
                            by_cases c27 : x54_20 = true
                            · subst c27
                              have H1 : (if x7_2.length < 4398046511104 then ((some (x7_2 ++ [(⟨((rd_T71 y172 x43_2).f0), wrap64 (((rd_T71 y172 x43_2).f1) - a1), ((rd_T71 y172 x43_2).f2), ((rd_T71 y172 x43_2).f3)⟩ : S71)] : List (S71))).bind fun y181 => (if ((rd_T71 y172 x43_2).f0) = 5 then ((code_Check.f kj20 y181).bind fun bt184 => (if bt184.2 = 0 then ((code_Blocks.f kj20 y181).bind fun t186 => (some (t186 == 1))) else (some false))) else (countermandlaw07_CodeBlocks.l0 kj20 a1 y181 y172 (y172.length : Int) (wrap64 (x43_2 + 1))))) else (none)) = some r := by rw [if_pos rfl] at H; exact H
                              clear H
                              have H := H1
                              clear H1
                              by_cases c28 : x7_2.length < 4398046511104
                              · rw [if_pos c28] at H
                                have LMc28 := Aside0.mk c28
                                clear c28
                                obtain ⟨y181, hy181⟩ : ∃ y_ : List (S71), y_ = (x7_2 ++ [(⟨((rd_T71 y172 x43_2).f0), wrap64 (((rd_T71 y172 x43_2).f1) - a1), ((rd_T71 y172 x43_2).f2), ((rd_T71 y172 x43_2).f3)⟩ : S71)]) := ⟨_, rfl⟩
                                replace H : (if ((rd_T71 y172 x43_2).f0) = 5 then ((code_Check.f kj20 y181).bind fun bt184 => (if bt184.2 = 0 then ((code_Blocks.f kj20 y181).bind fun t186 => (some (t186 == 1))) else (some false))) else (countermandlaw07_CodeBlocks.l0 kj20 a1 y181 y172 (y172.length : Int) (wrap64 (x43_2 + 1)))) = some r := by first | (rw [hy181]; with_reducible exact H) | (have H2_ := (Option.bind_some _ _).symm.trans H; rw [hy181]; with_reducible exact H2_) | (have H2_ := (Option.bind_some _ _).symm.trans H; with_reducible exact H2_) | with_reducible exact H | (rw [hy181]; exact H) | exact H
                                have Ny181 := Aside0.mk hy181
                                clear hy181
                                by_cases c29 : ((rd_T71 y172 x43_2).f0) = 5
                                · rw [if_pos c29] at H
                                  have c29b0 : (((rd_T71 y172 x43_2).f0) == 5) = true := beq_iff_eq.mpr c29
                                  have c29b1 : (((rd_T71 y172 x43_2).f0) != 5) = false := bne_eq_false_iff_eq.mpr c29
                                  clear c29
                                  replace H := Option.bind_eq_some_iff.mp H
                                  obtain ⟨⟨t184, t185⟩, A300, H⟩ := H
                                  replace H : (if t185 = 0 then ((code_Blocks.f kj20 y181).bind fun t186 => (some (t186 == 1))) else (some false)) = some r := H
                                  have A30 := Aside0.mk A300
                                  clear A300
                                  by_cases c31 : t185 = 0
                                  · rw [if_pos c31] at H
                                    have c31b0 : (t185 == 0) = true := beq_iff_eq.mpr c31
                                    have c31b1 : (t185 != 0) = false := bne_eq_false_iff_eq.mpr c31
                                    clear c31
                                    replace H := Option.bind_eq_some_iff.mp H
                                    obtain ⟨t186, A320, H⟩ := H
                                    replace H : (some (t186 == 1)) = some r := H
                                    have A32 := Aside0.mk A320
                                    clear A320
                                    obtain rfl := Option.some.inj H
                                    have hcz33_0 : wc.cell? ⟨gb180, 0, none⟩ = some (.int .i64 ((rd_T71 y172 x43_2).f0)) := (blk_cell BK180.out 0).trans rfl
                                    have hcz33_1 : wc.cell? ⟨gb180, 1, none⟩ = some (.int .i64 ((rd_T71 y172 x43_2).f1)) := (blk_cell BK180.out 1).trans rfl
                                    have hcz33_2 : wc.cell? ⟨gb180, 2, none⟩ = some (.int .i64 ((rd_T71 y172 x43_2).f2)) := (blk_cell BK180.out 2).trans rfl
                                    have hcz33_3 : wc.cell? ⟨gb180, 3, none⟩ = some (.int .i64 ((rd_T71 y172 x43_2).f3)) := (blk_cell BK180.out 3).trans rfl
                                    have hfz33_0 := blk_frozen BK180.out 0
                                    have hfz33_1 := blk_frozen BK180.out 1
                                    have hfz33_2 := blk_frozen BK180.out 2
                                    have hfz33_3 := blk_frozen BK180.out 3
                                    go_wp2_with (first | ((with_reducible refine gate_builtin (b := .append) (xs := #[.tmp 60, .tmp 62]) rfl ?_); (try (refine gate_guard (by rfl) ?_; dsimp only)); at_builtin; refine Kd.R_append k71 (w0 := w) w.heap.size rfl (.tmp 60) (.tmp 62) 63 71 (.agg #[(.int .i64 0), (.int .i64 0), (.int .i64 0), (.int .i64 0)]) 32 rfl Try.underlying63 info71 rfl (by decide) (by omega) u7 x7_2 (⟨((rd_T71 y172 x43_2).f0), wrap64 (((rd_T71 y172 x43_2).f1) - a1), ((rd_T71 y172 x43_2).f2), ((rd_T71 y172 x43_2).f3)⟩ : S71) [.int .i64 ((rd_T71 y172 x43_2).f0), .int .i64 (wrap64 (((rd_T71 y172 x43_2).f1) - a1)), .int .i64 ((rd_T71 y172 x43_2).f2), .int .i64 ((rd_T71 y172 x43_2).f3)] (fun k_ => k_ ≠ gb180) (fun _ => False) rfl (by first | (go_simp; done) | (go_simp; rfl)) ?aP (fun _ hk => hk.elim) ?aF ?aO ?aB ?aS ?aL ?_; (case aP => exact k71_mkM _ _ _ (⟨((rd_T71 y172 x43_2).f0), wrap64 (((rd_T71 y172 x43_2).f1) - a1), ((rd_T71 y172 x43_2).f2), ((rd_T71 y172 x43_2).f3)⟩ : S71)); (case aB => exact (by repeat (first | (with_reducible first | exact HB.out | apply below_alloc | apply pw_below_drewN | apply below_drew1 | refine below_set ?_ GE180.out) | exact HB.out))); (case aF => exact (fun k_ hk => Kd.freshB (g := gb180) (o := .cells #[.int .i64 ((rd_T71 y172 x43_2).f0), .int .i64 (wrap64 (((rd_T71 y172 x43_2).f1) - a1)), .int .i64 ((rd_T71 y172 x43_2).f2), .int .i64 ((rd_T71 y172 x43_2).f3)] 71 (0, 0)) (by (with_reducible repeat (first | refine blk_drewN ?_ _ | refine blk_drew ?_ | refine blk_alloc ?_ _)); refine blk_put (cs := #[.int .i64 ((rd_T71 y172 x43_2).f0), .int .i64 ((rd_T71 y172 x43_2).f1), .int .i64 ((rd_T71 y172 x43_2).f2), .int .i64 ((rd_T71 y172 x43_2).f3)]) ?_ 1 _ rfl; (with_reducible repeat (first | refine blk_drewN ?_ _ | refine blk_drew ?_ | refine blk_alloc ?_ _)); exact BK180.out) k_ hk)); (case aO => exact (by (with_reducible repeat (first | apply Kd.R_alloc | apply Kd.R_drewN | apply Kd.R_drew)); exact Kd.R_mono (Kd.R_far (p := ⟨gb180, 1, none⟩) (Kd.R_mono HO_7.out (fun k_ hk => (⟨hk, hk⟩ : _ ∧ k_ ≠ gb180))) (fun _ hk => hk.2) (.int .i64 (wrap64 (((rd_T71 y172 x43_2).f1) - a1)))) (fun _ hk => hk.1))); (case aS => exact (below_size (by repeat (first | (with_reducible first | exact HB.out | apply below_alloc | apply pw_below_drewN | apply below_drew1 | refine below_set ?_ GE180.out) | exact HB.out)))); (case aL => have := LMc28.out; omega); intro v182 w34 ho hb hg hat; rw [← Ny181.out] at ho; have n0_ := Aside0.mk (blk_grown (g := gb180) (o := .cells #[.int .i64 ((rd_T71 y172 x43_2).f0), .int .i64 (wrap64 (((rd_T71 y172 x43_2).f1) - a1)), .int .i64 ((rd_T71 y172 x43_2).f2), .int .i64 ((rd_T71 y172 x43_2).f3)] 71 (0, 0)) (by (with_reducible repeat (first | refine blk_drewN ?_ _ | refine blk_drew ?_ | refine blk_alloc ?_ _)); refine blk_put (cs := #[.int .i64 ((rd_T71 y172 x43_2).f0), .int .i64 ((rd_T71 y172 x43_2).f1), .int .i64 ((rd_T71 y172 x43_2).f2), .int .i64 ((rd_T71 y172 x43_2).f3)]) ?_ 1 _ rfl; (with_reducible repeat (first | refine blk_drewN ?_ _ | refine blk_drew ?_ | refine blk_alloc ?_ _)); exact BK180.out) hg (Kd.R_away HO_7.out (fun _ hk => hk))); have n1_ := Aside0.mk (hb); have n2_ := Aside0.mk (ho); clear BK180; clear HB; clear HO_7; have BK180 := n0_; have HB := n1_; have HO183 := n2_; clear n0_ n1_ n2_; clear ho hb hg hat; have hcz35_0 : w34.cell? ⟨gb180, 0, none⟩ = some (.int .i64 ((rd_T71 y172 x43_2).f0)) := (blk_cell BK180.out 0).trans rfl; have hcz35_1 : w34.cell? ⟨gb180, 1, none⟩ = some (.int .i64 (wrap64 (((rd_T71 y172 x43_2).f1) - a1))) := (blk_cell BK180.out 1).trans rfl; have hcz35_2 : w34.cell? ⟨gb180, 2, none⟩ = some (.int .i64 ((rd_T71 y172 x43_2).f2)) := (blk_cell BK180.out 2).trans rfl; have hcz35_3 : w34.cell? ⟨gb180, 3, none⟩ = some (.int .i64 ((rd_T71 y172 x43_2).f3)) := (blk_cell BK180.out 3).trans rfl; have hfz35_0 := blk_frozen BK180.out 0; have hfz35_1 := blk_frozen BK180.out 1; have hfz35_2 := blk_frozen BK180.out 2; have hfz35_3 := blk_frozen BK180.out 3; obtain ⟨Ao36, co36, eo36⟩ := Kd.R_slice HO183.out; subst eo36) | ((with_reducible refine gate_callee (f := 30) rfl ?_); refine goesL_ (some 70) rfl rfl Try.func30 (by kernel_rfl) rfl #[.slice Ao36 y181.length co36] rfl (by (try simp only [List.map_toArray, List.map_cons, List.map_nil]); first | done | rfl | (simp only [List.length_drop, List.length_take]; rfl)) ?_; (with_reducible refine (code_Check.calls kj20 _ _ y181 t184 t185 _ ?side1 ?side2 A30.out).mono ?_); (case side1 => repeat (first | exact (Kd.R_reads' HO183.out).2.2 | (with_reducible refine Kd.C_alloc ?_ _) | (with_reducible refine Kd.C_drewN ?_ _) | (with_reducible refine Kd.C_drew ?_))); (case side2 => exact (Kd.R_reads' HO183.out).2.1); rintro e w37 ⟨rfl, hb⟩; refine ⟨_, rfl, ?_⟩; have n0_ := Aside0.mk (Kd.R_below (by (with_reducible repeat (first | apply Kd.R_alloc | apply Kd.R_drewN | apply Kd.R_drew)); exact HO183.out) hb); have n1_ := Aside0.mk (blk_below (g := gb180) (o := .cells #[.int .i64 ((rd_T71 y172 x43_2).f0), .int .i64 (wrap64 (((rd_T71 y172 x43_2).f1) - a1)), .int .i64 ((rd_T71 y172 x43_2).f2), .int .i64 ((rd_T71 y172 x43_2).f3)] 71 (0, 0)) (by (with_reducible repeat (first | refine blk_drewN ?_ _ | refine blk_drew ?_ | refine blk_alloc ?_ _)); exact BK180.out) hb); have n2_ := Aside0.mk (below_step (by repeat (first | (with_reducible first | exact HB.out | apply below_alloc | apply pw_below_drewN | apply below_drew1 | refine below_set ?_ GE180.out) | exact HB.out)) hb); clear HO183; clear BK180; clear HB; have HO183 := n0_; have BK180 := n1_; have HB := n2_; clear n0_ n1_ n2_; (try clear hb); (try clear hb2); (try clear hk); (try clear hi)) | (go_at_call 32; (with_reducible refine (code_Blocks.calls kj20 _ _ y181 t186 _ ?side1 ?side2 A32.out).mono ?_); (case side1 => repeat (first | exact (Kd.R_reads' HO183.out).2.2 | (with_reducible refine Kd.C_alloc ?_ _) | (with_reducible refine Kd.C_drewN ?_ _) | (with_reducible refine Kd.C_drew ?_))); (case side2 => exact (Kd.R_reads' HO183.out).2.1); rintro e w38 ⟨rfl, hb⟩; have n0_ := Aside0.mk (Kd.R_below (by (with_reducible repeat (first | apply Kd.R_alloc | apply Kd.R_drewN | apply Kd.R_drew)); exact HO183.out) hb); have n1_ := Aside0.mk (blk_below (g := gb180) (o := .cells #[.int .i64 ((rd_T71 y172 x43_2).f0), .int .i64 (wrap64 (((rd_T71 y172 x43_2).f1) - a1)), .int .i64 ((rd_T71 y172 x43_2).f2), .int .i64 ((rd_T71 y172 x43_2).f3)] 71 (0, 0)) (by (with_reducible repeat (first | refine blk_drewN ?_ _ | refine blk_drew ?_ | refine blk_alloc ?_ _)); exact BK180.out) hb); have n2_ := Aside0.mk (below_step (by repeat (first | (with_reducible first | exact HB.out | apply below_alloc | apply pw_below_drewN | apply below_drew1 | refine below_set ?_ GE180.out) | exact HB.out)) hb); clear HO183; clear BK180; clear HB; have HO183 := n0_; have BK180 := n1_; have HB := n2_; clear n0_ n1_ n2_; (try clear hb); (try clear hb2); (try clear hk); (try clear hi)))
                                    go_ret
                                    exact ⟨by first | rfl | (simp [errW_none, errW_some] <;> rfl) | (simp [*, errW_none, errW_some] <;> rfl), by repeat (first | (with_reducible first | exact HB.out | apply below_alloc | apply pw_below_drewN | apply below_drew1 | refine below_set ?_ GE180.out) | exact HB.out)⟩
                                  · rw [if_neg c31] at H
                                    have c31b0 : (t185 == 0) = false := beq_eq_false_iff_ne.mpr c31
                                    have c31b1 : (t185 != 0) = true := bne_iff_ne.mpr c31
                                    obtain rfl := Option.some.inj H
                                    have hcz39_0 : wc.cell? ⟨gb180, 0, none⟩ = some (.int .i64 ((rd_T71 y172 x43_2).f0)) := (blk_cell BK180.out 0).trans rfl
                                    have hcz39_1 : wc.cell? ⟨gb180, 1, none⟩ = some (.int .i64 ((rd_T71 y172 x43_2).f1)) := (blk_cell BK180.out 1).trans rfl
                                    have hcz39_2 : wc.cell? ⟨gb180, 2, none⟩ = some (.int .i64 ((rd_T71 y172 x43_2).f2)) := (blk_cell BK180.out 2).trans rfl
                                    have hcz39_3 : wc.cell? ⟨gb180, 3, none⟩ = some (.int .i64 ((rd_T71 y172 x43_2).f3)) := (blk_cell BK180.out 3).trans rfl
                                    have hfz39_0 := blk_frozen BK180.out 0
                                    have hfz39_1 := blk_frozen BK180.out 1
                                    have hfz39_2 := blk_frozen BK180.out 2
                                    have hfz39_3 := blk_frozen BK180.out 3
                                    go_wp2_with (first | ((with_reducible refine gate_builtin (b := .append) (xs := #[.tmp 60, .tmp 62]) rfl ?_); (try (refine gate_guard (by rfl) ?_; dsimp only)); at_builtin; refine Kd.R_append k71 (w0 := w) w.heap.size rfl (.tmp 60) (.tmp 62) 63 71 (.agg #[(.int .i64 0), (.int .i64 0), (.int .i64 0), (.int .i64 0)]) 32 rfl Try.underlying63 info71 rfl (by decide) (by omega) u7 x7_2 (⟨((rd_T71 y172 x43_2).f0), wrap64 (((rd_T71 y172 x43_2).f1) - a1), ((rd_T71 y172 x43_2).f2), ((rd_T71 y172 x43_2).f3)⟩ : S71) [.int .i64 ((rd_T71 y172 x43_2).f0), .int .i64 (wrap64 (((rd_T71 y172 x43_2).f1) - a1)), .int .i64 ((rd_T71 y172 x43_2).f2), .int .i64 ((rd_T71 y172 x43_2).f3)] (fun k_ => k_ ≠ gb180) (fun _ => False) rfl (by first | (go_simp; done) | (go_simp; rfl)) ?aP (fun _ hk => hk.elim) ?aF ?aO ?aB ?aS ?aL ?_; (case aP => exact k71_mkM _ _ _ (⟨((rd_T71 y172 x43_2).f0), wrap64 (((rd_T71 y172 x43_2).f1) - a1), ((rd_T71 y172 x43_2).f2), ((rd_T71 y172 x43_2).f3)⟩ : S71)); (case aB => exact (by repeat (first | (with_reducible first | exact HB.out | apply below_alloc | apply pw_below_drewN | apply below_drew1 | refine below_set ?_ GE180.out) | exact HB.out))); (case aF => exact (fun k_ hk => Kd.freshB (g := gb180) (o := .cells #[.int .i64 ((rd_T71 y172 x43_2).f0), .int .i64 (wrap64 (((rd_T71 y172 x43_2).f1) - a1)), .int .i64 ((rd_T71 y172 x43_2).f2), .int .i64 ((rd_T71 y172 x43_2).f3)] 71 (0, 0)) (by (with_reducible repeat (first | refine blk_drewN ?_ _ | refine blk_drew ?_ | refine blk_alloc ?_ _)); refine blk_put (cs := #[.int .i64 ((rd_T71 y172 x43_2).f0), .int .i64 ((rd_T71 y172 x43_2).f1), .int .i64 ((rd_T71 y172 x43_2).f2), .int .i64 ((rd_T71 y172 x43_2).f3)]) ?_ 1 _ rfl; (with_reducible repeat (first | refine blk_drewN ?_ _ | refine blk_drew ?_ | refine blk_alloc ?_ _)); exact BK180.out) k_ hk)); (case aO => exact (by (with_reducible repeat (first | apply Kd.R_alloc | apply Kd.R_drewN | apply Kd.R_drew)); exact Kd.R_mono (Kd.R_far (p := ⟨gb180, 1, none⟩) (Kd.R_mono HO_7.out (fun k_ hk => (⟨hk, hk⟩ : _ ∧ k_ ≠ gb180))) (fun _ hk => hk.2) (.int .i64 (wrap64 (((rd_T71 y172 x43_2).f1) - a1)))) (fun _ hk => hk.1))); (case aS => exact (below_size (by repeat (first | (with_reducible first | exact HB.out | apply below_alloc | apply pw_below_drewN | apply below_drew1 | refine below_set ?_ GE180.out) | exact HB.out)))); (case aL => have := LMc28.out; omega); intro v182 w40 ho hb hg hat; rw [← Ny181.out] at ho; have n0_ := Aside0.mk (blk_grown (g := gb180) (o := .cells #[.int .i64 ((rd_T71 y172 x43_2).f0), .int .i64 (wrap64 (((rd_T71 y172 x43_2).f1) - a1)), .int .i64 ((rd_T71 y172 x43_2).f2), .int .i64 ((rd_T71 y172 x43_2).f3)] 71 (0, 0)) (by (with_reducible repeat (first | refine blk_drewN ?_ _ | refine blk_drew ?_ | refine blk_alloc ?_ _)); refine blk_put (cs := #[.int .i64 ((rd_T71 y172 x43_2).f0), .int .i64 ((rd_T71 y172 x43_2).f1), .int .i64 ((rd_T71 y172 x43_2).f2), .int .i64 ((rd_T71 y172 x43_2).f3)]) ?_ 1 _ rfl; (with_reducible repeat (first | refine blk_drewN ?_ _ | refine blk_drew ?_ | refine blk_alloc ?_ _)); exact BK180.out) hg (Kd.R_away HO_7.out (fun _ hk => hk))); have n1_ := Aside0.mk (hb); have n2_ := Aside0.mk (ho); clear BK180; clear HB; clear HO_7; have BK180 := n0_; have HB := n1_; have HO183 := n2_; clear n0_ n1_ n2_; clear ho hb hg hat; have hcz41_0 : w40.cell? ⟨gb180, 0, none⟩ = some (.int .i64 ((rd_T71 y172 x43_2).f0)) := (blk_cell BK180.out 0).trans rfl; have hcz41_1 : w40.cell? ⟨gb180, 1, none⟩ = some (.int .i64 (wrap64 (((rd_T71 y172 x43_2).f1) - a1))) := (blk_cell BK180.out 1).trans rfl; have hcz41_2 : w40.cell? ⟨gb180, 2, none⟩ = some (.int .i64 ((rd_T71 y172 x43_2).f2)) := (blk_cell BK180.out 2).trans rfl; have hcz41_3 : w40.cell? ⟨gb180, 3, none⟩ = some (.int .i64 ((rd_T71 y172 x43_2).f3)) := (blk_cell BK180.out 3).trans rfl; have hfz41_0 := blk_frozen BK180.out 0; have hfz41_1 := blk_frozen BK180.out 1; have hfz41_2 := blk_frozen BK180.out 2; have hfz41_3 := blk_frozen BK180.out 3; obtain ⟨Ao42, co42, eo42⟩ := Kd.R_slice HO183.out; subst eo42) | ((with_reducible refine gate_callee (f := 30) rfl ?_); refine goesL_ (some 70) rfl rfl Try.func30 (by kernel_rfl) rfl #[.slice Ao42 y181.length co42] rfl (by (try simp only [List.map_toArray, List.map_cons, List.map_nil]); first | done | rfl | (simp only [List.length_drop, List.length_take]; rfl)) ?_; (with_reducible refine (code_Check.calls kj20 _ _ y181 t184 t185 _ ?side1 ?side2 A30.out).mono ?_); (case side1 => repeat (first | exact (Kd.R_reads' HO183.out).2.2 | (with_reducible refine Kd.C_alloc ?_ _) | (with_reducible refine Kd.C_drewN ?_ _) | (with_reducible refine Kd.C_drew ?_))); (case side2 => exact (Kd.R_reads' HO183.out).2.1); rintro e w43 ⟨rfl, hb⟩; refine ⟨_, rfl, ?_⟩; have n0_ := Aside0.mk (Kd.R_below (by (with_reducible repeat (first | apply Kd.R_alloc | apply Kd.R_drewN | apply Kd.R_drew)); exact HO183.out) hb); have n1_ := Aside0.mk (blk_below (g := gb180) (o := .cells #[.int .i64 ((rd_T71 y172 x43_2).f0), .int .i64 (wrap64 (((rd_T71 y172 x43_2).f1) - a1)), .int .i64 ((rd_T71 y172 x43_2).f2), .int .i64 ((rd_T71 y172 x43_2).f3)] 71 (0, 0)) (by (with_reducible repeat (first | refine blk_drewN ?_ _ | refine blk_drew ?_ | refine blk_alloc ?_ _)); exact BK180.out) hb); have n2_ := Aside0.mk (below_step (by repeat (first | (with_reducible first | exact HB.out | apply below_alloc | apply pw_below_drewN | apply below_drew1 | refine below_set ?_ GE180.out) | exact HB.out)) hb); clear HO183; clear BK180; clear HB; have HO183 := n0_; have BK180 := n1_; have HB := n2_; clear n0_ n1_ n2_; (try clear hb); (try clear hb2); (try clear hk); (try clear hi)))
                                    go_ret
                                    exact ⟨by first | rfl | (simp [errW_none, errW_some] <;> rfl) | (simp [*, errW_none, errW_some] <;> rfl), by repeat (first | (with_reducible first | exact HB.out | apply below_alloc | apply pw_below_drewN | apply below_drew1 | refine below_set ?_ GE180.out) | exact HB.out)⟩
                                · rw [if_neg c29] at H
                                  have c29b0 : (((rd_T71 y172 x43_2).f0) == 5) = false := beq_eq_false_iff_ne.mpr c29
                                  have c29b1 : (((rd_T71 y172 x43_2).f0) != 5) = true := bne_iff_ne.mpr c29
                                  have H' := Aside0.mk H
                                  clear H
                                  have hcz44_0 : wc.cell? ⟨gb180, 0, none⟩ = some (.int .i64 ((rd_T71 y172 x43_2).f0)) := (blk_cell BK180.out 0).trans rfl
                                  have hcz44_1 : wc.cell? ⟨gb180, 1, none⟩ = some (.int .i64 ((rd_T71 y172 x43_2).f1)) := (blk_cell BK180.out 1).trans rfl
                                  have hcz44_2 : wc.cell? ⟨gb180, 2, none⟩ = some (.int .i64 ((rd_T71 y172 x43_2).f2)) := (blk_cell BK180.out 2).trans rfl
                                  have hcz44_3 : wc.cell? ⟨gb180, 3, none⟩ = some (.int .i64 ((rd_T71 y172 x43_2).f3)) := (blk_cell BK180.out 3).trans rfl
                                  have hfz44_0 := blk_frozen BK180.out 0
                                  have hfz44_1 := blk_frozen BK180.out 1
                                  have hfz44_2 := blk_frozen BK180.out 2
                                  have hfz44_3 := blk_frozen BK180.out 3
                                  go_wp2_with (first | ((with_reducible refine gate_builtin (b := .append) (xs := #[.tmp 60, .tmp 62]) rfl ?_); (try (refine gate_guard (by rfl) ?_; dsimp only)); at_builtin; refine Kd.R_append k71 (w0 := w) w.heap.size rfl (.tmp 60) (.tmp 62) 63 71 (.agg #[(.int .i64 0), (.int .i64 0), (.int .i64 0), (.int .i64 0)]) 32 rfl Try.underlying63 info71 rfl (by decide) (by omega) u7 x7_2 (⟨((rd_T71 y172 x43_2).f0), wrap64 (((rd_T71 y172 x43_2).f1) - a1), ((rd_T71 y172 x43_2).f2), ((rd_T71 y172 x43_2).f3)⟩ : S71) [.int .i64 ((rd_T71 y172 x43_2).f0), .int .i64 (wrap64 (((rd_T71 y172 x43_2).f1) - a1)), .int .i64 ((rd_T71 y172 x43_2).f2), .int .i64 ((rd_T71 y172 x43_2).f3)] (fun k_ => k_ ≠ gb180) (fun _ => False) rfl (by first | (go_simp; done) | (go_simp; rfl)) ?aP (fun _ hk => hk.elim) ?aF ?aO ?aB ?aS ?aL ?_; (case aP => exact k71_mkM _ _ _ (⟨((rd_T71 y172 x43_2).f0), wrap64 (((rd_T71 y172 x43_2).f1) - a1), ((rd_T71 y172 x43_2).f2), ((rd_T71 y172 x43_2).f3)⟩ : S71)); (case aB => exact (by repeat (first | (with_reducible first | exact HB.out | apply below_alloc | apply pw_below_drewN | apply below_drew1 | refine below_set ?_ GE180.out) | exact HB.out))); (case aF => exact (fun k_ hk => Kd.freshB (g := gb180) (o := .cells #[.int .i64 ((rd_T71 y172 x43_2).f0), .int .i64 (wrap64 (((rd_T71 y172 x43_2).f1) - a1)), .int .i64 ((rd_T71 y172 x43_2).f2), .int .i64 ((rd_T71 y172 x43_2).f3)] 71 (0, 0)) (by (with_reducible repeat (first | refine blk_drewN ?_ _ | refine blk_drew ?_ | refine blk_alloc ?_ _)); refine blk_put (cs := #[.int .i64 ((rd_T71 y172 x43_2).f0), .int .i64 ((rd_T71 y172 x43_2).f1), .int .i64 ((rd_T71 y172 x43_2).f2), .int .i64 ((rd_T71 y172 x43_2).f3)]) ?_ 1 _ rfl; (with_reducible repeat (first | refine blk_drewN ?_ _ | refine blk_drew ?_ | refine blk_alloc ?_ _)); exact BK180.out) k_ hk)); (case aO => exact (by (with_reducible repeat (first | apply Kd.R_alloc | apply Kd.R_drewN | apply Kd.R_drew)); exact Kd.R_mono (Kd.R_far (p := ⟨gb180, 1, none⟩) (Kd.R_mono HO_7.out (fun k_ hk => (⟨hk, hk⟩ : _ ∧ k_ ≠ gb180))) (fun _ hk => hk.2) (.int .i64 (wrap64 (((rd_T71 y172 x43_2).f1) - a1)))) (fun _ hk => hk.1))); (case aS => exact (below_size (by repeat (first | (with_reducible first | exact HB.out | apply below_alloc | apply pw_below_drewN | apply below_drew1 | refine below_set ?_ GE180.out) | exact HB.out)))); (case aL => have := LMc28.out; omega); intro v182 w45 ho hb hg hat; rw [← Ny181.out] at ho; have n0_ := Aside0.mk (blk_grown (g := gb180) (o := .cells #[.int .i64 ((rd_T71 y172 x43_2).f0), .int .i64 (wrap64 (((rd_T71 y172 x43_2).f1) - a1)), .int .i64 ((rd_T71 y172 x43_2).f2), .int .i64 ((rd_T71 y172 x43_2).f3)] 71 (0, 0)) (by (with_reducible repeat (first | refine blk_drewN ?_ _ | refine blk_drew ?_ | refine blk_alloc ?_ _)); refine blk_put (cs := #[.int .i64 ((rd_T71 y172 x43_2).f0), .int .i64 ((rd_T71 y172 x43_2).f1), .int .i64 ((rd_T71 y172 x43_2).f2), .int .i64 ((rd_T71 y172 x43_2).f3)]) ?_ 1 _ rfl; (with_reducible repeat (first | refine blk_drewN ?_ _ | refine blk_drew ?_ | refine blk_alloc ?_ _)); exact BK180.out) hg (Kd.R_away HO_7.out (fun _ hk => hk))); have n1_ := Aside0.mk (hb); have n2_ := Aside0.mk (ho); clear BK180; clear HB; clear HO_7; have BK180 := n0_; have HB := n1_; have HO183 := n2_; clear n0_ n1_ n2_; clear ho hb hg hat; have hcz46_0 : w45.cell? ⟨gb180, 0, none⟩ = some (.int .i64 ((rd_T71 y172 x43_2).f0)) := (blk_cell BK180.out 0).trans rfl; have hcz46_1 : w45.cell? ⟨gb180, 1, none⟩ = some (.int .i64 (wrap64 (((rd_T71 y172 x43_2).f1) - a1))) := (blk_cell BK180.out 1).trans rfl; have hcz46_2 : w45.cell? ⟨gb180, 2, none⟩ = some (.int .i64 ((rd_T71 y172 x43_2).f2)) := (blk_cell BK180.out 2).trans rfl; have hcz46_3 : w45.cell? ⟨gb180, 3, none⟩ = some (.int .i64 ((rd_T71 y172 x43_2).f3)) := (blk_cell BK180.out 3).trans rfl; have hfz46_0 := blk_frozen BK180.out 0; have hfz46_1 := blk_frozen BK180.out 1; have hfz46_2 := blk_frozen BK180.out 2; have hfz46_3 := blk_frozen BK180.out 3))
                                  go_roundg kj20
                                  case measure => have := HJ5.out; have := HK2.out; have := HJ20.out; omega
                                  case rel => exact ⟨(y181), (wrap64 (x43_2 + 1)), (by first | rfl | (simp; done) | (simp [*]; done)), H', ⟨by have := HJ5.out; have := HK2.out; have := HJ20.out; omega⟩, ⟨by (with_reducible repeat (first | apply Kd.R_alloc | apply Kd.R_drewN | apply Kd.R_drew)); exact Kd.R_mono HO183.out (fun _ hk => trivial)⟩, ⟨by repeat (first | (with_reducible first | exact HB.out | apply below_alloc | apply pw_below_drewN | apply below_drew1 | refine below_set ?_ GE180.out) | exact HB.out)⟩⟩
                              · rw [if_neg c28] at H
                                exact absurd H (by simp)
                            · replace c27 := Bool.eq_false_iff.mpr c27
                              subst c27
                              have H1 : (if x7_2.length < 4398046511104 then ((some (x7_2 ++ [(⟨((rd_T71 y172 x43_2).f0), ((rd_T71 y172 x43_2).f1), ((rd_T71 y172 x43_2).f2), ((rd_T71 y172 x43_2).f3)⟩ : S71)] : List (S71))).bind fun y187 => (if ((rd_T71 y172 x43_2).f0) = 5 then ((code_Check.f kj20 y187).bind fun bt190 => (if bt190.2 = 0 then ((code_Blocks.f kj20 y187).bind fun t192 => (some (t192 == 1))) else (some false))) else (countermandlaw07_CodeBlocks.l0 kj20 a1 y187 y172 (y172.length : Int) (wrap64 (x43_2 + 1))))) else (none)) = some r := by rw [if_neg (show ¬ (false = true) by decide)] at H; exact H
                              clear H
                              have H := H1
                              clear H1
                              by_cases c47 : x7_2.length < 4398046511104
                              · rw [if_pos c47] at H
                                have LMc47 := Aside0.mk c47
                                clear c47
                                obtain ⟨y187, hy187⟩ : ∃ y_ : List (S71), y_ = (x7_2 ++ [(⟨((rd_T71 y172 x43_2).f0), ((rd_T71 y172 x43_2).f1), ((rd_T71 y172 x43_2).f2), ((rd_T71 y172 x43_2).f3)⟩ : S71)]) := ⟨_, rfl⟩
                                replace H : (if ((rd_T71 y172 x43_2).f0) = 5 then ((code_Check.f kj20 y187).bind fun bt190 => (if bt190.2 = 0 then ((code_Blocks.f kj20 y187).bind fun t192 => (some (t192 == 1))) else (some false))) else (countermandlaw07_CodeBlocks.l0 kj20 a1 y187 y172 (y172.length : Int) (wrap64 (x43_2 + 1)))) = some r := by first | (rw [hy187]; with_reducible exact H) | (have H2_ := (Option.bind_some _ _).symm.trans H; rw [hy187]; with_reducible exact H2_) | (have H2_ := (Option.bind_some _ _).symm.trans H; with_reducible exact H2_) | with_reducible exact H | (rw [hy187]; exact H) | exact H
                                have Ny187 := Aside0.mk hy187
                                clear hy187
                                by_cases c48 : ((rd_T71 y172 x43_2).f0) = 5
                                · rw [if_pos c48] at H
                                  have c48b0 : (((rd_T71 y172 x43_2).f0) == 5) = true := beq_iff_eq.mpr c48
                                  have c48b1 : (((rd_T71 y172 x43_2).f0) != 5) = false := bne_eq_false_iff_eq.mpr c48
                                  clear c48
                                  replace H := Option.bind_eq_some_iff.mp H
                                  obtain ⟨⟨t190, t191⟩, A490, H⟩ := H
                                  replace H : (if t191 = 0 then ((code_Blocks.f kj20 y187).bind fun t192 => (some (t192 == 1))) else (some false)) = some r := H
                                  have A49 := Aside0.mk A490
                                  clear A490
                                  by_cases c50 : t191 = 0
                                  · rw [if_pos c50] at H
                                    have c50b0 : (t191 == 0) = true := beq_iff_eq.mpr c50
                                    have c50b1 : (t191 != 0) = false := bne_eq_false_iff_eq.mpr c50
                                    clear c50
                                    replace H := Option.bind_eq_some_iff.mp H
                                    obtain ⟨t192, A510, H⟩ := H
                                    replace H : (some (t192 == 1)) = some r := H
                                    have A51 := Aside0.mk A510
                                    clear A510
                                    obtain rfl := Option.some.inj H
                                    have hcz52_0 : wc.cell? ⟨gb180, 0, none⟩ = some (.int .i64 ((rd_T71 y172 x43_2).f0)) := (blk_cell BK180.out 0).trans rfl
                                    have hcz52_1 : wc.cell? ⟨gb180, 1, none⟩ = some (.int .i64 ((rd_T71 y172 x43_2).f1)) := (blk_cell BK180.out 1).trans rfl
                                    have hcz52_2 : wc.cell? ⟨gb180, 2, none⟩ = some (.int .i64 ((rd_T71 y172 x43_2).f2)) := (blk_cell BK180.out 2).trans rfl
                                    have hcz52_3 : wc.cell? ⟨gb180, 3, none⟩ = some (.int .i64 ((rd_T71 y172 x43_2).f3)) := (blk_cell BK180.out 3).trans rfl
                                    have hfz52_0 := blk_frozen BK180.out 0
                                    have hfz52_1 := blk_frozen BK180.out 1
                                    have hfz52_2 := blk_frozen BK180.out 2
                                    have hfz52_3 := blk_frozen BK180.out 3
                                    go_wp2_with (first | ((with_reducible refine gate_builtin (b := .append) (xs := #[.tmp 60, .tmp 62]) rfl ?_); (try (refine gate_guard (by rfl) ?_; dsimp only)); at_builtin; refine Kd.R_append k71 (w0 := w) w.heap.size rfl (.tmp 60) (.tmp 62) 63 71 (.agg #[(.int .i64 0), (.int .i64 0), (.int .i64 0), (.int .i64 0)]) 32 rfl Try.underlying63 info71 rfl (by decide) (by omega) u7 x7_2 (⟨((rd_T71 y172 x43_2).f0), ((rd_T71 y172 x43_2).f1), ((rd_T71 y172 x43_2).f2), ((rd_T71 y172 x43_2).f3)⟩ : S71) [.int .i64 ((rd_T71 y172 x43_2).f0), .int .i64 ((rd_T71 y172 x43_2).f1), .int .i64 ((rd_T71 y172 x43_2).f2), .int .i64 ((rd_T71 y172 x43_2).f3)] (fun k_ => k_ ≠ gb180) (fun _ => False) rfl rfl ?aP (fun _ hk => hk.elim) ?aF ?aO ?aB ?aS ?aL ?_; (case aP => exact k71_mkM _ _ _ (⟨((rd_T71 y172 x43_2).f0), ((rd_T71 y172 x43_2).f1), ((rd_T71 y172 x43_2).f2), ((rd_T71 y172 x43_2).f3)⟩ : S71)); (case aB => exact (by repeat (first | (with_reducible first | exact HB.out | apply below_alloc | apply pw_below_drewN | apply below_drew1 | refine below_set ?_ GE180.out) | exact HB.out))); (case aF => exact (fun k_ hk => Kd.freshB (g := gb180) (o := .cells #[.int .i64 ((rd_T71 y172 x43_2).f0), .int .i64 ((rd_T71 y172 x43_2).f1), .int .i64 ((rd_T71 y172 x43_2).f2), .int .i64 ((rd_T71 y172 x43_2).f3)] 71 (0, 0)) (by (with_reducible repeat (first | refine blk_drewN ?_ _ | refine blk_drew ?_ | refine blk_alloc ?_ _)); exact BK180.out) k_ hk)); (case aO => exact (by (with_reducible repeat (first | apply Kd.R_alloc | apply Kd.R_drewN | apply Kd.R_drew)); exact HO_7.out)); (case aS => exact (below_size (by repeat (first | (with_reducible first | exact HB.out | apply below_alloc | apply pw_below_drewN | apply below_drew1 | refine below_set ?_ GE180.out) | exact HB.out)))); (case aL => have := LMc47.out; omega); intro v188 w53 ho hb hg hat; rw [← Ny187.out] at ho; have n0_ := Aside0.mk (blk_grown (g := gb180) (o := .cells #[.int .i64 ((rd_T71 y172 x43_2).f0), .int .i64 ((rd_T71 y172 x43_2).f1), .int .i64 ((rd_T71 y172 x43_2).f2), .int .i64 ((rd_T71 y172 x43_2).f3)] 71 (0, 0)) (by (with_reducible repeat (first | refine blk_drewN ?_ _ | refine blk_drew ?_ | refine blk_alloc ?_ _)); exact BK180.out) hg (Kd.R_away HO_7.out (fun _ hk => hk))); have n1_ := Aside0.mk (hb); have n2_ := Aside0.mk (ho); clear BK180; clear HB; clear HO_7; have BK180 := n0_; have HB := n1_; have HO189 := n2_; clear n0_ n1_ n2_; clear ho hb hg hat; have hcz54_0 : w53.cell? ⟨gb180, 0, none⟩ = some (.int .i64 ((rd_T71 y172 x43_2).f0)) := (blk_cell BK180.out 0).trans rfl; have hcz54_1 : w53.cell? ⟨gb180, 1, none⟩ = some (.int .i64 ((rd_T71 y172 x43_2).f1)) := (blk_cell BK180.out 1).trans rfl; have hcz54_2 : w53.cell? ⟨gb180, 2, none⟩ = some (.int .i64 ((rd_T71 y172 x43_2).f2)) := (blk_cell BK180.out 2).trans rfl; have hcz54_3 : w53.cell? ⟨gb180, 3, none⟩ = some (.int .i64 ((rd_T71 y172 x43_2).f3)) := (blk_cell BK180.out 3).trans rfl; have hfz54_0 := blk_frozen BK180.out 0; have hfz54_1 := blk_frozen BK180.out 1; have hfz54_2 := blk_frozen BK180.out 2; have hfz54_3 := blk_frozen BK180.out 3; obtain ⟨Ao55, co55, eo55⟩ := Kd.R_slice HO189.out; subst eo55) | ((with_reducible refine gate_callee (f := 30) rfl ?_); refine goesL_ (some 70) rfl rfl Try.func30 (by kernel_rfl) rfl #[.slice Ao55 y187.length co55] rfl (by (try simp only [List.map_toArray, List.map_cons, List.map_nil]); first | done | rfl | (simp only [List.length_drop, List.length_take]; rfl)) ?_; (with_reducible refine (code_Check.calls kj20 _ _ y187 t190 t191 _ ?side1 ?side2 A49.out).mono ?_); (case side1 => repeat (first | exact (Kd.R_reads' HO189.out).2.2 | (with_reducible refine Kd.C_alloc ?_ _) | (with_reducible refine Kd.C_drewN ?_ _) | (with_reducible refine Kd.C_drew ?_))); (case side2 => exact (Kd.R_reads' HO189.out).2.1); rintro e w56 ⟨rfl, hb⟩; refine ⟨_, rfl, ?_⟩; have n0_ := Aside0.mk (Kd.R_below (by (with_reducible repeat (first | apply Kd.R_alloc | apply Kd.R_drewN | apply Kd.R_drew)); exact HO189.out) hb); have n1_ := Aside0.mk (blk_below (g := gb180) (o := .cells #[.int .i64 ((rd_T71 y172 x43_2).f0), .int .i64 ((rd_T71 y172 x43_2).f1), .int .i64 ((rd_T71 y172 x43_2).f2), .int .i64 ((rd_T71 y172 x43_2).f3)] 71 (0, 0)) (by (with_reducible repeat (first | refine blk_drewN ?_ _ | refine blk_drew ?_ | refine blk_alloc ?_ _)); exact BK180.out) hb); have n2_ := Aside0.mk (below_step (by repeat (first | (with_reducible first | exact HB.out | apply below_alloc | apply pw_below_drewN | apply below_drew1 | refine below_set ?_ GE180.out) | exact HB.out)) hb); clear HO189; clear BK180; clear HB; have HO189 := n0_; have BK180 := n1_; have HB := n2_; clear n0_ n1_ n2_; (try clear hb); (try clear hb2); (try clear hk); (try clear hi)) | (go_at_call 32; (with_reducible refine (code_Blocks.calls kj20 _ _ y187 t192 _ ?side1 ?side2 A51.out).mono ?_); (case side1 => repeat (first | exact (Kd.R_reads' HO189.out).2.2 | (with_reducible refine Kd.C_alloc ?_ _) | (with_reducible refine Kd.C_drewN ?_ _) | (with_reducible refine Kd.C_drew ?_))); (case side2 => exact (Kd.R_reads' HO189.out).2.1); rintro e w57 ⟨rfl, hb⟩; have n0_ := Aside0.mk (Kd.R_below (by (with_reducible repeat (first | apply Kd.R_alloc | apply Kd.R_drewN | apply Kd.R_drew)); exact HO189.out) hb); have n1_ := Aside0.mk (blk_below (g := gb180) (o := .cells #[.int .i64 ((rd_T71 y172 x43_2).f0), .int .i64 ((rd_T71 y172 x43_2).f1), .int .i64 ((rd_T71 y172 x43_2).f2), .int .i64 ((rd_T71 y172 x43_2).f3)] 71 (0, 0)) (by (with_reducible repeat (first | refine blk_drewN ?_ _ | refine blk_drew ?_ | refine blk_alloc ?_ _)); exact BK180.out) hb); have n2_ := Aside0.mk (below_step (by repeat (first | (with_reducible first | exact HB.out | apply below_alloc | apply pw_below_drewN | apply below_drew1 | refine below_set ?_ GE180.out) | exact HB.out)) hb); clear HO189; clear BK180; clear HB; have HO189 := n0_; have BK180 := n1_; have HB := n2_; clear n0_ n1_ n2_; (try clear hb); (try clear hb2); (try clear hk); (try clear hi)))
                                    go_ret
                                    exact ⟨by first | rfl | (simp [errW_none, errW_some] <;> rfl) | (simp [*, errW_none, errW_some] <;> rfl), by repeat (first | (with_reducible first | exact HB.out | apply below_alloc | apply pw_below_drewN | apply below_drew1 | refine below_set ?_ GE180.out) | exact HB.out)⟩
                                  · rw [if_neg c50] at H
                                    have c50b0 : (t191 == 0) = false := beq_eq_false_iff_ne.mpr c50
                                    have c50b1 : (t191 != 0) = true := bne_iff_ne.mpr c50
                                    obtain rfl := Option.some.inj H
                                    have hcz58_0 : wc.cell? ⟨gb180, 0, none⟩ = some (.int .i64 ((rd_T71 y172 x43_2).f0)) := (blk_cell BK180.out 0).trans rfl
                                    have hcz58_1 : wc.cell? ⟨gb180, 1, none⟩ = some (.int .i64 ((rd_T71 y172 x43_2).f1)) := (blk_cell BK180.out 1).trans rfl
                                    have hcz58_2 : wc.cell? ⟨gb180, 2, none⟩ = some (.int .i64 ((rd_T71 y172 x43_2).f2)) := (blk_cell BK180.out 2).trans rfl
                                    have hcz58_3 : wc.cell? ⟨gb180, 3, none⟩ = some (.int .i64 ((rd_T71 y172 x43_2).f3)) := (blk_cell BK180.out 3).trans rfl
                                    have hfz58_0 := blk_frozen BK180.out 0
                                    have hfz58_1 := blk_frozen BK180.out 1
                                    have hfz58_2 := blk_frozen BK180.out 2
                                    have hfz58_3 := blk_frozen BK180.out 3
                                    go_wp2_with (first | ((with_reducible refine gate_builtin (b := .append) (xs := #[.tmp 60, .tmp 62]) rfl ?_); (try (refine gate_guard (by rfl) ?_; dsimp only)); at_builtin; refine Kd.R_append k71 (w0 := w) w.heap.size rfl (.tmp 60) (.tmp 62) 63 71 (.agg #[(.int .i64 0), (.int .i64 0), (.int .i64 0), (.int .i64 0)]) 32 rfl Try.underlying63 info71 rfl (by decide) (by omega) u7 x7_2 (⟨((rd_T71 y172 x43_2).f0), ((rd_T71 y172 x43_2).f1), ((rd_T71 y172 x43_2).f2), ((rd_T71 y172 x43_2).f3)⟩ : S71) [.int .i64 ((rd_T71 y172 x43_2).f0), .int .i64 ((rd_T71 y172 x43_2).f1), .int .i64 ((rd_T71 y172 x43_2).f2), .int .i64 ((rd_T71 y172 x43_2).f3)] (fun k_ => k_ ≠ gb180) (fun _ => False) rfl rfl ?aP (fun _ hk => hk.elim) ?aF ?aO ?aB ?aS ?aL ?_; (case aP => exact k71_mkM _ _ _ (⟨((rd_T71 y172 x43_2).f0), ((rd_T71 y172 x43_2).f1), ((rd_T71 y172 x43_2).f2), ((rd_T71 y172 x43_2).f3)⟩ : S71)); (case aB => exact (by repeat (first | (with_reducible first | exact HB.out | apply below_alloc | apply pw_below_drewN | apply below_drew1 | refine below_set ?_ GE180.out) | exact HB.out))); (case aF => exact (fun k_ hk => Kd.freshB (g := gb180) (o := .cells #[.int .i64 ((rd_T71 y172 x43_2).f0), .int .i64 ((rd_T71 y172 x43_2).f1), .int .i64 ((rd_T71 y172 x43_2).f2), .int .i64 ((rd_T71 y172 x43_2).f3)] 71 (0, 0)) (by (with_reducible repeat (first | refine blk_drewN ?_ _ | refine blk_drew ?_ | refine blk_alloc ?_ _)); exact BK180.out) k_ hk)); (case aO => exact (by (with_reducible repeat (first | apply Kd.R_alloc | apply Kd.R_drewN | apply Kd.R_drew)); exact HO_7.out)); (case aS => exact (below_size (by repeat (first | (with_reducible first | exact HB.out | apply below_alloc | apply pw_below_drewN | apply below_drew1 | refine below_set ?_ GE180.out) | exact HB.out)))); (case aL => have := LMc47.out; omega); intro v188 w59 ho hb hg hat; rw [← Ny187.out] at ho; have n0_ := Aside0.mk (blk_grown (g := gb180) (o := .cells #[.int .i64 ((rd_T71 y172 x43_2).f0), .int .i64 ((rd_T71 y172 x43_2).f1), .int .i64 ((rd_T71 y172 x43_2).f2), .int .i64 ((rd_T71 y172 x43_2).f3)] 71 (0, 0)) (by (with_reducible repeat (first | refine blk_drewN ?_ _ | refine blk_drew ?_ | refine blk_alloc ?_ _)); exact BK180.out) hg (Kd.R_away HO_7.out (fun _ hk => hk))); have n1_ := Aside0.mk (hb); have n2_ := Aside0.mk (ho); clear BK180; clear HB; clear HO_7; have BK180 := n0_; have HB := n1_; have HO189 := n2_; clear n0_ n1_ n2_; clear ho hb hg hat; have hcz60_0 : w59.cell? ⟨gb180, 0, none⟩ = some (.int .i64 ((rd_T71 y172 x43_2).f0)) := (blk_cell BK180.out 0).trans rfl; have hcz60_1 : w59.cell? ⟨gb180, 1, none⟩ = some (.int .i64 ((rd_T71 y172 x43_2).f1)) := (blk_cell BK180.out 1).trans rfl; have hcz60_2 : w59.cell? ⟨gb180, 2, none⟩ = some (.int .i64 ((rd_T71 y172 x43_2).f2)) := (blk_cell BK180.out 2).trans rfl; have hcz60_3 : w59.cell? ⟨gb180, 3, none⟩ = some (.int .i64 ((rd_T71 y172 x43_2).f3)) := (blk_cell BK180.out 3).trans rfl; have hfz60_0 := blk_frozen BK180.out 0; have hfz60_1 := blk_frozen BK180.out 1; have hfz60_2 := blk_frozen BK180.out 2; have hfz60_3 := blk_frozen BK180.out 3; obtain ⟨Ao61, co61, eo61⟩ := Kd.R_slice HO189.out; subst eo61) | ((with_reducible refine gate_callee (f := 30) rfl ?_); refine goesL_ (some 70) rfl rfl Try.func30 (by kernel_rfl) rfl #[.slice Ao61 y187.length co61] rfl (by (try simp only [List.map_toArray, List.map_cons, List.map_nil]); first | done | rfl | (simp only [List.length_drop, List.length_take]; rfl)) ?_; (with_reducible refine (code_Check.calls kj20 _ _ y187 t190 t191 _ ?side1 ?side2 A49.out).mono ?_); (case side1 => repeat (first | exact (Kd.R_reads' HO189.out).2.2 | (with_reducible refine Kd.C_alloc ?_ _) | (with_reducible refine Kd.C_drewN ?_ _) | (with_reducible refine Kd.C_drew ?_))); (case side2 => exact (Kd.R_reads' HO189.out).2.1); rintro e w62 ⟨rfl, hb⟩; refine ⟨_, rfl, ?_⟩; have n0_ := Aside0.mk (Kd.R_below (by (with_reducible repeat (first | apply Kd.R_alloc | apply Kd.R_drewN | apply Kd.R_drew)); exact HO189.out) hb); have n1_ := Aside0.mk (blk_below (g := gb180) (o := .cells #[.int .i64 ((rd_T71 y172 x43_2).f0), .int .i64 ((rd_T71 y172 x43_2).f1), .int .i64 ((rd_T71 y172 x43_2).f2), .int .i64 ((rd_T71 y172 x43_2).f3)] 71 (0, 0)) (by (with_reducible repeat (first | refine blk_drewN ?_ _ | refine blk_drew ?_ | refine blk_alloc ?_ _)); exact BK180.out) hb); have n2_ := Aside0.mk (below_step (by repeat (first | (with_reducible first | exact HB.out | apply below_alloc | apply pw_below_drewN | apply below_drew1 | refine below_set ?_ GE180.out) | exact HB.out)) hb); clear HO189; clear BK180; clear HB; have HO189 := n0_; have BK180 := n1_; have HB := n2_; clear n0_ n1_ n2_; (try clear hb); (try clear hb2); (try clear hk); (try clear hi)))
                                    go_ret
                                    exact ⟨by first | rfl | (simp [errW_none, errW_some] <;> rfl) | (simp [*, errW_none, errW_some] <;> rfl), by repeat (first | (with_reducible first | exact HB.out | apply below_alloc | apply pw_below_drewN | apply below_drew1 | refine below_set ?_ GE180.out) | exact HB.out)⟩
                                · rw [if_neg c48] at H
                                  have c48b0 : (((rd_T71 y172 x43_2).f0) == 5) = false := beq_eq_false_iff_ne.mpr c48
                                  have c48b1 : (((rd_T71 y172 x43_2).f0) != 5) = true := bne_iff_ne.mpr c48
                                  have H' := Aside0.mk H
                                  clear H
                                  have hcz63_0 : wc.cell? ⟨gb180, 0, none⟩ = some (.int .i64 ((rd_T71 y172 x43_2).f0)) := (blk_cell BK180.out 0).trans rfl
                                  have hcz63_1 : wc.cell? ⟨gb180, 1, none⟩ = some (.int .i64 ((rd_T71 y172 x43_2).f1)) := (blk_cell BK180.out 1).trans rfl
                                  have hcz63_2 : wc.cell? ⟨gb180, 2, none⟩ = some (.int .i64 ((rd_T71 y172 x43_2).f2)) := (blk_cell BK180.out 2).trans rfl
                                  have hcz63_3 : wc.cell? ⟨gb180, 3, none⟩ = some (.int .i64 ((rd_T71 y172 x43_2).f3)) := (blk_cell BK180.out 3).trans rfl
                                  have hfz63_0 := blk_frozen BK180.out 0
                                  have hfz63_1 := blk_frozen BK180.out 1
                                  have hfz63_2 := blk_frozen BK180.out 2
                                  have hfz63_3 := blk_frozen BK180.out 3
                                  go_wp2_with (first | ((with_reducible refine gate_builtin (b := .append) (xs := #[.tmp 60, .tmp 62]) rfl ?_); (try (refine gate_guard (by rfl) ?_; dsimp only)); at_builtin; refine Kd.R_append k71 (w0 := w) w.heap.size rfl (.tmp 60) (.tmp 62) 63 71 (.agg #[(.int .i64 0), (.int .i64 0), (.int .i64 0), (.int .i64 0)]) 32 rfl Try.underlying63 info71 rfl (by decide) (by omega) u7 x7_2 (⟨((rd_T71 y172 x43_2).f0), ((rd_T71 y172 x43_2).f1), ((rd_T71 y172 x43_2).f2), ((rd_T71 y172 x43_2).f3)⟩ : S71) [.int .i64 ((rd_T71 y172 x43_2).f0), .int .i64 ((rd_T71 y172 x43_2).f1), .int .i64 ((rd_T71 y172 x43_2).f2), .int .i64 ((rd_T71 y172 x43_2).f3)] (fun k_ => k_ ≠ gb180) (fun _ => False) rfl rfl ?aP (fun _ hk => hk.elim) ?aF ?aO ?aB ?aS ?aL ?_; (case aP => exact k71_mkM _ _ _ (⟨((rd_T71 y172 x43_2).f0), ((rd_T71 y172 x43_2).f1), ((rd_T71 y172 x43_2).f2), ((rd_T71 y172 x43_2).f3)⟩ : S71)); (case aB => exact (by repeat (first | (with_reducible first | exact HB.out | apply below_alloc | apply pw_below_drewN | apply below_drew1 | refine below_set ?_ GE180.out) | exact HB.out))); (case aF => exact (fun k_ hk => Kd.freshB (g := gb180) (o := .cells #[.int .i64 ((rd_T71 y172 x43_2).f0), .int .i64 ((rd_T71 y172 x43_2).f1), .int .i64 ((rd_T71 y172 x43_2).f2), .int .i64 ((rd_T71 y172 x43_2).f3)] 71 (0, 0)) (by (with_reducible repeat (first | refine blk_drewN ?_ _ | refine blk_drew ?_ | refine blk_alloc ?_ _)); exact BK180.out) k_ hk)); (case aO => exact (by (with_reducible repeat (first | apply Kd.R_alloc | apply Kd.R_drewN | apply Kd.R_drew)); exact HO_7.out)); (case aS => exact (below_size (by repeat (first | (with_reducible first | exact HB.out | apply below_alloc | apply pw_below_drewN | apply below_drew1 | refine below_set ?_ GE180.out) | exact HB.out)))); (case aL => have := LMc47.out; omega); intro v188 w64 ho hb hg hat; rw [← Ny187.out] at ho; have n0_ := Aside0.mk (blk_grown (g := gb180) (o := .cells #[.int .i64 ((rd_T71 y172 x43_2).f0), .int .i64 ((rd_T71 y172 x43_2).f1), .int .i64 ((rd_T71 y172 x43_2).f2), .int .i64 ((rd_T71 y172 x43_2).f3)] 71 (0, 0)) (by (with_reducible repeat (first | refine blk_drewN ?_ _ | refine blk_drew ?_ | refine blk_alloc ?_ _)); exact BK180.out) hg (Kd.R_away HO_7.out (fun _ hk => hk))); have n1_ := Aside0.mk (hb); have n2_ := Aside0.mk (ho); clear BK180; clear HB; clear HO_7; have BK180 := n0_; have HB := n1_; have HO189 := n2_; clear n0_ n1_ n2_; clear ho hb hg hat; have hcz65_0 : w64.cell? ⟨gb180, 0, none⟩ = some (.int .i64 ((rd_T71 y172 x43_2).f0)) := (blk_cell BK180.out 0).trans rfl; have hcz65_1 : w64.cell? ⟨gb180, 1, none⟩ = some (.int .i64 ((rd_T71 y172 x43_2).f1)) := (blk_cell BK180.out 1).trans rfl; have hcz65_2 : w64.cell? ⟨gb180, 2, none⟩ = some (.int .i64 ((rd_T71 y172 x43_2).f2)) := (blk_cell BK180.out 2).trans rfl; have hcz65_3 : w64.cell? ⟨gb180, 3, none⟩ = some (.int .i64 ((rd_T71 y172 x43_2).f3)) := (blk_cell BK180.out 3).trans rfl; have hfz65_0 := blk_frozen BK180.out 0; have hfz65_1 := blk_frozen BK180.out 1; have hfz65_2 := blk_frozen BK180.out 2; have hfz65_3 := blk_frozen BK180.out 3))
                                  go_roundg kj20
                                  case measure => have := HJ5.out; have := HK2.out; have := HJ20.out; omega
                                  case rel => exact ⟨(y187), (wrap64 (x43_2 + 1)), (by first | rfl | (simp; done) | (simp [*]; done)), H', ⟨by have := HJ5.out; have := HK2.out; have := HJ20.out; omega⟩, ⟨by (with_reducible repeat (first | apply Kd.R_alloc | apply Kd.R_drewN | apply Kd.R_drew)); exact Kd.R_mono HO189.out (fun _ hk => trivial)⟩, ⟨by repeat (first | (with_reducible first | exact HB.out | apply below_alloc | apply pw_below_drewN | apply below_drew1 | refine below_set ?_ GE180.out) | exact HB.out)⟩⟩
                              · rw [if_neg c47] at H
                                exact absurd H (by simp)
                      · rw [if_neg c20] at H
                        exact absurd H (by simp)
                    · rw [if_neg c19] at H
                      exact absurd H (by simp)
                  · rw [if_neg c18] at H
                    have c18b0 : decide (x43_2 < (y172.length : Int)) = false := decide_eq_false c18
                    clear c18
                    replace H := Option.bind_eq_some_iff.mp H
                    obtain ⟨⟨t176, t177⟩, A660, H⟩ := H
                    replace H : (if t177 = 0 then ((code_Blocks.f k2 x7_2).bind fun t178 => (some (t178 == 1))) else (some false)) = some r := H
                    have A66 := Aside0.mk A660
                    clear A660
                    by_cases c67 : t177 = 0
                    · rw [if_pos c67] at H
                      have c67b0 : (t177 == 0) = true := beq_iff_eq.mpr c67
                      have c67b1 : (t177 != 0) = false := bne_eq_false_iff_eq.mpr c67
                      clear c67
                      replace H := Option.bind_eq_some_iff.mp H
                      obtain ⟨t178, A680, H⟩ := H
                      replace H : (some (t178 == 1)) = some r := H
                      have A68 := Aside0.mk A680
                      clear A680
                      obtain rfl := Option.some.inj H
                      obtain ⟨Ao69, co69, eo69⟩ := Kd.R_slice HO_7.out
                      subst eo69
                      go_wp2_with (first | ((with_reducible refine gate_callee (f := 30) rfl ?_); refine goesL_ (some 70) rfl rfl Try.func30 (by kernel_rfl) rfl #[.slice Ao69 x7_2.length co69] rfl (by (try simp only [List.map_toArray, List.map_cons, List.map_nil]); first | done | rfl | (simp only [List.length_drop, List.length_take]; rfl)) ?_; (with_reducible refine (code_Check.calls k2 _ _ x7_2 t176 t177 _ ?side1 ?side2 A66.out).mono ?_); (case side1 => repeat (first | exact (Kd.R_reads' HO_7.out).2.2 | (with_reducible refine Kd.C_alloc ?_ _) | (with_reducible refine Kd.C_drewN ?_ _) | (with_reducible refine Kd.C_drew ?_))); (case side2 => exact (Kd.R_reads' HO_7.out).2.1); rintro e w70 ⟨rfl, hb⟩; refine ⟨_, rfl, ?_⟩; have n0_ := Aside0.mk (Kd.R_below (by (with_reducible repeat (first | apply Kd.R_alloc | apply Kd.R_drewN | apply Kd.R_drew)); exact HO_7.out) hb); have n1_ := Aside0.mk (below_step (by repeat (first | (with_reducible first | exact HB.out | apply below_alloc | apply pw_below_drewN | apply below_drew1) | exact HB.out)) hb); clear HO_7; clear HB; have HO_7 := n0_; have HB := n1_; clear n0_ n1_; (try clear hb); (try clear hb2); (try clear hk); (try clear hi)) | (go_at_call 32; (with_reducible refine (code_Blocks.calls k2 _ _ x7_2 t178 _ ?side1 ?side2 A68.out).mono ?_); (case side1 => repeat (first | exact (Kd.R_reads' HO_7.out).2.2 | (with_reducible refine Kd.C_alloc ?_ _) | (with_reducible refine Kd.C_drewN ?_ _) | (with_reducible refine Kd.C_drew ?_))); (case side2 => exact (Kd.R_reads' HO_7.out).2.1); rintro e w71 ⟨rfl, hb⟩; have n0_ := Aside0.mk (Kd.R_below (by (with_reducible repeat (first | apply Kd.R_alloc | apply Kd.R_drewN | apply Kd.R_drew)); exact HO_7.out) hb); have n1_ := Aside0.mk (below_step (by repeat (first | (with_reducible first | exact HB.out | apply below_alloc | apply pw_below_drewN | apply below_drew1) | exact HB.out)) hb); clear HO_7; clear HB; have HO_7 := n0_; have HB := n1_; clear n0_ n1_; (try clear hb); (try clear hb2); (try clear hk); (try clear hi)))
                      go_ret
                      exact ⟨by first | rfl | (simp [errW_none, errW_some] <;> rfl) | (simp [*, errW_none, errW_some] <;> rfl), by repeat (first | (with_reducible first | exact HB.out | apply below_alloc | apply pw_below_drewN | apply below_drew1) | exact HB.out)⟩
                    · rw [if_neg c67] at H
                      have c67b0 : (t177 == 0) = false := beq_eq_false_iff_ne.mpr c67
                      have c67b1 : (t177 != 0) = true := bne_iff_ne.mpr c67
                      obtain rfl := Option.some.inj H
                      obtain ⟨Ao72, co72, eo72⟩ := Kd.R_slice HO_7.out
                      subst eo72
                      go_wp2_with (first | ((with_reducible refine gate_callee (f := 30) rfl ?_); refine goesL_ (some 70) rfl rfl Try.func30 (by kernel_rfl) rfl #[.slice Ao72 x7_2.length co72] rfl (by (try simp only [List.map_toArray, List.map_cons, List.map_nil]); first | done | rfl | (simp only [List.length_drop, List.length_take]; rfl)) ?_; (with_reducible refine (code_Check.calls k2 _ _ x7_2 t176 t177 _ ?side1 ?side2 A66.out).mono ?_); (case side1 => repeat (first | exact (Kd.R_reads' HO_7.out).2.2 | (with_reducible refine Kd.C_alloc ?_ _) | (with_reducible refine Kd.C_drewN ?_ _) | (with_reducible refine Kd.C_drew ?_))); (case side2 => exact (Kd.R_reads' HO_7.out).2.1); rintro e w73 ⟨rfl, hb⟩; refine ⟨_, rfl, ?_⟩; have n0_ := Aside0.mk (Kd.R_below (by (with_reducible repeat (first | apply Kd.R_alloc | apply Kd.R_drewN | apply Kd.R_drew)); exact HO_7.out) hb); have n1_ := Aside0.mk (below_step (by repeat (first | (with_reducible first | exact HB.out | apply below_alloc | apply pw_below_drewN | apply below_drew1) | exact HB.out)) hb); clear HO_7; clear HB; have HO_7 := n0_; have HB := n1_; clear n0_ n1_; (try clear hb); (try clear hb2); (try clear hk); (try clear hi)))
                      go_ret
                      exact ⟨by first | rfl | (simp [errW_none, errW_some] <;> rfl) | (simp [*, errW_none, errW_some] <;> rfl), by repeat (first | (with_reducible first | exact HB.out | apply below_alloc | apply pw_below_drewN | apply below_drew1) | exact HB.out)⟩
            · rw [if_neg c16] at H
              exact absurd H (by simp)
          · rw [if_neg c15] at H
            exact absurd H (by simp)
  · replace c4 := Bool.eq_false_iff.mpr c4
    subst c4
    have H1 : (some false) = some r := by rw [if_neg (show ¬ (false = true) by decide)] at H; exact H
    clear H
    have H := H1
    clear H1
    obtain rfl := Option.some.inj H
    go_enter Try.func9, Try.ntmps9
    go_wp2_with (first | ((with_reducible refine gate_callee (f := 29) rfl ?_); refine goesL_ (some 12) rfl rfl Try.func29 (by kernel_rfl) rfl #[] rfl (by (try simp only [List.map_toArray, List.map_cons, List.map_nil]); first | done | rfl | (simp only [List.length_drop, List.length_take]; rfl)) ?_; (with_reducible refine (countermandlaw07_alive.calls k  false _ A3.out).mono ?_); rintro e w74 ⟨rfl, hb⟩; refine ⟨_, rfl, ?_⟩; have n0_ := Aside0.mk (below_step (by repeat (first | (with_reducible first | exact HB.out | apply below_alloc | apply pw_below_drewN | apply below_drew1) | exact HB.out)) hb); clear HB; have HB := n0_; clear n0_; (try clear hb); (try clear hb2); (try clear hk); (try clear hi)))
    go_ret
    exact ⟨by first | rfl | (simp [errW_none, errW_some] <;> rfl) | (simp [*, errW_none, errW_some] <;> rfl), by repeat (first | (with_reducible first | exact HB.out | apply below_alloc | apply pw_below_drewN | apply below_drew1) | exact HB.out)⟩

/-- THE ONE PURE STATEMENT of countermandlaw07_CodeBlocks: yours. -/
def countermandlaw07_CodeBlocks.Pure : Prop := ∀ (l0 : List (S71)) (a1 : Int), l0.length ≤ maxLen → (∀ x ∈ l0, (Lit.int .i64 x.f0).wf = true ∧ (Lit.int .i64 x.f1).wf = true ∧ (Lit.int .i64 x.f2).wf = true ∧ (Lit.int .i64 x.f3).wf = true) → (Lit.int .i64 a1).wf = true → ∃ k, countermandlaw07_CodeBlocks.f k l0 a1 = some true
theorem countermandlaw07_CodeBlocks.walk (P : countermandlaw07_CodeBlocks.Pure) (a0 : Option Addr) (len0 cap0 : Nat) (z0 : List (S71)) (a1 : Int) (w : World) (w0 : z0.length = len0 ∧ Kd.C k71 w a0 z0.length z0 ∧ z0.length ≤ cap0 ∧ z0.length ≤ maxLen ∧ (∀ x ∈ z0, (Lit.int .i64 x.f0).wf = true ∧ (Lit.int .i64 x.f1).wf = true ∧ (Lit.int .i64 x.f2).wf = true ∧ (Lit.int .i64 x.f3).wf = true)) (w1 : (Lit.int .i64 a1).wf = true) :
    Calls Try.prog 9 #[.slice a0 len0 cap0, .int .i64 a1] w fun e w' => e = .returned (.bool true) ∧ Below w.heap.size w w' := by
  obtain ⟨rfl, hr0, hc0, hm0, hg0⟩ := w0
  obtain ⟨k, h⟩ := P z0 a1 hm0 hg0 w1
  refine (countermandlaw07_CodeBlocks.calls k _ _ z0 a1 true w hr0 hc0 h).mono ?_
  rintro e w' ⟨rfl, hd⟩
  exact ⟨rfl, hd⟩

end Go.Proofs.Ytfoefgckjaafnaa.PCodeBlocks
