/- Written by a program of this session, which began as the kit's print and is turned in wip/printer: the plain form of each function, and that the Go code comes to it. -/
import Derived.Test.YtfoefgckjaafnaaPCodeFirstx0
import Derived.Test.YtfoefgckjaafnaaPCodeFirstx6
import Derived.Test.YtfoefgckjaafnaaPCodeFirstx7
import Derived.Test.YtfoefgckjaafnaaPCodeFirstx10
namespace Go.Proofs.Ytfoefgckjaafnaa.PCodeFirst
open Go.RowKit Go.Proofs.YtfoefgckjaafnaaW.PrintWords Go.Proofs.YtfoefgckjaafnaaW.PrintLast Go.Proofs.YtfoefgckjaafnaaW.PrintMore
attribute [local go_sem] max2_int min2_int max_two min_two max_three min_three max_four min_four   -- for this text's walks alone
set_option linter.unusedVariables false
set_option linter.unusedSimpArgs false

/-! ### countermandlaw07_CodeFirst: function 12 -/
mutual
def countermandlaw07_CodeFirst.j0 : Nat → List (S71) → Int → Bool → Option (Bool)
  | 0, _, _, _ => none
  | k + 1, x0, x3, x24 => if x24 = true then (some true) else (if x3 < 0 then (countermandlaw07_CodeFirst.j1 k x0 x3 true) else (countermandlaw07_CodeFirst.j1 k x0 x3 (decide (x3 ≥ (x0.length : Int)))))
def countermandlaw07_CodeFirst.j1 : Nat → List (S71) → Int → Bool → Option (Bool)
  | 0, _, _, _ => none
  | k + 1, x0, x3, x32 => if x32 = true then (some false) else (countermandlaw07_CodeFirst.l0 k x0 x3 0)
def countermandlaw07_CodeFirst.l0 : Nat → List (S71) → Int → Int → Option (Bool)
  | 0, _, _, _ => none
  | k + 1, x0, x3, x5 => if x5 < x3 then ((countermandref07_One.f k x0 x5).bind fun t199 => (if t199 = true then (countermandlaw07_CodeFirst.l0 k x0 x3 (wrap64 (x5 + 1))) else (some false))) else ((countermandref07_One.f k x0 x3).bind fun t200 => (some (!t200)))
end
def countermandlaw07_CodeFirst.f (k : Nat) (l0 : List (S71)) : Option (Bool) := (countermandlaw07_alive.f k).bind fun t195 => (if t195 = true then ((code_Check.f k l0).bind fun bt196 => (if bt196.2 = 11 then (if (l0.length : Int) > 48 then (countermandlaw07_CodeFirst.j0 k l0 bt196.1 true) else ((countermandref07_Shaped.f k l0).bind fun t198 => (countermandlaw07_CodeFirst.j0 k l0 bt196.1 (!t198)))) else (countermandlaw07_CodeFirst.j0 k l0 bt196.1 true))) else (some false))
theorem countermandlaw07_CodeFirst.mono_l : ∀ k, (∀ y0 y1 y2, LeO (countermandlaw07_CodeFirst.j0 k y0 y1 y2) (countermandlaw07_CodeFirst.j0 (k + 1) y0 y1 y2)) ∧ (∀ y0 y1 y2, LeO (countermandlaw07_CodeFirst.j1 k y0 y1 y2) (countermandlaw07_CodeFirst.j1 (k + 1) y0 y1 y2)) ∧ (∀ y0 y1 y2, LeO (countermandlaw07_CodeFirst.l0 k y0 y1 y2) (countermandlaw07_CodeFirst.l0 (k + 1) y0 y1 y2))
  | 0 => ⟨fun _ _ _ r h => by simp [countermandlaw07_CodeFirst.j0] at h, fun _ _ _ r h => by simp [countermandlaw07_CodeFirst.j1] at h, fun _ _ _ r h => by simp [countermandlaw07_CodeFirst.l0] at h⟩
  | k + 1 => by
    obtain ⟨ih0, ih1, ih2⟩ := countermandlaw07_CodeFirst.mono_l k
    refine ⟨?_, ?_, ?_⟩
    · intro y0 y1 y2
      unfold countermandlaw07_CodeFirst.j0
      repeat' first
      | (with_reducible exact ih0 _ _ _)
      | (with_reducible exact ih1 _ _ _)
      | (with_reducible exact ih2 _ _ _)
      | (with_reducible exact code_Check.mono _ _)
      | (with_reducible exact countermandlaw07_alive.mono _)
      | (with_reducible exact countermandref07_One.mono _ _ _)
      | (with_reducible exact countermandref07_Shaped.mono _ _)
      | (with_reducible exact LeO.refl _)
      | (with_reducible exact LeO.none _)
      | (with_reducible refine LeO.ite ?_ ?_)
      | (with_reducible refine LeO.bind ?_ (fun _ => ?_))
      | exact ih0 _ _ _
      | exact ih1 _ _ _
      | exact ih2 _ _ _
      | exact code_Check.mono _ _
      | exact countermandlaw07_alive.mono _
      | exact countermandref07_One.mono _ _ _
      | exact countermandref07_Shaped.mono _ _
      | exact LeO.none _
      | refine LeO.ite ?_ ?_
      | refine LeO.bind ?_ (fun _ => ?_)
    · intro y0 y1 y2
      unfold countermandlaw07_CodeFirst.j1
      repeat' first
      | (with_reducible exact ih0 _ _ _)
      | (with_reducible exact ih1 _ _ _)
      | (with_reducible exact ih2 _ _ _)
      | (with_reducible exact code_Check.mono _ _)
      | (with_reducible exact countermandlaw07_alive.mono _)
      | (with_reducible exact countermandref07_One.mono _ _ _)
      | (with_reducible exact countermandref07_Shaped.mono _ _)
      | (with_reducible exact LeO.refl _)
      | (with_reducible exact LeO.none _)
      | (with_reducible refine LeO.ite ?_ ?_)
      | (with_reducible refine LeO.bind ?_ (fun _ => ?_))
      | exact ih0 _ _ _
      | exact ih1 _ _ _
      | exact ih2 _ _ _
      | exact code_Check.mono _ _
      | exact countermandlaw07_alive.mono _
      | exact countermandref07_One.mono _ _ _
      | exact countermandref07_Shaped.mono _ _
      | exact LeO.none _
      | refine LeO.ite ?_ ?_
      | refine LeO.bind ?_ (fun _ => ?_)
    · intro y0 y1 y2
      unfold countermandlaw07_CodeFirst.l0
      repeat' first
      | (with_reducible exact ih0 _ _ _)
      | (with_reducible exact ih1 _ _ _)
      | (with_reducible exact ih2 _ _ _)
      | (with_reducible exact code_Check.mono _ _)
      | (with_reducible exact countermandlaw07_alive.mono _)
      | (with_reducible exact countermandref07_One.mono _ _ _)
      | (with_reducible exact countermandref07_Shaped.mono _ _)
      | (with_reducible exact LeO.refl _)
      | (with_reducible exact LeO.none _)
      | (with_reducible refine LeO.ite ?_ ?_)
      | (with_reducible refine LeO.bind ?_ (fun _ => ?_))
      | exact ih0 _ _ _
      | exact ih1 _ _ _
      | exact ih2 _ _ _
      | exact code_Check.mono _ _
      | exact countermandlaw07_alive.mono _
      | exact countermandref07_One.mono _ _ _
      | exact countermandref07_Shaped.mono _ _
      | exact LeO.none _
      | refine LeO.ite ?_ ?_
      | refine LeO.bind ?_ (fun _ => ?_)
theorem countermandlaw07_CodeFirst.mono : ∀ a0 k, LeO (countermandlaw07_CodeFirst.f k a0) (countermandlaw07_CodeFirst.f (k + 1) a0) := by
  intro a0 k
  obtain ⟨ih0, ih1, ih2⟩ := countermandlaw07_CodeFirst.mono_l k
  unfold countermandlaw07_CodeFirst.f
  repeat' first
      | (with_reducible exact ih0 _ _ _)
      | (with_reducible exact ih1 _ _ _)
      | (with_reducible exact ih2 _ _ _)
      | (with_reducible exact code_Check.mono _ _)
      | (with_reducible exact countermandlaw07_alive.mono _)
      | (with_reducible exact countermandref07_One.mono _ _ _)
      | (with_reducible exact countermandref07_Shaped.mono _ _)
      | (with_reducible exact LeO.refl _)
      | (with_reducible exact LeO.none _)
      | (with_reducible refine LeO.ite ?_ ?_)
      | (with_reducible refine LeO.bind ?_ (fun _ => ?_))
      | exact ih0 _ _ _
      | exact ih1 _ _ _
      | exact ih2 _ _ _
      | exact code_Check.mono _ _
      | exact countermandlaw07_alive.mono _
      | exact countermandref07_One.mono _ _ _
      | exact countermandref07_Shaped.mono _ _
      | exact LeO.none _
      | refine LeO.ite ?_ ?_
      | refine LeO.bind ?_ (fun _ => ?_)
theorem countermandlaw07_CodeFirst.j1_false {k_ : Nat} {x0 : List (S71)} {x3 : Int} {r : Bool} (h : countermandlaw07_CodeFirst.j1 k_ x0 x3 true = some r) : r = false := by
  cases k_ with
  | zero => simp [countermandlaw07_CodeFirst.j1] at h
  | succ k_ =>
    simp [countermandlaw07_CodeFirst.j1] at h
    first | exact h | exact h.symm
set_option maxHeartbeats 8000000 in
set_option maxRecDepth 100000 in
theorem countermandlaw07_CodeFirst.calls (k : Nat) (A0 : Option Addr) (c0 : Nat) (l0 : List (S71)) (r : Bool) (w : World) (hr0 : Kd.C k71 w A0 l0.length l0) (hc0 : l0.length ≤ c0) (h : countermandlaw07_CodeFirst.f k l0 = some r) (hrT : r = true) :
    Calls Try.prog 12 #[.slice A0 l0.length c0] w fun e w' => e = .returned (.bool r) ∧ Below w.heap.size w w' := by
  have HR0 := Aside0.mk hr0
  have HC0 := Aside0.mk hc0
  clear hr0 hc0
  have HB := Aside0.mk (Below.refl w.heap.size w)
  have H : ((countermandlaw07_alive.f k).bind fun t195 => (if t195 = true then ((code_Check.f k l0).bind fun bt196 => (if bt196.2 = 11 then (if (l0.length : Int) > 48 then (countermandlaw07_CodeFirst.j0 k l0 bt196.1 true) else ((countermandref07_Shaped.f k l0).bind fun t198 => (countermandlaw07_CodeFirst.j0 k l0 bt196.1 (!t198)))) else (countermandlaw07_CodeFirst.j0 k l0 bt196.1 true))) else (some false))) = some r := h
  clear h
  replace H := Option.bind_eq_some_iff.mp H
  obtain ⟨t195, A20, H⟩ := H
  replace H : (if t195 = true then ((code_Check.f k l0).bind fun bt196 => (if bt196.2 = 11 then (if (l0.length : Int) > 48 then (countermandlaw07_CodeFirst.j0 k l0 bt196.1 true) else ((countermandref07_Shaped.f k l0).bind fun t198 => (countermandlaw07_CodeFirst.j0 k l0 bt196.1 (!t198)))) else (countermandlaw07_CodeFirst.j0 k l0 bt196.1 true))) else (some false)) = some r := H
  have A2 := Aside0.mk A20
  clear A20
  by_cases c3 : t195 = true
  · subst c3
    have H1 : ((code_Check.f k l0).bind fun bt196 => (if bt196.2 = 11 then (if (l0.length : Int) > 48 then (countermandlaw07_CodeFirst.j0 k l0 bt196.1 true) else ((countermandref07_Shaped.f k l0).bind fun t198 => (countermandlaw07_CodeFirst.j0 k l0 bt196.1 (!t198)))) else (countermandlaw07_CodeFirst.j0 k l0 bt196.1 true))) = some r := by rw [if_pos rfl] at H; exact H
    clear H
    have H := H1
    clear H1
    replace H := Option.bind_eq_some_iff.mp H
    obtain ⟨⟨t196, t197⟩, A40, H⟩ := H
    replace H : (if t197 = 11 then (if (l0.length : Int) > 48 then (countermandlaw07_CodeFirst.j0 k l0 t196 true) else ((countermandref07_Shaped.f k l0).bind fun t198 => (countermandlaw07_CodeFirst.j0 k l0 t196 (!t198)))) else (countermandlaw07_CodeFirst.j0 k l0 t196 true)) = some r := H
    have A4 := Aside0.mk A40
    clear A40
    have HC5 := Aside0.mk H
    clear H
    go_enter Try.func12, Try.ntmps12
    go_upto_region 4 with (first | ((with_reducible refine gate_callee (f := 29) rfl ?_); refine goesL_ (some 6) rfl rfl Try.func29 (by kernel_rfl) rfl #[] rfl (by (try simp only [List.map_toArray, List.map_cons, List.map_nil]); first | done | rfl | (simp only [List.length_drop, List.length_take]; rfl)) ?_; (with_reducible refine (countermandlaw07_alive.calls k  true _ A2.out).mono ?_); rintro e w6 ⟨rfl, hb⟩; refine ⟨_, rfl, ?_⟩; have n0_ := Aside0.mk (below_step (by repeat (first | (with_reducible first | exact HB.out | apply below_alloc | apply pw_below_drewN | apply below_drew1) | exact HB.out)) hb); clear HB; have HB := n0_; clear n0_; (try clear hb); (try clear hb2); (try clear hk); (try clear hi)) | ((with_reducible refine gate_callee (f := 30) rfl ?_); refine goesL_ (some 10) rfl rfl Try.func30 (by kernel_rfl) rfl #[.slice A0 l0.length c0] rfl (by (try simp only [List.map_toArray, List.map_cons, List.map_nil]); first | done | rfl | (simp only [List.length_drop, List.length_take]; rfl)) ?_; (with_reducible refine (code_Check.calls k _ _ l0 t196 t197 _ ?side1 ?side2 A4.out).mono ?_); (case side1 => repeat (first | exact (Kd.C_below HR0.out HB.out) | (with_reducible refine Kd.C_alloc ?_ _) | (with_reducible refine Kd.C_drewN ?_ _) | (with_reducible refine Kd.C_drew ?_))); (case side2 => exact HC0.out); rintro e w7 ⟨rfl, hb⟩; refine ⟨_, rfl, ?_⟩; have n0_ := Aside0.mk (below_step (by repeat (first | (with_reducible first | exact HB.out | apply below_alloc | apply pw_below_drewN | apply below_drew1) | exact HB.out)) hb); clear HB; have HB := n0_; clear n0_; (try clear hb); (try clear hb2); (try clear hk); (try clear hi)))
    (try simp only [Act.put, List.setIfInBounds_toArray, List.set_cons_zero, List.set_cons_succ])
    go_cut [24] (fun v24 wc => ∃ (kq : Nat) (x24_4 : Bool), v24 = .bool x24_4 ∧ Aside0 (countermandlaw07_CodeFirst.j0 kq l0 t196 x24_4 = some r) ∧ Aside0 (kq ≤ k) ∧ Aside0 (Below w.heap.size w wc))
    case first =>
      have H := HC5.out
      clear HC5
      by_cases c8 : t197 = 11
      · rw [if_pos c8] at H
        have c8b0 : (t197 == 11) = true := beq_iff_eq.mpr c8
        have c8b1 : (t197 != 11) = false := bne_eq_false_iff_eq.mpr c8
        clear c8
        (first | rw [c8b0] | (simp only [i64_w, i32_w]; rw [c8b0]) | skip)
        by_cases c9 : (l0.length : Int) > 48
        · rw [if_pos c9] at H
          have c9b0 : decide (48 < (l0.length : Int)) = true := decide_eq_true c9
          have c9b1 : decide (48 < l0.length) = true := decide_eq_true (by omega)
          clear c9
          have H' := Aside0.mk H
          clear H
          go_wp2
          go_meet
          case rel => exact ⟨_, (true), (by first | rfl | (simp; done) | (simp [*]; done)), H', ⟨by first | omega | exact Nat.le_refl _⟩, ⟨by repeat (first | (with_reducible first | exact HB.out | apply below_alloc | apply pw_below_drewN | apply below_drew1) | exact HB.out)⟩⟩
        · rw [if_neg c9] at H
          have c9b0 : decide (48 < (l0.length : Int)) = false := decide_eq_false c9
          have c9b1 : decide (48 < l0.length) = false := decide_eq_false (by omega)
          clear c9
          replace H := Option.bind_eq_some_iff.mp H
          obtain ⟨t198, A100, H⟩ := H
          replace H : (countermandlaw07_CodeFirst.j0 k l0 t196 (!t198)) = some r := H
          have A10 := Aside0.mk A100
          clear A100
          have H' := Aside0.mk H
          clear H
          go_wp2_with (first | (go_at_call 33; (with_reducible refine (countermandref07_Shaped.calls k _ _ l0 t198 _ ?side1 ?side2 A10.out).mono ?_); (case side1 => repeat (first | exact (Kd.C_below HR0.out HB.out) | (with_reducible refine Kd.C_alloc ?_ _) | (with_reducible refine Kd.C_drewN ?_ _) | (with_reducible refine Kd.C_drew ?_))); (case side2 => exact HC0.out); rintro e w11 ⟨rfl, hb⟩; have n0_ := Aside0.mk (below_step (by repeat (first | (with_reducible first | exact HB.out | apply below_alloc | apply pw_below_drewN | apply below_drew1) | exact HB.out)) hb); clear HB; have HB := n0_; clear n0_; (try clear hb); (try clear hb2); (try clear hk); (try clear hi)))
          go_meet
          case rel => exact ⟨_, (!t198), (by first | rfl | (simp; done) | (simp [*]; done)), H', ⟨by first | omega | exact Nat.le_refl _⟩, ⟨by repeat (first | (with_reducible first | exact HB.out | apply below_alloc | apply pw_below_drewN | apply below_drew1) | exact HB.out)⟩⟩
      · rw [if_neg c8] at H
        have c8b0 : (t197 == 11) = false := beq_eq_false_iff_ne.mpr c8
        have c8b1 : (t197 != 11) = true := bne_iff_ne.mpr c8
        (first | rw [c8b0] | (simp only [i64_w, i32_w]; rw [c8b0]) | skip)
        have H' := Aside0.mk H
        clear H
        go_wp2
        go_meet
        case rel => exact ⟨_, (true), (by first | rfl | (simp; done) | (simp [*]; done)), H', ⟨by first | omega | exact Nat.le_refl _⟩, ⟨by repeat (first | (with_reducible first | exact HB.out | apply below_alloc | apply pw_below_drewN | apply below_drew1) | exact HB.out)⟩⟩
    case rest =>
      clear HC5
      try clear c1
      try clear c2
      try clear p2
      try clear c3
      try clear c8
      try clear c8b0
      try clear c8b1
      try clear c9
      try clear c9b0
      try clear c9b1
      obtain ⟨kq, x24_4, rfl, HA, HJ4, HB⟩ := hcut
      cases kq with
      | zero => exact absurd HA.out (by simp [countermandlaw07_CodeFirst.j0])
      | succ kj4 =>
        have H := HA.out
        clear HA
        simp only [countermandlaw07_CodeFirst.j0] at H
        by_cases c12 : x24_4 = true
        · subst c12
          have H1 : (some true) = some r := by rw [if_pos rfl] at H; exact H
          clear H
          have H := H1
          clear H1
          obtain rfl := Option.some.inj H
          clear hrT
          go_wp2
          go_ret
          exact ⟨by first | rfl | (simp [errW_none, errW_some] <;> rfl) | (simp [*, errW_none, errW_some] <;> rfl), by repeat (first | (with_reducible first | exact HB.out | apply below_alloc | apply pw_below_drewN | apply below_drew1) | exact HB.out)⟩
        · replace c12 := Bool.eq_false_iff.mpr c12
          subst c12
          have H1 : (if t196 < 0 then (countermandlaw07_CodeFirst.j1 kj4 l0 t196 true) else (countermandlaw07_CodeFirst.j1 kj4 l0 t196 (decide (t196 ≥ (l0.length : Int))))) = some r := by rw [if_neg (show ¬ (false = true) by decide)] at H; exact H
          clear H
          have H := H1
          clear H1
          have HC13 := Aside0.mk H
          clear H
          go_upto_region 6 with (fail)
          go_cut [32] (fun v32 wc => ∃ (kq : Nat) (x32_12 : Bool), v32 = .bool x32_12 ∧ Aside0 (countermandlaw07_CodeFirst.j1 kq l0 t196 x32_12 = some r) ∧ Aside0 (kq ≤ kj4) ∧ Aside0 (Below w.heap.size w wc))
          case first =>
            have H := HC13.out
            clear HC13
            by_cases c14 : t196 < 0
            · rw [if_pos c14] at H
              have c14b0 : decide (t196 < 0) = true := decide_eq_true c14
              clear c14
              (first | rw [c14b0] | (simp only [i64_w, i32_w]; rw [c14b0]) | skip)
              exact absurd ((countermandlaw07_CodeFirst.j1_false H).symm.trans hrT) (by decide)
            · rw [if_neg c14] at H
              have c14b0 : decide (t196 < 0) = false := decide_eq_false c14
              clear c14
              (first | rw [c14b0] | (simp only [i64_w, i32_w]; rw [c14b0]) | skip)
              have H' := Aside0.mk H
              clear H
              go_wp2
              go_meet
              case rel => exact ⟨_, (decide (t196 ≥ (l0.length : Int))), (by first | rfl | (simp; done) | (simp [*]; done)), H', ⟨by have := HJ4.out; first | omega | exact Nat.le_refl _⟩, ⟨by repeat (first | (with_reducible first | exact HB.out | apply below_alloc | apply pw_below_drewN | apply below_drew1) | exact HB.out)⟩⟩
          case rest =>
            clear HC13
            try clear c1
            try clear c2
            try clear p2
            try clear c3
            try clear c8
            try clear c8b0
            try clear c8b1
            try clear c9
            try clear c9b0
            try clear c9b1
            try clear c12
            try clear c14
            try clear c14b0
            try clear p2
            obtain ⟨kq, x32_12, rfl, HA, HJ12, HB⟩ := hcut
            cases kq with
            | zero => exact absurd HA.out (by simp [countermandlaw07_CodeFirst.j1])
            | succ kj12 =>
              have H := HA.out
              clear HA
              simp only [countermandlaw07_CodeFirst.j1] at H
              by_cases c15 : x32_12 = true
              · subst c15
                have H1 : (some false) = some r := by rw [if_pos rfl] at H; exact H
                clear H
                have H := H1
                clear H1
                obtain rfl := Option.some.inj H
                cases hrT
              · replace c15 := Bool.eq_false_iff.mpr c15
                subst c15
                have H1 : (countermandlaw07_CodeFirst.l0 kj12 l0 t196 0) = some r := by rw [if_neg (show ¬ (false = true) by decide)] at H; exact H
                clear H
                have H := H1
                clear H1
                have H' := Aside0.mk H
                clear H
                go_wp2
                go_loopg [5] kj12 (fun kq v5 w' => ∃ (x5_3 : Int), v5 = .int .i64 x5_3 ∧ Aside0 (countermandlaw07_CodeFirst.l0 kq l0 t196 x5_3 = some r) ∧ Aside0 (kq ≤ kj12) ∧ Aside0 (Below w.heap.size w w'))
                case atStart => exact ⟨(0), (by first | rfl | (simp; done) | (simp [*]; done)), H', ⟨Nat.le_refl _⟩, ⟨by repeat (first | (with_reducible first | exact HB.out | apply below_alloc | apply pw_below_drewN | apply below_drew1) | exact HB.out)⟩⟩
                case round =>
                  clear H'
                  try clear c1
                  try clear c2
                  try clear p2
                  try clear c3
                  try clear c8
                  try clear c8b0
                  try clear c8b1
                  try clear c9
                  try clear c9b0
                  try clear c9b1
                  try clear c12
                  try clear c14
                  try clear c14b0
                  try clear c15
                  try clear p2
                  obtain ⟨x5_3, rfl, HA, HK3, HB⟩ := hrel
                  cases gk with
                  | zero => exact absurd HA.out (by simp [countermandlaw07_CodeFirst.l0])
                  | succ k3 =>
                    have H := HA.out
                    clear HA
                    simp only [countermandlaw07_CodeFirst.l0] at H
                    by_cases c16 : x5_3 < t196
                    · rw [if_pos c16] at H
                      have c16b0 : decide (x5_3 < t196) = true := decide_eq_true c16
                      clear c16
                      replace H := Option.bind_eq_some_iff.mp H
                      obtain ⟨t199, A170, H⟩ := H
                      replace H : (if t199 = true then (countermandlaw07_CodeFirst.l0 k3 l0 t196 (wrap64 (x5_3 + 1))) else (some false)) = some r := H
                      have A17 := Aside0.mk A170
                      clear A170
                      by_cases c18 : t199 = true
                      · subst c18
                        have H1 : (countermandlaw07_CodeFirst.l0 k3 l0 t196 (wrap64 (x5_3 + 1))) = some r := by rw [if_pos rfl] at H; exact H
                        clear H
                        have H := H1
                        clear H1
                        have H' := Aside0.mk H
                        clear H
                        go_wp2_with (first | ((with_reducible refine gate_callee (f := 34) rfl ?_); refine goesL_ (some 40) rfl rfl Try.func34 (by kernel_rfl) rfl #[.slice A0 l0.length c0, .int .i64 x5_3] rfl (by (try simp only [List.map_toArray, List.map_cons, List.map_nil]); first | done | rfl | (simp only [List.length_drop, List.length_take]; rfl)) ?_; (with_reducible refine (countermandref07_One.calls k3 _ _ l0 x5_3 true _ ?side1 ?side2 A17.out).mono ?_); (case side1 => repeat (first | exact (Kd.C_below HR0.out HB.out) | (with_reducible refine Kd.C_alloc ?_ _) | (with_reducible refine Kd.C_drewN ?_ _) | (with_reducible refine Kd.C_drew ?_))); (case side2 => exact HC0.out); rintro e w19 ⟨rfl, hb⟩; refine ⟨_, rfl, ?_⟩; have n0_ := Aside0.mk (below_step (by repeat (first | (with_reducible first | exact HB.out | apply below_alloc | apply pw_below_drewN | apply below_drew1) | exact HB.out)) hb); clear HB; have HB := n0_; clear n0_; (try clear hb); (try clear hb2); (try clear hk); (try clear hi)))
                        go_roundg k3
                        case measure => have := HJ4.out; have := HJ12.out; have := HK3.out; omega
                        case rel => exact ⟨(wrap64 (x5_3 + 1)), (by first | rfl | (simp; done) | (simp [*]; done)), H', ⟨by have := HJ4.out; have := HJ12.out; have := HK3.out; omega⟩, ⟨by repeat (first | (with_reducible first | exact HB.out | apply below_alloc | apply pw_below_drewN | apply below_drew1) | exact HB.out)⟩⟩
                      · replace c18 := Bool.eq_false_iff.mpr c18
                        subst c18
                        have H1 : (some false) = some r := by rw [if_neg (show ¬ (false = true) by decide)] at H; exact H
                        clear H
                        have H := H1
                        clear H1
                        obtain rfl := Option.some.inj H
                        cases hrT
                    · rw [if_neg c16] at H
                      have c16b0 : decide (x5_3 < t196) = false := decide_eq_false c16
                      clear c16
                      replace H := Option.bind_eq_some_iff.mp H
                      obtain ⟨t200, A200, H⟩ := H
                      replace H : (some (!t200)) = some r := H
                      have A20 := Aside0.mk A200
                      clear A200
                      obtain rfl := Option.some.inj H
                      clear hrT
                      go_wp2_with (first | ((with_reducible refine gate_callee (f := 34) rfl ?_); refine goesL_ (some 44) rfl rfl Try.func34 (by kernel_rfl) rfl #[.slice A0 l0.length c0, .int .i64 t196] rfl (by (try simp only [List.map_toArray, List.map_cons, List.map_nil]); first | done | rfl | (simp only [List.length_drop, List.length_take]; rfl)) ?_; (with_reducible refine (countermandref07_One.calls k3 _ _ l0 t196 t200 _ ?side1 ?side2 A20.out).mono ?_); (case side1 => repeat (first | exact (Kd.C_below HR0.out HB.out) | (with_reducible refine Kd.C_alloc ?_ _) | (with_reducible refine Kd.C_drewN ?_ _) | (with_reducible refine Kd.C_drew ?_))); (case side2 => exact HC0.out); rintro e w21 ⟨rfl, hb⟩; refine ⟨_, rfl, ?_⟩; have n0_ := Aside0.mk (below_step (by repeat (first | (with_reducible first | exact HB.out | apply below_alloc | apply pw_below_drewN | apply below_drew1) | exact HB.out)) hb); clear HB; have HB := n0_; clear n0_; (try clear hb); (try clear hb2); (try clear hk); (try clear hi)))
                      go_ret
                      exact ⟨by first | rfl | (simp [errW_none, errW_some] <;> rfl) | (simp [*, errW_none, errW_some] <;> rfl), by repeat (first | (with_reducible first | exact HB.out | apply below_alloc | apply pw_below_drewN | apply below_drew1) | exact HB.out)⟩
  · replace c3 := Bool.eq_false_iff.mpr c3
    subst c3
    have H1 : (some false) = some r := by rw [if_neg (show ¬ (false = true) by decide)] at H; exact H
    clear H
    have H := H1
    clear H1
    obtain rfl := Option.some.inj H
    cases hrT

/-- THE ONE PURE STATEMENT of countermandlaw07_CodeFirst: yours. -/
def countermandlaw07_CodeFirst.Pure : Prop := ∀ (l0 : List (S71)), l0.length ≤ maxLen → (∀ x ∈ l0, (Lit.int .i64 x.f0).wf = true ∧ (Lit.int .i64 x.f1).wf = true ∧ (Lit.int .i64 x.f2).wf = true ∧ (Lit.int .i64 x.f3).wf = true) → ∃ k, countermandlaw07_CodeFirst.f k l0 = some true
theorem countermandlaw07_CodeFirst.walk (P : countermandlaw07_CodeFirst.Pure) (a0 : Option Addr) (len0 cap0 : Nat) (z0 : List (S71)) (w : World) (w0 : z0.length = len0 ∧ Kd.C k71 w a0 z0.length z0 ∧ z0.length ≤ cap0 ∧ z0.length ≤ maxLen ∧ (∀ x ∈ z0, (Lit.int .i64 x.f0).wf = true ∧ (Lit.int .i64 x.f1).wf = true ∧ (Lit.int .i64 x.f2).wf = true ∧ (Lit.int .i64 x.f3).wf = true)) :
    Calls Try.prog 12 #[.slice a0 len0 cap0] w fun e w' => e = .returned (.bool true) ∧ Below w.heap.size w w' := by
  obtain ⟨rfl, hr0, hc0, hm0, hg0⟩ := w0
  obtain ⟨k, h⟩ := P z0 hm0 hg0
  refine (countermandlaw07_CodeFirst.calls k _ _ z0 true w hr0 hc0 h rfl).mono ?_
  rintro e w' ⟨rfl, hd⟩
  exact ⟨rfl, hd⟩

end Go.Proofs.Ytfoefgckjaafnaa.PCodeFirst
