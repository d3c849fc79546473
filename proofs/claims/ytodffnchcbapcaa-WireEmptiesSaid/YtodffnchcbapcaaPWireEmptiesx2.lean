/- Written by a program of this session, which began as the kit's print and is turned in wip/printer: the plain form of each function, and that the Go code comes to it. -/
import Derived.Test.YtodffnchcbapcaaPWireEmptiesx0
import Derived.Test.YtodffnchcbapcaaPWireEmptiesx1
namespace Go.Proofs.Ytodffnchcbapcaa.PWireEmpties
open Go.RowKit Go.Proofs.YtodffnchcbapcaaW.PrintWords Go.Proofs.YtodffnchcbapcaaW.PrintLast Go.Proofs.YtodffnchcbapcaaW.PrintMore
attribute [local go_sem] max2_int min2_int max_two min_two max_three min_three max_four min_four   -- for this text's walks alone
set_option linter.unusedVariables false
set_option linter.unusedSimpArgs false

/-! ### countermandlaw06_WireEmpties: function 4 -/
mutual
def countermandlaw06_WireEmpties.j0 : Nat → ByteArray → Int → Int → Bool → Option (Bool)
  | 0, _, _, _, _ => none
  | k + 1, x0, x1, x2, x21 => if x21 = true then (some true) else ((wire_New.f).bind fun bt174 => ((wire_Wire_Push.f bt174.1 bt174.2.1 bt174.2.2.1 bt174.2.2.2.1 bt174.2.2.2.2.1 bt174.2.2.2.2.2.1 bt174.2.2.2.2.2.2.1 bt174.2.2.2.2.2.2.2.1 bt174.2.2.2.2.2.2.2.2 x1 x0).bind fun bt184 => (countermandlaw06_WireEmpties.l0 k x0 x1 x2 (x0.size : Int) 0 bt184.2.1 bt184.2.2.1 bt184.2.2.2.1 bt184.2.2.2.2.1 bt184.2.2.2.2.2.1 bt184.2.2.2.2.2.2.1 bt184.2.2.2.2.2.2.2.1 bt184.2.2.2.2.2.2.2.2.1 bt184.2.2.2.2.2.2.2.2.2)))
def countermandlaw06_WireEmpties.l0 : Nat → ByteArray → Int → Int → Int → Int → ByteArray → ByteArray → ByteArray → ByteArray → ByteArray → ByteArray → ByteArray → ByteArray → ByteArray → Option (Bool)
  | 0, _, _, _, _, _, _, _, _, _, _, _, _, _, _ => none
  | k + 1, x0, x1, x2, x28, x29, x184000, x184001, x184002, x184003, x184004, x184005, x184006, x184007, x184008 => if x29 < x28 then ((wire_Wire_Pump.f x184000 x184001 x184002 x184003 x184004 x184005 x184006 x184007 x184008 x1).bind fun bt194 => ((wire_Wire_Take.f bt194.2.1 bt194.2.2.1 bt194.2.2.2.1 bt194.2.2.2.2.1 bt194.2.2.2.2.2.1 bt194.2.2.2.2.2.2.1 bt194.2.2.2.2.2.2.2.1 bt194.2.2.2.2.2.2.2.2.1 bt194.2.2.2.2.2.2.2.2.2 x1 x2).bind fun bt204 => (countermandlaw06_WireEmpties.l0 k x0 x1 x2 x28 (wrap64 (x29 + 1)) bt204.2.1 bt204.2.2.1 bt204.2.2.2.1 bt204.2.2.2.2.1 bt204.2.2.2.2.2.1 bt204.2.2.2.2.2.2.1 bt204.2.2.2.2.2.2.2.1 bt204.2.2.2.2.2.2.2.2.1 bt204.2.2.2.2.2.2.2.2.2))) else ((wire_Wire_Trace.f x184000 x184001 x184002 x184003 x184004 x184005 x184006 x184007 x184008 x1).bind fun bt214 => (if bt214.1.toList = x0.toList then ((wire_Wire_Left.f bt214.2.1 bt214.2.2.1 bt214.2.2.2.1 bt214.2.2.2.2.1 bt214.2.2.2.2.2.1 bt214.2.2.2.2.2.2.1 bt214.2.2.2.2.2.2.2.1 bt214.2.2.2.2.2.2.2.2.1 bt214.2.2.2.2.2.2.2.2.2 x1).bind fun bt224 => (some (bt224.1 == 0))) else (some false)))
end
def countermandlaw06_WireEmpties.f (k : Nat) (a0 : ByteArray) (a1 : Int) (a2 : Int) : Option (Bool) := (countermandlaw06_alive.f).bind fun t172 => (if t172 = true then (if (a0.size : Int) > 1024 then (countermandlaw06_WireEmpties.j0 k a0 a1 a2 true) else (if a2 < 1 then (countermandlaw06_WireEmpties.j0 k a0 a1 a2 true) else ((countermandref06_Is.f a1).bind fun t173 => (countermandlaw06_WireEmpties.j0 k a0 a1 a2 (!t173))))) else (some false))
theorem countermandlaw06_WireEmpties.mono_l : ∀ k, (∀ y0 y1 y2 y3, LeO (countermandlaw06_WireEmpties.j0 k y0 y1 y2 y3) (countermandlaw06_WireEmpties.j0 (k + 1) y0 y1 y2 y3)) ∧ (∀ y0 y1 y2 y3 y4 y5 y6 y7 y8 y9 y10 y11 y12 y13, LeO (countermandlaw06_WireEmpties.l0 k y0 y1 y2 y3 y4 y5 y6 y7 y8 y9 y10 y11 y12 y13) (countermandlaw06_WireEmpties.l0 (k + 1) y0 y1 y2 y3 y4 y5 y6 y7 y8 y9 y10 y11 y12 y13))
  | 0 => ⟨fun _ _ _ _ r h => by simp [countermandlaw06_WireEmpties.j0] at h, fun _ _ _ _ _ _ _ _ _ _ _ _ _ _ r h => by simp [countermandlaw06_WireEmpties.l0] at h⟩
  | k + 1 => by
    obtain ⟨ih0, ih1⟩ := countermandlaw06_WireEmpties.mono_l k
    refine ⟨?_, ?_⟩
    · intro y0 y1 y2 y3
      unfold countermandlaw06_WireEmpties.j0
      repeat' first
      | (with_reducible exact ih0 _ _ _ _)
      | (with_reducible exact ih1 _ _ _ _ _ _ _ _ _ _ _ _ _ _)
      | (with_reducible exact LeO.refl _)
      | (with_reducible exact LeO.none _)
      | (with_reducible refine LeO.ite ?_ ?_)
      | (with_reducible refine LeO.bind ?_ (fun _ => ?_))
      | exact ih0 _ _ _ _
      | exact ih1 _ _ _ _ _ _ _ _ _ _ _ _ _ _
      | exact LeO.none _
      | refine LeO.ite ?_ ?_
      | refine LeO.bind ?_ (fun _ => ?_)
    · intro y0 y1 y2 y3 y4 y5 y6 y7 y8 y9 y10 y11 y12 y13
      unfold countermandlaw06_WireEmpties.l0
      repeat' first
      | (with_reducible exact ih0 _ _ _ _)
      | (with_reducible exact ih1 _ _ _ _ _ _ _ _ _ _ _ _ _ _)
      | (with_reducible exact LeO.refl _)
      | (with_reducible exact LeO.none _)
      | (with_reducible refine LeO.ite ?_ ?_)
      | (with_reducible refine LeO.bind ?_ (fun _ => ?_))
      | exact ih0 _ _ _ _
      | exact ih1 _ _ _ _ _ _ _ _ _ _ _ _ _ _
      | exact LeO.none _
      | refine LeO.ite ?_ ?_
      | refine LeO.bind ?_ (fun _ => ?_)
theorem countermandlaw06_WireEmpties.mono : ∀ a0 a1 a2 k, LeO (countermandlaw06_WireEmpties.f k a0 a1 a2) (countermandlaw06_WireEmpties.f (k + 1) a0 a1 a2) := by
  intro a0 a1 a2 k
  obtain ⟨ih0, ih1⟩ := countermandlaw06_WireEmpties.mono_l k
  unfold countermandlaw06_WireEmpties.f
  repeat' first
      | (with_reducible exact ih0 _ _ _ _)
      | (with_reducible exact ih1 _ _ _ _ _ _ _ _ _ _ _ _ _ _)
      | (with_reducible exact LeO.refl _)
      | (with_reducible exact LeO.none _)
      | (with_reducible refine LeO.ite ?_ ?_)
      | (with_reducible refine LeO.bind ?_ (fun _ => ?_))
      | exact ih0 _ _ _ _
      | exact ih1 _ _ _ _ _ _ _ _ _ _ _ _ _ _
      | exact LeO.none _
      | refine LeO.ite ?_ ?_
      | refine LeO.bind ?_ (fun _ => ?_)
set_option maxHeartbeats 8000000 in
set_option maxRecDepth 100000 in
theorem countermandlaw06_WireEmpties.calls (k : Nat) (a0 : ByteArray) (a1 : Int) (a2 : Int) (r : Bool) (w : World) (h : countermandlaw06_WireEmpties.f k a0 a1 a2 = some r) (hrT : r = true) :
    Calls Try.prog 4 #[.string a0, .int .i64 a1, .int .i64 a2] w fun e w' => e = .returned (.bool r) ∧ Below w.heap.size w w' := by
  have HB := Aside0.mk (Below.refl w.heap.size w)
  have H : ((countermandlaw06_alive.f).bind fun t172 => (if t172 = true then (if (a0.size : Int) > 1024 then (countermandlaw06_WireEmpties.j0 k a0 a1 a2 true) else (if a2 < 1 then (countermandlaw06_WireEmpties.j0 k a0 a1 a2 true) else ((countermandref06_Is.f a1).bind fun t173 => (countermandlaw06_WireEmpties.j0 k a0 a1 a2 (!t173))))) else (some false))) = some r := h
  clear h
  replace H := Option.bind_eq_some_iff.mp H
  obtain ⟨t172, A40, H⟩ := H
  replace H : (if t172 = true then (if (a0.size : Int) > 1024 then (countermandlaw06_WireEmpties.j0 k a0 a1 a2 true) else (if a2 < 1 then (countermandlaw06_WireEmpties.j0 k a0 a1 a2 true) else ((countermandref06_Is.f a1).bind fun t173 => (countermandlaw06_WireEmpties.j0 k a0 a1 a2 (!t173))))) else (some false)) = some r := H
  have A4 := Aside0.mk A40
  clear A40
  by_cases c5 : t172 = true
  · subst c5
    have H1 : (if (a0.size : Int) > 1024 then (countermandlaw06_WireEmpties.j0 k a0 a1 a2 true) else (if a2 < 1 then (countermandlaw06_WireEmpties.j0 k a0 a1 a2 true) else ((countermandref06_Is.f a1).bind fun t173 => (countermandlaw06_WireEmpties.j0 k a0 a1 a2 (!t173))))) = some r := by rw [if_pos rfl] at H; exact H
    clear H
    have H := H1
    clear H1
    have HC6 := Aside0.mk H
    clear H
    go_enter Try.func4, Try.ntmps4
    go_upto_region 3 with (first | ((with_reducible refine gate_callee (f := 14) rfl ?_); refine goesL_ (some 8) rfl rfl Try.func14 (by kernel_rfl) rfl #[] rfl (by (try simp only [List.map_toArray, List.map_cons, List.map_nil]); first | done | rfl | (simp only [List.length_drop, List.length_take]; rfl)) ?_; (with_reducible refine (countermandlaw06_alive.calls  true _ A4.out).mono ?_); rintro e w7 ⟨rfl, hb⟩; refine ⟨_, rfl, ?_⟩; have n0_ := Aside0.mk (below_step (by repeat (first | (with_reducible first | exact HB.out | apply below_alloc | apply pw_below_drewN | apply below_drew1) | exact HB.out)) hb); clear HB; have HB := n0_; clear n0_; (try clear hb); (try clear hb2); (try clear hk); (try clear hi)))
    (try simp only [Act.put, List.setIfInBounds_toArray, List.set_cons_zero, List.set_cons_succ])
    go_cut [21] (fun v21 wc => ∃ (kq : Nat) (x21_5 : Bool), v21 = .bool x21_5 ∧ Aside0 (countermandlaw06_WireEmpties.j0 kq a0 a1 a2 x21_5 = some r) ∧ Aside0 (kq ≤ k) ∧ Aside0 (Below w.heap.size w wc))
    case first =>
      have H := HC6.out
      clear HC6
      by_cases c8 : (a0.size : Int) > 1024
      · rw [if_pos c8] at H
        have c8b0 : decide (1024 < (a0.size : Int)) = true := decide_eq_true c8
        have c8b1 : decide (1024 < a0.size) = true := decide_eq_true (by omega)
        clear c8
        (first | rw [c8b0] | (simp only [i64_w, i32_w]; rw [c8b0]) | skip)
        have H' := Aside0.mk H
        clear H
        go_wp2
        go_meet
        case rel => exact ⟨_, (true), (by first | rfl | (simp; done) | (simp [*]; done)), H', ⟨by first | omega | exact Nat.le_refl _⟩, ⟨by repeat (first | (with_reducible first | exact HB.out | apply below_alloc | apply pw_below_drewN | apply below_drew1) | exact HB.out)⟩⟩
      · rw [if_neg c8] at H
        have c8b0 : decide (1024 < (a0.size : Int)) = false := decide_eq_false c8
        have c8b1 : decide (1024 < a0.size) = false := decide_eq_false (by omega)
        clear c8
        (first | rw [c8b0] | (simp only [i64_w, i32_w]; rw [c8b0]) | skip)
        by_cases c9 : a2 < 1
        · rw [if_pos c9] at H
          have c9b0 : decide (a2 < 1) = true := decide_eq_true c9
          clear c9
          have H' := Aside0.mk H
          clear H
          go_wp2
          go_meet
          case rel => exact ⟨_, (true), (by first | rfl | (simp; done) | (simp [*]; done)), H', ⟨by first | omega | exact Nat.le_refl _⟩, ⟨by repeat (first | (with_reducible first | exact HB.out | apply below_alloc | apply pw_below_drewN | apply below_drew1) | exact HB.out)⟩⟩
        · rw [if_neg c9] at H
          have c9b0 : decide (a2 < 1) = false := decide_eq_false c9
          clear c9
          replace H := Option.bind_eq_some_iff.mp H
          obtain ⟨t173, A100, H⟩ := H
          replace H : (countermandlaw06_WireEmpties.j0 k a0 a1 a2 (!t173)) = some r := H
          have A10 := Aside0.mk A100
          clear A100
          have H' := Aside0.mk H
          clear H
          go_wp2_with (first | (go_at_call 16; (with_reducible refine (countermandref06_Is.calls a1 t173 _ A10.out).mono ?_); rintro e w' ⟨rfl, ⟨nd, rfl⟩⟩))
          go_meet
          case rel => exact ⟨_, (!t173), (by first | rfl | (simp; done) | (simp [*]; done)), H', ⟨by first | omega | exact Nat.le_refl _⟩, ⟨by repeat (first | (with_reducible first | exact HB.out | apply below_alloc | apply pw_below_drewN | apply below_drew1) | exact HB.out)⟩⟩
    case rest =>
      clear HC6
      try clear c1
      try clear p2
      try clear c4
      try clear c5
      try clear c8
      try clear c8b0
      try clear c8b1
      try clear c9
      try clear c9b0
      obtain ⟨kq, x21_5, rfl, HA, HJ5, HB⟩ := hcut
      cases kq with
      | zero => exact absurd HA.out (by simp [countermandlaw06_WireEmpties.j0])
      | succ kj5 =>
        have H := HA.out
        clear HA
        simp only [countermandlaw06_WireEmpties.j0] at H
        by_cases c11 : x21_5 = true
        · subst c11
          have H1 : (some true) = some r := by rw [if_pos rfl] at H; exact H
          clear H
          have H := H1
          clear H1
          obtain rfl := Option.some.inj H
          clear hrT
          go_wp2
          go_ret
          exact ⟨by first | rfl | (simp [errW_none, errW_some] <;> rfl) | (simp [*, errW_none, errW_some] <;> rfl), by repeat (first | (with_reducible first | exact HB.out | apply below_alloc | apply pw_below_drewN | apply below_drew1) | exact HB.out)⟩
        · replace c11 := Bool.eq_false_iff.mpr c11
          subst c11
          have H1 : ((wire_New.f).bind fun bt174 => ((wire_Wire_Push.f bt174.1 bt174.2.1 bt174.2.2.1 bt174.2.2.2.1 bt174.2.2.2.2.1 bt174.2.2.2.2.2.1 bt174.2.2.2.2.2.2.1 bt174.2.2.2.2.2.2.2.1 bt174.2.2.2.2.2.2.2.2 a1 a0).bind fun bt184 => (countermandlaw06_WireEmpties.l0 kj5 a0 a1 a2 (a0.size : Int) 0 bt184.2.1 bt184.2.2.1 bt184.2.2.2.1 bt184.2.2.2.2.1 bt184.2.2.2.2.2.1 bt184.2.2.2.2.2.2.1 bt184.2.2.2.2.2.2.2.1 bt184.2.2.2.2.2.2.2.2.1 bt184.2.2.2.2.2.2.2.2.2))) = some r := by rw [if_neg (show ¬ (false = true) by decide)] at H; exact H
          clear H
          have H := H1
          clear H1
          replace H := Option.bind_eq_some_iff.mp H
          obtain ⟨⟨t174, t175, t176, t177, t178, t179, t180, t181, t182⟩, A120, H⟩ := H
          replace H : ((wire_Wire_Push.f t174 t175 t176 t177 t178 t179 t180 t181 t182 a1 a0).bind fun bt184 => (countermandlaw06_WireEmpties.l0 kj5 a0 a1 a2 (a0.size : Int) 0 bt184.2.1 bt184.2.2.1 bt184.2.2.2.1 bt184.2.2.2.2.1 bt184.2.2.2.2.2.1 bt184.2.2.2.2.2.2.1 bt184.2.2.2.2.2.2.2.1 bt184.2.2.2.2.2.2.2.2.1 bt184.2.2.2.2.2.2.2.2.2)) = some r := H
          have A12 := Aside0.mk A120
          clear A120
          replace H := Option.bind_eq_some_iff.mp H
          obtain ⟨⟨t184, t185, t186, t187, t188, t189, t190, t191, t192, t193⟩, A130, H⟩ := H
          replace H : (countermandlaw06_WireEmpties.l0 kj5 a0 a1 a2 (a0.size : Int) 0 t185 t186 t187 t188 t189 t190 t191 t192 t193) = some r := H
          have A13 := Aside0.mk A130
          clear A130
          have H' := Aside0.mk H
          clear H
          go_wp2_with (first | ((with_reducible refine gate_callee (f := 17) rfl ?_); refine goesL_ (some 22) rfl rfl Try.func17 (by kernel_rfl) rfl #[] rfl (by (try simp only [List.map_toArray, List.map_cons, List.map_nil]); first | done | rfl | (simp only [List.length_drop, List.length_take]; rfl)) ?_; (with_reducible refine (wire_New.calls  t174 t175 t176 t177 t178 t179 t180 t181 t182 w _ ?side1 A12.out).mono ?_); (case side1 => repeat (first | (with_reducible first | exact HB.out | apply below_alloc | apply pw_below_drewN | apply below_drew1) | exact HB.out)); rintro e w14 ⟨g183, rfl, hi, hb, hb2⟩; refine ⟨_, rfl, ?_⟩; have n0_ := Aside0.mk (hb); have n1_ := Aside0.mk (hi); clear HB; have HB := n0_; have HI183 := n1_; clear n0_ n1_; (try clear hb); (try clear hb2); (try clear hk); (try clear hi)) | ((with_reducible refine gate_callee (f := 18) rfl ?_); refine goesL_ (some 26) rfl rfl Try.func18 (by kernel_rfl) rfl #[.pointer (some ⟨g183, 0, none⟩), .int .i64 a1, .string a0] rfl (by (try simp only [List.map_toArray, List.map_cons, List.map_nil]); first | done | rfl | (simp only [List.length_drop, List.length_take]; rfl)) ?_; (with_reducible refine (wire_Wire_Push.calls g183 t174 t175 t176 t177 t178 t179 t180 t181 t182 a1 a0 t184 t185 t186 t187 t188 t189 t190 t191 t192 t193 w _ ?side1 ?side2 A13.out).mono ?_); (case side1 => repeat (first | (with_reducible first | exact HI183.out | apply IsS69.alloc | apply IsS69.drewN | apply IsS69.drew | apply IsS69.set_0 | apply IsS69.set_1 | apply IsS69.set_2 | apply IsS69.set_3 | apply IsS69.set_4 | apply IsS69.set_5 | apply IsS69.set_6 | apply IsS69.set_7 | apply IsS69.set_8) | exact HI183.out)); (case side2 => repeat (first | (with_reducible first | exact HB.out | apply below_alloc | apply pw_below_drewN | apply below_drew1 | refine below_set ?_ (IsS69.ge HI183.out)) | exact HB.out)); rintro e w15 ⟨rfl, hi, hb, hk⟩; refine ⟨_, rfl, ?_⟩; have n0_ := Aside0.mk (hb); have n1_ := Aside0.mk (hi); clear HB; clear HI183; have HB := n0_; have HI183 := n1_; clear n0_ n1_; (try clear hb); (try clear hb2); (try clear hk); (try clear hi)))
          go_loopg [29] kj5 (fun kq v29 w' => ∃ (x29_2 : Int) (x184000_2 : ByteArray) (x184001_2 : ByteArray) (x184002_2 : ByteArray) (x184003_2 : ByteArray) (x184004_2 : ByteArray) (x184005_2 : ByteArray) (x184006_2 : ByteArray) (x184007_2 : ByteArray) (x184008_2 : ByteArray), v29 = .int .i64 x29_2 ∧ Aside0 (countermandlaw06_WireEmpties.l0 kq a0 a1 a2 (a0.size : Int) x29_2 x184000_2 x184001_2 x184002_2 x184003_2 x184004_2 x184005_2 x184006_2 x184007_2 x184008_2 = some r) ∧ Aside0 (kq ≤ kj5) ∧ Aside0 (IsS69 w w' g183 x184000_2 x184001_2 x184002_2 x184003_2 x184004_2 x184005_2 x184006_2 x184007_2 x184008_2) ∧ Aside0 (Below w.heap.size w w'))
          case atStart => exact ⟨(0), (t185), (t186), (t187), (t188), (t189), (t190), (t191), (t192), (t193), (by first | rfl | (simp; done) | (simp [*]; done)), H', ⟨Nat.le_refl _⟩, ⟨by repeat (first | (with_reducible first | exact HI183.out | apply IsS69.alloc | apply IsS69.drewN | apply IsS69.drew | apply IsS69.set_0 | apply IsS69.set_1 | apply IsS69.set_2 | apply IsS69.set_3 | apply IsS69.set_4 | apply IsS69.set_5 | apply IsS69.set_6 | apply IsS69.set_7 | apply IsS69.set_8) | exact HI183.out)⟩, ⟨by repeat (first | (with_reducible first | exact HB.out | apply below_alloc | apply pw_below_drewN | apply below_drew1 | refine below_set ?_ (IsS69.ge HI183.out)) | exact HB.out)⟩⟩
          case round =>
            clear H'
            try clear c1
            try clear p2
            try clear c4
            try clear c5
            try clear c8
            try clear c8b0
            try clear c8b1
            try clear c9
            try clear c9b0
            try clear c11
            try clear c14
            try clear p2
            obtain ⟨x29_2, x184000_2, x184001_2, x184002_2, x184003_2, x184004_2, x184005_2, x184006_2, x184007_2, x184008_2, rfl, HA, HK2, HI183, HB⟩ := hrel
            cases gk with
            | zero => exact absurd HA.out (by simp [countermandlaw06_WireEmpties.l0])
            | succ k2 =>
              have H := HA.out
              clear HA
              simp only [countermandlaw06_WireEmpties.l0] at H
              by_cases c16 : x29_2 < (a0.size : Int)
              · rw [if_pos c16] at H
                have c16b0 : decide (x29_2 < (a0.size : Int)) = true := decide_eq_true c16
                clear c16
                replace H := Option.bind_eq_some_iff.mp H
                obtain ⟨⟨t194, t195, t196, t197, t198, t199, t200, t201, t202, t203⟩, A170, H⟩ := H
                replace H : ((wire_Wire_Take.f t195 t196 t197 t198 t199 t200 t201 t202 t203 a1 a2).bind fun bt204 => (countermandlaw06_WireEmpties.l0 k2 a0 a1 a2 (a0.size : Int) (wrap64 (x29_2 + 1)) bt204.2.1 bt204.2.2.1 bt204.2.2.2.1 bt204.2.2.2.2.1 bt204.2.2.2.2.2.1 bt204.2.2.2.2.2.2.1 bt204.2.2.2.2.2.2.2.1 bt204.2.2.2.2.2.2.2.2.1 bt204.2.2.2.2.2.2.2.2.2)) = some r := H
                have A17 := Aside0.mk A170
                clear A170
                replace H := Option.bind_eq_some_iff.mp H
                obtain ⟨⟨t204, t205, t206, t207, t208, t209, t210, t211, t212, t213⟩, A180, H⟩ := H
                replace H : (countermandlaw06_WireEmpties.l0 k2 a0 a1 a2 (a0.size : Int) (wrap64 (x29_2 + 1)) t205 t206 t207 t208 t209 t210 t211 t212 t213) = some r := H
                have A18 := Aside0.mk A180
                clear A180
                have H' := Aside0.mk H
                clear H
                go_wp2_with (first | ((with_reducible refine gate_callee (f := 19) rfl ?_); refine goesL_ (some 33) rfl rfl Try.func19 (by kernel_rfl) rfl #[.pointer (some ⟨g183, 0, none⟩), .int .i64 a1] rfl (by (try simp only [List.map_toArray, List.map_cons, List.map_nil]); first | done | rfl | (simp only [List.length_drop, List.length_take]; rfl)) ?_; (with_reducible refine (wire_Wire_Pump.calls g183 x184000_2 x184001_2 x184002_2 x184003_2 x184004_2 x184005_2 x184006_2 x184007_2 x184008_2 a1 t194 t195 t196 t197 t198 t199 t200 t201 t202 t203 w _ ?side1 ?side2 A17.out).mono ?_); (case side1 => repeat (first | (with_reducible first | exact HI183.out | apply IsS69.alloc | apply IsS69.drewN | apply IsS69.drew | apply IsS69.set_0 | apply IsS69.set_1 | apply IsS69.set_2 | apply IsS69.set_3 | apply IsS69.set_4 | apply IsS69.set_5 | apply IsS69.set_6 | apply IsS69.set_7 | apply IsS69.set_8) | exact HI183.out)); (case side2 => repeat (first | (with_reducible first | exact HB.out | apply below_alloc | apply pw_below_drewN | apply below_drew1 | refine below_set ?_ (IsS69.ge HI183.out)) | exact HB.out)); rintro e w19 ⟨rfl, hi, hb, hk⟩; refine ⟨_, rfl, ?_⟩; have n0_ := Aside0.mk (hb); have n1_ := Aside0.mk (hi); clear HB; clear HI183; have HB := n0_; have HI183 := n1_; clear n0_ n1_; (try clear hb); (try clear hb2); (try clear hk); (try clear hi)) | ((with_reducible refine gate_callee (f := 20) rfl ?_); refine goesL_ (some 37) rfl rfl Try.func20 (by kernel_rfl) rfl #[.pointer (some ⟨g183, 0, none⟩), .int .i64 a1, .int .i64 a2] rfl (by (try simp only [List.map_toArray, List.map_cons, List.map_nil]); first | done | rfl | (simp only [List.length_drop, List.length_take]; rfl)) ?_; (with_reducible refine (wire_Wire_Take.calls g183 t195 t196 t197 t198 t199 t200 t201 t202 t203 a1 a2 t204 t205 t206 t207 t208 t209 t210 t211 t212 t213 w _ ?side1 ?side2 A18.out).mono ?_); (case side1 => repeat (first | (with_reducible first | exact HI183.out | apply IsS69.alloc | apply IsS69.drewN | apply IsS69.drew | apply IsS69.set_0 | apply IsS69.set_1 | apply IsS69.set_2 | apply IsS69.set_3 | apply IsS69.set_4 | apply IsS69.set_5 | apply IsS69.set_6 | apply IsS69.set_7 | apply IsS69.set_8) | exact HI183.out)); (case side2 => repeat (first | (with_reducible first | exact HB.out | apply below_alloc | apply pw_below_drewN | apply below_drew1 | refine below_set ?_ (IsS69.ge HI183.out)) | exact HB.out)); rintro e w20 ⟨rfl, hi, hb, hk⟩; refine ⟨_, rfl, ?_⟩; have n0_ := Aside0.mk (hb); have n1_ := Aside0.mk (hi); clear HB; clear HI183; have HB := n0_; have HI183 := n1_; clear n0_ n1_; (try clear hb); (try clear hb2); (try clear hk); (try clear hi)))
                go_roundg k2
                case measure => have := HJ5.out; have := HK2.out; omega
                case rel => exact ⟨(wrap64 (x29_2 + 1)), (t205), (t206), (t207), (t208), (t209), (t210), (t211), (t212), (t213), (by first | rfl | (simp; done) | (simp [*]; done)), H', ⟨by have := HJ5.out; have := HK2.out; omega⟩, ⟨by repeat (first | (with_reducible first | exact HI183.out | apply IsS69.alloc | apply IsS69.drewN | apply IsS69.drew | apply IsS69.set_0 | apply IsS69.set_1 | apply IsS69.set_2 | apply IsS69.set_3 | apply IsS69.set_4 | apply IsS69.set_5 | apply IsS69.set_6 | apply IsS69.set_7 | apply IsS69.set_8) | exact HI183.out)⟩, ⟨by repeat (first | (with_reducible first | exact HB.out | apply below_alloc | apply pw_below_drewN | apply below_drew1 | refine below_set ?_ (IsS69.ge HI183.out)) | exact HB.out)⟩⟩
              · rw [if_neg c16] at H
                have c16b0 : decide (x29_2 < (a0.size : Int)) = false := decide_eq_false c16
                clear c16
                replace H := Option.bind_eq_some_iff.mp H
                obtain ⟨⟨t214, t215, t216, t217, t218, t219, t220, t221, t222, t223⟩, A210, H⟩ := H
                replace H : (if t214.toList = a0.toList then ((wire_Wire_Left.f t215 t216 t217 t218 t219 t220 t221 t222 t223 a1).bind fun bt224 => (some (bt224.1 == 0))) else (some false)) = some r := H
                have A21 := Aside0.mk A210
                clear A210
                by_cases c22 : t214.toList = a0.toList
                · rw [if_pos c22] at H
                  have c22b0 : (t214.toList == a0.toList) = true := beq_iff_eq.mpr c22
                  have c22b1 : (t214.toList != a0.toList) = false := bne_eq_false_iff_eq.mpr c22
                  clear c22
                  replace H := Option.bind_eq_some_iff.mp H
                  obtain ⟨⟨t224, t225, t226, t227, t228, t229, t230, t231, t232, t233⟩, A230, H⟩ := H
                  replace H : (some (t224 == 0)) = some r := H
                  have A23 := Aside0.mk A230
                  clear A230
                  obtain rfl := Option.some.inj H
                  clear hrT
                  go_wp2_with (first | ((with_reducible refine gate_callee (f := 21) rfl ?_); refine goesL_ (some 41) rfl rfl Try.func21 (by kernel_rfl) rfl #[.pointer (some ⟨g183, 0, none⟩), .int .i64 a1] rfl (by (try simp only [List.map_toArray, List.map_cons, List.map_nil]); first | done | rfl | (simp only [List.length_drop, List.length_take]; rfl)) ?_; (with_reducible refine (wire_Wire_Trace.calls g183 x184000_2 x184001_2 x184002_2 x184003_2 x184004_2 x184005_2 x184006_2 x184007_2 x184008_2 a1 t214 t215 t216 t217 t218 t219 t220 t221 t222 t223 w _ ?side1 ?side2 A21.out).mono ?_); (case side1 => repeat (first | (with_reducible first | exact HI183.out | apply IsS69.alloc | apply IsS69.drewN | apply IsS69.drew | apply IsS69.set_0 | apply IsS69.set_1 | apply IsS69.set_2 | apply IsS69.set_3 | apply IsS69.set_4 | apply IsS69.set_5 | apply IsS69.set_6 | apply IsS69.set_7 | apply IsS69.set_8) | exact HI183.out)); (case side2 => repeat (first | (with_reducible first | exact HB.out | apply below_alloc | apply pw_below_drewN | apply below_drew1 | refine below_set ?_ (IsS69.ge HI183.out)) | exact HB.out)); rintro e w24 ⟨rfl, hi, hb, hk⟩; refine ⟨_, rfl, ?_⟩; have n0_ := Aside0.mk (hb); have n1_ := Aside0.mk (hi); clear HB; clear HI183; have HB := n0_; have HI183 := n1_; clear n0_ n1_; (try clear hb); (try clear hb2); (try clear hk); (try clear hi)) | (go_at_call 23; (with_reducible refine (wire_Wire_Left.calls g183 t215 t216 t217 t218 t219 t220 t221 t222 t223 a1 t224 t225 t226 t227 t228 t229 t230 t231 t232 t233 w _ ?side1 ?side2 A23.out).mono ?_); (case side1 => repeat (first | (with_reducible first | exact HI183.out | apply IsS69.alloc | apply IsS69.drewN | apply IsS69.drew | apply IsS69.set_0 | apply IsS69.set_1 | apply IsS69.set_2 | apply IsS69.set_3 | apply IsS69.set_4 | apply IsS69.set_5 | apply IsS69.set_6 | apply IsS69.set_7 | apply IsS69.set_8) | exact HI183.out)); (case side2 => repeat (first | (with_reducible first | exact HB.out | apply below_alloc | apply pw_below_drewN | apply below_drew1 | refine below_set ?_ (IsS69.ge HI183.out)) | exact HB.out)); rintro e w25 ⟨rfl, hi, hb, hk⟩; have n0_ := Aside0.mk (hb); have n1_ := Aside0.mk (hi); clear HB; clear HI183; have HB := n0_; have HI183 := n1_; clear n0_ n1_; (try clear hb); (try clear hb2); (try clear hk); (try clear hi)))
                  go_ret
                  exact ⟨by first | rfl | (simp [errW_none, errW_some] <;> rfl) | (simp [*, errW_none, errW_some] <;> rfl), by repeat (first | (with_reducible first | exact HB.out | apply below_alloc | apply pw_below_drewN | apply below_drew1 | refine below_set ?_ (IsS69.ge HI183.out)) | exact HB.out)⟩
                · rw [if_neg c22] at H
                  have c22b0 : (t214.toList == a0.toList) = false := beq_eq_false_iff_ne.mpr c22
                  have c22b1 : (t214.toList != a0.toList) = true := bne_iff_ne.mpr c22
                  obtain rfl := Option.some.inj H
                  cases hrT
  · replace c5 := Bool.eq_false_iff.mpr c5
    subst c5
    have H1 : (some false) = some r := by rw [if_neg (show ¬ (false = true) by decide)] at H; exact H
    clear H
    have H := H1
    clear H1
    obtain rfl := Option.some.inj H
    cases hrT

/-- THE ONE PURE STATEMENT of countermandlaw06_WireEmpties: yours. -/
def countermandlaw06_WireEmpties.Pure : Prop := ∀ (a0 : ByteArray) (a1 : Int) (a2 : Int), a0.size ≤ 140737488351232 → (Lit.int .i64 a1).wf = true → (Lit.int .i64 a2).wf = true → ∃ k, countermandlaw06_WireEmpties.f k a0 a1 a2 = some true
theorem countermandlaw06_WireEmpties.walk (P : countermandlaw06_WireEmpties.Pure) (a0 : ByteArray) (a1 : Int) (a2 : Int) (w : World) (w0 : a0.size ≤ 140737488351232) (w1 : (Lit.int .i64 a1).wf = true) (w2 : (Lit.int .i64 a2).wf = true) :
    Calls Try.prog 4 #[.string a0, .int .i64 a1, .int .i64 a2] w fun e w' => e = .returned (.bool true) ∧ Below w.heap.size w w' := by
  obtain ⟨k, h⟩ := P a0 a1 a2 w0 w1 w2
  refine (countermandlaw06_WireEmpties.calls k a0 a1 a2 true w h rfl).mono ?_
  rintro e w' ⟨rfl, hd⟩
  exact ⟨rfl, hd⟩

end Go.Proofs.Ytodffnchcbapcaa.PWireEmpties
