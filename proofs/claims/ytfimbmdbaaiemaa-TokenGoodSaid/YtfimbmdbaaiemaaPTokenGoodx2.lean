/- Written by a program of this session, which began as the kit's print and is turned in wip/printer: the plain form of each function, and that the Go code comes to it. -/
import Derived.Test.YtfimbmdbaaiemaaPTokenGoodx0
import Derived.Test.YtfimbmdbaaiemaaPTokenGoodx1
namespace Go.Proofs.Ytfimbmdbaaiemaa.PTokenGood
open Go.RowKit Go.Proofs.YtfimbmdbaaiemaaW.PrintWords Go.Proofs.YtfimbmdbaaiemaaW.PrintLast Go.Proofs.YtfimbmdbaaiemaaW.PrintMore
attribute [local go_sem] max2_int min2_int max_two min_two max_three min_three max_four min_four   -- for this text's walks alone
set_option linter.unusedVariables false
set_option linter.unusedSimpArgs false

/-! ### countermandlaw19_TokenGood: function 8 -/
mutual
def countermandlaw19_TokenGood.j0 : Nat → Int → List (S49) → Bool → Option (Bool)
  | 0, _, _, _ => none
  | k + 1, x0, x1, x16 => if x16 = true then (some true) else ((token_New.f).bind fun bt131 => ((token_Token_Take.f bt131.1 bt131.2.1 bt131.2.2 x0 false).bind fun bt135 => (countermandlaw19_TokenGood.l0 k x0 x1 (x1.length : Int) 0 bt135.2.1 bt135.2.2.1 bt135.2.2.2)))
def countermandlaw19_TokenGood.l0 : Nat → Int → List (S49) → Int → Int → Int → Bool → Int → Option (Bool)
  | 0, _, _, _, _, _, _, _ => none
  | k + 1, x0, x21, x22, x23, x135000, x135001, x135002 => if x23 < x22 then (if 0 ≤ x23 then (if x23 < (x21.length : Int) then (if ((rd_T49 x21 x23).f0) = 0 then ((token_Token_Take.f x135000 x135001 x135002 ((rd_T49 x21 x23).f1) ((rd_T49 x21 x23).f2)).bind fun bt141 => (countermandlaw19_TokenGood.j2 k x0 x21 x22 x23 bt141.2.1 bt141.2.2.1 bt141.2.2.2)) else (if ((rd_T49 x21 x23).f0) = 1 then ((token_Token_Lock.f x135000 x135001 x135002 ((rd_T49 x21 x23).f1)).bind fun bt145 => (countermandlaw19_TokenGood.j2 k x0 x21 x22 x23 bt145.2.1 bt145.2.2.1 bt145.2.2.2)) else (if ((rd_T49 x21 x23).f0) = 2 then ((token_Token_Unlock.f x135000 x135001 x135002 ((rd_T49 x21 x23).f1)).bind fun bt149 => (countermandlaw19_TokenGood.j2 k x0 x21 x22 x23 bt149.2.1 bt149.2.2.1 bt149.2.2.2)) else (if ((rd_T49 x21 x23).f0) = 3 then (if ((rd_T49 x21 x23).f1) = x0 then ((token_Token_Drop.f x135000 x135001 x135002 x0).bind fun bt153 => (if bt153.1 = true then ((token_Token_Sure.f bt153.2.1 bt153.2.2.1 bt153.2.2.2 x0).bind fun bt157 => (if bt157.1 = true then (some false) else ((token_Token_Soft.f bt157.2.1 bt157.2.2.1 bt157.2.2.2).bind fun bt161 => (some (!bt161.1))))) else (some false))) else ((token_Token_Drop.f x135000 x135001 x135002 ((rd_T49 x21 x23).f1)).bind fun bt165 => (countermandlaw19_TokenGood.j2 k x0 x21 x22 x23 bt165.2.1 bt165.2.2.1 bt165.2.2.2))) else (countermandlaw19_TokenGood.j2 k x0 x21 x22 x23 x135000 x135001 x135002))))) else (none)) else (none)) else (some true)
def countermandlaw19_TokenGood.j2 : Nat → Int → List (S49) → Int → Int → Int → Bool → Int → Option (Bool)
  | 0, _, _, _, _, _, _, _ => none
  | k + 1, x0, x21, x22, x23, x135000, x135001, x135002 => (token_Token_Sure.f x135000 x135001 x135002 x0).bind fun bt169 => (if bt169.1 = true then ((token_Token_Holder.f bt169.2.1 bt169.2.2.1 bt169.2.2.2).bind fun bt173 => (if bt173.1 = x0 then ((token_Token_Soft.f bt173.2.1 bt173.2.2.1 bt173.2.2.2).bind fun bt177 => (if bt177.1 = true then (some false) else (countermandlaw19_TokenGood.l0 k x0 x21 x22 (wrap64 (x23 + 1)) bt177.2.1 bt177.2.2.1 bt177.2.2.2))) else (some false))) else (some false))
end
def countermandlaw19_TokenGood.f (k : Nat) (a0 : Int) (l1 : List (S49)) : Option (Bool) := (countermandlaw19_alive.f).bind fun t130 => (if t130 = true then (if (l1.length : Int) > 100 then (countermandlaw19_TokenGood.j0 k a0 l1 true) else (countermandlaw19_TokenGood.j0 k a0 l1 (decide (a0 < 0)))) else (some false))
theorem countermandlaw19_TokenGood.mono_l : ∀ k, (∀ y0 y1 y2, LeO (countermandlaw19_TokenGood.j0 k y0 y1 y2) (countermandlaw19_TokenGood.j0 (k + 1) y0 y1 y2)) ∧ (∀ y0 y1 y2 y3 y4 y5 y6, LeO (countermandlaw19_TokenGood.l0 k y0 y1 y2 y3 y4 y5 y6) (countermandlaw19_TokenGood.l0 (k + 1) y0 y1 y2 y3 y4 y5 y6)) ∧ (∀ y0 y1 y2 y3 y4 y5 y6, LeO (countermandlaw19_TokenGood.j2 k y0 y1 y2 y3 y4 y5 y6) (countermandlaw19_TokenGood.j2 (k + 1) y0 y1 y2 y3 y4 y5 y6))
  | 0 => ⟨fun _ _ _ r h => by simp [countermandlaw19_TokenGood.j0] at h, fun _ _ _ _ _ _ _ r h => by simp [countermandlaw19_TokenGood.l0] at h, fun _ _ _ _ _ _ _ r h => by simp [countermandlaw19_TokenGood.j2] at h⟩
  | k + 1 => by
    obtain ⟨ih0, ih1, ih2⟩ := countermandlaw19_TokenGood.mono_l k
    refine ⟨?_, ?_, ?_⟩
    · intro y0 y1 y2
      unfold countermandlaw19_TokenGood.j0
      repeat' first
      | (with_reducible exact ih0 _ _ _)
      | (with_reducible exact ih1 _ _ _ _ _ _ _)
      | (with_reducible exact ih2 _ _ _ _ _ _ _)
      | (with_reducible exact LeO.refl _)
      | (with_reducible exact LeO.none _)
      | (with_reducible refine LeO.ite ?_ ?_)
      | (with_reducible refine LeO.bind ?_ (fun _ => ?_))
      | exact ih0 _ _ _
      | exact ih1 _ _ _ _ _ _ _
      | exact ih2 _ _ _ _ _ _ _
      | exact LeO.none _
      | refine LeO.ite ?_ ?_
      | refine LeO.bind ?_ (fun _ => ?_)
    · intro y0 y1 y2 y3 y4 y5 y6
      unfold countermandlaw19_TokenGood.l0
      repeat' first
      | (with_reducible exact ih0 _ _ _)
      | (with_reducible exact ih1 _ _ _ _ _ _ _)
      | (with_reducible exact ih2 _ _ _ _ _ _ _)
      | (with_reducible exact LeO.refl _)
      | (with_reducible exact LeO.none _)
      | (with_reducible refine LeO.ite ?_ ?_)
      | (with_reducible refine LeO.bind ?_ (fun _ => ?_))
      | exact ih0 _ _ _
      | exact ih1 _ _ _ _ _ _ _
      | exact ih2 _ _ _ _ _ _ _
      | exact LeO.none _
      | refine LeO.ite ?_ ?_
      | refine LeO.bind ?_ (fun _ => ?_)
    · intro y0 y1 y2 y3 y4 y5 y6
      unfold countermandlaw19_TokenGood.j2
      repeat' first
      | (with_reducible exact ih0 _ _ _)
      | (with_reducible exact ih1 _ _ _ _ _ _ _)
      | (with_reducible exact ih2 _ _ _ _ _ _ _)
      | (with_reducible exact LeO.refl _)
      | (with_reducible exact LeO.none _)
      | (with_reducible refine LeO.ite ?_ ?_)
      | (with_reducible refine LeO.bind ?_ (fun _ => ?_))
      | exact ih0 _ _ _
      | exact ih1 _ _ _ _ _ _ _
      | exact ih2 _ _ _ _ _ _ _
      | exact LeO.none _
      | refine LeO.ite ?_ ?_
      | refine LeO.bind ?_ (fun _ => ?_)
theorem countermandlaw19_TokenGood.mono : ∀ a0 a1 k, LeO (countermandlaw19_TokenGood.f k a0 a1) (countermandlaw19_TokenGood.f (k + 1) a0 a1) := by
  intro a0 a1 k
  obtain ⟨ih0, ih1, ih2⟩ := countermandlaw19_TokenGood.mono_l k
  unfold countermandlaw19_TokenGood.f
  repeat' first
      | (with_reducible exact ih0 _ _ _)
      | (with_reducible exact ih1 _ _ _ _ _ _ _)
      | (with_reducible exact ih2 _ _ _ _ _ _ _)
      | (with_reducible exact LeO.refl _)
      | (with_reducible exact LeO.none _)
      | (with_reducible refine LeO.ite ?_ ?_)
      | (with_reducible refine LeO.bind ?_ (fun _ => ?_))
      | exact ih0 _ _ _
      | exact ih1 _ _ _ _ _ _ _
      | exact ih2 _ _ _ _ _ _ _
      | exact LeO.none _
      | refine LeO.ite ?_ ?_
      | refine LeO.bind ?_ (fun _ => ?_)
set_option maxHeartbeats 8000000 in
set_option maxRecDepth 100000 in
theorem countermandlaw19_TokenGood.calls (k : Nat) (a0 : Int) (A1 : Option Addr) (c1 : Nat) (l1 : List (S49)) (r : Bool) (w : World) (hr1 : Kd.C k49 w A1 l1.length l1) (hc1 : l1.length ≤ c1) (h : countermandlaw19_TokenGood.f k a0 l1 = some r) :
    Calls Try.prog 8 #[.int .i64 a0, .slice A1 l1.length c1] w fun e w' => e = .returned (.bool r) ∧ Below w.heap.size w w' := by
  have hu49 := Try.underlying49
  have HR1 := Aside0.mk hr1
  have HC1 := Aside0.mk hc1
  clear hr1 hc1
  have HB := Aside0.mk (Below.refl w.heap.size w)
  have H : ((countermandlaw19_alive.f).bind fun t130 => (if t130 = true then (if (l1.length : Int) > 100 then (countermandlaw19_TokenGood.j0 k a0 l1 true) else (countermandlaw19_TokenGood.j0 k a0 l1 (decide (a0 < 0)))) else (some false))) = some r := h
  clear h
  replace H := Option.bind_eq_some_iff.mp H
  obtain ⟨t130, A30, H⟩ := H
  replace H : (if t130 = true then (if (l1.length : Int) > 100 then (countermandlaw19_TokenGood.j0 k a0 l1 true) else (countermandlaw19_TokenGood.j0 k a0 l1 (decide (a0 < 0)))) else (some false)) = some r := H
  have A3 := Aside0.mk A30
  clear A30
  by_cases c4 : t130 = true
  · subst c4
    have H1 : (if (l1.length : Int) > 100 then (countermandlaw19_TokenGood.j0 k a0 l1 true) else (countermandlaw19_TokenGood.j0 k a0 l1 (decide (a0 < 0)))) = some r := by rw [if_pos rfl] at H; exact H
    clear H
    have H := H1
    clear H1
    have HC5 := Aside0.mk H
    clear H
    go_enter Try.func8, Try.ntmps8
    go_upto_region 3 with (first | ((with_reducible refine gate_callee (f := 24) rfl ?_); refine goesL_ (some 8) rfl rfl Try.func24 (by kernel_rfl) rfl #[] rfl (by (try simp only [List.map_toArray, List.map_cons, List.map_nil]); first | done | rfl | (simp only [List.length_drop, List.length_take]; rfl)) ?_; (with_reducible refine (countermandlaw19_alive.calls  true _ A3.out).mono ?_); rintro e w6 ⟨rfl, hb⟩; refine ⟨_, rfl, ?_⟩; have n0_ := Aside0.mk (below_step (by repeat (first | (with_reducible first | exact HB.out | apply below_alloc | apply pw_below_drewN | apply below_drew1) | exact HB.out)) hb); clear HB; have HB := n0_; clear n0_; (try clear hb); (try clear hb2); (try clear hk); (try clear hi)))
    (try simp only [Act.put, List.setIfInBounds_toArray, List.set_cons_zero, List.set_cons_succ])
    go_cut [16] (fun v16 wc => ∃ (kq : Nat) (x16_4 : Bool), v16 = .bool x16_4 ∧ Aside0 (countermandlaw19_TokenGood.j0 kq a0 l1 x16_4 = some r) ∧ Aside0 (kq ≤ k) ∧ Aside0 (Below w.heap.size w wc))
    case first =>
      have H := HC5.out
      clear HC5
      by_cases c7 : (l1.length : Int) > 100
      · rw [if_pos c7] at H
        have c7b0 : decide (100 < (l1.length : Int)) = true := decide_eq_true c7
        have c7b1 : decide (100 < l1.length) = true := decide_eq_true (by omega)
        clear c7
        (first | rw [c7b0] | (simp only [i64_w, i32_w]; rw [c7b0]) | skip)
        have H' := Aside0.mk H
        clear H
        go_wp2
        go_meet
        case rel => exact ⟨_, (true), (by first | rfl | (simp; done) | (simp [*]; done)), H', ⟨by first | omega | exact Nat.le_refl _⟩, ⟨by repeat (first | (with_reducible first | exact HB.out | apply below_alloc | apply pw_below_drewN | apply below_drew1) | exact HB.out)⟩⟩
      · rw [if_neg c7] at H
        have c7b0 : decide (100 < (l1.length : Int)) = false := decide_eq_false c7
        have c7b1 : decide (100 < l1.length) = false := decide_eq_false (by omega)
        clear c7
        (first | rw [c7b0] | (simp only [i64_w, i32_w]; rw [c7b0]) | skip)
        have H' := Aside0.mk H
        clear H
        go_wp2
        go_meet
        case rel => exact ⟨_, (decide (a0 < 0)), (by first | rfl | (simp; done) | (simp [*]; done)), H', ⟨by first | omega | exact Nat.le_refl _⟩, ⟨by repeat (first | (with_reducible first | exact HB.out | apply below_alloc | apply pw_below_drewN | apply below_drew1) | exact HB.out)⟩⟩
    case rest =>
      clear HC5
      try clear c1
      try clear c2
      try clear p2
      try clear c4
      try clear c7
      try clear c7b0
      try clear c7b1
      obtain ⟨kq, x16_4, rfl, HA, HJ4, HB⟩ := hcut
      cases kq with
      | zero => exact absurd HA.out (by simp [countermandlaw19_TokenGood.j0])
      | succ kj4 =>
        have H := HA.out
        clear HA
        simp only [countermandlaw19_TokenGood.j0] at H
        by_cases c8 : x16_4 = true
        · subst c8
          have H1 : (some true) = some r := by rw [if_pos rfl] at H; exact H
          clear H
          have H := H1
          clear H1
          obtain rfl := Option.some.inj H
          go_wp2
          go_ret
          exact ⟨by first | rfl | (simp [errW_none, errW_some] <;> rfl) | (simp [*, errW_none, errW_some] <;> rfl), by repeat (first | (with_reducible first | exact HB.out | apply below_alloc | apply pw_below_drewN | apply below_drew1) | exact HB.out)⟩
        · replace c8 := Bool.eq_false_iff.mpr c8
          subst c8
          have H1 : ((token_New.f).bind fun bt131 => ((token_Token_Take.f bt131.1 bt131.2.1 bt131.2.2 a0 false).bind fun bt135 => (countermandlaw19_TokenGood.l0 kj4 a0 l1 (l1.length : Int) 0 bt135.2.1 bt135.2.2.1 bt135.2.2.2))) = some r := by rw [if_neg (show ¬ (false = true) by decide)] at H; exact H
          clear H
          have H := H1
          clear H1
          replace H := Option.bind_eq_some_iff.mp H
          obtain ⟨⟨t131, t132, t133⟩, A90, H⟩ := H
          replace H : ((token_Token_Take.f t131 t132 t133 a0 false).bind fun bt135 => (countermandlaw19_TokenGood.l0 kj4 a0 l1 (l1.length : Int) 0 bt135.2.1 bt135.2.2.1 bt135.2.2.2)) = some r := H
          have A9 := Aside0.mk A90
          clear A90
          replace H := Option.bind_eq_some_iff.mp H
          obtain ⟨⟨t135, t136, t137, t138⟩, A100, H⟩ := H
          replace H : (countermandlaw19_TokenGood.l0 kj4 a0 l1 (l1.length : Int) 0 t136 t137 t138) = some r := H
          have A10 := Aside0.mk A100
          clear A100
          have H' := Aside0.mk H
          clear H
          go_wp2_with (first | ((with_reducible refine gate_callee (f := 25) rfl ?_); refine goesL_ (some 17) rfl rfl Try.func25 (by kernel_rfl) rfl #[] rfl (by (try simp only [List.map_toArray, List.map_cons, List.map_nil]); first | done | rfl | (simp only [List.length_drop, List.length_take]; rfl)) ?_; (with_reducible refine (token_New.calls  t131 t132 t133 w _ ?side1 A9.out).mono ?_); (case side1 => repeat (first | (with_reducible first | exact HB.out | apply below_alloc | apply pw_below_drewN | apply below_drew1) | exact HB.out)); rintro e w11 ⟨g134, rfl, hi, hb, hb2⟩; refine ⟨_, rfl, ?_⟩; have n0_ := Aside0.mk (hb); have n1_ := Aside0.mk (hi); clear HB; have HB := n0_; have HI134 := n1_; clear n0_ n1_; (try clear hb); (try clear hb2); (try clear hk); (try clear hi)) | ((with_reducible refine gate_callee (f := 26) rfl ?_); refine goesL_ (some 20) rfl rfl Try.func26 (by kernel_rfl) rfl #[.pointer (some ⟨g134, 0, none⟩), .int .i64 a0, .bool false] rfl (by (try simp only [List.map_toArray, List.map_cons, List.map_nil]); first | done | rfl | (simp only [List.length_drop, List.length_take]; rfl)) ?_; (with_reducible refine (token_Token_Take.calls g134 t131 t132 t133 a0 false t135 t136 t137 t138 w _ ?side1 ?side2 A10.out).mono ?_); (case side1 => repeat (first | (with_reducible first | exact HI134.out | apply IsS66.alloc | apply IsS66.drewN | apply IsS66.drew | apply IsS66.set_0 | apply IsS66.set_1 | apply IsS66.set_2) | exact HI134.out)); (case side2 => repeat (first | (with_reducible first | exact HB.out | apply below_alloc | apply pw_below_drewN | apply below_drew1 | refine below_set ?_ (IsS66.ge HI134.out)) | exact HB.out)); rintro e w12 ⟨rfl, hi, hb, hk⟩; refine ⟨_, rfl, ?_⟩; have n0_ := Aside0.mk (hb); have n1_ := Aside0.mk (hi); clear HB; clear HI134; have HB := n0_; have HI134 := n1_; clear n0_ n1_; (try clear hb); (try clear hb2); (try clear hk); (try clear hi)))
          go_loopg [23] kj4 (fun kq v23 w' => ∃ (x23_2 : Int) (x135000_2 : Int) (x135001_2 : Bool) (x135002_2 : Int), v23 = .int .i64 x23_2 ∧ Aside0 (countermandlaw19_TokenGood.l0 kq a0 l1 (l1.length : Int) x23_2 x135000_2 x135001_2 x135002_2 = some r) ∧ Aside0 (kq ≤ kj4) ∧ Aside0 (IsS66 w w' g134 x135000_2 x135001_2 x135002_2) ∧ Aside0 (Below w.heap.size w w'))
          case atStart => exact ⟨(0), (t136), (t137), (t138), (by first | rfl | (simp; done) | (simp [*]; done)), H', ⟨Nat.le_refl _⟩, ⟨by repeat (first | (with_reducible first | exact HI134.out | apply IsS66.alloc | apply IsS66.drewN | apply IsS66.drew | apply IsS66.set_0 | apply IsS66.set_1 | apply IsS66.set_2) | exact HI134.out)⟩, ⟨by repeat (first | (with_reducible first | exact HB.out | apply below_alloc | apply pw_below_drewN | apply below_drew1 | refine below_set ?_ (IsS66.ge HI134.out)) | exact HB.out)⟩⟩
          case round =>
            clear H'
            try clear c1
            try clear c2
            try clear p2
            try clear c4
            try clear c7
            try clear c7b0
            try clear c7b1
            try clear c8
            try clear p2
            obtain ⟨x23_2, x135000_2, x135001_2, x135002_2, rfl, HA, HK2, HI134, HB⟩ := hrel
            cases gk with
            | zero => exact absurd HA.out (by simp [countermandlaw19_TokenGood.l0])
            | succ k2 =>
              have H := HA.out
              clear HA
              simp only [countermandlaw19_TokenGood.l0] at H
              by_cases c13 : x23_2 < (l1.length : Int)
              · rw [if_pos c13] at H
                have c13b0 : decide (x23_2 < (l1.length : Int)) = true := decide_eq_true c13
                clear c13
                by_cases c14 : 0 ≤ x23_2
                · rw [if_pos c14] at H
                  have c14b0 : decide (0 ≤ x23_2) = true := decide_eq_true c14
                  clear c14
                  by_cases c15 : x23_2 < (l1.length : Int)
                  · rw [if_pos c15] at H
                    have c15b0 : decide (x23_2 < (l1.length : Int)) = true := decide_eq_true c15
                    clear c15
                    have HC16 := Aside0.mk H
                    clear H
                    have p139 : 0 ≤ (x23_2 : Int) := of_decide_eq_true (by first | (with_reducible assumption) | assumption)
                    have q139 : x23_2 < (l1.length : Int) := of_decide_eq_true (by first | (with_reducible assumption) | assumption)
                    obtain ⟨ad139, e139, hx139_0, hx139_1, hx139_2⟩ := at_T49 HR1.out x23_2 p139 q139
                    cases e139
                    replace hx139_0 := (HB.out.cell (World.block_lt_of_cell? w _ hx139_0)).trans hx139_0
                    replace hx139_1 := (HB.out.cell (World.block_lt_of_cell? w _ hx139_1)).trans hx139_1
                    replace hx139_2 := (HB.out.cell (World.block_lt_of_cell? w _ hx139_2)).trans hx139_2
                    replace p139 := eq_true p139
                    replace q139 := eq_true q139
                    go_upto_block 2 with (first | ((with_reducible refine gate_dst (N := 7) rfl ?_); refine box_event ?hg (N := 7) ?hd (cs := #[.int .i64 0, .int .i64 0, .bool false]) (t := 49) ?hr ?_; (case hd => rfl); (case hg => rfl); (case hr => first | (go_simp; done) | (go_simp; rfl)); intro gb140 hg w17 hbox hb; have n0_ := Aside0.mk (IsS66.below (by repeat (first | (with_reducible first | exact HI134.out | apply IsS66.alloc | apply IsS66.drewN | apply IsS66.drew | apply IsS66.set_0 | apply IsS66.set_1 | apply IsS66.set_2) | exact HI134.out)) hb); have n1_ := Aside0.mk (below_step (by repeat (first | (with_reducible first | exact HB.out | apply below_alloc | apply pw_below_drewN | apply below_drew1 | refine below_set ?_ (IsS66.ge HI134.out)) | exact HB.out)) hb); have n2_ := Aside0.mk (hbox); have n3_ := Aside0.mk ((by rw [hg]; exact (below_size (by repeat (first | (with_reducible first | exact HB.out | apply below_alloc | apply pw_below_drewN | apply below_drew1 | refine below_set ?_ (IsS66.ge HI134.out)) | exact HB.out))) : w.heap.size ≤ gb140)); have n4_ := Aside0.mk ((by rw [hg]; exact (below_size (by repeat (first | (with_reducible first | exact HB.out | apply below_alloc | apply pw_below_drewN | apply below_drew1 | refine below_set ?_ (IsS66.ge HI134.out)) | exact HB.out))) : w.heap.size ≤ gb140)); have n5_ := Aside0.mk ((by rw [hg]; exact Nat.ne_of_lt (IsS66.lt (show IsS66 w _ g134 x135000_2 x135001_2 x135002_2 from by repeat (first | (with_reducible first | exact HI134.out | apply IsS66.alloc | apply IsS66.drewN | apply IsS66.drew | apply IsS66.set_0 | apply IsS66.set_1 | apply IsS66.set_2) | exact HI134.out))) : g134 ≠ gb140)); have n6_ := Aside0.mk ((by rw [hg]; exact Nat.ne_of_gt (IsS66.lt (show IsS66 w _ g134 x135000_2 x135001_2 x135002_2 from by repeat (first | (with_reducible first | exact HI134.out | apply IsS66.alloc | apply IsS66.drewN | apply IsS66.drew | apply IsS66.set_0 | apply IsS66.set_1 | apply IsS66.set_2) | exact HI134.out))) : gb140 ≠ g134)); clear HI134; clear HB; have HI134 := n0_; have HB := n1_; have BK140 := n2_; have GW140 := n3_; have GE140 := n4_; have NB134_140 := n5_; have NB140_134 := n6_; clear n0_ n1_ n2_ n3_ n4_ n5_ n6_; clear hb hbox hg; have hnb18 := NB140_134.out; have hnc18 := NB134_140.out; have hcz19_0 : w17.cell? ⟨gb140, 0, none⟩ = some (.int .i64 0) := (blk_cell BK140.out 0).trans rfl; have hcz19_1 : w17.cell? ⟨gb140, 1, none⟩ = some (.int .i64 0) := (blk_cell BK140.out 1).trans rfl; have hcz19_2 : w17.cell? ⟨gb140, 2, none⟩ = some (.bool false) := (blk_cell BK140.out 2).trans rfl; have hfz19_0 := blk_frozen BK140.out 0; have hfz19_1 := blk_frozen BK140.out 1; have hfz19_2 := blk_frozen BK140.out 2))
                    (try simp only [Act.put, List.setIfInBounds_toArray, List.set_cons_zero, List.set_cons_succ])
                    go_cut [] (fun wc => ∃ (kq : Nat) (x135000_15 : Int) (x135001_15 : Bool) (x135002_15 : Int), Aside0 (countermandlaw19_TokenGood.j2 kq a0 l1 (l1.length : Int) x23_2 x135000_15 x135001_15 x135002_15 = some r) ∧ Aside0 (kq ≤ k2) ∧ Aside0 (wc.heap[gb140]? = some (.cells #[.int .i64 ((rd_T49 l1 x23_2).f0), .int .i64 ((rd_T49 l1 x23_2).f1), .bool ((rd_T49 l1 x23_2).f2)] 49 (0, 0))) ∧ Aside0 (IsS66 w wc g134 x135000_15 x135001_15 x135002_15) ∧ Aside0 (Below w.heap.size w wc))
                    case first =>
                      have H := HC16.out
                      clear HC16
                      by_cases c20 : ((rd_T49 l1 x23_2).f0) = 0
                      · rw [if_pos c20] at H
                        have c20b0 : (((rd_T49 l1 x23_2).f0) == 0) = true := beq_iff_eq.mpr c20
                        have c20b1 : (((rd_T49 l1 x23_2).f0) != 0) = false := bne_eq_false_iff_eq.mpr c20
                        clear c20
                        (first | rw [c20b0] | (simp only [i64_w, i32_w]; rw [c20b0]) | skip)
                        replace H := Option.bind_eq_some_iff.mp H
                        obtain ⟨⟨t141, t142, t143, t144⟩, A210, H⟩ := H
                        replace H : (countermandlaw19_TokenGood.j2 k2 a0 l1 (l1.length : Int) x23_2 t142 t143 t144) = some r := H
                        have A21 := Aside0.mk A210
                        clear A210
                        have H' := Aside0.mk H
                        clear H
                        have hnb22 := NB140_134.out
                        have hnc22 := NB134_140.out
                        have hcz23_0 : w17.cell? ⟨gb140, 0, none⟩ = some (.int .i64 0) := (blk_cell BK140.out 0).trans rfl
                        have hcz23_1 : w17.cell? ⟨gb140, 1, none⟩ = some (.int .i64 0) := (blk_cell BK140.out 1).trans rfl
                        have hcz23_2 : w17.cell? ⟨gb140, 2, none⟩ = some (.bool false) := (blk_cell BK140.out 2).trans rfl
                        have hfz23_0 := blk_frozen BK140.out 0
                        have hfz23_1 := blk_frozen BK140.out 1
                        have hfz23_2 := blk_frozen BK140.out 2
                        go_wp2_with (first | ((with_reducible refine gate_callee (f := 26) rfl ?_); refine goesL_ (some 36) rfl rfl Try.func26 (by kernel_rfl) rfl #[.pointer (some ⟨g134, 0, none⟩), .int .i64 ((rd_T49 l1 x23_2).f1), .bool ((rd_T49 l1 x23_2).f2)] rfl (by (try simp only [List.map_toArray, List.map_cons, List.map_nil]); first | done | rfl | (simp only [List.length_drop, List.length_take]; rfl)) ?_; (with_reducible refine (token_Token_Take.calls g134 x135000_2 x135001_2 x135002_2 ((rd_T49 l1 x23_2).f1) ((rd_T49 l1 x23_2).f2) t141 t142 t143 t144 w _ ?side1 ?side2 A21.out).mono ?_); (case side1 => repeat (first | (with_reducible first | exact HI134.out | apply IsS66.alloc | apply IsS66.drewN | apply IsS66.drew | apply IsS66.set_0 | apply IsS66.set_1 | apply IsS66.set_2 | refine IsS66.far ?_ NB134_140.out _) | exact HI134.out)); (case side2 => repeat (first | (with_reducible first | exact HB.out | apply below_alloc | apply pw_below_drewN | apply below_drew1 | refine below_set ?_ (IsS66.ge HI134.out) | refine below_set ?_ GE140.out) | exact HB.out)); rintro e w24 ⟨rfl, hi, hb, hk⟩; refine ⟨_, rfl, ?_⟩; have n0_ := Aside0.mk (KeepBut.blk hk (g' := gb140) (o := .cells #[.int .i64 ((rd_T49 l1 x23_2).f0), .int .i64 ((rd_T49 l1 x23_2).f1), .bool ((rd_T49 l1 x23_2).f2)] 49 (0, 0)) (by (with_reducible repeat (first | refine blk_drewN ?_ _ | refine blk_drew ?_ | refine blk_alloc ?_ _)); refine blk_put (cs := #[.int .i64 ((rd_T49 l1 x23_2).f0), .int .i64 ((rd_T49 l1 x23_2).f1), .bool false]) ?_ 2 _ rfl; (with_reducible repeat (first | refine blk_drewN ?_ _ | refine blk_drew ?_ | refine blk_alloc ?_ _)); refine blk_put (cs := #[.int .i64 ((rd_T49 l1 x23_2).f0), .int .i64 0, .bool false]) ?_ 1 _ rfl; (with_reducible repeat (first | refine blk_drewN ?_ _ | refine blk_drew ?_ | refine blk_alloc ?_ _)); refine blk_put (cs := #[.int .i64 0, .int .i64 0, .bool false]) ?_ 0 _ rfl; (with_reducible repeat (first | refine blk_drewN ?_ _ | refine blk_drew ?_ | refine blk_alloc ?_ _)); exact BK140.out) NB140_134.out (by simp)); have n1_ := Aside0.mk (hb); have n2_ := Aside0.mk (hi); clear BK140; clear HB; clear HI134; have BK140 := n0_; have HB := n1_; have HI134 := n2_; clear n0_ n1_ n2_; (try clear hb); (try clear hb2); (try clear hk); (try clear hi)))
                        go_meet
                        case rel => exact ⟨_, (t142), (t143), (t144), H', ⟨by have := HJ4.out; have := HK2.out; first | omega | exact Nat.le_refl _⟩, ⟨by (with_reducible repeat (first | refine blk_drewN ?_ _ | refine blk_drew ?_ | refine blk_alloc ?_ _)); exact BK140.out⟩, ⟨by repeat (first | (with_reducible first | exact HI134.out | apply IsS66.alloc | apply IsS66.drewN | apply IsS66.drew | apply IsS66.set_0 | apply IsS66.set_1 | apply IsS66.set_2 | refine IsS66.far ?_ NB134_140.out _) | exact HI134.out)⟩, ⟨by repeat (first | (with_reducible first | exact HB.out | apply below_alloc | apply pw_below_drewN | apply below_drew1 | refine below_set ?_ (IsS66.ge HI134.out) | refine below_set ?_ GE140.out) | exact HB.out)⟩⟩
                      · rw [if_neg c20] at H
                        have c20b0 : (((rd_T49 l1 x23_2).f0) == 0) = false := beq_eq_false_iff_ne.mpr c20
                        have c20b1 : (((rd_T49 l1 x23_2).f0) != 0) = true := bne_iff_ne.mpr c20
                        (first | rw [c20b0] | (simp only [i64_w, i32_w]; rw [c20b0]) | skip)
                        by_cases c25 : ((rd_T49 l1 x23_2).f0) = 1
                        · rw [if_pos c25] at H
                          have c25b0 : (((rd_T49 l1 x23_2).f0) == 1) = true := beq_iff_eq.mpr c25
                          have c25b1 : (((rd_T49 l1 x23_2).f0) != 1) = false := bne_eq_false_iff_eq.mpr c25
                          clear c25
                          replace H := Option.bind_eq_some_iff.mp H
                          obtain ⟨⟨t145, t146, t147, t148⟩, A260, H⟩ := H
                          replace H : (countermandlaw19_TokenGood.j2 k2 a0 l1 (l1.length : Int) x23_2 t146 t147 t148) = some r := H
                          have A26 := Aside0.mk A260
                          clear A260
                          have H' := Aside0.mk H
                          clear H
                          have hnb27 := NB140_134.out
                          have hnc27 := NB134_140.out
                          have hcz28_0 : w17.cell? ⟨gb140, 0, none⟩ = some (.int .i64 0) := (blk_cell BK140.out 0).trans rfl
                          have hcz28_1 : w17.cell? ⟨gb140, 1, none⟩ = some (.int .i64 0) := (blk_cell BK140.out 1).trans rfl
                          have hcz28_2 : w17.cell? ⟨gb140, 2, none⟩ = some (.bool false) := (blk_cell BK140.out 2).trans rfl
                          have hfz28_0 := blk_frozen BK140.out 0
                          have hfz28_1 := blk_frozen BK140.out 1
                          have hfz28_2 := blk_frozen BK140.out 2
                          go_wp2_with (first | ((with_reducible refine gate_callee (f := 27) rfl ?_); refine goesL_ (some 42) rfl rfl Try.func27 (by kernel_rfl) rfl #[.pointer (some ⟨g134, 0, none⟩), .int .i64 ((rd_T49 l1 x23_2).f1)] rfl (by (try simp only [List.map_toArray, List.map_cons, List.map_nil]); first | done | rfl | (simp only [List.length_drop, List.length_take]; rfl)) ?_; (with_reducible refine (token_Token_Lock.calls g134 x135000_2 x135001_2 x135002_2 ((rd_T49 l1 x23_2).f1) t145 t146 t147 t148 w _ ?side1 ?side2 A26.out).mono ?_); (case side1 => repeat (first | (with_reducible first | exact HI134.out | apply IsS66.alloc | apply IsS66.drewN | apply IsS66.drew | apply IsS66.set_0 | apply IsS66.set_1 | apply IsS66.set_2 | refine IsS66.far ?_ NB134_140.out _) | exact HI134.out)); (case side2 => repeat (first | (with_reducible first | exact HB.out | apply below_alloc | apply pw_below_drewN | apply below_drew1 | refine below_set ?_ (IsS66.ge HI134.out) | refine below_set ?_ GE140.out) | exact HB.out)); rintro e w29 ⟨rfl, hi, hb, hk⟩; refine ⟨_, rfl, ?_⟩; have n0_ := Aside0.mk (KeepBut.blk hk (g' := gb140) (o := .cells #[.int .i64 ((rd_T49 l1 x23_2).f0), .int .i64 ((rd_T49 l1 x23_2).f1), .bool ((rd_T49 l1 x23_2).f2)] 49 (0, 0)) (by (with_reducible repeat (first | refine blk_drewN ?_ _ | refine blk_drew ?_ | refine blk_alloc ?_ _)); refine blk_put (cs := #[.int .i64 ((rd_T49 l1 x23_2).f0), .int .i64 ((rd_T49 l1 x23_2).f1), .bool false]) ?_ 2 _ rfl; (with_reducible repeat (first | refine blk_drewN ?_ _ | refine blk_drew ?_ | refine blk_alloc ?_ _)); refine blk_put (cs := #[.int .i64 ((rd_T49 l1 x23_2).f0), .int .i64 0, .bool false]) ?_ 1 _ rfl; (with_reducible repeat (first | refine blk_drewN ?_ _ | refine blk_drew ?_ | refine blk_alloc ?_ _)); refine blk_put (cs := #[.int .i64 0, .int .i64 0, .bool false]) ?_ 0 _ rfl; (with_reducible repeat (first | refine blk_drewN ?_ _ | refine blk_drew ?_ | refine blk_alloc ?_ _)); exact BK140.out) NB140_134.out (by simp)); have n1_ := Aside0.mk (hb); have n2_ := Aside0.mk (hi); clear BK140; clear HB; clear HI134; have BK140 := n0_; have HB := n1_; have HI134 := n2_; clear n0_ n1_ n2_; (try clear hb); (try clear hb2); (try clear hk); (try clear hi)))
                          go_meet
                          case rel => exact ⟨_, (t146), (t147), (t148), H', ⟨by have := HJ4.out; have := HK2.out; first | omega | exact Nat.le_refl _⟩, ⟨by (with_reducible repeat (first | refine blk_drewN ?_ _ | refine blk_drew ?_ | refine blk_alloc ?_ _)); exact BK140.out⟩, ⟨by repeat (first | (with_reducible first | exact HI134.out | apply IsS66.alloc | apply IsS66.drewN | apply IsS66.drew | apply IsS66.set_0 | apply IsS66.set_1 | apply IsS66.set_2 | refine IsS66.far ?_ NB134_140.out _) | exact HI134.out)⟩, ⟨by repeat (first | (with_reducible first | exact HB.out | apply below_alloc | apply pw_below_drewN | apply below_drew1 | refine below_set ?_ (IsS66.ge HI134.out) | refine below_set ?_ GE140.out) | exact HB.out)⟩⟩
                        · rw [if_neg c25] at H
                          have c25b0 : (((rd_T49 l1 x23_2).f0) == 1) = false := beq_eq_false_iff_ne.mpr c25
                          have c25b1 : (((rd_T49 l1 x23_2).f0) != 1) = true := bne_iff_ne.mpr c25
                          by_cases c30 : ((rd_T49 l1 x23_2).f0) = 2
                          · rw [if_pos c30] at H
                            have c30b0 : (((rd_T49 l1 x23_2).f0) == 2) = true := beq_iff_eq.mpr c30
                            have c30b1 : (((rd_T49 l1 x23_2).f0) != 2) = false := bne_eq_false_iff_eq.mpr c30
                            clear c30
                            replace H := Option.bind_eq_some_iff.mp H
                            obtain ⟨⟨t149, t150, t151, t152⟩, A310, H⟩ := H
                            replace H : (countermandlaw19_TokenGood.j2 k2 a0 l1 (l1.length : Int) x23_2 t150 t151 t152) = some r := H
                            have A31 := Aside0.mk A310
                            clear A310
                            have H' := Aside0.mk H
                            clear H
                            have hnb32 := NB140_134.out
                            have hnc32 := NB134_140.out
                            have hcz33_0 : w17.cell? ⟨gb140, 0, none⟩ = some (.int .i64 0) := (blk_cell BK140.out 0).trans rfl
                            have hcz33_1 : w17.cell? ⟨gb140, 1, none⟩ = some (.int .i64 0) := (blk_cell BK140.out 1).trans rfl
                            have hcz33_2 : w17.cell? ⟨gb140, 2, none⟩ = some (.bool false) := (blk_cell BK140.out 2).trans rfl
                            have hfz33_0 := blk_frozen BK140.out 0
                            have hfz33_1 := blk_frozen BK140.out 1
                            have hfz33_2 := blk_frozen BK140.out 2
                            go_wp2_with (first | ((with_reducible refine gate_callee (f := 28) rfl ?_); refine goesL_ (some 48) rfl rfl Try.func28 (by kernel_rfl) rfl #[.pointer (some ⟨g134, 0, none⟩), .int .i64 ((rd_T49 l1 x23_2).f1)] rfl (by (try simp only [List.map_toArray, List.map_cons, List.map_nil]); first | done | rfl | (simp only [List.length_drop, List.length_take]; rfl)) ?_; (with_reducible refine (token_Token_Unlock.calls g134 x135000_2 x135001_2 x135002_2 ((rd_T49 l1 x23_2).f1) t149 t150 t151 t152 w _ ?side1 ?side2 A31.out).mono ?_); (case side1 => repeat (first | (with_reducible first | exact HI134.out | apply IsS66.alloc | apply IsS66.drewN | apply IsS66.drew | apply IsS66.set_0 | apply IsS66.set_1 | apply IsS66.set_2 | refine IsS66.far ?_ NB134_140.out _) | exact HI134.out)); (case side2 => repeat (first | (with_reducible first | exact HB.out | apply below_alloc | apply pw_below_drewN | apply below_drew1 | refine below_set ?_ (IsS66.ge HI134.out) | refine below_set ?_ GE140.out) | exact HB.out)); rintro e w34 ⟨rfl, hi, hb, hk⟩; refine ⟨_, rfl, ?_⟩; have n0_ := Aside0.mk (KeepBut.blk hk (g' := gb140) (o := .cells #[.int .i64 ((rd_T49 l1 x23_2).f0), .int .i64 ((rd_T49 l1 x23_2).f1), .bool ((rd_T49 l1 x23_2).f2)] 49 (0, 0)) (by (with_reducible repeat (first | refine blk_drewN ?_ _ | refine blk_drew ?_ | refine blk_alloc ?_ _)); refine blk_put (cs := #[.int .i64 ((rd_T49 l1 x23_2).f0), .int .i64 ((rd_T49 l1 x23_2).f1), .bool false]) ?_ 2 _ rfl; (with_reducible repeat (first | refine blk_drewN ?_ _ | refine blk_drew ?_ | refine blk_alloc ?_ _)); refine blk_put (cs := #[.int .i64 ((rd_T49 l1 x23_2).f0), .int .i64 0, .bool false]) ?_ 1 _ rfl; (with_reducible repeat (first | refine blk_drewN ?_ _ | refine blk_drew ?_ | refine blk_alloc ?_ _)); refine blk_put (cs := #[.int .i64 0, .int .i64 0, .bool false]) ?_ 0 _ rfl; (with_reducible repeat (first | refine blk_drewN ?_ _ | refine blk_drew ?_ | refine blk_alloc ?_ _)); exact BK140.out) NB140_134.out (by simp)); have n1_ := Aside0.mk (hb); have n2_ := Aside0.mk (hi); clear BK140; clear HB; clear HI134; have BK140 := n0_; have HB := n1_; have HI134 := n2_; clear n0_ n1_ n2_; (try clear hb); (try clear hb2); (try clear hk); (try clear hi)))
                            go_meet
                            case rel => exact ⟨_, (t150), (t151), (t152), H', ⟨by have := HJ4.out; have := HK2.out; first | omega | exact Nat.le_refl _⟩, ⟨by (with_reducible repeat (first | refine blk_drewN ?_ _ | refine blk_drew ?_ | refine blk_alloc ?_ _)); exact BK140.out⟩, ⟨by repeat (first | (with_reducible first | exact HI134.out | apply IsS66.alloc | apply IsS66.drewN | apply IsS66.drew | apply IsS66.set_0 | apply IsS66.set_1 | apply IsS66.set_2 | refine IsS66.far ?_ NB134_140.out _) | exact HI134.out)⟩, ⟨by repeat (first | (with_reducible first | exact HB.out | apply below_alloc | apply pw_below_drewN | apply below_drew1 | refine below_set ?_ (IsS66.ge HI134.out) | refine below_set ?_ GE140.out) | exact HB.out)⟩⟩
                          · rw [if_neg c30] at H
                            have c30b0 : (((rd_T49 l1 x23_2).f0) == 2) = false := beq_eq_false_iff_ne.mpr c30
                            have c30b1 : (((rd_T49 l1 x23_2).f0) != 2) = true := bne_iff_ne.mpr c30
                            by_cases c35 : ((rd_T49 l1 x23_2).f0) = 3
                            · rw [if_pos c35] at H
                              have c35b0 : (((rd_T49 l1 x23_2).f0) == 3) = true := beq_iff_eq.mpr c35
                              have c35b1 : (((rd_T49 l1 x23_2).f0) != 3) = false := bne_eq_false_iff_eq.mpr c35
                              clear c35
                              by_cases c36 : ((rd_T49 l1 x23_2).f1) = a0
                              · rw [if_pos c36] at H
                                have c36b0 : (((rd_T49 l1 x23_2).f1) == a0) = true := beq_iff_eq.mpr c36
                                have c36b1 : (((rd_T49 l1 x23_2).f1) != a0) = false := bne_eq_false_iff_eq.mpr c36
                                clear c36
                                replace H := Option.bind_eq_some_iff.mp H
                                obtain ⟨⟨t153, t154, t155, t156⟩, A370, H⟩ := H
                                replace H : (if t153 = true then ((token_Token_Sure.f t154 t155 t156 a0).bind fun bt157 => (if bt157.1 = true then (some false) else ((token_Token_Soft.f bt157.2.1 bt157.2.2.1 bt157.2.2.2).bind fun bt161 => (some (!bt161.1))))) else (some false)) = some r := H
                                have A37 := Aside0.mk A370
                                clear A370
                                by_cases c38 : t153 = true
                                · subst c38
                                  have H1 : ((token_Token_Sure.f t154 t155 t156 a0).bind fun bt157 => (if bt157.1 = true then (some false) else ((token_Token_Soft.f bt157.2.1 bt157.2.2.1 bt157.2.2.2).bind fun bt161 => (some (!bt161.1))))) = some r := by rw [if_pos rfl] at H; exact H
                                  clear H
                                  have H := H1
                                  clear H1
                                  replace H := Option.bind_eq_some_iff.mp H
                                  obtain ⟨⟨t157, t158, t159, t160⟩, A390, H⟩ := H
                                  replace H : (if t157 = true then (some false) else ((token_Token_Soft.f t158 t159 t160).bind fun bt161 => (some (!bt161.1)))) = some r := H
                                  have A39 := Aside0.mk A390
                                  clear A390
                                  by_cases c40 : t157 = true
                                  · subst c40
                                    have H1 : (some false) = some r := by rw [if_pos rfl] at H; exact H
                                    clear H
                                    have H := H1
                                    clear H1
                                    obtain rfl := Option.some.inj H
                                    have hnb41 := NB140_134.out
                                    have hnc41 := NB134_140.out
                                    have hcz42_0 : w17.cell? ⟨gb140, 0, none⟩ = some (.int .i64 0) := (blk_cell BK140.out 0).trans rfl
                                    have hcz42_1 : w17.cell? ⟨gb140, 1, none⟩ = some (.int .i64 0) := (blk_cell BK140.out 1).trans rfl
                                    have hcz42_2 : w17.cell? ⟨gb140, 2, none⟩ = some (.bool false) := (blk_cell BK140.out 2).trans rfl
                                    have hfz42_0 := blk_frozen BK140.out 0
                                    have hfz42_1 := blk_frozen BK140.out 1
                                    have hfz42_2 := blk_frozen BK140.out 2
                                    go_wp2_with (first | ((with_reducible refine gate_callee (f := 29) rfl ?_); refine goesL_ (some 57) rfl rfl Try.func29 (by kernel_rfl) rfl #[.pointer (some ⟨g134, 0, none⟩), .int .i64 a0] rfl (by (try simp only [List.map_toArray, List.map_cons, List.map_nil]); first | done | rfl | (simp only [List.length_drop, List.length_take]; rfl)) ?_; (with_reducible refine (token_Token_Drop.calls g134 x135000_2 x135001_2 x135002_2 a0 true t154 t155 t156 w _ ?side1 ?side2 A37.out).mono ?_); (case side1 => repeat (first | (with_reducible first | exact HI134.out | apply IsS66.alloc | apply IsS66.drewN | apply IsS66.drew | apply IsS66.set_0 | apply IsS66.set_1 | apply IsS66.set_2 | refine IsS66.far ?_ NB134_140.out _) | exact HI134.out)); (case side2 => repeat (first | (with_reducible first | exact HB.out | apply below_alloc | apply pw_below_drewN | apply below_drew1 | refine below_set ?_ (IsS66.ge HI134.out) | refine below_set ?_ GE140.out) | exact HB.out)); rintro e w43 ⟨rfl, hi, hb, hk⟩; refine ⟨_, rfl, ?_⟩; have n0_ := Aside0.mk (KeepBut.blk hk (g' := gb140) (o := .cells #[.int .i64 ((rd_T49 l1 x23_2).f0), .int .i64 ((rd_T49 l1 x23_2).f1), .bool ((rd_T49 l1 x23_2).f2)] 49 (0, 0)) (by (with_reducible repeat (first | refine blk_drewN ?_ _ | refine blk_drew ?_ | refine blk_alloc ?_ _)); refine blk_put (cs := #[.int .i64 ((rd_T49 l1 x23_2).f0), .int .i64 ((rd_T49 l1 x23_2).f1), .bool false]) ?_ 2 _ rfl; (with_reducible repeat (first | refine blk_drewN ?_ _ | refine blk_drew ?_ | refine blk_alloc ?_ _)); refine blk_put (cs := #[.int .i64 ((rd_T49 l1 x23_2).f0), .int .i64 0, .bool false]) ?_ 1 _ rfl; (with_reducible repeat (first | refine blk_drewN ?_ _ | refine blk_drew ?_ | refine blk_alloc ?_ _)); refine blk_put (cs := #[.int .i64 0, .int .i64 0, .bool false]) ?_ 0 _ rfl; (with_reducible repeat (first | refine blk_drewN ?_ _ | refine blk_drew ?_ | refine blk_alloc ?_ _)); exact BK140.out) NB140_134.out (by simp)); have n1_ := Aside0.mk (hb); have n2_ := Aside0.mk (hi); clear BK140; clear HB; clear HI134; have BK140 := n0_; have HB := n1_; have HI134 := n2_; clear n0_ n1_ n2_; (try clear hb); (try clear hb2); (try clear hk); (try clear hi)) | (go_at_call 30; (with_reducible refine (token_Token_Sure.calls g134 t154 t155 t156 a0 true t158 t159 t160 w _ ?side1 ?side2 A39.out).mono ?_); (case side1 => repeat (first | (with_reducible first | exact HI134.out | apply IsS66.alloc | apply IsS66.drewN | apply IsS66.drew | apply IsS66.set_0 | apply IsS66.set_1 | apply IsS66.set_2 | refine IsS66.far ?_ NB134_140.out _) | exact HI134.out)); (case side2 => repeat (first | (with_reducible first | exact HB.out | apply below_alloc | apply pw_below_drewN | apply below_drew1 | refine below_set ?_ (IsS66.ge HI134.out) | refine below_set ?_ GE140.out) | exact HB.out)); rintro e w44 ⟨rfl, hi, hb, hk⟩; have n0_ := Aside0.mk (KeepBut.blk hk (g' := gb140) (o := .cells #[.int .i64 ((rd_T49 l1 x23_2).f0), .int .i64 ((rd_T49 l1 x23_2).f1), .bool ((rd_T49 l1 x23_2).f2)] 49 (0, 0)) (by (with_reducible repeat (first | refine blk_drewN ?_ _ | refine blk_drew ?_ | refine blk_alloc ?_ _)); exact BK140.out) NB140_134.out (by simp)); have n1_ := Aside0.mk (hb); have n2_ := Aside0.mk (hi); clear BK140; clear HB; clear HI134; have BK140 := n0_; have HB := n1_; have HI134 := n2_; clear n0_ n1_ n2_; (try clear hb); (try clear hb2); (try clear hk); (try clear hi)))
                                    go_ret
                                    exact ⟨by first | rfl | (simp [errW_none, errW_some] <;> rfl) | (simp [*, errW_none, errW_some] <;> rfl), by repeat (first | (with_reducible first | exact HB.out | apply below_alloc | apply pw_below_drewN | apply below_drew1 | refine below_set ?_ (IsS66.ge HI134.out) | refine below_set ?_ GE140.out) | exact HB.out)⟩
                                  · replace c40 := Bool.eq_false_iff.mpr c40
                                    subst c40
                                    have H1 : ((token_Token_Soft.f t158 t159 t160).bind fun bt161 => (some (!bt161.1))) = some r := by rw [if_neg (show ¬ (false = true) by decide)] at H; exact H
                                    clear H
                                    have H := H1
                                    clear H1
                                    replace H := Option.bind_eq_some_iff.mp H
                                    obtain ⟨⟨t161, t162, t163, t164⟩, A450, H⟩ := H
                                    replace H : (some (!t161)) = some r := H
                                    have A45 := Aside0.mk A450
                                    clear A450
                                    obtain rfl := Option.some.inj H
                                    have hnb46 := NB140_134.out
                                    have hnc46 := NB134_140.out
                                    have hcz47_0 : w17.cell? ⟨gb140, 0, none⟩ = some (.int .i64 0) := (blk_cell BK140.out 0).trans rfl
                                    have hcz47_1 : w17.cell? ⟨gb140, 1, none⟩ = some (.int .i64 0) := (blk_cell BK140.out 1).trans rfl
                                    have hcz47_2 : w17.cell? ⟨gb140, 2, none⟩ = some (.bool false) := (blk_cell BK140.out 2).trans rfl
                                    have hfz47_0 := blk_frozen BK140.out 0
                                    have hfz47_1 := blk_frozen BK140.out 1
                                    have hfz47_2 := blk_frozen BK140.out 2
                                    go_wp2_with (first | ((with_reducible refine gate_callee (f := 29) rfl ?_); refine goesL_ (some 57) rfl rfl Try.func29 (by kernel_rfl) rfl #[.pointer (some ⟨g134, 0, none⟩), .int .i64 a0] rfl (by (try simp only [List.map_toArray, List.map_cons, List.map_nil]); first | done | rfl | (simp only [List.length_drop, List.length_take]; rfl)) ?_; (with_reducible refine (token_Token_Drop.calls g134 x135000_2 x135001_2 x135002_2 a0 true t154 t155 t156 w _ ?side1 ?side2 A37.out).mono ?_); (case side1 => repeat (first | (with_reducible first | exact HI134.out | apply IsS66.alloc | apply IsS66.drewN | apply IsS66.drew | apply IsS66.set_0 | apply IsS66.set_1 | apply IsS66.set_2 | refine IsS66.far ?_ NB134_140.out _) | exact HI134.out)); (case side2 => repeat (first | (with_reducible first | exact HB.out | apply below_alloc | apply pw_below_drewN | apply below_drew1 | refine below_set ?_ (IsS66.ge HI134.out) | refine below_set ?_ GE140.out) | exact HB.out)); rintro e w48 ⟨rfl, hi, hb, hk⟩; refine ⟨_, rfl, ?_⟩; have n0_ := Aside0.mk (KeepBut.blk hk (g' := gb140) (o := .cells #[.int .i64 ((rd_T49 l1 x23_2).f0), .int .i64 ((rd_T49 l1 x23_2).f1), .bool ((rd_T49 l1 x23_2).f2)] 49 (0, 0)) (by (with_reducible repeat (first | refine blk_drewN ?_ _ | refine blk_drew ?_ | refine blk_alloc ?_ _)); refine blk_put (cs := #[.int .i64 ((rd_T49 l1 x23_2).f0), .int .i64 ((rd_T49 l1 x23_2).f1), .bool false]) ?_ 2 _ rfl; (with_reducible repeat (first | refine blk_drewN ?_ _ | refine blk_drew ?_ | refine blk_alloc ?_ _)); refine blk_put (cs := #[.int .i64 ((rd_T49 l1 x23_2).f0), .int .i64 0, .bool false]) ?_ 1 _ rfl; (with_reducible repeat (first | refine blk_drewN ?_ _ | refine blk_drew ?_ | refine blk_alloc ?_ _)); refine blk_put (cs := #[.int .i64 0, .int .i64 0, .bool false]) ?_ 0 _ rfl; (with_reducible repeat (first | refine blk_drewN ?_ _ | refine blk_drew ?_ | refine blk_alloc ?_ _)); exact BK140.out) NB140_134.out (by simp)); have n1_ := Aside0.mk (hb); have n2_ := Aside0.mk (hi); clear BK140; clear HB; clear HI134; have BK140 := n0_; have HB := n1_; have HI134 := n2_; clear n0_ n1_ n2_; (try clear hb); (try clear hb2); (try clear hk); (try clear hi)) | (go_at_call 30; (with_reducible refine (token_Token_Sure.calls g134 t154 t155 t156 a0 false t158 t159 t160 w _ ?side1 ?side2 A39.out).mono ?_); (case side1 => repeat (first | (with_reducible first | exact HI134.out | apply IsS66.alloc | apply IsS66.drewN | apply IsS66.drew | apply IsS66.set_0 | apply IsS66.set_1 | apply IsS66.set_2 | refine IsS66.far ?_ NB134_140.out _) | exact HI134.out)); (case side2 => repeat (first | (with_reducible first | exact HB.out | apply below_alloc | apply pw_below_drewN | apply below_drew1 | refine below_set ?_ (IsS66.ge HI134.out) | refine below_set ?_ GE140.out) | exact HB.out)); rintro e w49 ⟨rfl, hi, hb, hk⟩; have n0_ := Aside0.mk (KeepBut.blk hk (g' := gb140) (o := .cells #[.int .i64 ((rd_T49 l1 x23_2).f0), .int .i64 ((rd_T49 l1 x23_2).f1), .bool ((rd_T49 l1 x23_2).f2)] 49 (0, 0)) (by (with_reducible repeat (first | refine blk_drewN ?_ _ | refine blk_drew ?_ | refine blk_alloc ?_ _)); exact BK140.out) NB140_134.out (by simp)); have n1_ := Aside0.mk (hb); have n2_ := Aside0.mk (hi); clear BK140; clear HB; clear HI134; have BK140 := n0_; have HB := n1_; have HI134 := n2_; clear n0_ n1_ n2_; (try clear hb); (try clear hb2); (try clear hk); (try clear hi)) | (go_at_call 31; (with_reducible refine (token_Token_Soft.calls g134 t158 t159 t160 t161 t162 t163 t164 w _ ?side1 ?side2 A45.out).mono ?_); (case side1 => repeat (first | (with_reducible first | exact HI134.out | apply IsS66.alloc | apply IsS66.drewN | apply IsS66.drew | apply IsS66.set_0 | apply IsS66.set_1 | apply IsS66.set_2 | refine IsS66.far ?_ NB134_140.out _) | exact HI134.out)); (case side2 => repeat (first | (with_reducible first | exact HB.out | apply below_alloc | apply pw_below_drewN | apply below_drew1 | refine below_set ?_ (IsS66.ge HI134.out) | refine below_set ?_ GE140.out) | exact HB.out)); rintro e w50 ⟨rfl, hi, hb, hk⟩; have n0_ := Aside0.mk (KeepBut.blk hk (g' := gb140) (o := .cells #[.int .i64 ((rd_T49 l1 x23_2).f0), .int .i64 ((rd_T49 l1 x23_2).f1), .bool ((rd_T49 l1 x23_2).f2)] 49 (0, 0)) (by (with_reducible repeat (first | refine blk_drewN ?_ _ | refine blk_drew ?_ | refine blk_alloc ?_ _)); exact BK140.out) NB140_134.out (by simp)); have n1_ := Aside0.mk (hb); have n2_ := Aside0.mk (hi); clear BK140; clear HB; clear HI134; have BK140 := n0_; have HB := n1_; have HI134 := n2_; clear n0_ n1_ n2_; (try clear hb); (try clear hb2); (try clear hk); (try clear hi)))
                                    go_ret
                                    exact ⟨by first | rfl | (simp [errW_none, errW_some] <;> rfl) | (simp [*, errW_none, errW_some] <;> rfl), by repeat (first | (with_reducible first | exact HB.out | apply below_alloc | apply pw_below_drewN | apply below_drew1 | refine below_set ?_ (IsS66.ge HI134.out) | refine below_set ?_ GE140.out) | exact HB.out)⟩
                                · replace c38 := Bool.eq_false_iff.mpr c38
                                  subst c38
                                  have H1 : (some false) = some r := by rw [if_neg (show ¬ (false = true) by decide)] at H; exact H
                                  clear H
                                  have H := H1
                                  clear H1
                                  obtain rfl := Option.some.inj H
                                  have hnb51 := NB140_134.out
                                  have hnc51 := NB134_140.out
                                  have hcz52_0 : w17.cell? ⟨gb140, 0, none⟩ = some (.int .i64 0) := (blk_cell BK140.out 0).trans rfl
                                  have hcz52_1 : w17.cell? ⟨gb140, 1, none⟩ = some (.int .i64 0) := (blk_cell BK140.out 1).trans rfl
                                  have hcz52_2 : w17.cell? ⟨gb140, 2, none⟩ = some (.bool false) := (blk_cell BK140.out 2).trans rfl
                                  have hfz52_0 := blk_frozen BK140.out 0
                                  have hfz52_1 := blk_frozen BK140.out 1
                                  have hfz52_2 := blk_frozen BK140.out 2
                                  go_wp2_with (first | ((with_reducible refine gate_callee (f := 29) rfl ?_); refine goesL_ (some 57) rfl rfl Try.func29 (by kernel_rfl) rfl #[.pointer (some ⟨g134, 0, none⟩), .int .i64 a0] rfl (by (try simp only [List.map_toArray, List.map_cons, List.map_nil]); first | done | rfl | (simp only [List.length_drop, List.length_take]; rfl)) ?_; (with_reducible refine (token_Token_Drop.calls g134 x135000_2 x135001_2 x135002_2 a0 false t154 t155 t156 w _ ?side1 ?side2 A37.out).mono ?_); (case side1 => repeat (first | (with_reducible first | exact HI134.out | apply IsS66.alloc | apply IsS66.drewN | apply IsS66.drew | apply IsS66.set_0 | apply IsS66.set_1 | apply IsS66.set_2 | refine IsS66.far ?_ NB134_140.out _) | exact HI134.out)); (case side2 => repeat (first | (with_reducible first | exact HB.out | apply below_alloc | apply pw_below_drewN | apply below_drew1 | refine below_set ?_ (IsS66.ge HI134.out) | refine below_set ?_ GE140.out) | exact HB.out)); rintro e w53 ⟨rfl, hi, hb, hk⟩; refine ⟨_, rfl, ?_⟩; have n0_ := Aside0.mk (KeepBut.blk hk (g' := gb140) (o := .cells #[.int .i64 ((rd_T49 l1 x23_2).f0), .int .i64 ((rd_T49 l1 x23_2).f1), .bool ((rd_T49 l1 x23_2).f2)] 49 (0, 0)) (by (with_reducible repeat (first | refine blk_drewN ?_ _ | refine blk_drew ?_ | refine blk_alloc ?_ _)); refine blk_put (cs := #[.int .i64 ((rd_T49 l1 x23_2).f0), .int .i64 ((rd_T49 l1 x23_2).f1), .bool false]) ?_ 2 _ rfl; (with_reducible repeat (first | refine blk_drewN ?_ _ | refine blk_drew ?_ | refine blk_alloc ?_ _)); refine blk_put (cs := #[.int .i64 ((rd_T49 l1 x23_2).f0), .int .i64 0, .bool false]) ?_ 1 _ rfl; (with_reducible repeat (first | refine blk_drewN ?_ _ | refine blk_drew ?_ | refine blk_alloc ?_ _)); refine blk_put (cs := #[.int .i64 0, .int .i64 0, .bool false]) ?_ 0 _ rfl; (with_reducible repeat (first | refine blk_drewN ?_ _ | refine blk_drew ?_ | refine blk_alloc ?_ _)); exact BK140.out) NB140_134.out (by simp)); have n1_ := Aside0.mk (hb); have n2_ := Aside0.mk (hi); clear BK140; clear HB; clear HI134; have BK140 := n0_; have HB := n1_; have HI134 := n2_; clear n0_ n1_ n2_; (try clear hb); (try clear hb2); (try clear hk); (try clear hi)))
                                  go_ret
                                  exact ⟨by first | rfl | (simp [errW_none, errW_some] <;> rfl) | (simp [*, errW_none, errW_some] <;> rfl), by repeat (first | (with_reducible first | exact HB.out | apply below_alloc | apply pw_below_drewN | apply below_drew1 | refine below_set ?_ (IsS66.ge HI134.out) | refine below_set ?_ GE140.out) | exact HB.out)⟩
                              · rw [if_neg c36] at H
                                have c36b0 : (((rd_T49 l1 x23_2).f1) == a0) = false := beq_eq_false_iff_ne.mpr c36
                                have c36b1 : (((rd_T49 l1 x23_2).f1) != a0) = true := bne_iff_ne.mpr c36
                                replace H := Option.bind_eq_some_iff.mp H
                                obtain ⟨⟨t165, t166, t167, t168⟩, A540, H⟩ := H
                                replace H : (countermandlaw19_TokenGood.j2 k2 a0 l1 (l1.length : Int) x23_2 t166 t167 t168) = some r := H
                                have A54 := Aside0.mk A540
                                clear A540
                                have H' := Aside0.mk H
                                clear H
                                have hnb55 := NB140_134.out
                                have hnc55 := NB134_140.out
                                have hcz56_0 : w17.cell? ⟨gb140, 0, none⟩ = some (.int .i64 0) := (blk_cell BK140.out 0).trans rfl
                                have hcz56_1 : w17.cell? ⟨gb140, 1, none⟩ = some (.int .i64 0) := (blk_cell BK140.out 1).trans rfl
                                have hcz56_2 : w17.cell? ⟨gb140, 2, none⟩ = some (.bool false) := (blk_cell BK140.out 2).trans rfl
                                have hfz56_0 := blk_frozen BK140.out 0
                                have hfz56_1 := blk_frozen BK140.out 1
                                have hfz56_2 := blk_frozen BK140.out 2
                                go_wp2_with (first | ((with_reducible refine gate_callee (f := 29) rfl ?_); refine goesL_ (some 72) rfl rfl Try.func29 (by kernel_rfl) rfl #[.pointer (some ⟨g134, 0, none⟩), .int .i64 ((rd_T49 l1 x23_2).f1)] rfl (by (try simp only [List.map_toArray, List.map_cons, List.map_nil]); first | done | rfl | (simp only [List.length_drop, List.length_take]; rfl)) ?_; (with_reducible refine (token_Token_Drop.calls g134 x135000_2 x135001_2 x135002_2 ((rd_T49 l1 x23_2).f1) t165 t166 t167 t168 w _ ?side1 ?side2 A54.out).mono ?_); (case side1 => repeat (first | (with_reducible first | exact HI134.out | apply IsS66.alloc | apply IsS66.drewN | apply IsS66.drew | apply IsS66.set_0 | apply IsS66.set_1 | apply IsS66.set_2 | refine IsS66.far ?_ NB134_140.out _) | exact HI134.out)); (case side2 => repeat (first | (with_reducible first | exact HB.out | apply below_alloc | apply pw_below_drewN | apply below_drew1 | refine below_set ?_ (IsS66.ge HI134.out) | refine below_set ?_ GE140.out) | exact HB.out)); rintro e w57 ⟨rfl, hi, hb, hk⟩; refine ⟨_, rfl, ?_⟩; have n0_ := Aside0.mk (KeepBut.blk hk (g' := gb140) (o := .cells #[.int .i64 ((rd_T49 l1 x23_2).f0), .int .i64 ((rd_T49 l1 x23_2).f1), .bool ((rd_T49 l1 x23_2).f2)] 49 (0, 0)) (by (with_reducible repeat (first | refine blk_drewN ?_ _ | refine blk_drew ?_ | refine blk_alloc ?_ _)); refine blk_put (cs := #[.int .i64 ((rd_T49 l1 x23_2).f0), .int .i64 ((rd_T49 l1 x23_2).f1), .bool false]) ?_ 2 _ rfl; (with_reducible repeat (first | refine blk_drewN ?_ _ | refine blk_drew ?_ | refine blk_alloc ?_ _)); refine blk_put (cs := #[.int .i64 ((rd_T49 l1 x23_2).f0), .int .i64 0, .bool false]) ?_ 1 _ rfl; (with_reducible repeat (first | refine blk_drewN ?_ _ | refine blk_drew ?_ | refine blk_alloc ?_ _)); refine blk_put (cs := #[.int .i64 0, .int .i64 0, .bool false]) ?_ 0 _ rfl; (with_reducible repeat (first | refine blk_drewN ?_ _ | refine blk_drew ?_ | refine blk_alloc ?_ _)); exact BK140.out) NB140_134.out (by simp)); have n1_ := Aside0.mk (hb); have n2_ := Aside0.mk (hi); clear BK140; clear HB; clear HI134; have BK140 := n0_; have HB := n1_; have HI134 := n2_; clear n0_ n1_ n2_; (try clear hb); (try clear hb2); (try clear hk); (try clear hi)))
                                go_meet
                                case rel => exact ⟨_, (t166), (t167), (t168), H', ⟨by have := HJ4.out; have := HK2.out; first | omega | exact Nat.le_refl _⟩, ⟨by (with_reducible repeat (first | refine blk_drewN ?_ _ | refine blk_drew ?_ | refine blk_alloc ?_ _)); exact BK140.out⟩, ⟨by repeat (first | (with_reducible first | exact HI134.out | apply IsS66.alloc | apply IsS66.drewN | apply IsS66.drew | apply IsS66.set_0 | apply IsS66.set_1 | apply IsS66.set_2 | refine IsS66.far ?_ NB134_140.out _) | exact HI134.out)⟩, ⟨by repeat (first | (with_reducible first | exact HB.out | apply below_alloc | apply pw_below_drewN | apply below_drew1 | refine below_set ?_ (IsS66.ge HI134.out) | refine below_set ?_ GE140.out) | exact HB.out)⟩⟩
                            · rw [if_neg c35] at H
                              have c35b0 : (((rd_T49 l1 x23_2).f0) == 3) = false := beq_eq_false_iff_ne.mpr c35
                              have c35b1 : (((rd_T49 l1 x23_2).f0) != 3) = true := bne_iff_ne.mpr c35
                              have H' := Aside0.mk H
                              clear H
                              go_wp2
                              go_meet
                              case rel => exact ⟨_, (x135000_2), (x135001_2), (x135002_2), H', ⟨by have := HJ4.out; have := HK2.out; first | omega | exact Nat.le_refl _⟩, ⟨by (with_reducible repeat (first | refine blk_drewN ?_ _ | refine blk_drew ?_ | refine blk_alloc ?_ _)); refine blk_put (cs := #[.int .i64 ((rd_T49 l1 x23_2).f0), .int .i64 ((rd_T49 l1 x23_2).f1), .bool false]) ?_ 2 _ rfl; (with_reducible repeat (first | refine blk_drewN ?_ _ | refine blk_drew ?_ | refine blk_alloc ?_ _)); refine blk_put (cs := #[.int .i64 ((rd_T49 l1 x23_2).f0), .int .i64 0, .bool false]) ?_ 1 _ rfl; (with_reducible repeat (first | refine blk_drewN ?_ _ | refine blk_drew ?_ | refine blk_alloc ?_ _)); refine blk_put (cs := #[.int .i64 0, .int .i64 0, .bool false]) ?_ 0 _ rfl; (with_reducible repeat (first | refine blk_drewN ?_ _ | refine blk_drew ?_ | refine blk_alloc ?_ _)); exact BK140.out⟩, ⟨by repeat (first | (with_reducible first | exact HI134.out | apply IsS66.alloc | apply IsS66.drewN | apply IsS66.drew | apply IsS66.set_0 | apply IsS66.set_1 | apply IsS66.set_2 | refine IsS66.far ?_ NB134_140.out _) | exact HI134.out)⟩, ⟨by repeat (first | (with_reducible first | exact HB.out | apply below_alloc | apply pw_below_drewN | apply below_drew1 | refine below_set ?_ (IsS66.ge HI134.out) | refine below_set ?_ GE140.out) | exact HB.out)⟩⟩
                    case rest =>
                      clear HC16
                      try clear c1
                      try clear p1
                      try clear q1
                      try clear hx1
                      try clear c2
                      try clear p2
                      try clear c3
                      try clear c4
                      try clear c5
                      try clear c7
                      try clear c7b0
                      try clear c7b1
                      try clear c8
                      try clear c13
                      try clear c13b0
                      try clear p13
                      try clear q13
                      try clear hx13
                      try clear c14
                      try clear c14b0
                      try clear c15
                      try clear c15b0
                      try clear c18
                      try clear c20
                      try clear c20b0
                      try clear c20b1
                      try clear c22
                      try clear c24
                      try clear c25
                      try clear c25b0
                      try clear c25b1
                      try clear c26
                      try clear c27
                      try clear c28
                      try clear c29
                      try clear c30
                      try clear c30b0
                      try clear c30b1
                      try clear c32
                      try clear c35
                      try clear c35b0
                      try clear c35b1
                      try clear c36
                      try clear c36b0
                      try clear c36b1
                      try clear c38
                      try clear c40
                      try clear c41
                      try clear c46
                      try clear c51
                      try clear c55
                      try clear hcz19_0
                      try clear hcz19_1
                      try clear hcz19_2
                      try clear hcz23_0
                      try clear hcz23_1
                      try clear hcz23_2
                      try clear hcz28_0
                      try clear hcz28_1
                      try clear hcz28_2
                      try clear hcz33_0
                      try clear hcz33_1
                      try clear hcz33_2
                      try clear hcz42_0
                      try clear hcz42_1
                      try clear hcz42_2
                      try clear hcz47_0
                      try clear hcz47_1
                      try clear hcz47_2
                      try clear hcz52_0
                      try clear hcz52_1
                      try clear hcz52_2
                      try clear hcz56_0
                      try clear hcz56_1
                      try clear hcz56_2
                      try clear hfz19_0
                      try clear hfz19_1
                      try clear hfz19_2
                      try clear hfz23_0
                      try clear hfz23_1
                      try clear hfz23_2
                      try clear hfz28_0
                      try clear hfz28_1
                      try clear hfz28_2
                      try clear hfz33_0
                      try clear hfz33_1
                      try clear hfz33_2
                      try clear hfz42_0
                      try clear hfz42_1
                      try clear hfz42_2
                      try clear hfz47_0
                      try clear hfz47_1
                      try clear hfz47_2
                      try clear hfz52_0
                      try clear hfz52_1
                      try clear hfz52_2
                      try clear hfz56_0
                      try clear hfz56_1
                      try clear hfz56_2
                      try clear hx139_0
                      try clear hx139_1
                      try clear hx139_2
                      try clear p139
                      try clear p2
                      try clear q139
                      obtain ⟨kq, x135000_15, x135001_15, x135002_15, HA, HJ15, BK140, HI134, HB⟩ := hcut
                      cases kq with
                      | zero => exact absurd HA.out (by simp [countermandlaw19_TokenGood.j2])
                      | succ kj15 =>
                        have H := HA.out
                        clear HA
                        simp only [countermandlaw19_TokenGood.j2] at H
                        replace H := Option.bind_eq_some_iff.mp H
                        obtain ⟨⟨t169, t170, t171, t172⟩, A580, H⟩ := H
                        replace H : (if t169 = true then ((token_Token_Holder.f t170 t171 t172).bind fun bt173 => (if bt173.1 = a0 then ((token_Token_Soft.f bt173.2.1 bt173.2.2.1 bt173.2.2.2).bind fun bt177 => (if bt177.1 = true then (some false) else (countermandlaw19_TokenGood.l0 kj15 a0 l1 (l1.length : Int) (wrap64 (x23_2 + 1)) bt177.2.1 bt177.2.2.1 bt177.2.2.2))) else (some false))) else (some false)) = some r := H
                        have A58 := Aside0.mk A580
                        clear A580
                        by_cases c59 : t169 = true
                        · subst c59
                          have H1 : ((token_Token_Holder.f t170 t171 t172).bind fun bt173 => (if bt173.1 = a0 then ((token_Token_Soft.f bt173.2.1 bt173.2.2.1 bt173.2.2.2).bind fun bt177 => (if bt177.1 = true then (some false) else (countermandlaw19_TokenGood.l0 kj15 a0 l1 (l1.length : Int) (wrap64 (x23_2 + 1)) bt177.2.1 bt177.2.2.1 bt177.2.2.2))) else (some false))) = some r := by rw [if_pos rfl] at H; exact H
                          clear H
                          have H := H1
                          clear H1
                          replace H := Option.bind_eq_some_iff.mp H
                          obtain ⟨⟨t173, t174, t175, t176⟩, A600, H⟩ := H
                          replace H : (if t173 = a0 then ((token_Token_Soft.f t174 t175 t176).bind fun bt177 => (if bt177.1 = true then (some false) else (countermandlaw19_TokenGood.l0 kj15 a0 l1 (l1.length : Int) (wrap64 (x23_2 + 1)) bt177.2.1 bt177.2.2.1 bt177.2.2.2))) else (some false)) = some r := H
                          have A60 := Aside0.mk A600
                          clear A600
                          by_cases c61 : t173 = a0
                          · rw [if_pos c61] at H
                            have c61b0 : (t173 == a0) = true := beq_iff_eq.mpr c61
                            have c61b1 : (t173 != a0) = false := bne_eq_false_iff_eq.mpr c61
                            clear c61
                            replace H := Option.bind_eq_some_iff.mp H
                            obtain ⟨⟨t177, t178, t179, t180⟩, A620, H⟩ := H
                            replace H : (if t177 = true then (some false) else (countermandlaw19_TokenGood.l0 kj15 a0 l1 (l1.length : Int) (wrap64 (x23_2 + 1)) t178 t179 t180)) = some r := H
                            have A62 := Aside0.mk A620
                            clear A620
                            by_cases c63 : t177 = true
                            · subst c63
                              have H1 : (some false) = some r := by rw [if_pos rfl] at H; exact H
                              clear H
                              have H := H1
                              clear H1
                              obtain rfl := Option.some.inj H
                              go_wp2_with (first | ((with_reducible refine gate_callee (f := 30) rfl ?_); refine goesL_ (some 75) rfl rfl Try.func30 (by kernel_rfl) rfl #[.pointer (some ⟨g134, 0, none⟩), .int .i64 a0] rfl (by (try simp only [List.map_toArray, List.map_cons, List.map_nil]); first | done | rfl | (simp only [List.length_drop, List.length_take]; rfl)) ?_; (with_reducible refine (token_Token_Sure.calls g134 x135000_15 x135001_15 x135002_15 a0 true t170 t171 t172 w _ ?side1 ?side2 A58.out).mono ?_); (case side1 => repeat (first | (with_reducible first | exact HI134.out | apply IsS66.alloc | apply IsS66.drewN | apply IsS66.drew | apply IsS66.set_0 | apply IsS66.set_1 | apply IsS66.set_2 | refine IsS66.far ?_ NB134_140.out _) | exact HI134.out)); (case side2 => repeat (first | (with_reducible first | exact HB.out | apply below_alloc | apply pw_below_drewN | apply below_drew1 | refine below_set ?_ (IsS66.ge HI134.out) | refine below_set ?_ GE140.out) | exact HB.out)); rintro e w64 ⟨rfl, hi, hb, hk⟩; refine ⟨_, rfl, ?_⟩; have n0_ := Aside0.mk (KeepBut.blk hk (g' := gb140) (o := .cells #[.int .i64 ((rd_T49 l1 x23_2).f0), .int .i64 ((rd_T49 l1 x23_2).f1), .bool ((rd_T49 l1 x23_2).f2)] 49 (0, 0)) (by (with_reducible repeat (first | refine blk_drewN ?_ _ | refine blk_drew ?_ | refine blk_alloc ?_ _)); exact BK140.out) NB140_134.out (by simp)); have n1_ := Aside0.mk (hb); have n2_ := Aside0.mk (hi); clear BK140; clear HB; clear HI134; have BK140 := n0_; have HB := n1_; have HI134 := n2_; clear n0_ n1_ n2_; (try clear hb); (try clear hb2); (try clear hk); (try clear hi)) | (go_at_call 32; (with_reducible refine (token_Token_Holder.calls g134 t170 t171 t172 t173 t174 t175 t176 w _ ?side1 ?side2 A60.out).mono ?_); (case side1 => repeat (first | (with_reducible first | exact HI134.out | apply IsS66.alloc | apply IsS66.drewN | apply IsS66.drew | apply IsS66.set_0 | apply IsS66.set_1 | apply IsS66.set_2 | refine IsS66.far ?_ NB134_140.out _) | exact HI134.out)); (case side2 => repeat (first | (with_reducible first | exact HB.out | apply below_alloc | apply pw_below_drewN | apply below_drew1 | refine below_set ?_ (IsS66.ge HI134.out) | refine below_set ?_ GE140.out) | exact HB.out)); rintro e w65 ⟨rfl, hi, hb, hk⟩; have n0_ := Aside0.mk (KeepBut.blk hk (g' := gb140) (o := .cells #[.int .i64 ((rd_T49 l1 x23_2).f0), .int .i64 ((rd_T49 l1 x23_2).f1), .bool ((rd_T49 l1 x23_2).f2)] 49 (0, 0)) (by (with_reducible repeat (first | refine blk_drewN ?_ _ | refine blk_drew ?_ | refine blk_alloc ?_ _)); exact BK140.out) NB140_134.out (by simp)); have n1_ := Aside0.mk (hb); have n2_ := Aside0.mk (hi); clear BK140; clear HB; clear HI134; have BK140 := n0_; have HB := n1_; have HI134 := n2_; clear n0_ n1_ n2_; (try clear hb); (try clear hb2); (try clear hk); (try clear hi)) | (go_at_call 31; (with_reducible refine (token_Token_Soft.calls g134 t174 t175 t176 true t178 t179 t180 w _ ?side1 ?side2 A62.out).mono ?_); (case side1 => repeat (first | (with_reducible first | exact HI134.out | apply IsS66.alloc | apply IsS66.drewN | apply IsS66.drew | apply IsS66.set_0 | apply IsS66.set_1 | apply IsS66.set_2 | refine IsS66.far ?_ NB134_140.out _) | exact HI134.out)); (case side2 => repeat (first | (with_reducible first | exact HB.out | apply below_alloc | apply pw_below_drewN | apply below_drew1 | refine below_set ?_ (IsS66.ge HI134.out) | refine below_set ?_ GE140.out) | exact HB.out)); rintro e w66 ⟨rfl, hi, hb, hk⟩; have n0_ := Aside0.mk (KeepBut.blk hk (g' := gb140) (o := .cells #[.int .i64 ((rd_T49 l1 x23_2).f0), .int .i64 ((rd_T49 l1 x23_2).f1), .bool ((rd_T49 l1 x23_2).f2)] 49 (0, 0)) (by (with_reducible repeat (first | refine blk_drewN ?_ _ | refine blk_drew ?_ | refine blk_alloc ?_ _)); exact BK140.out) NB140_134.out (by simp)); have n1_ := Aside0.mk (hb); have n2_ := Aside0.mk (hi); clear BK140; clear HB; clear HI134; have BK140 := n0_; have HB := n1_; have HI134 := n2_; clear n0_ n1_ n2_; (try clear hb); (try clear hb2); (try clear hk); (try clear hi)))
                              go_ret
                              exact ⟨by first | rfl | (simp [errW_none, errW_some] <;> rfl) | (simp [*, errW_none, errW_some] <;> rfl), by repeat (first | (with_reducible first | exact HB.out | apply below_alloc | apply pw_below_drewN | apply below_drew1 | refine below_set ?_ (IsS66.ge HI134.out) | refine below_set ?_ GE140.out) | exact HB.out)⟩
                            · replace c63 := Bool.eq_false_iff.mpr c63
                              subst c63
                              have H1 : (countermandlaw19_TokenGood.l0 kj15 a0 l1 (l1.length : Int) (wrap64 (x23_2 + 1)) t178 t179 t180) = some r := by rw [if_neg (show ¬ (false = true) by decide)] at H; exact H
                              clear H
                              have H := H1
                              clear H1
                              have H' := Aside0.mk H
                              clear H
                              go_wp2_with (first | ((with_reducible refine gate_callee (f := 30) rfl ?_); refine goesL_ (some 75) rfl rfl Try.func30 (by kernel_rfl) rfl #[.pointer (some ⟨g134, 0, none⟩), .int .i64 a0] rfl (by (try simp only [List.map_toArray, List.map_cons, List.map_nil]); first | done | rfl | (simp only [List.length_drop, List.length_take]; rfl)) ?_; (with_reducible refine (token_Token_Sure.calls g134 x135000_15 x135001_15 x135002_15 a0 true t170 t171 t172 w _ ?side1 ?side2 A58.out).mono ?_); (case side1 => repeat (first | (with_reducible first | exact HI134.out | apply IsS66.alloc | apply IsS66.drewN | apply IsS66.drew | apply IsS66.set_0 | apply IsS66.set_1 | apply IsS66.set_2 | refine IsS66.far ?_ NB134_140.out _) | exact HI134.out)); (case side2 => repeat (first | (with_reducible first | exact HB.out | apply below_alloc | apply pw_below_drewN | apply below_drew1 | refine below_set ?_ (IsS66.ge HI134.out) | refine below_set ?_ GE140.out) | exact HB.out)); rintro e w67 ⟨rfl, hi, hb, hk⟩; refine ⟨_, rfl, ?_⟩; have n0_ := Aside0.mk (KeepBut.blk hk (g' := gb140) (o := .cells #[.int .i64 ((rd_T49 l1 x23_2).f0), .int .i64 ((rd_T49 l1 x23_2).f1), .bool ((rd_T49 l1 x23_2).f2)] 49 (0, 0)) (by (with_reducible repeat (first | refine blk_drewN ?_ _ | refine blk_drew ?_ | refine blk_alloc ?_ _)); exact BK140.out) NB140_134.out (by simp)); have n1_ := Aside0.mk (hb); have n2_ := Aside0.mk (hi); clear BK140; clear HB; clear HI134; have BK140 := n0_; have HB := n1_; have HI134 := n2_; clear n0_ n1_ n2_; (try clear hb); (try clear hb2); (try clear hk); (try clear hi)) | (go_at_call 32; (with_reducible refine (token_Token_Holder.calls g134 t170 t171 t172 t173 t174 t175 t176 w _ ?side1 ?side2 A60.out).mono ?_); (case side1 => repeat (first | (with_reducible first | exact HI134.out | apply IsS66.alloc | apply IsS66.drewN | apply IsS66.drew | apply IsS66.set_0 | apply IsS66.set_1 | apply IsS66.set_2 | refine IsS66.far ?_ NB134_140.out _) | exact HI134.out)); (case side2 => repeat (first | (with_reducible first | exact HB.out | apply below_alloc | apply pw_below_drewN | apply below_drew1 | refine below_set ?_ (IsS66.ge HI134.out) | refine below_set ?_ GE140.out) | exact HB.out)); rintro e w68 ⟨rfl, hi, hb, hk⟩; have n0_ := Aside0.mk (KeepBut.blk hk (g' := gb140) (o := .cells #[.int .i64 ((rd_T49 l1 x23_2).f0), .int .i64 ((rd_T49 l1 x23_2).f1), .bool ((rd_T49 l1 x23_2).f2)] 49 (0, 0)) (by (with_reducible repeat (first | refine blk_drewN ?_ _ | refine blk_drew ?_ | refine blk_alloc ?_ _)); exact BK140.out) NB140_134.out (by simp)); have n1_ := Aside0.mk (hb); have n2_ := Aside0.mk (hi); clear BK140; clear HB; clear HI134; have BK140 := n0_; have HB := n1_; have HI134 := n2_; clear n0_ n1_ n2_; (try clear hb); (try clear hb2); (try clear hk); (try clear hi)) | (go_at_call 31; (with_reducible refine (token_Token_Soft.calls g134 t174 t175 t176 false t178 t179 t180 w _ ?side1 ?side2 A62.out).mono ?_); (case side1 => repeat (first | (with_reducible first | exact HI134.out | apply IsS66.alloc | apply IsS66.drewN | apply IsS66.drew | apply IsS66.set_0 | apply IsS66.set_1 | apply IsS66.set_2 | refine IsS66.far ?_ NB134_140.out _) | exact HI134.out)); (case side2 => repeat (first | (with_reducible first | exact HB.out | apply below_alloc | apply pw_below_drewN | apply below_drew1 | refine below_set ?_ (IsS66.ge HI134.out) | refine below_set ?_ GE140.out) | exact HB.out)); rintro e w69 ⟨rfl, hi, hb, hk⟩; have n0_ := Aside0.mk (KeepBut.blk hk (g' := gb140) (o := .cells #[.int .i64 ((rd_T49 l1 x23_2).f0), .int .i64 ((rd_T49 l1 x23_2).f1), .bool ((rd_T49 l1 x23_2).f2)] 49 (0, 0)) (by (with_reducible repeat (first | refine blk_drewN ?_ _ | refine blk_drew ?_ | refine blk_alloc ?_ _)); exact BK140.out) NB140_134.out (by simp)); have n1_ := Aside0.mk (hb); have n2_ := Aside0.mk (hi); clear BK140; clear HB; clear HI134; have BK140 := n0_; have HB := n1_; have HI134 := n2_; clear n0_ n1_ n2_; (try clear hb); (try clear hb2); (try clear hk); (try clear hi)))
                              go_roundg kj15
                              case measure => have := HJ4.out; have := HK2.out; have := HJ15.out; omega
                              case rel => exact ⟨(wrap64 (x23_2 + 1)), (t178), (t179), (t180), (by first | rfl | (simp; done) | (simp [*]; done)), H', ⟨by have := HJ4.out; have := HK2.out; have := HJ15.out; omega⟩, ⟨by repeat (first | (with_reducible first | exact HI134.out | apply IsS66.alloc | apply IsS66.drewN | apply IsS66.drew | apply IsS66.set_0 | apply IsS66.set_1 | apply IsS66.set_2 | refine IsS66.far ?_ NB134_140.out _) | exact HI134.out)⟩, ⟨by repeat (first | (with_reducible first | exact HB.out | apply below_alloc | apply pw_below_drewN | apply below_drew1 | refine below_set ?_ (IsS66.ge HI134.out) | refine below_set ?_ GE140.out) | exact HB.out)⟩⟩
                          · rw [if_neg c61] at H
                            have c61b0 : (t173 == a0) = false := beq_eq_false_iff_ne.mpr c61
                            have c61b1 : (t173 != a0) = true := bne_iff_ne.mpr c61
                            obtain rfl := Option.some.inj H
                            go_wp2_with (first | ((with_reducible refine gate_callee (f := 30) rfl ?_); refine goesL_ (some 75) rfl rfl Try.func30 (by kernel_rfl) rfl #[.pointer (some ⟨g134, 0, none⟩), .int .i64 a0] rfl (by (try simp only [List.map_toArray, List.map_cons, List.map_nil]); first | done | rfl | (simp only [List.length_drop, List.length_take]; rfl)) ?_; (with_reducible refine (token_Token_Sure.calls g134 x135000_15 x135001_15 x135002_15 a0 true t170 t171 t172 w _ ?side1 ?side2 A58.out).mono ?_); (case side1 => repeat (first | (with_reducible first | exact HI134.out | apply IsS66.alloc | apply IsS66.drewN | apply IsS66.drew | apply IsS66.set_0 | apply IsS66.set_1 | apply IsS66.set_2 | refine IsS66.far ?_ NB134_140.out _) | exact HI134.out)); (case side2 => repeat (first | (with_reducible first | exact HB.out | apply below_alloc | apply pw_below_drewN | apply below_drew1 | refine below_set ?_ (IsS66.ge HI134.out) | refine below_set ?_ GE140.out) | exact HB.out)); rintro e w70 ⟨rfl, hi, hb, hk⟩; refine ⟨_, rfl, ?_⟩; have n0_ := Aside0.mk (KeepBut.blk hk (g' := gb140) (o := .cells #[.int .i64 ((rd_T49 l1 x23_2).f0), .int .i64 ((rd_T49 l1 x23_2).f1), .bool ((rd_T49 l1 x23_2).f2)] 49 (0, 0)) (by (with_reducible repeat (first | refine blk_drewN ?_ _ | refine blk_drew ?_ | refine blk_alloc ?_ _)); exact BK140.out) NB140_134.out (by simp)); have n1_ := Aside0.mk (hb); have n2_ := Aside0.mk (hi); clear BK140; clear HB; clear HI134; have BK140 := n0_; have HB := n1_; have HI134 := n2_; clear n0_ n1_ n2_; (try clear hb); (try clear hb2); (try clear hk); (try clear hi)) | (go_at_call 32; (with_reducible refine (token_Token_Holder.calls g134 t170 t171 t172 t173 t174 t175 t176 w _ ?side1 ?side2 A60.out).mono ?_); (case side1 => repeat (first | (with_reducible first | exact HI134.out | apply IsS66.alloc | apply IsS66.drewN | apply IsS66.drew | apply IsS66.set_0 | apply IsS66.set_1 | apply IsS66.set_2 | refine IsS66.far ?_ NB134_140.out _) | exact HI134.out)); (case side2 => repeat (first | (with_reducible first | exact HB.out | apply below_alloc | apply pw_below_drewN | apply below_drew1 | refine below_set ?_ (IsS66.ge HI134.out) | refine below_set ?_ GE140.out) | exact HB.out)); rintro e w71 ⟨rfl, hi, hb, hk⟩; have n0_ := Aside0.mk (KeepBut.blk hk (g' := gb140) (o := .cells #[.int .i64 ((rd_T49 l1 x23_2).f0), .int .i64 ((rd_T49 l1 x23_2).f1), .bool ((rd_T49 l1 x23_2).f2)] 49 (0, 0)) (by (with_reducible repeat (first | refine blk_drewN ?_ _ | refine blk_drew ?_ | refine blk_alloc ?_ _)); exact BK140.out) NB140_134.out (by simp)); have n1_ := Aside0.mk (hb); have n2_ := Aside0.mk (hi); clear BK140; clear HB; clear HI134; have BK140 := n0_; have HB := n1_; have HI134 := n2_; clear n0_ n1_ n2_; (try clear hb); (try clear hb2); (try clear hk); (try clear hi)))
                            go_ret
                            exact ⟨by first | rfl | (simp [errW_none, errW_some] <;> rfl) | (simp [*, errW_none, errW_some] <;> rfl), by repeat (first | (with_reducible first | exact HB.out | apply below_alloc | apply pw_below_drewN | apply below_drew1 | refine below_set ?_ (IsS66.ge HI134.out) | refine below_set ?_ GE140.out) | exact HB.out)⟩
                        · replace c59 := Bool.eq_false_iff.mpr c59
                          subst c59
                          have H1 : (some false) = some r := by rw [if_neg (show ¬ (false = true) by decide)] at H; exact H
                          clear H
                          have H := H1
                          clear H1
                          obtain rfl := Option.some.inj H
                          go_wp2_with (first | ((with_reducible refine gate_callee (f := 30) rfl ?_); refine goesL_ (some 75) rfl rfl Try.func30 (by kernel_rfl) rfl #[.pointer (some ⟨g134, 0, none⟩), .int .i64 a0] rfl (by (try simp only [List.map_toArray, List.map_cons, List.map_nil]); first | done | rfl | (simp only [List.length_drop, List.length_take]; rfl)) ?_; (with_reducible refine (token_Token_Sure.calls g134 x135000_15 x135001_15 x135002_15 a0 false t170 t171 t172 w _ ?side1 ?side2 A58.out).mono ?_); (case side1 => repeat (first | (with_reducible first | exact HI134.out | apply IsS66.alloc | apply IsS66.drewN | apply IsS66.drew | apply IsS66.set_0 | apply IsS66.set_1 | apply IsS66.set_2 | refine IsS66.far ?_ NB134_140.out _) | exact HI134.out)); (case side2 => repeat (first | (with_reducible first | exact HB.out | apply below_alloc | apply pw_below_drewN | apply below_drew1 | refine below_set ?_ (IsS66.ge HI134.out) | refine below_set ?_ GE140.out) | exact HB.out)); rintro e w72 ⟨rfl, hi, hb, hk⟩; refine ⟨_, rfl, ?_⟩; have n0_ := Aside0.mk (KeepBut.blk hk (g' := gb140) (o := .cells #[.int .i64 ((rd_T49 l1 x23_2).f0), .int .i64 ((rd_T49 l1 x23_2).f1), .bool ((rd_T49 l1 x23_2).f2)] 49 (0, 0)) (by (with_reducible repeat (first | refine blk_drewN ?_ _ | refine blk_drew ?_ | refine blk_alloc ?_ _)); exact BK140.out) NB140_134.out (by simp)); have n1_ := Aside0.mk (hb); have n2_ := Aside0.mk (hi); clear BK140; clear HB; clear HI134; have BK140 := n0_; have HB := n1_; have HI134 := n2_; clear n0_ n1_ n2_; (try clear hb); (try clear hb2); (try clear hk); (try clear hi)))
                          go_ret
                          exact ⟨by first | rfl | (simp [errW_none, errW_some] <;> rfl) | (simp [*, errW_none, errW_some] <;> rfl), by repeat (first | (with_reducible first | exact HB.out | apply below_alloc | apply pw_below_drewN | apply below_drew1 | refine below_set ?_ (IsS66.ge HI134.out) | refine below_set ?_ GE140.out) | exact HB.out)⟩
                  · rw [if_neg c15] at H
                    exact absurd H (by simp)
                · rw [if_neg c14] at H
                  exact absurd H (by simp)
              · rw [if_neg c13] at H
                have c13b0 : decide (x23_2 < (l1.length : Int)) = false := decide_eq_false c13
                clear c13
                obtain rfl := Option.some.inj H
                go_wp2
                go_ret
                exact ⟨by first | rfl | (simp [errW_none, errW_some] <;> rfl) | (simp [*, errW_none, errW_some] <;> rfl), by repeat (first | (with_reducible first | exact HB.out | apply below_alloc | apply pw_below_drewN | apply below_drew1 | refine below_set ?_ (IsS66.ge HI134.out)) | exact HB.out)⟩
  · replace c4 := Bool.eq_false_iff.mpr c4
    subst c4
    have H1 : (some false) = some r := by rw [if_neg (show ¬ (false = true) by decide)] at H; exact H
    clear H
    have H := H1
    clear H1
    obtain rfl := Option.some.inj H
    go_enter Try.func8, Try.ntmps8
    go_wp2_with (first | ((with_reducible refine gate_callee (f := 24) rfl ?_); refine goesL_ (some 8) rfl rfl Try.func24 (by kernel_rfl) rfl #[] rfl (by (try simp only [List.map_toArray, List.map_cons, List.map_nil]); first | done | rfl | (simp only [List.length_drop, List.length_take]; rfl)) ?_; (with_reducible refine (countermandlaw19_alive.calls  false _ A3.out).mono ?_); rintro e w73 ⟨rfl, hb⟩; refine ⟨_, rfl, ?_⟩; have n0_ := Aside0.mk (below_step (by repeat (first | (with_reducible first | exact HB.out | apply below_alloc | apply pw_below_drewN | apply below_drew1) | exact HB.out)) hb); clear HB; have HB := n0_; clear n0_; (try clear hb); (try clear hb2); (try clear hk); (try clear hi)))
    go_ret
    exact ⟨by first | rfl | (simp [errW_none, errW_some] <;> rfl) | (simp [*, errW_none, errW_some] <;> rfl), by repeat (first | (with_reducible first | exact HB.out | apply below_alloc | apply pw_below_drewN | apply below_drew1) | exact HB.out)⟩

/-- THE ONE PURE STATEMENT of countermandlaw19_TokenGood: yours. -/
def countermandlaw19_TokenGood.Pure : Prop := ∀ (a0 : Int) (l1 : List (S49)), (Lit.int .i64 a0).wf = true → l1.length ≤ maxLen → (∀ x ∈ l1, (Lit.int .i64 x.f0).wf = true ∧ (Lit.int .i64 x.f1).wf = true) → ∃ k, countermandlaw19_TokenGood.f k a0 l1 = some true
theorem countermandlaw19_TokenGood.walk (P : countermandlaw19_TokenGood.Pure) (a0 : Int) (a1 : Option Addr) (len1 cap1 : Nat) (z1 : List (S49)) (w : World) (w0 : (Lit.int .i64 a0).wf = true) (w1 : z1.length = len1 ∧ Kd.C k49 w a1 z1.length z1 ∧ z1.length ≤ cap1 ∧ z1.length ≤ maxLen ∧ (∀ x ∈ z1, (Lit.int .i64 x.f0).wf = true ∧ (Lit.int .i64 x.f1).wf = true)) :
    Calls Try.prog 8 #[.int .i64 a0, .slice a1 len1 cap1] w fun e w' => e = .returned (.bool true) ∧ Below w.heap.size w w' := by
  obtain ⟨rfl, hr1, hc1, hm1, hg1⟩ := w1
  obtain ⟨k, h⟩ := P a0 z1 w0 hm1 hg1
  refine (countermandlaw19_TokenGood.calls k a0 _ _ z1 true w hr1 hc1 h).mono ?_
  rintro e w' ⟨rfl, hd⟩
  exact ⟨rfl, hd⟩

end Go.Proofs.Ytfimbmdbaaiemaa.PTokenGood
