/- Written by a program of this session, which began as the kit's print and is turned in wip/printer: the plain form of each function, and that the Go code comes to it. -/
import Derived.Test.YtfimbmdbaaiemaaPTokenWaitsx0
import Derived.Test.YtfimbmdbaaiemaaPTokenWaitsx1
namespace Go.Proofs.Ytfimbmdbaaiemaa.PTokenWaits
open Go.RowKit Go.Proofs.YtfimbmdbaaiemaaW.PrintWords Go.Proofs.YtfimbmdbaaiemaaW.PrintLast Go.Proofs.YtfimbmdbaaiemaaW.PrintMore
attribute [local go_sem] max2_int min2_int max_two min_two max_three min_three max_four min_four   -- for this text's walks alone
set_option linter.unusedVariables false
set_option linter.unusedSimpArgs false

/-! ### countermandlaw19_TokenWaits: function 9 -/
mutual
def countermandlaw19_TokenWaits.j0 : Nat → Int → Bool → Bool → List (S49) → Bool → Option (Bool)
  | 0, _, _, _, _, _ => none
  | k + 1, x0, x1, x2, x3, x21 => if x21 = true then (some true) else ((token_New.f).bind fun bt131 => (if x2 = true then ((token_Token_Lock.f bt131.1 bt131.2.1 bt131.2.2 x0).bind fun bt135 => (countermandlaw19_TokenWaits.j1 k x0 x1 x2 x3 bt135.2.1 bt135.2.2.1 bt135.2.2.2)) else ((token_Token_Take.f bt131.1 bt131.2.1 bt131.2.2 x0 x1).bind fun bt139 => (countermandlaw19_TokenWaits.j1 k x0 x1 x2 x3 bt139.2.1 bt139.2.2.1 bt139.2.2.2))))
def countermandlaw19_TokenWaits.j1 : Nat → Int → Bool → Bool → List (S49) → Int → Bool → Int → Option (Bool)
  | 0, _, _, _, _, _, _, _ => none
  | k + 1, x0, x1, x2, x3, x135000, x135001, x135002 => countermandlaw19_TokenWaits.l0 k x0 x1 x2 x3 (x3.length : Int) 0 x135000 x135001 x135002
def countermandlaw19_TokenWaits.l0 : Nat → Int → Bool → Bool → List (S49) → Int → Int → Int → Bool → Int → Option (Bool)
  | 0, _, _, _, _, _, _, _, _, _ => none
  | k + 1, x0, x1, x2, x31, x32, x33, x135000, x135001, x135002 => if x33 < x32 then (if 0 ≤ x33 then (if x33 < (x31.length : Int) then (if ((rd_T49 x31 x33).f1) = x0 then (countermandlaw19_TokenWaits.l0 k x0 x1 x2 x31 x32 (wrap64 (x33 + 1)) x135000 x135001 x135002) else (if ((rd_T49 x31 x33).f0) = 0 then ((token_Token_Take.f x135000 x135001 x135002 ((rd_T49 x31 x33).f1) ((rd_T49 x31 x33).f2)).bind fun bt145 => (if bt145.1 = true then (some false) else (countermandlaw19_TokenWaits.l0 k x0 x1 x2 x31 x32 (wrap64 (x33 + 1)) bt145.2.1 bt145.2.2.1 bt145.2.2.2))) else (if ((rd_T49 x31 x33).f0) = 1 then ((token_Token_Lock.f x135000 x135001 x135002 ((rd_T49 x31 x33).f1)).bind fun bt149 => (if bt149.1 = true then (some false) else (countermandlaw19_TokenWaits.l0 k x0 x1 x2 x31 x32 (wrap64 (x33 + 1)) bt149.2.1 bt149.2.2.1 bt149.2.2.2))) else (if ((rd_T49 x31 x33).f0) = 2 then ((token_Token_Unlock.f x135000 x135001 x135002 ((rd_T49 x31 x33).f1)).bind fun bt153 => (if bt153.1 = true then (some false) else (countermandlaw19_TokenWaits.l0 k x0 x1 x2 x31 x32 (wrap64 (x33 + 1)) bt153.2.1 bt153.2.2.1 bt153.2.2.2))) else (if ((rd_T49 x31 x33).f0) = 3 then ((token_Token_Drop.f x135000 x135001 x135002 ((rd_T49 x31 x33).f1)).bind fun bt157 => (if bt157.1 = true then (some false) else (countermandlaw19_TokenWaits.l0 k x0 x1 x2 x31 x32 (wrap64 (x33 + 1)) bt157.2.1 bt157.2.2.1 bt157.2.2.2))) else (countermandlaw19_TokenWaits.l0 k x0 x1 x2 x31 x32 (wrap64 (x33 + 1)) x135000 x135001 x135002)))))) else (none)) else (none)) else (if x2 = true then ((token_Token_Commits.f x135000 x135001 x135002).bind fun bt161 => (if bt161.1 = x0 then ((token_Token_Unlock.f bt161.2.1 bt161.2.2.1 bt161.2.2.2 x0).bind fun bt165 => (if bt165.1 = true then ((token_Token_Free.f bt165.2.1 bt165.2.2.1 bt165.2.2.2 x0).bind fun bt169 => (some bt169.1)) else (some false))) else (some false))) else ((token_Token_Holder.f x135000 x135001 x135002).bind fun bt173 => (if bt173.1 = x0 then ((token_Token_Soft.f bt173.2.1 bt173.2.2.1 bt173.2.2.2).bind fun bt177 => (if bt177.1 = true then (if x1 = true then ((token_Token_Drop.f bt177.2.1 bt177.2.2.1 bt177.2.2.2 x0).bind fun bt181 => (if bt181.1 = true then ((token_Token_Holder.f bt181.2.1 bt181.2.2.1 bt181.2.2.2).bind fun bt185 => (some (bt185.1 == (-1)))) else (some false))) else (some false)) else (if x1 = true then (some false) else ((token_Token_Drop.f bt177.2.1 bt177.2.2.1 bt177.2.2.2 x0).bind fun bt189 => (if bt189.1 = true then ((token_Token_Holder.f bt189.2.1 bt189.2.2.1 bt189.2.2.2).bind fun bt193 => (some (bt193.1 == (-1)))) else (some false)))))) else (some false))))
end
def countermandlaw19_TokenWaits.f (k : Nat) (a0 : Int) (a1 : Bool) (a2 : Bool) (l3 : List (S49)) : Option (Bool) := (countermandlaw19_alive.f).bind fun t130 => (if t130 = true then (if (l3.length : Int) > 100 then (countermandlaw19_TokenWaits.j0 k a0 a1 a2 l3 true) else (countermandlaw19_TokenWaits.j0 k a0 a1 a2 l3 (decide (a0 < 0)))) else (some false))
theorem countermandlaw19_TokenWaits.mono_l : ∀ k, (∀ y0 y1 y2 y3 y4, LeO (countermandlaw19_TokenWaits.j0 k y0 y1 y2 y3 y4) (countermandlaw19_TokenWaits.j0 (k + 1) y0 y1 y2 y3 y4)) ∧ (∀ y0 y1 y2 y3 y4 y5 y6, LeO (countermandlaw19_TokenWaits.j1 k y0 y1 y2 y3 y4 y5 y6) (countermandlaw19_TokenWaits.j1 (k + 1) y0 y1 y2 y3 y4 y5 y6)) ∧ (∀ y0 y1 y2 y3 y4 y5 y6 y7 y8, LeO (countermandlaw19_TokenWaits.l0 k y0 y1 y2 y3 y4 y5 y6 y7 y8) (countermandlaw19_TokenWaits.l0 (k + 1) y0 y1 y2 y3 y4 y5 y6 y7 y8))
  | 0 => ⟨fun _ _ _ _ _ r h => by simp [countermandlaw19_TokenWaits.j0] at h, fun _ _ _ _ _ _ _ r h => by simp [countermandlaw19_TokenWaits.j1] at h, fun _ _ _ _ _ _ _ _ _ r h => by simp [countermandlaw19_TokenWaits.l0] at h⟩
  | k + 1 => by
    obtain ⟨ih0, ih1, ih2⟩ := countermandlaw19_TokenWaits.mono_l k
    refine ⟨?_, ?_, ?_⟩
    · intro y0 y1 y2 y3 y4
      unfold countermandlaw19_TokenWaits.j0
      repeat' first
      | (with_reducible exact ih0 _ _ _ _ _)
      | (with_reducible exact ih1 _ _ _ _ _ _ _)
      | (with_reducible exact ih2 _ _ _ _ _ _ _ _ _)
      | (with_reducible exact LeO.refl _)
      | (with_reducible exact LeO.none _)
      | (with_reducible refine LeO.ite ?_ ?_)
      | (with_reducible refine LeO.bind ?_ (fun _ => ?_))
      | exact ih0 _ _ _ _ _
      | exact ih1 _ _ _ _ _ _ _
      | exact ih2 _ _ _ _ _ _ _ _ _
      | exact LeO.none _
      | refine LeO.ite ?_ ?_
      | refine LeO.bind ?_ (fun _ => ?_)
    · intro y0 y1 y2 y3 y4 y5 y6
      unfold countermandlaw19_TokenWaits.j1
      repeat' first
      | (with_reducible exact ih0 _ _ _ _ _)
      | (with_reducible exact ih1 _ _ _ _ _ _ _)
      | (with_reducible exact ih2 _ _ _ _ _ _ _ _ _)
      | (with_reducible exact LeO.refl _)
      | (with_reducible exact LeO.none _)
      | (with_reducible refine LeO.ite ?_ ?_)
      | (with_reducible refine LeO.bind ?_ (fun _ => ?_))
      | exact ih0 _ _ _ _ _
      | exact ih1 _ _ _ _ _ _ _
      | exact ih2 _ _ _ _ _ _ _ _ _
      | exact LeO.none _
      | refine LeO.ite ?_ ?_
      | refine LeO.bind ?_ (fun _ => ?_)
    · intro y0 y1 y2 y3 y4 y5 y6 y7 y8
      unfold countermandlaw19_TokenWaits.l0
      repeat' first
      | (with_reducible exact ih0 _ _ _ _ _)
      | (with_reducible exact ih1 _ _ _ _ _ _ _)
      | (with_reducible exact ih2 _ _ _ _ _ _ _ _ _)
      | (with_reducible exact LeO.refl _)
      | (with_reducible exact LeO.none _)
      | (with_reducible refine LeO.ite ?_ ?_)
      | (with_reducible refine LeO.bind ?_ (fun _ => ?_))
      | exact ih0 _ _ _ _ _
      | exact ih1 _ _ _ _ _ _ _
      | exact ih2 _ _ _ _ _ _ _ _ _
      | exact LeO.none _
      | refine LeO.ite ?_ ?_
      | refine LeO.bind ?_ (fun _ => ?_)
theorem countermandlaw19_TokenWaits.mono : ∀ a0 a1 a2 a3 k, LeO (countermandlaw19_TokenWaits.f k a0 a1 a2 a3) (countermandlaw19_TokenWaits.f (k + 1) a0 a1 a2 a3) := by
  intro a0 a1 a2 a3 k
  obtain ⟨ih0, ih1, ih2⟩ := countermandlaw19_TokenWaits.mono_l k
  unfold countermandlaw19_TokenWaits.f
  repeat' first
      | (with_reducible exact ih0 _ _ _ _ _)
      | (with_reducible exact ih1 _ _ _ _ _ _ _)
      | (with_reducible exact ih2 _ _ _ _ _ _ _ _ _)
      | (with_reducible exact LeO.refl _)
      | (with_reducible exact LeO.none _)
      | (with_reducible refine LeO.ite ?_ ?_)
      | (with_reducible refine LeO.bind ?_ (fun _ => ?_))
      | exact ih0 _ _ _ _ _
      | exact ih1 _ _ _ _ _ _ _
      | exact ih2 _ _ _ _ _ _ _ _ _
      | exact LeO.none _
      | refine LeO.ite ?_ ?_
      | refine LeO.bind ?_ (fun _ => ?_)
set_option maxHeartbeats 8000000 in
set_option maxRecDepth 100000 in
theorem countermandlaw19_TokenWaits.calls (k : Nat) (a0 : Int) (a1 : Bool) (a2 : Bool) (A3 : Option Addr) (c3 : Nat) (l3 : List (S49)) (r : Bool) (w : World) (hr3 : Kd.C k49 w A3 l3.length l3) (hc3 : l3.length ≤ c3) (h : countermandlaw19_TokenWaits.f k a0 a1 a2 l3 = some r) :
    Calls Try.prog 9 #[.int .i64 a0, .bool a1, .bool a2, .slice A3 l3.length c3] w fun e w' => e = .returned (.bool r) ∧ Below w.heap.size w w' := by
  have hu49 := Try.underlying49
  have HR3 := Aside0.mk hr3
  have HC3 := Aside0.mk hc3
  clear hr3 hc3
  have HB := Aside0.mk (Below.refl w.heap.size w)
  have H : ((countermandlaw19_alive.f).bind fun t130 => (if t130 = true then (if (l3.length : Int) > 100 then (countermandlaw19_TokenWaits.j0 k a0 a1 a2 l3 true) else (countermandlaw19_TokenWaits.j0 k a0 a1 a2 l3 (decide (a0 < 0)))) else (some false))) = some r := h
  clear h
  replace H := Option.bind_eq_some_iff.mp H
  obtain ⟨t130, A50, H⟩ := H
  replace H : (if t130 = true then (if (l3.length : Int) > 100 then (countermandlaw19_TokenWaits.j0 k a0 a1 a2 l3 true) else (countermandlaw19_TokenWaits.j0 k a0 a1 a2 l3 (decide (a0 < 0)))) else (some false)) = some r := H
  have A5 := Aside0.mk A50
  clear A50
  by_cases c6 : t130 = true
  · subst c6
    have H1 : (if (l3.length : Int) > 100 then (countermandlaw19_TokenWaits.j0 k a0 a1 a2 l3 true) else (countermandlaw19_TokenWaits.j0 k a0 a1 a2 l3 (decide (a0 < 0)))) = some r := by rw [if_pos rfl] at H; exact H
    clear H
    have H := H1
    clear H1
    have HC7 := Aside0.mk H
    clear H
    go_enter Try.func9, Try.ntmps9
    go_upto_region 3 with (first | ((with_reducible refine gate_callee (f := 24) rfl ?_); refine goesL_ (some 13) rfl rfl Try.func24 (by kernel_rfl) rfl #[] rfl (by (try simp only [List.map_toArray, List.map_cons, List.map_nil]); first | done | rfl | (simp only [List.length_drop, List.length_take]; rfl)) ?_; (with_reducible refine (countermandlaw19_alive.calls  true _ A5.out).mono ?_); rintro e w8 ⟨rfl, hb⟩; refine ⟨_, rfl, ?_⟩; have n0_ := Aside0.mk (below_step (by repeat (first | (with_reducible first | exact HB.out | apply below_alloc | apply pw_below_drewN | apply below_drew1) | exact HB.out)) hb); clear HB; have HB := n0_; clear n0_; (try clear hb); (try clear hb2); (try clear hk); (try clear hi)))
    (try simp only [Act.put, List.setIfInBounds_toArray, List.set_cons_zero, List.set_cons_succ])
    go_cut [21] (fun v21 wc => ∃ (kq : Nat) (x21_6 : Bool), v21 = .bool x21_6 ∧ Aside0 (countermandlaw19_TokenWaits.j0 kq a0 a1 a2 l3 x21_6 = some r) ∧ Aside0 (kq ≤ k) ∧ Aside0 (Below w.heap.size w wc))
    case first =>
      have H := HC7.out
      clear HC7
      by_cases c9 : (l3.length : Int) > 100
      · rw [if_pos c9] at H
        have c9b0 : decide (100 < (l3.length : Int)) = true := decide_eq_true c9
        have c9b1 : decide (100 < l3.length) = true := decide_eq_true (by omega)
        clear c9
        (first | rw [c9b0] | (simp only [i64_w, i32_w]; rw [c9b0]) | skip)
        have H' := Aside0.mk H
        clear H
        go_wp2
        go_meet
        case rel => exact ⟨_, (true), (by first | rfl | (simp; done) | (simp [*]; done)), H', ⟨by first | omega | exact Nat.le_refl _⟩, ⟨by repeat (first | (with_reducible first | exact HB.out | apply below_alloc | apply pw_below_drewN | apply below_drew1) | exact HB.out)⟩⟩
      · rw [if_neg c9] at H
        have c9b0 : decide (100 < (l3.length : Int)) = false := decide_eq_false c9
        have c9b1 : decide (100 < l3.length) = false := decide_eq_false (by omega)
        clear c9
        (first | rw [c9b0] | (simp only [i64_w, i32_w]; rw [c9b0]) | skip)
        have H' := Aside0.mk H
        clear H
        go_wp2
        go_meet
        case rel => exact ⟨_, (decide (a0 < 0)), (by first | rfl | (simp; done) | (simp [*]; done)), H', ⟨by first | omega | exact Nat.le_refl _⟩, ⟨by repeat (first | (with_reducible first | exact HB.out | apply below_alloc | apply pw_below_drewN | apply below_drew1) | exact HB.out)⟩⟩
    case rest =>
      clear HC7
      try clear c2
      try clear p2
      try clear c3
      try clear c6
      try clear c9
      try clear c9b0
      try clear c9b1
      obtain ⟨kq, x21_6, rfl, HA, HJ6, HB⟩ := hcut
      cases kq with
      | zero => exact absurd HA.out (by simp [countermandlaw19_TokenWaits.j0])
      | succ kj6 =>
        have H := HA.out
        clear HA
        simp only [countermandlaw19_TokenWaits.j0] at H
        by_cases c10 : x21_6 = true
        · subst c10
          have H1 : (some true) = some r := by rw [if_pos rfl] at H; exact H
          clear H
          have H := H1
          clear H1
          obtain rfl := Option.some.inj H
          go_wp2
          go_ret
          exact ⟨by first | rfl | (simp [errW_none, errW_some] <;> rfl) | (simp [*, errW_none, errW_some] <;> rfl), by repeat (first | (with_reducible first | exact HB.out | apply below_alloc | apply pw_below_drewN | apply below_drew1) | exact HB.out)⟩
        · replace c10 := Bool.eq_false_iff.mpr c10
          subst c10
          have H1 : ((token_New.f).bind fun bt131 => (if a2 = true then ((token_Token_Lock.f bt131.1 bt131.2.1 bt131.2.2 a0).bind fun bt135 => (countermandlaw19_TokenWaits.j1 kj6 a0 a1 a2 l3 bt135.2.1 bt135.2.2.1 bt135.2.2.2)) else ((token_Token_Take.f bt131.1 bt131.2.1 bt131.2.2 a0 a1).bind fun bt139 => (countermandlaw19_TokenWaits.j1 kj6 a0 a1 a2 l3 bt139.2.1 bt139.2.2.1 bt139.2.2.2)))) = some r := by rw [if_neg (show ¬ (false = true) by decide)] at H; exact H
          clear H
          have H := H1
          clear H1
          replace H := Option.bind_eq_some_iff.mp H
          obtain ⟨⟨t131, t132, t133⟩, A110, H⟩ := H
          replace H : (if a2 = true then ((token_Token_Lock.f t131 t132 t133 a0).bind fun bt135 => (countermandlaw19_TokenWaits.j1 kj6 a0 a1 a2 l3 bt135.2.1 bt135.2.2.1 bt135.2.2.2)) else ((token_Token_Take.f t131 t132 t133 a0 a1).bind fun bt139 => (countermandlaw19_TokenWaits.j1 kj6 a0 a1 a2 l3 bt139.2.1 bt139.2.2.1 bt139.2.2.2))) = some r := H
          have A11 := Aside0.mk A110
          clear A110
          have HC12 := Aside0.mk H
          clear H
          go_upto_if 23 with (first | ((with_reducible refine gate_callee (f := 25) rfl ?_); refine goesL_ (some 22) rfl rfl Try.func25 (by kernel_rfl) rfl #[] rfl (by (try simp only [List.map_toArray, List.map_cons, List.map_nil]); first | done | rfl | (simp only [List.length_drop, List.length_take]; rfl)) ?_; (with_reducible refine (token_New.calls  t131 t132 t133 w _ ?side1 A11.out).mono ?_); (case side1 => repeat (first | (with_reducible first | exact HB.out | apply below_alloc | apply pw_below_drewN | apply below_drew1) | exact HB.out)); rintro e w13 ⟨g134, rfl, hi, hb, hb2⟩; refine ⟨_, rfl, ?_⟩; have n0_ := Aside0.mk (hb); have n1_ := Aside0.mk (hi); clear HB; have HB := n0_; have HI134 := n1_; clear n0_ n1_; (try clear hb); (try clear hb2); (try clear hk); (try clear hi)))
          (try simp only [Act.put, List.setIfInBounds_toArray, List.set_cons_zero, List.set_cons_succ])
          go_cut [] (fun wc => ∃ (kq : Nat) (x135000_11 : Int) (x135001_11 : Bool) (x135002_11 : Int), Aside0 (countermandlaw19_TokenWaits.j1 kq a0 a1 a2 l3 x135000_11 x135001_11 x135002_11 = some r) ∧ Aside0 (kq ≤ kj6) ∧ Aside0 (IsS66 w wc g134 x135000_11 x135001_11 x135002_11) ∧ Aside0 (Below w.heap.size w wc))
          case first =>
            have H := HC12.out
            clear HC12
            by_cases c14 : a2 = true
            · subst c14
              have H1 : ((token_Token_Lock.f t131 t132 t133 a0).bind fun bt135 => (countermandlaw19_TokenWaits.j1 kj6 a0 a1 true l3 bt135.2.1 bt135.2.2.1 bt135.2.2.2)) = some r := by rw [if_pos rfl] at H; exact H
              clear H
              have H := H1
              clear H1
              replace H := Option.bind_eq_some_iff.mp H
              obtain ⟨⟨t135, t136, t137, t138⟩, A150, H⟩ := H
              replace H : (countermandlaw19_TokenWaits.j1 kj6 a0 a1 true l3 t136 t137 t138) = some r := H
              have A15 := Aside0.mk A150
              clear A150
              have H' := Aside0.mk H
              clear H
              go_wp2_with (first | ((with_reducible refine gate_callee (f := 27) rfl ?_); refine goesL_ (some 26) rfl rfl Try.func27 (by kernel_rfl) rfl #[.pointer (some ⟨g134, 0, none⟩), .int .i64 a0] rfl (by (try simp only [List.map_toArray, List.map_cons, List.map_nil]); first | done | rfl | (simp only [List.length_drop, List.length_take]; rfl)) ?_; (with_reducible refine (token_Token_Lock.calls g134 t131 t132 t133 a0 t135 t136 t137 t138 w _ ?side1 ?side2 A15.out).mono ?_); (case side1 => repeat (first | (with_reducible first | exact HI134.out | apply IsS66.alloc | apply IsS66.drewN | apply IsS66.drew | apply IsS66.set_0 | apply IsS66.set_1 | apply IsS66.set_2) | exact HI134.out)); (case side2 => repeat (first | (with_reducible first | exact HB.out | apply below_alloc | apply pw_below_drewN | apply below_drew1 | refine below_set ?_ (IsS66.ge HI134.out)) | exact HB.out)); rintro e w16 ⟨rfl, hi, hb, hk⟩; refine ⟨_, rfl, ?_⟩; have n0_ := Aside0.mk (hb); have n1_ := Aside0.mk (hi); clear HB; clear HI134; have HB := n0_; have HI134 := n1_; clear n0_ n1_; (try clear hb); (try clear hb2); (try clear hk); (try clear hi)))
              go_meet
              case rel => exact ⟨_, (t136), (t137), (t138), H', ⟨by have := HJ6.out; first | omega | exact Nat.le_refl _⟩, ⟨by repeat (first | (with_reducible first | exact HI134.out | apply IsS66.alloc | apply IsS66.drewN | apply IsS66.drew | apply IsS66.set_0 | apply IsS66.set_1 | apply IsS66.set_2) | exact HI134.out)⟩, ⟨by repeat (first | (with_reducible first | exact HB.out | apply below_alloc | apply pw_below_drewN | apply below_drew1 | refine below_set ?_ (IsS66.ge HI134.out)) | exact HB.out)⟩⟩
            · replace c14 := Bool.eq_false_iff.mpr c14
              subst c14
              have H1 : ((token_Token_Take.f t131 t132 t133 a0 a1).bind fun bt139 => (countermandlaw19_TokenWaits.j1 kj6 a0 a1 false l3 bt139.2.1 bt139.2.2.1 bt139.2.2.2)) = some r := by rw [if_neg (show ¬ (false = true) by decide)] at H; exact H
              clear H
              have H := H1
              clear H1
              replace H := Option.bind_eq_some_iff.mp H
              obtain ⟨⟨t139, t140, t141, t142⟩, A170, H⟩ := H
              replace H : (countermandlaw19_TokenWaits.j1 kj6 a0 a1 false l3 t140 t141 t142) = some r := H
              have A17 := Aside0.mk A170
              clear A170
              have H' := Aside0.mk H
              clear H
              go_wp2_with (first | ((with_reducible refine gate_callee (f := 26) rfl ?_); refine goesL_ (some 30) rfl rfl Try.func26 (by kernel_rfl) rfl #[.pointer (some ⟨g134, 0, none⟩), .int .i64 a0, .bool a1] rfl (by (try simp only [List.map_toArray, List.map_cons, List.map_nil]); first | done | rfl | (simp only [List.length_drop, List.length_take]; rfl)) ?_; (with_reducible refine (token_Token_Take.calls g134 t131 t132 t133 a0 a1 t139 t140 t141 t142 w _ ?side1 ?side2 A17.out).mono ?_); (case side1 => repeat (first | (with_reducible first | exact HI134.out | apply IsS66.alloc | apply IsS66.drewN | apply IsS66.drew | apply IsS66.set_0 | apply IsS66.set_1 | apply IsS66.set_2) | exact HI134.out)); (case side2 => repeat (first | (with_reducible first | exact HB.out | apply below_alloc | apply pw_below_drewN | apply below_drew1 | refine below_set ?_ (IsS66.ge HI134.out)) | exact HB.out)); rintro e w18 ⟨rfl, hi, hb, hk⟩; refine ⟨_, rfl, ?_⟩; have n0_ := Aside0.mk (hb); have n1_ := Aside0.mk (hi); clear HB; clear HI134; have HB := n0_; have HI134 := n1_; clear n0_ n1_; (try clear hb); (try clear hb2); (try clear hk); (try clear hi)))
              go_meet
              case rel => exact ⟨_, (t140), (t141), (t142), H', ⟨by have := HJ6.out; first | omega | exact Nat.le_refl _⟩, ⟨by repeat (first | (with_reducible first | exact HI134.out | apply IsS66.alloc | apply IsS66.drewN | apply IsS66.drew | apply IsS66.set_0 | apply IsS66.set_1 | apply IsS66.set_2) | exact HI134.out)⟩, ⟨by repeat (first | (with_reducible first | exact HB.out | apply below_alloc | apply pw_below_drewN | apply below_drew1 | refine below_set ?_ (IsS66.ge HI134.out)) | exact HB.out)⟩⟩
          case rest =>
            clear HC12
            try clear c1
            try clear c2
            try clear p2
            try clear c3
            try clear c6
            try clear c9
            try clear c9b0
            try clear c9b1
            try clear c10
            try clear c14
            try clear p2
            obtain ⟨kq, x135000_11, x135001_11, x135002_11, HA, HJ11, HI134, HB⟩ := hcut
            cases kq with
            | zero => exact absurd HA.out (by simp [countermandlaw19_TokenWaits.j1])
            | succ kj11 =>
              have H := HA.out
              clear HA
              simp only [countermandlaw19_TokenWaits.j1] at H
              have H' := Aside0.mk H
              clear H
              go_wp2
              go_loopg [33] kj11 (fun kq v33 w' => ∃ (x33_3 : Int) (x135000_3 : Int) (x135001_3 : Bool) (x135002_3 : Int), v33 = .int .i64 x33_3 ∧ Aside0 (countermandlaw19_TokenWaits.l0 kq a0 a1 a2 l3 (l3.length : Int) x33_3 x135000_3 x135001_3 x135002_3 = some r) ∧ Aside0 (kq ≤ kj11) ∧ Aside0 (IsS66 w w' g134 x135000_3 x135001_3 x135002_3) ∧ Aside0 (Below w.heap.size w w'))
              case atStart => exact ⟨(0), (x135000_11), (x135001_11), (x135002_11), (by first | rfl | (simp; done) | (simp [*]; done)), H', ⟨Nat.le_refl _⟩, ⟨by repeat (first | (with_reducible first | exact HI134.out | apply IsS66.alloc | apply IsS66.drewN | apply IsS66.drew | apply IsS66.set_0 | apply IsS66.set_1 | apply IsS66.set_2) | exact HI134.out)⟩, ⟨by repeat (first | (with_reducible first | exact HB.out | apply below_alloc | apply pw_below_drewN | apply below_drew1 | refine below_set ?_ (IsS66.ge HI134.out)) | exact HB.out)⟩⟩
              case round =>
                clear H'
                try clear c1
                try clear c2
                try clear p2
                try clear c3
                try clear c6
                try clear c9
                try clear c9b0
                try clear c9b1
                try clear c10
                try clear c14
                try clear p2
                obtain ⟨x33_3, x135000_3, x135001_3, x135002_3, rfl, HA, HK3, HI134, HB⟩ := hrel
                cases gk with
                | zero => exact absurd HA.out (by simp [countermandlaw19_TokenWaits.l0])
                | succ k3 =>
                  have H := HA.out
                  clear HA
                  simp only [countermandlaw19_TokenWaits.l0] at H
                  by_cases c19 : x33_3 < (l3.length : Int)
                  · rw [if_pos c19] at H
                    have c19b0 : decide (x33_3 < (l3.length : Int)) = true := decide_eq_true c19
                    clear c19
                    by_cases c20 : 0 ≤ x33_3
                    · rw [if_pos c20] at H
                      have c20b0 : decide (0 ≤ x33_3) = true := decide_eq_true c20
                      clear c20
                      by_cases c21 : x33_3 < (l3.length : Int)
                      · rw [if_pos c21] at H
                        have c21b0 : decide (x33_3 < (l3.length : Int)) = true := decide_eq_true c21
                        clear c21
                        by_cases c22 : ((rd_T49 l3 x33_3).f1) = a0
                        · rw [if_pos c22] at H
                          have c22b0 : (((rd_T49 l3 x33_3).f1) == a0) = true := beq_iff_eq.mpr c22
                          have c22b1 : (((rd_T49 l3 x33_3).f1) != a0) = false := bne_eq_false_iff_eq.mpr c22
                          clear c22
                          have H' := Aside0.mk H
                          clear H
                          have p143 : 0 ≤ (x33_3 : Int) := of_decide_eq_true (by first | (with_reducible assumption) | assumption)
                          have q143 : x33_3 < (l3.length : Int) := of_decide_eq_true (by first | (with_reducible assumption) | assumption)
                          obtain ⟨ad143, e143, hx143_0, hx143_1, hx143_2⟩ := at_T49 HR3.out x33_3 p143 q143
                          cases e143
                          replace hx143_0 := (HB.out.cell (World.block_lt_of_cell? w _ hx143_0)).trans hx143_0
                          replace hx143_1 := (HB.out.cell (World.block_lt_of_cell? w _ hx143_1)).trans hx143_1
                          replace hx143_2 := (HB.out.cell (World.block_lt_of_cell? w _ hx143_2)).trans hx143_2
                          replace p143 := eq_true p143
                          replace q143 := eq_true q143
                          go_wp2_with (first | ((with_reducible refine gate_dst (N := 11) rfl ?_); refine box_event ?hg (N := 11) ?hd (cs := #[.int .i64 0, .int .i64 0, .bool false]) (t := 49) ?hr ?_; (case hd => rfl); (case hg => rfl); (case hr => first | (go_simp; done) | (go_simp; rfl)); intro gb144 hg w23 hbox hb; have n0_ := Aside0.mk (IsS66.below (by repeat (first | (with_reducible first | exact HI134.out | apply IsS66.alloc | apply IsS66.drewN | apply IsS66.drew | apply IsS66.set_0 | apply IsS66.set_1 | apply IsS66.set_2) | exact HI134.out)) hb); have n1_ := Aside0.mk (below_step (by repeat (first | (with_reducible first | exact HB.out | apply below_alloc | apply pw_below_drewN | apply below_drew1 | refine below_set ?_ (IsS66.ge HI134.out)) | exact HB.out)) hb); have n2_ := Aside0.mk (hbox); have n3_ := Aside0.mk ((by rw [hg]; exact (below_size (by repeat (first | (with_reducible first | exact HB.out | apply below_alloc | apply pw_below_drewN | apply below_drew1 | refine below_set ?_ (IsS66.ge HI134.out)) | exact HB.out))) : w.heap.size ≤ gb144)); have n4_ := Aside0.mk ((by rw [hg]; exact (below_size (by repeat (first | (with_reducible first | exact HB.out | apply below_alloc | apply pw_below_drewN | apply below_drew1 | refine below_set ?_ (IsS66.ge HI134.out)) | exact HB.out))) : w.heap.size ≤ gb144)); have n5_ := Aside0.mk ((by rw [hg]; exact Nat.ne_of_lt (IsS66.lt (show IsS66 w _ g134 x135000_3 x135001_3 x135002_3 from by repeat (first | (with_reducible first | exact HI134.out | apply IsS66.alloc | apply IsS66.drewN | apply IsS66.drew | apply IsS66.set_0 | apply IsS66.set_1 | apply IsS66.set_2) | exact HI134.out))) : g134 ≠ gb144)); have n6_ := Aside0.mk ((by rw [hg]; exact Nat.ne_of_gt (IsS66.lt (show IsS66 w _ g134 x135000_3 x135001_3 x135002_3 from by repeat (first | (with_reducible first | exact HI134.out | apply IsS66.alloc | apply IsS66.drewN | apply IsS66.drew | apply IsS66.set_0 | apply IsS66.set_1 | apply IsS66.set_2) | exact HI134.out))) : gb144 ≠ g134)); clear HI134; clear HB; have HI134 := n0_; have HB := n1_; have BK144 := n2_; have GW144 := n3_; have GE144 := n4_; have NB134_144 := n5_; have NB144_134 := n6_; clear n0_ n1_ n2_ n3_ n4_ n5_ n6_; clear hb hbox hg; have hnb24 := NB144_134.out; have hnc24 := NB134_144.out; have hcz25_0 : w23.cell? ⟨gb144, 0, none⟩ = some (.int .i64 0) := (blk_cell BK144.out 0).trans rfl; have hcz25_1 : w23.cell? ⟨gb144, 1, none⟩ = some (.int .i64 0) := (blk_cell BK144.out 1).trans rfl; have hcz25_2 : w23.cell? ⟨gb144, 2, none⟩ = some (.bool false) := (blk_cell BK144.out 2).trans rfl; have hfz25_0 := blk_frozen BK144.out 0; have hfz25_1 := blk_frozen BK144.out 1; have hfz25_2 := blk_frozen BK144.out 2))
                          go_roundg k3
                          case measure => have := HJ6.out; have := HJ11.out; have := HK3.out; omega
                          case rel => exact ⟨(wrap64 (x33_3 + 1)), (x135000_3), (x135001_3), (x135002_3), (by first | rfl | (simp; done) | (simp [*]; done)), H', ⟨by have := HJ6.out; have := HJ11.out; have := HK3.out; omega⟩, ⟨by repeat (first | (with_reducible first | exact HI134.out | apply IsS66.alloc | apply IsS66.drewN | apply IsS66.drew | apply IsS66.set_0 | apply IsS66.set_1 | apply IsS66.set_2 | refine IsS66.far ?_ NB134_144.out _) | exact HI134.out)⟩, ⟨by repeat (first | (with_reducible first | exact HB.out | apply below_alloc | apply pw_below_drewN | apply below_drew1 | refine below_set ?_ (IsS66.ge HI134.out) | refine below_set ?_ GE144.out) | exact HB.out)⟩⟩
                        · rw [if_neg c22] at H
                          have c22b0 : (((rd_T49 l3 x33_3).f1) == a0) = false := beq_eq_false_iff_ne.mpr c22
                          have c22b1 : (((rd_T49 l3 x33_3).f1) != a0) = true := bne_iff_ne.mpr c22
                          by_cases c26 : ((rd_T49 l3 x33_3).f0) = 0
                          · rw [if_pos c26] at H
                            have c26b0 : (((rd_T49 l3 x33_3).f0) == 0) = true := beq_iff_eq.mpr c26
                            have c26b1 : (((rd_T49 l3 x33_3).f0) != 0) = false := bne_eq_false_iff_eq.mpr c26
                            clear c26
                            replace H := Option.bind_eq_some_iff.mp H
                            obtain ⟨⟨t145, t146, t147, t148⟩, A270, H⟩ := H
                            replace H : (if t145 = true then (some false) else (countermandlaw19_TokenWaits.l0 k3 a0 a1 a2 l3 (l3.length : Int) (wrap64 (x33_3 + 1)) t146 t147 t148)) = some r := H
                            have A27 := Aside0.mk A270
                            clear A270
                            by_cases c28 : t145 = true
                            · subst c28
                              have H1 : (some false) = some r := by rw [if_pos rfl] at H; exact H
                              clear H
                              have H := H1
                              clear H1
                              obtain rfl := Option.some.inj H
                              have p143 : 0 ≤ (x33_3 : Int) := of_decide_eq_true (by first | (with_reducible assumption) | assumption)
                              have q143 : x33_3 < (l3.length : Int) := of_decide_eq_true (by first | (with_reducible assumption) | assumption)
                              obtain ⟨ad143, e143, hx143_0, hx143_1, hx143_2⟩ := at_T49 HR3.out x33_3 p143 q143
                              cases e143
                              replace hx143_0 := (HB.out.cell (World.block_lt_of_cell? w _ hx143_0)).trans hx143_0
                              replace hx143_1 := (HB.out.cell (World.block_lt_of_cell? w _ hx143_1)).trans hx143_1
                              replace hx143_2 := (HB.out.cell (World.block_lt_of_cell? w _ hx143_2)).trans hx143_2
                              replace p143 := eq_true p143
                              replace q143 := eq_true q143
                              go_wp2_with (first | ((with_reducible refine gate_dst (N := 11) rfl ?_); refine box_event ?hg (N := 11) ?hd (cs := #[.int .i64 0, .int .i64 0, .bool false]) (t := 49) ?hr ?_; (case hd => rfl); (case hg => rfl); (case hr => first | (go_simp; done) | (go_simp; rfl)); intro gb144 hg w29 hbox hb; have n0_ := Aside0.mk (IsS66.below (by repeat (first | (with_reducible first | exact HI134.out | apply IsS66.alloc | apply IsS66.drewN | apply IsS66.drew | apply IsS66.set_0 | apply IsS66.set_1 | apply IsS66.set_2) | exact HI134.out)) hb); have n1_ := Aside0.mk (below_step (by repeat (first | (with_reducible first | exact HB.out | apply below_alloc | apply pw_below_drewN | apply below_drew1 | refine below_set ?_ (IsS66.ge HI134.out)) | exact HB.out)) hb); have n2_ := Aside0.mk (hbox); have n3_ := Aside0.mk ((by rw [hg]; exact (below_size (by repeat (first | (with_reducible first | exact HB.out | apply below_alloc | apply pw_below_drewN | apply below_drew1 | refine below_set ?_ (IsS66.ge HI134.out)) | exact HB.out))) : w.heap.size ≤ gb144)); have n4_ := Aside0.mk ((by rw [hg]; exact (below_size (by repeat (first | (with_reducible first | exact HB.out | apply below_alloc | apply pw_below_drewN | apply below_drew1 | refine below_set ?_ (IsS66.ge HI134.out)) | exact HB.out))) : w.heap.size ≤ gb144)); have n5_ := Aside0.mk ((by rw [hg]; exact Nat.ne_of_lt (IsS66.lt (show IsS66 w _ g134 x135000_3 x135001_3 x135002_3 from by repeat (first | (with_reducible first | exact HI134.out | apply IsS66.alloc | apply IsS66.drewN | apply IsS66.drew | apply IsS66.set_0 | apply IsS66.set_1 | apply IsS66.set_2) | exact HI134.out))) : g134 ≠ gb144)); have n6_ := Aside0.mk ((by rw [hg]; exact Nat.ne_of_gt (IsS66.lt (show IsS66 w _ g134 x135000_3 x135001_3 x135002_3 from by repeat (first | (with_reducible first | exact HI134.out | apply IsS66.alloc | apply IsS66.drewN | apply IsS66.drew | apply IsS66.set_0 | apply IsS66.set_1 | apply IsS66.set_2) | exact HI134.out))) : gb144 ≠ g134)); clear HI134; clear HB; have HI134 := n0_; have HB := n1_; have BK144 := n2_; have GW144 := n3_; have GE144 := n4_; have NB134_144 := n5_; have NB144_134 := n6_; clear n0_ n1_ n2_ n3_ n4_ n5_ n6_; clear hb hbox hg; have hnb30 := NB144_134.out; have hnc30 := NB134_144.out; have hcz31_0 : w29.cell? ⟨gb144, 0, none⟩ = some (.int .i64 0) := (blk_cell BK144.out 0).trans rfl; have hcz31_1 : w29.cell? ⟨gb144, 1, none⟩ = some (.int .i64 0) := (blk_cell BK144.out 1).trans rfl; have hcz31_2 : w29.cell? ⟨gb144, 2, none⟩ = some (.bool false) := (blk_cell BK144.out 2).trans rfl; have hfz31_0 := blk_frozen BK144.out 0; have hfz31_1 := blk_frozen BK144.out 1; have hfz31_2 := blk_frozen BK144.out 2) | ((with_reducible refine gate_callee (f := 26) rfl ?_); refine goesL_ (some 50) rfl rfl Try.func26 (by kernel_rfl) rfl #[.pointer (some ⟨g134, 0, none⟩), .int .i64 ((rd_T49 l3 x33_3).f1), .bool ((rd_T49 l3 x33_3).f2)] rfl (by (try simp only [List.map_toArray, List.map_cons, List.map_nil]); first | done | rfl | (simp only [List.length_drop, List.length_take]; rfl)) ?_; (with_reducible refine (token_Token_Take.calls g134 x135000_3 x135001_3 x135002_3 ((rd_T49 l3 x33_3).f1) ((rd_T49 l3 x33_3).f2) true t146 t147 t148 w _ ?side1 ?side2 A27.out).mono ?_); (case side1 => repeat (first | (with_reducible first | exact HI134.out | apply IsS66.alloc | apply IsS66.drewN | apply IsS66.drew | apply IsS66.set_0 | apply IsS66.set_1 | apply IsS66.set_2 | refine IsS66.far ?_ NB134_144.out _) | exact HI134.out)); (case side2 => repeat (first | (with_reducible first | exact HB.out | apply below_alloc | apply pw_below_drewN | apply below_drew1 | refine below_set ?_ (IsS66.ge HI134.out) | refine below_set ?_ GE144.out) | exact HB.out)); rintro e w32 ⟨rfl, hi, hb, hk⟩; refine ⟨_, rfl, ?_⟩; have n0_ := Aside0.mk (KeepBut.blk hk (g' := gb144) (o := .cells #[.int .i64 ((rd_T49 l3 x33_3).f0), .int .i64 ((rd_T49 l3 x33_3).f1), .bool ((rd_T49 l3 x33_3).f2)] 49 (0, 0)) (by (with_reducible repeat (first | refine blk_drewN ?_ _ | refine blk_drew ?_ | refine blk_alloc ?_ _)); refine blk_put (cs := #[.int .i64 ((rd_T49 l3 x33_3).f0), .int .i64 ((rd_T49 l3 x33_3).f1), .bool false]) ?_ 2 _ rfl; (with_reducible repeat (first | refine blk_drewN ?_ _ | refine blk_drew ?_ | refine blk_alloc ?_ _)); refine blk_put (cs := #[.int .i64 ((rd_T49 l3 x33_3).f0), .int .i64 0, .bool false]) ?_ 1 _ rfl; (with_reducible repeat (first | refine blk_drewN ?_ _ | refine blk_drew ?_ | refine blk_alloc ?_ _)); refine blk_put (cs := #[.int .i64 0, .int .i64 0, .bool false]) ?_ 0 _ rfl; (with_reducible repeat (first | refine blk_drewN ?_ _ | refine blk_drew ?_ | refine blk_alloc ?_ _)); exact BK144.out) NB144_134.out (by simp)); have n1_ := Aside0.mk (hb); have n2_ := Aside0.mk (hi); clear BK144; clear HB; clear HI134; have BK144 := n0_; have HB := n1_; have HI134 := n2_; clear n0_ n1_ n2_; (try clear hb); (try clear hb2); (try clear hk); (try clear hi)))
                              go_ret
                              exact ⟨by first | rfl | (simp [errW_none, errW_some] <;> rfl) | (simp [*, errW_none, errW_some] <;> rfl), by repeat (first | (with_reducible first | exact HB.out | apply below_alloc | apply pw_below_drewN | apply below_drew1 | refine below_set ?_ (IsS66.ge HI134.out) | refine below_set ?_ GE144.out) | exact HB.out)⟩
                            · replace c28 := Bool.eq_false_iff.mpr c28
                              subst c28
                              have H1 : (countermandlaw19_TokenWaits.l0 k3 a0 a1 a2 l3 (l3.length : Int) (wrap64 (x33_3 + 1)) t146 t147 t148) = some r := by rw [if_neg (show ¬ (false = true) by decide)] at H; exact H
                              clear H
                              have H := H1
                              clear H1
                              have H' := Aside0.mk H
                              clear H
                              have p143 : 0 ≤ (x33_3 : Int) := of_decide_eq_true (by first | (with_reducible assumption) | assumption)
                              have q143 : x33_3 < (l3.length : Int) := of_decide_eq_true (by first | (with_reducible assumption) | assumption)
                              obtain ⟨ad143, e143, hx143_0, hx143_1, hx143_2⟩ := at_T49 HR3.out x33_3 p143 q143
                              cases e143
                              replace hx143_0 := (HB.out.cell (World.block_lt_of_cell? w _ hx143_0)).trans hx143_0
                              replace hx143_1 := (HB.out.cell (World.block_lt_of_cell? w _ hx143_1)).trans hx143_1
                              replace hx143_2 := (HB.out.cell (World.block_lt_of_cell? w _ hx143_2)).trans hx143_2
                              replace p143 := eq_true p143
                              replace q143 := eq_true q143
                              go_wp2_with (first | ((with_reducible refine gate_dst (N := 11) rfl ?_); refine box_event ?hg (N := 11) ?hd (cs := #[.int .i64 0, .int .i64 0, .bool false]) (t := 49) ?hr ?_; (case hd => rfl); (case hg => rfl); (case hr => first | (go_simp; done) | (go_simp; rfl)); intro gb144 hg w33 hbox hb; have n0_ := Aside0.mk (IsS66.below (by repeat (first | (with_reducible first | exact HI134.out | apply IsS66.alloc | apply IsS66.drewN | apply IsS66.drew | apply IsS66.set_0 | apply IsS66.set_1 | apply IsS66.set_2) | exact HI134.out)) hb); have n1_ := Aside0.mk (below_step (by repeat (first | (with_reducible first | exact HB.out | apply below_alloc | apply pw_below_drewN | apply below_drew1 | refine below_set ?_ (IsS66.ge HI134.out)) | exact HB.out)) hb); have n2_ := Aside0.mk (hbox); have n3_ := Aside0.mk ((by rw [hg]; exact (below_size (by repeat (first | (with_reducible first | exact HB.out | apply below_alloc | apply pw_below_drewN | apply below_drew1 | refine below_set ?_ (IsS66.ge HI134.out)) | exact HB.out))) : w.heap.size ≤ gb144)); have n4_ := Aside0.mk ((by rw [hg]; exact (below_size (by repeat (first | (with_reducible first | exact HB.out | apply below_alloc | apply pw_below_drewN | apply below_drew1 | refine below_set ?_ (IsS66.ge HI134.out)) | exact HB.out))) : w.heap.size ≤ gb144)); have n5_ := Aside0.mk ((by rw [hg]; exact Nat.ne_of_lt (IsS66.lt (show IsS66 w _ g134 x135000_3 x135001_3 x135002_3 from by repeat (first | (with_reducible first | exact HI134.out | apply IsS66.alloc | apply IsS66.drewN | apply IsS66.drew | apply IsS66.set_0 | apply IsS66.set_1 | apply IsS66.set_2) | exact HI134.out))) : g134 ≠ gb144)); have n6_ := Aside0.mk ((by rw [hg]; exact Nat.ne_of_gt (IsS66.lt (show IsS66 w _ g134 x135000_3 x135001_3 x135002_3 from by repeat (first | (with_reducible first | exact HI134.out | apply IsS66.alloc | apply IsS66.drewN | apply IsS66.drew | apply IsS66.set_0 | apply IsS66.set_1 | apply IsS66.set_2) | exact HI134.out))) : gb144 ≠ g134)); clear HI134; clear HB; have HI134 := n0_; have HB := n1_; have BK144 := n2_; have GW144 := n3_; have GE144 := n4_; have NB134_144 := n5_; have NB144_134 := n6_; clear n0_ n1_ n2_ n3_ n4_ n5_ n6_; clear hb hbox hg; have hnb34 := NB144_134.out; have hnc34 := NB134_144.out; have hcz35_0 : w33.cell? ⟨gb144, 0, none⟩ = some (.int .i64 0) := (blk_cell BK144.out 0).trans rfl; have hcz35_1 : w33.cell? ⟨gb144, 1, none⟩ = some (.int .i64 0) := (blk_cell BK144.out 1).trans rfl; have hcz35_2 : w33.cell? ⟨gb144, 2, none⟩ = some (.bool false) := (blk_cell BK144.out 2).trans rfl; have hfz35_0 := blk_frozen BK144.out 0; have hfz35_1 := blk_frozen BK144.out 1; have hfz35_2 := blk_frozen BK144.out 2) | ((with_reducible refine gate_callee (f := 26) rfl ?_); refine goesL_ (some 50) rfl rfl Try.func26 (by kernel_rfl) rfl #[.pointer (some ⟨g134, 0, none⟩), .int .i64 ((rd_T49 l3 x33_3).f1), .bool ((rd_T49 l3 x33_3).f2)] rfl (by (try simp only [List.map_toArray, List.map_cons, List.map_nil]); first | done | rfl | (simp only [List.length_drop, List.length_take]; rfl)) ?_; (with_reducible refine (token_Token_Take.calls g134 x135000_3 x135001_3 x135002_3 ((rd_T49 l3 x33_3).f1) ((rd_T49 l3 x33_3).f2) false t146 t147 t148 w _ ?side1 ?side2 A27.out).mono ?_); (case side1 => repeat (first | (with_reducible first | exact HI134.out | apply IsS66.alloc | apply IsS66.drewN | apply IsS66.drew | apply IsS66.set_0 | apply IsS66.set_1 | apply IsS66.set_2 | refine IsS66.far ?_ NB134_144.out _) | exact HI134.out)); (case side2 => repeat (first | (with_reducible first | exact HB.out | apply below_alloc | apply pw_below_drewN | apply below_drew1 | refine below_set ?_ (IsS66.ge HI134.out) | refine below_set ?_ GE144.out) | exact HB.out)); rintro e w36 ⟨rfl, hi, hb, hk⟩; refine ⟨_, rfl, ?_⟩; have n0_ := Aside0.mk (KeepBut.blk hk (g' := gb144) (o := .cells #[.int .i64 ((rd_T49 l3 x33_3).f0), .int .i64 ((rd_T49 l3 x33_3).f1), .bool ((rd_T49 l3 x33_3).f2)] 49 (0, 0)) (by (with_reducible repeat (first | refine blk_drewN ?_ _ | refine blk_drew ?_ | refine blk_alloc ?_ _)); refine blk_put (cs := #[.int .i64 ((rd_T49 l3 x33_3).f0), .int .i64 ((rd_T49 l3 x33_3).f1), .bool false]) ?_ 2 _ rfl; (with_reducible repeat (first | refine blk_drewN ?_ _ | refine blk_drew ?_ | refine blk_alloc ?_ _)); refine blk_put (cs := #[.int .i64 ((rd_T49 l3 x33_3).f0), .int .i64 0, .bool false]) ?_ 1 _ rfl; (with_reducible repeat (first | refine blk_drewN ?_ _ | refine blk_drew ?_ | refine blk_alloc ?_ _)); refine blk_put (cs := #[.int .i64 0, .int .i64 0, .bool false]) ?_ 0 _ rfl; (with_reducible repeat (first | refine blk_drewN ?_ _ | refine blk_drew ?_ | refine blk_alloc ?_ _)); exact BK144.out) NB144_134.out (by simp)); have n1_ := Aside0.mk (hb); have n2_ := Aside0.mk (hi); clear BK144; clear HB; clear HI134; have BK144 := n0_; have HB := n1_; have HI134 := n2_; clear n0_ n1_ n2_; (try clear hb); (try clear hb2); (try clear hk); (try clear hi)))
                              go_roundg k3
                              case measure => have := HJ6.out; have := HJ11.out; have := HK3.out; omega
                              case rel => exact ⟨(wrap64 (x33_3 + 1)), (t146), (t147), (t148), (by first | rfl | (simp; done) | (simp [*]; done)), H', ⟨by have := HJ6.out; have := HJ11.out; have := HK3.out; omega⟩, ⟨by repeat (first | (with_reducible first | exact HI134.out | apply IsS66.alloc | apply IsS66.drewN | apply IsS66.drew | apply IsS66.set_0 | apply IsS66.set_1 | apply IsS66.set_2 | refine IsS66.far ?_ NB134_144.out _) | exact HI134.out)⟩, ⟨by repeat (first | (with_reducible first | exact HB.out | apply below_alloc | apply pw_below_drewN | apply below_drew1 | refine below_set ?_ (IsS66.ge HI134.out) | refine below_set ?_ GE144.out) | exact HB.out)⟩⟩
                          · rw [if_neg c26] at H
                            have c26b0 : (((rd_T49 l3 x33_3).f0) == 0) = false := beq_eq_false_iff_ne.mpr c26
                            have c26b1 : (((rd_T49 l3 x33_3).f0) != 0) = true := bne_iff_ne.mpr c26
                            by_cases c37 : ((rd_T49 l3 x33_3).f0) = 1
                            · rw [if_pos c37] at H
                              have c37b0 : (((rd_T49 l3 x33_3).f0) == 1) = true := beq_iff_eq.mpr c37
                              have c37b1 : (((rd_T49 l3 x33_3).f0) != 1) = false := bne_eq_false_iff_eq.mpr c37
                              clear c37
                              replace H := Option.bind_eq_some_iff.mp H
                              obtain ⟨⟨t149, t150, t151, t152⟩, A380, H⟩ := H
                              replace H : (if t149 = true then (some false) else (countermandlaw19_TokenWaits.l0 k3 a0 a1 a2 l3 (l3.length : Int) (wrap64 (x33_3 + 1)) t150 t151 t152)) = some r := H
                              have A38 := Aside0.mk A380
                              clear A380
                              by_cases c39 : t149 = true
                              · subst c39
                                have H1 : (some false) = some r := by rw [if_pos rfl] at H; exact H
                                clear H
                                have H := H1
                                clear H1
                                obtain rfl := Option.some.inj H
                                have p143 : 0 ≤ (x33_3 : Int) := of_decide_eq_true (by first | (with_reducible assumption) | assumption)
                                have q143 : x33_3 < (l3.length : Int) := of_decide_eq_true (by first | (with_reducible assumption) | assumption)
                                obtain ⟨ad143, e143, hx143_0, hx143_1, hx143_2⟩ := at_T49 HR3.out x33_3 p143 q143
                                cases e143
                                replace hx143_0 := (HB.out.cell (World.block_lt_of_cell? w _ hx143_0)).trans hx143_0
                                replace hx143_1 := (HB.out.cell (World.block_lt_of_cell? w _ hx143_1)).trans hx143_1
                                replace hx143_2 := (HB.out.cell (World.block_lt_of_cell? w _ hx143_2)).trans hx143_2
                                replace p143 := eq_true p143
                                replace q143 := eq_true q143
                                go_wp2_with (first | ((with_reducible refine gate_dst (N := 11) rfl ?_); refine box_event ?hg (N := 11) ?hd (cs := #[.int .i64 0, .int .i64 0, .bool false]) (t := 49) ?hr ?_; (case hd => rfl); (case hg => rfl); (case hr => first | (go_simp; done) | (go_simp; rfl)); intro gb144 hg w40 hbox hb; have n0_ := Aside0.mk (IsS66.below (by repeat (first | (with_reducible first | exact HI134.out | apply IsS66.alloc | apply IsS66.drewN | apply IsS66.drew | apply IsS66.set_0 | apply IsS66.set_1 | apply IsS66.set_2) | exact HI134.out)) hb); have n1_ := Aside0.mk (below_step (by repeat (first | (with_reducible first | exact HB.out | apply below_alloc | apply pw_below_drewN | apply below_drew1 | refine below_set ?_ (IsS66.ge HI134.out)) | exact HB.out)) hb); have n2_ := Aside0.mk (hbox); have n3_ := Aside0.mk ((by rw [hg]; exact (below_size (by repeat (first | (with_reducible first | exact HB.out | apply below_alloc | apply pw_below_drewN | apply below_drew1 | refine below_set ?_ (IsS66.ge HI134.out)) | exact HB.out))) : w.heap.size ≤ gb144)); have n4_ := Aside0.mk ((by rw [hg]; exact (below_size (by repeat (first | (with_reducible first | exact HB.out | apply below_alloc | apply pw_below_drewN | apply below_drew1 | refine below_set ?_ (IsS66.ge HI134.out)) | exact HB.out))) : w.heap.size ≤ gb144)); have n5_ := Aside0.mk ((by rw [hg]; exact Nat.ne_of_lt (IsS66.lt (show IsS66 w _ g134 x135000_3 x135001_3 x135002_3 from by repeat (first | (with_reducible first | exact HI134.out | apply IsS66.alloc | apply IsS66.drewN | apply IsS66.drew | apply IsS66.set_0 | apply IsS66.set_1 | apply IsS66.set_2) | exact HI134.out))) : g134 ≠ gb144)); have n6_ := Aside0.mk ((by rw [hg]; exact Nat.ne_of_gt (IsS66.lt (show IsS66 w _ g134 x135000_3 x135001_3 x135002_3 from by repeat (first | (with_reducible first | exact HI134.out | apply IsS66.alloc | apply IsS66.drewN | apply IsS66.drew | apply IsS66.set_0 | apply IsS66.set_1 | apply IsS66.set_2) | exact HI134.out))) : gb144 ≠ g134)); clear HI134; clear HB; have HI134 := n0_; have HB := n1_; have BK144 := n2_; have GW144 := n3_; have GE144 := n4_; have NB134_144 := n5_; have NB144_134 := n6_; clear n0_ n1_ n2_ n3_ n4_ n5_ n6_; clear hb hbox hg; have hnb41 := NB144_134.out; have hnc41 := NB134_144.out; have hcz42_0 : w40.cell? ⟨gb144, 0, none⟩ = some (.int .i64 0) := (blk_cell BK144.out 0).trans rfl; have hcz42_1 : w40.cell? ⟨gb144, 1, none⟩ = some (.int .i64 0) := (blk_cell BK144.out 1).trans rfl; have hcz42_2 : w40.cell? ⟨gb144, 2, none⟩ = some (.bool false) := (blk_cell BK144.out 2).trans rfl; have hfz42_0 := blk_frozen BK144.out 0; have hfz42_1 := blk_frozen BK144.out 1; have hfz42_2 := blk_frozen BK144.out 2) | ((with_reducible refine gate_callee (f := 27) rfl ?_); refine goesL_ (some 56) rfl rfl Try.func27 (by kernel_rfl) rfl #[.pointer (some ⟨g134, 0, none⟩), .int .i64 ((rd_T49 l3 x33_3).f1)] rfl (by (try simp only [List.map_toArray, List.map_cons, List.map_nil]); first | done | rfl | (simp only [List.length_drop, List.length_take]; rfl)) ?_; (with_reducible refine (token_Token_Lock.calls g134 x135000_3 x135001_3 x135002_3 ((rd_T49 l3 x33_3).f1) true t150 t151 t152 w _ ?side1 ?side2 A38.out).mono ?_); (case side1 => repeat (first | (with_reducible first | exact HI134.out | apply IsS66.alloc | apply IsS66.drewN | apply IsS66.drew | apply IsS66.set_0 | apply IsS66.set_1 | apply IsS66.set_2 | refine IsS66.far ?_ NB134_144.out _) | exact HI134.out)); (case side2 => repeat (first | (with_reducible first | exact HB.out | apply below_alloc | apply pw_below_drewN | apply below_drew1 | refine below_set ?_ (IsS66.ge HI134.out) | refine below_set ?_ GE144.out) | exact HB.out)); rintro e w43 ⟨rfl, hi, hb, hk⟩; refine ⟨_, rfl, ?_⟩; have n0_ := Aside0.mk (KeepBut.blk hk (g' := gb144) (o := .cells #[.int .i64 ((rd_T49 l3 x33_3).f0), .int .i64 ((rd_T49 l3 x33_3).f1), .bool ((rd_T49 l3 x33_3).f2)] 49 (0, 0)) (by (with_reducible repeat (first | refine blk_drewN ?_ _ | refine blk_drew ?_ | refine blk_alloc ?_ _)); refine blk_put (cs := #[.int .i64 ((rd_T49 l3 x33_3).f0), .int .i64 ((rd_T49 l3 x33_3).f1), .bool false]) ?_ 2 _ rfl; (with_reducible repeat (first | refine blk_drewN ?_ _ | refine blk_drew ?_ | refine blk_alloc ?_ _)); refine blk_put (cs := #[.int .i64 ((rd_T49 l3 x33_3).f0), .int .i64 0, .bool false]) ?_ 1 _ rfl; (with_reducible repeat (first | refine blk_drewN ?_ _ | refine blk_drew ?_ | refine blk_alloc ?_ _)); refine blk_put (cs := #[.int .i64 0, .int .i64 0, .bool false]) ?_ 0 _ rfl; (with_reducible repeat (first | refine blk_drewN ?_ _ | refine blk_drew ?_ | refine blk_alloc ?_ _)); exact BK144.out) NB144_134.out (by simp)); have n1_ := Aside0.mk (hb); have n2_ := Aside0.mk (hi); clear BK144; clear HB; clear HI134; have BK144 := n0_; have HB := n1_; have HI134 := n2_; clear n0_ n1_ n2_; (try clear hb); (try clear hb2); (try clear hk); (try clear hi)))
                                go_ret
                                exact ⟨by first | rfl | (simp [errW_none, errW_some] <;> rfl) | (simp [*, errW_none, errW_some] <;> rfl), by repeat (first | (with_reducible first | exact HB.out | apply below_alloc | apply pw_below_drewN | apply below_drew1 | refine below_set ?_ (IsS66.ge HI134.out) | refine below_set ?_ GE144.out) | exact HB.out)⟩
                              · replace c39 := Bool.eq_false_iff.mpr c39
                                subst c39
                                have H1 : (countermandlaw19_TokenWaits.l0 k3 a0 a1 a2 l3 (l3.length : Int) (wrap64 (x33_3 + 1)) t150 t151 t152) = some r := by rw [if_neg (show ¬ (false = true) by decide)] at H; exact H
                                clear H
                                have H := H1
                                clear H1
                                have H' := Aside0.mk H
                                clear H
                                have p143 : 0 ≤ (x33_3 : Int) := of_decide_eq_true (by first | (with_reducible assumption) | assumption)
                                have q143 : x33_3 < (l3.length : Int) := of_decide_eq_true (by first | (with_reducible assumption) | assumption)
                                obtain ⟨ad143, e143, hx143_0, hx143_1, hx143_2⟩ := at_T49 HR3.out x33_3 p143 q143
                                cases e143
                                replace hx143_0 := (HB.out.cell (World.block_lt_of_cell? w _ hx143_0)).trans hx143_0
                                replace hx143_1 := (HB.out.cell (World.block_lt_of_cell? w _ hx143_1)).trans hx143_1
                                replace hx143_2 := (HB.out.cell (World.block_lt_of_cell? w _ hx143_2)).trans hx143_2
                                replace p143 := eq_true p143
                                replace q143 := eq_true q143
                                go_wp2_with (first | ((with_reducible refine gate_dst (N := 11) rfl ?_); refine box_event ?hg (N := 11) ?hd (cs := #[.int .i64 0, .int .i64 0, .bool false]) (t := 49) ?hr ?_; (case hd => rfl); (case hg => rfl); (case hr => first | (go_simp; done) | (go_simp; rfl)); intro gb144 hg w44 hbox hb; have n0_ := Aside0.mk (IsS66.below (by repeat (first | (with_reducible first | exact HI134.out | apply IsS66.alloc | apply IsS66.drewN | apply IsS66.drew | apply IsS66.set_0 | apply IsS66.set_1 | apply IsS66.set_2) | exact HI134.out)) hb); have n1_ := Aside0.mk (below_step (by repeat (first | (with_reducible first | exact HB.out | apply below_alloc | apply pw_below_drewN | apply below_drew1 | refine below_set ?_ (IsS66.ge HI134.out)) | exact HB.out)) hb); have n2_ := Aside0.mk (hbox); have n3_ := Aside0.mk ((by rw [hg]; exact (below_size (by repeat (first | (with_reducible first | exact HB.out | apply below_alloc | apply pw_below_drewN | apply below_drew1 | refine below_set ?_ (IsS66.ge HI134.out)) | exact HB.out))) : w.heap.size ≤ gb144)); have n4_ := Aside0.mk ((by rw [hg]; exact (below_size (by repeat (first | (with_reducible first | exact HB.out | apply below_alloc | apply pw_below_drewN | apply below_drew1 | refine below_set ?_ (IsS66.ge HI134.out)) | exact HB.out))) : w.heap.size ≤ gb144)); have n5_ := Aside0.mk ((by rw [hg]; exact Nat.ne_of_lt (IsS66.lt (show IsS66 w _ g134 x135000_3 x135001_3 x135002_3 from by repeat (first | (with_reducible first | exact HI134.out | apply IsS66.alloc | apply IsS66.drewN | apply IsS66.drew | apply IsS66.set_0 | apply IsS66.set_1 | apply IsS66.set_2) | exact HI134.out))) : g134 ≠ gb144)); have n6_ := Aside0.mk ((by rw [hg]; exact Nat.ne_of_gt (IsS66.lt (show IsS66 w _ g134 x135000_3 x135001_3 x135002_3 from by repeat (first | (with_reducible first | exact HI134.out | apply IsS66.alloc | apply IsS66.drewN | apply IsS66.drew | apply IsS66.set_0 | apply IsS66.set_1 | apply IsS66.set_2) | exact HI134.out))) : gb144 ≠ g134)); clear HI134; clear HB; have HI134 := n0_; have HB := n1_; have BK144 := n2_; have GW144 := n3_; have GE144 := n4_; have NB134_144 := n5_; have NB144_134 := n6_; clear n0_ n1_ n2_ n3_ n4_ n5_ n6_; clear hb hbox hg; have hnb45 := NB144_134.out; have hnc45 := NB134_144.out; have hcz46_0 : w44.cell? ⟨gb144, 0, none⟩ = some (.int .i64 0) := (blk_cell BK144.out 0).trans rfl; have hcz46_1 : w44.cell? ⟨gb144, 1, none⟩ = some (.int .i64 0) := (blk_cell BK144.out 1).trans rfl; have hcz46_2 : w44.cell? ⟨gb144, 2, none⟩ = some (.bool false) := (blk_cell BK144.out 2).trans rfl; have hfz46_0 := blk_frozen BK144.out 0; have hfz46_1 := blk_frozen BK144.out 1; have hfz46_2 := blk_frozen BK144.out 2) | ((with_reducible refine gate_callee (f := 27) rfl ?_); refine goesL_ (some 56) rfl rfl Try.func27 (by kernel_rfl) rfl #[.pointer (some ⟨g134, 0, none⟩), .int .i64 ((rd_T49 l3 x33_3).f1)] rfl (by (try simp only [List.map_toArray, List.map_cons, List.map_nil]); first | done | rfl | (simp only [List.length_drop, List.length_take]; rfl)) ?_; (with_reducible refine (token_Token_Lock.calls g134 x135000_3 x135001_3 x135002_3 ((rd_T49 l3 x33_3).f1) false t150 t151 t152 w _ ?side1 ?side2 A38.out).mono ?_); (case side1 => repeat (first | (with_reducible first | exact HI134.out | apply IsS66.alloc | apply IsS66.drewN | apply IsS66.drew | apply IsS66.set_0 | apply IsS66.set_1 | apply IsS66.set_2 | refine IsS66.far ?_ NB134_144.out _) | exact HI134.out)); (case side2 => repeat (first | (with_reducible first | exact HB.out | apply below_alloc | apply pw_below_drewN | apply below_drew1 | refine below_set ?_ (IsS66.ge HI134.out) | refine below_set ?_ GE144.out) | exact HB.out)); rintro e w47 ⟨rfl, hi, hb, hk⟩; refine ⟨_, rfl, ?_⟩; have n0_ := Aside0.mk (KeepBut.blk hk (g' := gb144) (o := .cells #[.int .i64 ((rd_T49 l3 x33_3).f0), .int .i64 ((rd_T49 l3 x33_3).f1), .bool ((rd_T49 l3 x33_3).f2)] 49 (0, 0)) (by (with_reducible repeat (first | refine blk_drewN ?_ _ | refine blk_drew ?_ | refine blk_alloc ?_ _)); refine blk_put (cs := #[.int .i64 ((rd_T49 l3 x33_3).f0), .int .i64 ((rd_T49 l3 x33_3).f1), .bool false]) ?_ 2 _ rfl; (with_reducible repeat (first | refine blk_drewN ?_ _ | refine blk_drew ?_ | refine blk_alloc ?_ _)); refine blk_put (cs := #[.int .i64 ((rd_T49 l3 x33_3).f0), .int .i64 0, .bool false]) ?_ 1 _ rfl; (with_reducible repeat (first | refine blk_drewN ?_ _ | refine blk_drew ?_ | refine blk_alloc ?_ _)); refine blk_put (cs := #[.int .i64 0, .int .i64 0, .bool false]) ?_ 0 _ rfl; (with_reducible repeat (first | refine blk_drewN ?_ _ | refine blk_drew ?_ | refine blk_alloc ?_ _)); exact BK144.out) NB144_134.out (by simp)); have n1_ := Aside0.mk (hb); have n2_ := Aside0.mk (hi); clear BK144; clear HB; clear HI134; have BK144 := n0_; have HB := n1_; have HI134 := n2_; clear n0_ n1_ n2_; (try clear hb); (try clear hb2); (try clear hk); (try clear hi)))
                                go_roundg k3
                                case measure => have := HJ6.out; have := HJ11.out; have := HK3.out; omega
                                case rel => exact ⟨(wrap64 (x33_3 + 1)), (t150), (t151), (t152), (by first | rfl | (simp; done) | (simp [*]; done)), H', ⟨by have := HJ6.out; have := HJ11.out; have := HK3.out; omega⟩, ⟨by repeat (first | (with_reducible first | exact HI134.out | apply IsS66.alloc | apply IsS66.drewN | apply IsS66.drew | apply IsS66.set_0 | apply IsS66.set_1 | apply IsS66.set_2 | refine IsS66.far ?_ NB134_144.out _) | exact HI134.out)⟩, ⟨by repeat (first | (with_reducible first | exact HB.out | apply below_alloc | apply pw_below_drewN | apply below_drew1 | refine below_set ?_ (IsS66.ge HI134.out) | refine below_set ?_ GE144.out) | exact HB.out)⟩⟩
                            · rw [if_neg c37] at H
                              have c37b0 : (((rd_T49 l3 x33_3).f0) == 1) = false := beq_eq_false_iff_ne.mpr c37
                              have c37b1 : (((rd_T49 l3 x33_3).f0) != 1) = true := bne_iff_ne.mpr c37
                              by_cases c48 : ((rd_T49 l3 x33_3).f0) = 2
                              · rw [if_pos c48] at H
                                have c48b0 : (((rd_T49 l3 x33_3).f0) == 2) = true := beq_iff_eq.mpr c48
                                have c48b1 : (((rd_T49 l3 x33_3).f0) != 2) = false := bne_eq_false_iff_eq.mpr c48
                                clear c48
                                replace H := Option.bind_eq_some_iff.mp H
                                obtain ⟨⟨t153, t154, t155, t156⟩, A490, H⟩ := H
                                replace H : (if t153 = true then (some false) else (countermandlaw19_TokenWaits.l0 k3 a0 a1 a2 l3 (l3.length : Int) (wrap64 (x33_3 + 1)) t154 t155 t156)) = some r := H
                                have A49 := Aside0.mk A490
                                clear A490
                                by_cases c50 : t153 = true
                                · subst c50
                                  have H1 : (some false) = some r := by rw [if_pos rfl] at H; exact H
                                  clear H
                                  have H := H1
                                  clear H1
                                  obtain rfl := Option.some.inj H
                                  have p143 : 0 ≤ (x33_3 : Int) := of_decide_eq_true (by first | (with_reducible assumption) | assumption)
                                  have q143 : x33_3 < (l3.length : Int) := of_decide_eq_true (by first | (with_reducible assumption) | assumption)
                                  obtain ⟨ad143, e143, hx143_0, hx143_1, hx143_2⟩ := at_T49 HR3.out x33_3 p143 q143
                                  cases e143
                                  replace hx143_0 := (HB.out.cell (World.block_lt_of_cell? w _ hx143_0)).trans hx143_0
                                  replace hx143_1 := (HB.out.cell (World.block_lt_of_cell? w _ hx143_1)).trans hx143_1
                                  replace hx143_2 := (HB.out.cell (World.block_lt_of_cell? w _ hx143_2)).trans hx143_2
                                  replace p143 := eq_true p143
                                  replace q143 := eq_true q143
                                  go_wp2_with (first | ((with_reducible refine gate_dst (N := 11) rfl ?_); refine box_event ?hg (N := 11) ?hd (cs := #[.int .i64 0, .int .i64 0, .bool false]) (t := 49) ?hr ?_; (case hd => rfl); (case hg => rfl); (case hr => first | (go_simp; done) | (go_simp; rfl)); intro gb144 hg w51 hbox hb; have n0_ := Aside0.mk (IsS66.below (by repeat (first | (with_reducible first | exact HI134.out | apply IsS66.alloc | apply IsS66.drewN | apply IsS66.drew | apply IsS66.set_0 | apply IsS66.set_1 | apply IsS66.set_2) | exact HI134.out)) hb); have n1_ := Aside0.mk (below_step (by repeat (first | (with_reducible first | exact HB.out | apply below_alloc | apply pw_below_drewN | apply below_drew1 | refine below_set ?_ (IsS66.ge HI134.out)) | exact HB.out)) hb); have n2_ := Aside0.mk (hbox); have n3_ := Aside0.mk ((by rw [hg]; exact (below_size (by repeat (first | (with_reducible first | exact HB.out | apply below_alloc | apply pw_below_drewN | apply below_drew1 | refine below_set ?_ (IsS66.ge HI134.out)) | exact HB.out))) : w.heap.size ≤ gb144)); have n4_ := Aside0.mk ((by rw [hg]; exact (below_size (by repeat (first | (with_reducible first | exact HB.out | apply below_alloc | apply pw_below_drewN | apply below_drew1 | refine below_set ?_ (IsS66.ge HI134.out)) | exact HB.out))) : w.heap.size ≤ gb144)); have n5_ := Aside0.mk ((by rw [hg]; exact Nat.ne_of_lt (IsS66.lt (show IsS66 w _ g134 x135000_3 x135001_3 x135002_3 from by repeat (first | (with_reducible first | exact HI134.out | apply IsS66.alloc | apply IsS66.drewN | apply IsS66.drew | apply IsS66.set_0 | apply IsS66.set_1 | apply IsS66.set_2) | exact HI134.out))) : g134 ≠ gb144)); have n6_ := Aside0.mk ((by rw [hg]; exact Nat.ne_of_gt (IsS66.lt (show IsS66 w _ g134 x135000_3 x135001_3 x135002_3 from by repeat (first | (with_reducible first | exact HI134.out | apply IsS66.alloc | apply IsS66.drewN | apply IsS66.drew | apply IsS66.set_0 | apply IsS66.set_1 | apply IsS66.set_2) | exact HI134.out))) : gb144 ≠ g134)); clear HI134; clear HB; have HI134 := n0_; have HB := n1_; have BK144 := n2_; have GW144 := n3_; have GE144 := n4_; have NB134_144 := n5_; have NB144_134 := n6_; clear n0_ n1_ n2_ n3_ n4_ n5_ n6_; clear hb hbox hg; have hnb52 := NB144_134.out; have hnc52 := NB134_144.out; have hcz53_0 : w51.cell? ⟨gb144, 0, none⟩ = some (.int .i64 0) := (blk_cell BK144.out 0).trans rfl; have hcz53_1 : w51.cell? ⟨gb144, 1, none⟩ = some (.int .i64 0) := (blk_cell BK144.out 1).trans rfl; have hcz53_2 : w51.cell? ⟨gb144, 2, none⟩ = some (.bool false) := (blk_cell BK144.out 2).trans rfl; have hfz53_0 := blk_frozen BK144.out 0; have hfz53_1 := blk_frozen BK144.out 1; have hfz53_2 := blk_frozen BK144.out 2) | ((with_reducible refine gate_callee (f := 28) rfl ?_); refine goesL_ (some 62) rfl rfl Try.func28 (by kernel_rfl) rfl #[.pointer (some ⟨g134, 0, none⟩), .int .i64 ((rd_T49 l3 x33_3).f1)] rfl (by (try simp only [List.map_toArray, List.map_cons, List.map_nil]); first | done | rfl | (simp only [List.length_drop, List.length_take]; rfl)) ?_; (with_reducible refine (token_Token_Unlock.calls g134 x135000_3 x135001_3 x135002_3 ((rd_T49 l3 x33_3).f1) true t154 t155 t156 w _ ?side1 ?side2 A49.out).mono ?_); (case side1 => repeat (first | (with_reducible first | exact HI134.out | apply IsS66.alloc | apply IsS66.drewN | apply IsS66.drew | apply IsS66.set_0 | apply IsS66.set_1 | apply IsS66.set_2 | refine IsS66.far ?_ NB134_144.out _) | exact HI134.out)); (case side2 => repeat (first | (with_reducible first | exact HB.out | apply below_alloc | apply pw_below_drewN | apply below_drew1 | refine below_set ?_ (IsS66.ge HI134.out) | refine below_set ?_ GE144.out) | exact HB.out)); rintro e w54 ⟨rfl, hi, hb, hk⟩; refine ⟨_, rfl, ?_⟩; have n0_ := Aside0.mk (KeepBut.blk hk (g' := gb144) (o := .cells #[.int .i64 ((rd_T49 l3 x33_3).f0), .int .i64 ((rd_T49 l3 x33_3).f1), .bool ((rd_T49 l3 x33_3).f2)] 49 (0, 0)) (by (with_reducible repeat (first | refine blk_drewN ?_ _ | refine blk_drew ?_ | refine blk_alloc ?_ _)); refine blk_put (cs := #[.int .i64 ((rd_T49 l3 x33_3).f0), .int .i64 ((rd_T49 l3 x33_3).f1), .bool false]) ?_ 2 _ rfl; (with_reducible repeat (first | refine blk_drewN ?_ _ | refine blk_drew ?_ | refine blk_alloc ?_ _)); refine blk_put (cs := #[.int .i64 ((rd_T49 l3 x33_3).f0), .int .i64 0, .bool false]) ?_ 1 _ rfl; (with_reducible repeat (first | refine blk_drewN ?_ _ | refine blk_drew ?_ | refine blk_alloc ?_ _)); refine blk_put (cs := #[.int .i64 0, .int .i64 0, .bool false]) ?_ 0 _ rfl; (with_reducible repeat (first | refine blk_drewN ?_ _ | refine blk_drew ?_ | refine blk_alloc ?_ _)); exact BK144.out) NB144_134.out (by simp)); have n1_ := Aside0.mk (hb); have n2_ := Aside0.mk (hi); clear BK144; clear HB; clear HI134; have BK144 := n0_; have HB := n1_; have HI134 := n2_; clear n0_ n1_ n2_; (try clear hb); (try clear hb2); (try clear hk); (try clear hi)))
                                  go_ret
                                  exact ⟨by first | rfl | (simp [errW_none, errW_some] <;> rfl) | (simp [*, errW_none, errW_some] <;> rfl), by repeat (first | (with_reducible first | exact HB.out | apply below_alloc | apply pw_below_drewN | apply below_drew1 | refine below_set ?_ (IsS66.ge HI134.out) | refine below_set ?_ GE144.out) | exact HB.out)⟩
                                · replace c50 := Bool.eq_false_iff.mpr c50
                                  subst c50
                                  have H1 : (countermandlaw19_TokenWaits.l0 k3 a0 a1 a2 l3 (l3.length : Int) (wrap64 (x33_3 + 1)) t154 t155 t156) = some r := by rw [if_neg (show ¬ (false = true) by decide)] at H; exact H
                                  clear H
                                  have H := H1
                                  clear H1
                                  have H' := Aside0.mk H
                                  clear H
                                  have p143 : 0 ≤ (x33_3 : Int) := of_decide_eq_true (by first | (with_reducible assumption) | assumption)
                                  have q143 : x33_3 < (l3.length : Int) := of_decide_eq_true (by first | (with_reducible assumption) | assumption)
                                  obtain ⟨ad143, e143, hx143_0, hx143_1, hx143_2⟩ := at_T49 HR3.out x33_3 p143 q143
                                  cases e143
                                  replace hx143_0 := (HB.out.cell (World.block_lt_of_cell? w _ hx143_0)).trans hx143_0
                                  replace hx143_1 := (HB.out.cell (World.block_lt_of_cell? w _ hx143_1)).trans hx143_1
                                  replace hx143_2 := (HB.out.cell (World.block_lt_of_cell? w _ hx143_2)).trans hx143_2
                                  replace p143 := eq_true p143
                                  replace q143 := eq_true q143
                                  go_wp2_with (first | ((with_reducible refine gate_dst (N := 11) rfl ?_); refine box_event ?hg (N := 11) ?hd (cs := #[.int .i64 0, .int .i64 0, .bool false]) (t := 49) ?hr ?_; (case hd => rfl); (case hg => rfl); (case hr => first | (go_simp; done) | (go_simp; rfl)); intro gb144 hg w55 hbox hb; have n0_ := Aside0.mk (IsS66.below (by repeat (first | (with_reducible first | exact HI134.out | apply IsS66.alloc | apply IsS66.drewN | apply IsS66.drew | apply IsS66.set_0 | apply IsS66.set_1 | apply IsS66.set_2) | exact HI134.out)) hb); have n1_ := Aside0.mk (below_step (by repeat (first | (with_reducible first | exact HB.out | apply below_alloc | apply pw_below_drewN | apply below_drew1 | refine below_set ?_ (IsS66.ge HI134.out)) | exact HB.out)) hb); have n2_ := Aside0.mk (hbox); have n3_ := Aside0.mk ((by rw [hg]; exact (below_size (by repeat (first | (with_reducible first | exact HB.out | apply below_alloc | apply pw_below_drewN | apply below_drew1 | refine below_set ?_ (IsS66.ge HI134.out)) | exact HB.out))) : w.heap.size ≤ gb144)); have n4_ := Aside0.mk ((by rw [hg]; exact (below_size (by repeat (first | (with_reducible first | exact HB.out | apply below_alloc | apply pw_below_drewN | apply below_drew1 | refine below_set ?_ (IsS66.ge HI134.out)) | exact HB.out))) : w.heap.size ≤ gb144)); have n5_ := Aside0.mk ((by rw [hg]; exact Nat.ne_of_lt (IsS66.lt (show IsS66 w _ g134 x135000_3 x135001_3 x135002_3 from by repeat (first | (with_reducible first | exact HI134.out | apply IsS66.alloc | apply IsS66.drewN | apply IsS66.drew | apply IsS66.set_0 | apply IsS66.set_1 | apply IsS66.set_2) | exact HI134.out))) : g134 ≠ gb144)); have n6_ := Aside0.mk ((by rw [hg]; exact Nat.ne_of_gt (IsS66.lt (show IsS66 w _ g134 x135000_3 x135001_3 x135002_3 from by repeat (first | (with_reducible first | exact HI134.out | apply IsS66.alloc | apply IsS66.drewN | apply IsS66.drew | apply IsS66.set_0 | apply IsS66.set_1 | apply IsS66.set_2) | exact HI134.out))) : gb144 ≠ g134)); clear HI134; clear HB; have HI134 := n0_; have HB := n1_; have BK144 := n2_; have GW144 := n3_; have GE144 := n4_; have NB134_144 := n5_; have NB144_134 := n6_; clear n0_ n1_ n2_ n3_ n4_ n5_ n6_; clear hb hbox hg; have hnb56 := NB144_134.out; have hnc56 := NB134_144.out; have hcz57_0 : w55.cell? ⟨gb144, 0, none⟩ = some (.int .i64 0) := (blk_cell BK144.out 0).trans rfl; have hcz57_1 : w55.cell? ⟨gb144, 1, none⟩ = some (.int .i64 0) := (blk_cell BK144.out 1).trans rfl; have hcz57_2 : w55.cell? ⟨gb144, 2, none⟩ = some (.bool false) := (blk_cell BK144.out 2).trans rfl; have hfz57_0 := blk_frozen BK144.out 0; have hfz57_1 := blk_frozen BK144.out 1; have hfz57_2 := blk_frozen BK144.out 2) | ((with_reducible refine gate_callee (f := 28) rfl ?_); refine goesL_ (some 62) rfl rfl Try.func28 (by kernel_rfl) rfl #[.pointer (some ⟨g134, 0, none⟩), .int .i64 ((rd_T49 l3 x33_3).f1)] rfl (by (try simp only [List.map_toArray, List.map_cons, List.map_nil]); first | done | rfl | (simp only [List.length_drop, List.length_take]; rfl)) ?_; (with_reducible refine (token_Token_Unlock.calls g134 x135000_3 x135001_3 x135002_3 ((rd_T49 l3 x33_3).f1) false t154 t155 t156 w _ ?side1 ?side2 A49.out).mono ?_); (case side1 => repeat (first | (with_reducible first | exact HI134.out | apply IsS66.alloc | apply IsS66.drewN | apply IsS66.drew | apply IsS66.set_0 | apply IsS66.set_1 | apply IsS66.set_2 | refine IsS66.far ?_ NB134_144.out _) | exact HI134.out)); (case side2 => repeat (first | (with_reducible first | exact HB.out | apply below_alloc | apply pw_below_drewN | apply below_drew1 | refine below_set ?_ (IsS66.ge HI134.out) | refine below_set ?_ GE144.out) | exact HB.out)); rintro e w58 ⟨rfl, hi, hb, hk⟩; refine ⟨_, rfl, ?_⟩; have n0_ := Aside0.mk (KeepBut.blk hk (g' := gb144) (o := .cells #[.int .i64 ((rd_T49 l3 x33_3).f0), .int .i64 ((rd_T49 l3 x33_3).f1), .bool ((rd_T49 l3 x33_3).f2)] 49 (0, 0)) (by (with_reducible repeat (first | refine blk_drewN ?_ _ | refine blk_drew ?_ | refine blk_alloc ?_ _)); refine blk_put (cs := #[.int .i64 ((rd_T49 l3 x33_3).f0), .int .i64 ((rd_T49 l3 x33_3).f1), .bool false]) ?_ 2 _ rfl; (with_reducible repeat (first | refine blk_drewN ?_ _ | refine blk_drew ?_ | refine blk_alloc ?_ _)); refine blk_put (cs := #[.int .i64 ((rd_T49 l3 x33_3).f0), .int .i64 0, .bool false]) ?_ 1 _ rfl; (with_reducible repeat (first | refine blk_drewN ?_ _ | refine blk_drew ?_ | refine blk_alloc ?_ _)); refine blk_put (cs := #[.int .i64 0, .int .i64 0, .bool false]) ?_ 0 _ rfl; (with_reducible repeat (first | refine blk_drewN ?_ _ | refine blk_drew ?_ | refine blk_alloc ?_ _)); exact BK144.out) NB144_134.out (by simp)); have n1_ := Aside0.mk (hb); have n2_ := Aside0.mk (hi); clear BK144; clear HB; clear HI134; have BK144 := n0_; have HB := n1_; have HI134 := n2_; clear n0_ n1_ n2_; (try clear hb); (try clear hb2); (try clear hk); (try clear hi)))
                                  go_roundg k3
                                  case measure => have := HJ6.out; have := HJ11.out; have := HK3.out; omega
                                  case rel => exact ⟨(wrap64 (x33_3 + 1)), (t154), (t155), (t156), (by first | rfl | (simp; done) | (simp [*]; done)), H', ⟨by have := HJ6.out; have := HJ11.out; have := HK3.out; omega⟩, ⟨by repeat (first | (with_reducible first | exact HI134.out | apply IsS66.alloc | apply IsS66.drewN | apply IsS66.drew | apply IsS66.set_0 | apply IsS66.set_1 | apply IsS66.set_2 | refine IsS66.far ?_ NB134_144.out _) | exact HI134.out)⟩, ⟨by repeat (first | (with_reducible first | exact HB.out | apply below_alloc | apply pw_below_drewN | apply below_drew1 | refine below_set ?_ (IsS66.ge HI134.out) | refine below_set ?_ GE144.out) | exact HB.out)⟩⟩
                              · rw [if_neg c48] at H
                                have c48b0 : (((rd_T49 l3 x33_3).f0) == 2) = false := beq_eq_false_iff_ne.mpr c48
                                have c48b1 : (((rd_T49 l3 x33_3).f0) != 2) = true := bne_iff_ne.mpr c48
                                by_cases c59 : ((rd_T49 l3 x33_3).f0) = 3
                                · rw [if_pos c59] at H
                                  have c59b0 : (((rd_T49 l3 x33_3).f0) == 3) = true := beq_iff_eq.mpr c59
                                  have c59b1 : (((rd_T49 l3 x33_3).f0) != 3) = false := bne_eq_false_iff_eq.mpr c59
                                  clear c59
                                  replace H := Option.bind_eq_some_iff.mp H
                                  obtain ⟨⟨t157, t158, t159, t160⟩, A600, H⟩ := H
                                  replace H : (if t157 = true then (some false) else (countermandlaw19_TokenWaits.l0 k3 a0 a1 a2 l3 (l3.length : Int) (wrap64 (x33_3 + 1)) t158 t159 t160)) = some r := H
                                  have A60 := Aside0.mk A600
                                  clear A600
                                  by_cases c61 : t157 = true
                                  · subst c61
                                    have H1 : (some false) = some r := by rw [if_pos rfl] at H; exact H
                                    clear H
                                    have H := H1
                                    clear H1
                                    obtain rfl := Option.some.inj H
                                    have p143 : 0 ≤ (x33_3 : Int) := of_decide_eq_true (by first | (with_reducible assumption) | assumption)
                                    have q143 : x33_3 < (l3.length : Int) := of_decide_eq_true (by first | (with_reducible assumption) | assumption)
                                    obtain ⟨ad143, e143, hx143_0, hx143_1, hx143_2⟩ := at_T49 HR3.out x33_3 p143 q143
                                    cases e143
                                    replace hx143_0 := (HB.out.cell (World.block_lt_of_cell? w _ hx143_0)).trans hx143_0
                                    replace hx143_1 := (HB.out.cell (World.block_lt_of_cell? w _ hx143_1)).trans hx143_1
                                    replace hx143_2 := (HB.out.cell (World.block_lt_of_cell? w _ hx143_2)).trans hx143_2
                                    replace p143 := eq_true p143
                                    replace q143 := eq_true q143
                                    go_wp2_with (first | ((with_reducible refine gate_dst (N := 11) rfl ?_); refine box_event ?hg (N := 11) ?hd (cs := #[.int .i64 0, .int .i64 0, .bool false]) (t := 49) ?hr ?_; (case hd => rfl); (case hg => rfl); (case hr => first | (go_simp; done) | (go_simp; rfl)); intro gb144 hg w62 hbox hb; have n0_ := Aside0.mk (IsS66.below (by repeat (first | (with_reducible first | exact HI134.out | apply IsS66.alloc | apply IsS66.drewN | apply IsS66.drew | apply IsS66.set_0 | apply IsS66.set_1 | apply IsS66.set_2) | exact HI134.out)) hb); have n1_ := Aside0.mk (below_step (by repeat (first | (with_reducible first | exact HB.out | apply below_alloc | apply pw_below_drewN | apply below_drew1 | refine below_set ?_ (IsS66.ge HI134.out)) | exact HB.out)) hb); have n2_ := Aside0.mk (hbox); have n3_ := Aside0.mk ((by rw [hg]; exact (below_size (by repeat (first | (with_reducible first | exact HB.out | apply below_alloc | apply pw_below_drewN | apply below_drew1 | refine below_set ?_ (IsS66.ge HI134.out)) | exact HB.out))) : w.heap.size ≤ gb144)); have n4_ := Aside0.mk ((by rw [hg]; exact (below_size (by repeat (first | (with_reducible first | exact HB.out | apply below_alloc | apply pw_below_drewN | apply below_drew1 | refine below_set ?_ (IsS66.ge HI134.out)) | exact HB.out))) : w.heap.size ≤ gb144)); have n5_ := Aside0.mk ((by rw [hg]; exact Nat.ne_of_lt (IsS66.lt (show IsS66 w _ g134 x135000_3 x135001_3 x135002_3 from by repeat (first | (with_reducible first | exact HI134.out | apply IsS66.alloc | apply IsS66.drewN | apply IsS66.drew | apply IsS66.set_0 | apply IsS66.set_1 | apply IsS66.set_2) | exact HI134.out))) : g134 ≠ gb144)); have n6_ := Aside0.mk ((by rw [hg]; exact Nat.ne_of_gt (IsS66.lt (show IsS66 w _ g134 x135000_3 x135001_3 x135002_3 from by repeat (first | (with_reducible first | exact HI134.out | apply IsS66.alloc | apply IsS66.drewN | apply IsS66.drew | apply IsS66.set_0 | apply IsS66.set_1 | apply IsS66.set_2) | exact HI134.out))) : gb144 ≠ g134)); clear HI134; clear HB; have HI134 := n0_; have HB := n1_; have BK144 := n2_; have GW144 := n3_; have GE144 := n4_; have NB134_144 := n5_; have NB144_134 := n6_; clear n0_ n1_ n2_ n3_ n4_ n5_ n6_; clear hb hbox hg; have hnb63 := NB144_134.out; have hnc63 := NB134_144.out; have hcz64_0 : w62.cell? ⟨gb144, 0, none⟩ = some (.int .i64 0) := (blk_cell BK144.out 0).trans rfl; have hcz64_1 : w62.cell? ⟨gb144, 1, none⟩ = some (.int .i64 0) := (blk_cell BK144.out 1).trans rfl; have hcz64_2 : w62.cell? ⟨gb144, 2, none⟩ = some (.bool false) := (blk_cell BK144.out 2).trans rfl; have hfz64_0 := blk_frozen BK144.out 0; have hfz64_1 := blk_frozen BK144.out 1; have hfz64_2 := blk_frozen BK144.out 2) | ((with_reducible refine gate_callee (f := 29) rfl ?_); refine goesL_ (some 68) rfl rfl Try.func29 (by kernel_rfl) rfl #[.pointer (some ⟨g134, 0, none⟩), .int .i64 ((rd_T49 l3 x33_3).f1)] rfl (by (try simp only [List.map_toArray, List.map_cons, List.map_nil]); first | done | rfl | (simp only [List.length_drop, List.length_take]; rfl)) ?_; (with_reducible refine (token_Token_Drop.calls g134 x135000_3 x135001_3 x135002_3 ((rd_T49 l3 x33_3).f1) true t158 t159 t160 w _ ?side1 ?side2 A60.out).mono ?_); (case side1 => repeat (first | (with_reducible first | exact HI134.out | apply IsS66.alloc | apply IsS66.drewN | apply IsS66.drew | apply IsS66.set_0 | apply IsS66.set_1 | apply IsS66.set_2 | refine IsS66.far ?_ NB134_144.out _) | exact HI134.out)); (case side2 => repeat (first | (with_reducible first | exact HB.out | apply below_alloc | apply pw_below_drewN | apply below_drew1 | refine below_set ?_ (IsS66.ge HI134.out) | refine below_set ?_ GE144.out) | exact HB.out)); rintro e w65 ⟨rfl, hi, hb, hk⟩; refine ⟨_, rfl, ?_⟩; have n0_ := Aside0.mk (KeepBut.blk hk (g' := gb144) (o := .cells #[.int .i64 ((rd_T49 l3 x33_3).f0), .int .i64 ((rd_T49 l3 x33_3).f1), .bool ((rd_T49 l3 x33_3).f2)] 49 (0, 0)) (by (with_reducible repeat (first | refine blk_drewN ?_ _ | refine blk_drew ?_ | refine blk_alloc ?_ _)); refine blk_put (cs := #[.int .i64 ((rd_T49 l3 x33_3).f0), .int .i64 ((rd_T49 l3 x33_3).f1), .bool false]) ?_ 2 _ rfl; (with_reducible repeat (first | refine blk_drewN ?_ _ | refine blk_drew ?_ | refine blk_alloc ?_ _)); refine blk_put (cs := #[.int .i64 ((rd_T49 l3 x33_3).f0), .int .i64 0, .bool false]) ?_ 1 _ rfl; (with_reducible repeat (first | refine blk_drewN ?_ _ | refine blk_drew ?_ | refine blk_alloc ?_ _)); refine blk_put (cs := #[.int .i64 0, .int .i64 0, .bool false]) ?_ 0 _ rfl; (with_reducible repeat (first | refine blk_drewN ?_ _ | refine blk_drew ?_ | refine blk_alloc ?_ _)); exact BK144.out) NB144_134.out (by simp)); have n1_ := Aside0.mk (hb); have n2_ := Aside0.mk (hi); clear BK144; clear HB; clear HI134; have BK144 := n0_; have HB := n1_; have HI134 := n2_; clear n0_ n1_ n2_; (try clear hb); (try clear hb2); (try clear hk); (try clear hi)))
                                    go_ret
                                    exact ⟨by first | rfl | (simp [errW_none, errW_some] <;> rfl) | (simp [*, errW_none, errW_some] <;> rfl), by repeat (first | (with_reducible first | exact HB.out | apply below_alloc | apply pw_below_drewN | apply below_drew1 | refine below_set ?_ (IsS66.ge HI134.out) | refine below_set ?_ GE144.out) | exact HB.out)⟩
                                  · replace c61 := Bool.eq_false_iff.mpr c61
                                    subst c61
                                    have H1 : (countermandlaw19_TokenWaits.l0 k3 a0 a1 a2 l3 (l3.length : Int) (wrap64 (x33_3 + 1)) t158 t159 t160) = some r := by rw [if_neg (show ¬ (false = true) by decide)] at H; exact H
                                    clear H
                                    have H := H1
                                    clear H1
                                    have H' := Aside0.mk H
                                    clear H
                                    have p143 : 0 ≤ (x33_3 : Int) := of_decide_eq_true (by first | (with_reducible assumption) | assumption)
                                    have q143 : x33_3 < (l3.length : Int) := of_decide_eq_true (by first | (with_reducible assumption) | assumption)
                                    obtain ⟨ad143, e143, hx143_0, hx143_1, hx143_2⟩ := at_T49 HR3.out x33_3 p143 q143
                                    cases e143
                                    replace hx143_0 := (HB.out.cell (World.block_lt_of_cell? w _ hx143_0)).trans hx143_0
                                    replace hx143_1 := (HB.out.cell (World.block_lt_of_cell? w _ hx143_1)).trans hx143_1
                                    replace hx143_2 := (HB.out.cell (World.block_lt_of_cell? w _ hx143_2)).trans hx143_2
                                    replace p143 := eq_true p143
                                    replace q143 := eq_true q143
                                    go_wp2_with (first | ((with_reducible refine gate_dst (N := 11) rfl ?_); refine box_event ?hg (N := 11) ?hd (cs := #[.int .i64 0, .int .i64 0, .bool false]) (t := 49) ?hr ?_; (case hd => rfl); (case hg => rfl); (case hr => first | (go_simp; done) | (go_simp; rfl)); intro gb144 hg w66 hbox hb; have n0_ := Aside0.mk (IsS66.below (by repeat (first | (with_reducible first | exact HI134.out | apply IsS66.alloc | apply IsS66.drewN | apply IsS66.drew | apply IsS66.set_0 | apply IsS66.set_1 | apply IsS66.set_2) | exact HI134.out)) hb); have n1_ := Aside0.mk (below_step (by repeat (first | (with_reducible first | exact HB.out | apply below_alloc | apply pw_below_drewN | apply below_drew1 | refine below_set ?_ (IsS66.ge HI134.out)) | exact HB.out)) hb); have n2_ := Aside0.mk (hbox); have n3_ := Aside0.mk ((by rw [hg]; exact (below_size (by repeat (first | (with_reducible first | exact HB.out | apply below_alloc | apply pw_below_drewN | apply below_drew1 | refine below_set ?_ (IsS66.ge HI134.out)) | exact HB.out))) : w.heap.size ≤ gb144)); have n4_ := Aside0.mk ((by rw [hg]; exact (below_size (by repeat (first | (with_reducible first | exact HB.out | apply below_alloc | apply pw_below_drewN | apply below_drew1 | refine below_set ?_ (IsS66.ge HI134.out)) | exact HB.out))) : w.heap.size ≤ gb144)); have n5_ := Aside0.mk ((by rw [hg]; exact Nat.ne_of_lt (IsS66.lt (show IsS66 w _ g134 x135000_3 x135001_3 x135002_3 from by repeat (first | (with_reducible first | exact HI134.out | apply IsS66.alloc | apply IsS66.drewN | apply IsS66.drew | apply IsS66.set_0 | apply IsS66.set_1 | apply IsS66.set_2) | exact HI134.out))) : g134 ≠ gb144)); have n6_ := Aside0.mk ((by rw [hg]; exact Nat.ne_of_gt (IsS66.lt (show IsS66 w _ g134 x135000_3 x135001_3 x135002_3 from by repeat (first | (with_reducible first | exact HI134.out | apply IsS66.alloc | apply IsS66.drewN | apply IsS66.drew | apply IsS66.set_0 | apply IsS66.set_1 | apply IsS66.set_2) | exact HI134.out))) : gb144 ≠ g134)); clear HI134; clear HB; have HI134 := n0_; have HB := n1_; have BK144 := n2_; have GW144 := n3_; have GE144 := n4_; have NB134_144 := n5_; have NB144_134 := n6_; clear n0_ n1_ n2_ n3_ n4_ n5_ n6_; clear hb hbox hg; have hnb67 := NB144_134.out; have hnc67 := NB134_144.out; have hcz68_0 : w66.cell? ⟨gb144, 0, none⟩ = some (.int .i64 0) := (blk_cell BK144.out 0).trans rfl; have hcz68_1 : w66.cell? ⟨gb144, 1, none⟩ = some (.int .i64 0) := (blk_cell BK144.out 1).trans rfl; have hcz68_2 : w66.cell? ⟨gb144, 2, none⟩ = some (.bool false) := (blk_cell BK144.out 2).trans rfl; have hfz68_0 := blk_frozen BK144.out 0; have hfz68_1 := blk_frozen BK144.out 1; have hfz68_2 := blk_frozen BK144.out 2) | ((with_reducible refine gate_callee (f := 29) rfl ?_); refine goesL_ (some 68) rfl rfl Try.func29 (by kernel_rfl) rfl #[.pointer (some ⟨g134, 0, none⟩), .int .i64 ((rd_T49 l3 x33_3).f1)] rfl (by (try simp only [List.map_toArray, List.map_cons, List.map_nil]); first | done | rfl | (simp only [List.length_drop, List.length_take]; rfl)) ?_; (with_reducible refine (token_Token_Drop.calls g134 x135000_3 x135001_3 x135002_3 ((rd_T49 l3 x33_3).f1) false t158 t159 t160 w _ ?side1 ?side2 A60.out).mono ?_); (case side1 => repeat (first | (with_reducible first | exact HI134.out | apply IsS66.alloc | apply IsS66.drewN | apply IsS66.drew | apply IsS66.set_0 | apply IsS66.set_1 | apply IsS66.set_2 | refine IsS66.far ?_ NB134_144.out _) | exact HI134.out)); (case side2 => repeat (first | (with_reducible first | exact HB.out | apply below_alloc | apply pw_below_drewN | apply below_drew1 | refine below_set ?_ (IsS66.ge HI134.out) | refine below_set ?_ GE144.out) | exact HB.out)); rintro e w69 ⟨rfl, hi, hb, hk⟩; refine ⟨_, rfl, ?_⟩; have n0_ := Aside0.mk (KeepBut.blk hk (g' := gb144) (o := .cells #[.int .i64 ((rd_T49 l3 x33_3).f0), .int .i64 ((rd_T49 l3 x33_3).f1), .bool ((rd_T49 l3 x33_3).f2)] 49 (0, 0)) (by (with_reducible repeat (first | refine blk_drewN ?_ _ | refine blk_drew ?_ | refine blk_alloc ?_ _)); refine blk_put (cs := #[.int .i64 ((rd_T49 l3 x33_3).f0), .int .i64 ((rd_T49 l3 x33_3).f1), .bool false]) ?_ 2 _ rfl; (with_reducible repeat (first | refine blk_drewN ?_ _ | refine blk_drew ?_ | refine blk_alloc ?_ _)); refine blk_put (cs := #[.int .i64 ((rd_T49 l3 x33_3).f0), .int .i64 0, .bool false]) ?_ 1 _ rfl; (with_reducible repeat (first | refine blk_drewN ?_ _ | refine blk_drew ?_ | refine blk_alloc ?_ _)); refine blk_put (cs := #[.int .i64 0, .int .i64 0, .bool false]) ?_ 0 _ rfl; (with_reducible repeat (first | refine blk_drewN ?_ _ | refine blk_drew ?_ | refine blk_alloc ?_ _)); exact BK144.out) NB144_134.out (by simp)); have n1_ := Aside0.mk (hb); have n2_ := Aside0.mk (hi); clear BK144; clear HB; clear HI134; have BK144 := n0_; have HB := n1_; have HI134 := n2_; clear n0_ n1_ n2_; (try clear hb); (try clear hb2); (try clear hk); (try clear hi)))
                                    go_roundg k3
                                    case measure => have := HJ6.out; have := HJ11.out; have := HK3.out; omega
                                    case rel => exact ⟨(wrap64 (x33_3 + 1)), (t158), (t159), (t160), (by first | rfl | (simp; done) | (simp [*]; done)), H', ⟨by have := HJ6.out; have := HJ11.out; have := HK3.out; omega⟩, ⟨by repeat (first | (with_reducible first | exact HI134.out | apply IsS66.alloc | apply IsS66.drewN | apply IsS66.drew | apply IsS66.set_0 | apply IsS66.set_1 | apply IsS66.set_2 | refine IsS66.far ?_ NB134_144.out _) | exact HI134.out)⟩, ⟨by repeat (first | (with_reducible first | exact HB.out | apply below_alloc | apply pw_below_drewN | apply below_drew1 | refine below_set ?_ (IsS66.ge HI134.out) | refine below_set ?_ GE144.out) | exact HB.out)⟩⟩
                                · rw [if_neg c59] at H
                                  have c59b0 : (((rd_T49 l3 x33_3).f0) == 3) = false := beq_eq_false_iff_ne.mpr c59
                                  have c59b1 : (((rd_T49 l3 x33_3).f0) != 3) = true := bne_iff_ne.mpr c59
                                  have H' := Aside0.mk H
                                  clear H
                                  have p143 : 0 ≤ (x33_3 : Int) := of_decide_eq_true (by first | (with_reducible assumption) | assumption)
                                  have q143 : x33_3 < (l3.length : Int) := of_decide_eq_true (by first | (with_reducible assumption) | assumption)
                                  obtain ⟨ad143, e143, hx143_0, hx143_1, hx143_2⟩ := at_T49 HR3.out x33_3 p143 q143
                                  cases e143
                                  replace hx143_0 := (HB.out.cell (World.block_lt_of_cell? w _ hx143_0)).trans hx143_0
                                  replace hx143_1 := (HB.out.cell (World.block_lt_of_cell? w _ hx143_1)).trans hx143_1
                                  replace hx143_2 := (HB.out.cell (World.block_lt_of_cell? w _ hx143_2)).trans hx143_2
                                  replace p143 := eq_true p143
                                  replace q143 := eq_true q143
                                  go_wp2_with (first | ((with_reducible refine gate_dst (N := 11) rfl ?_); refine box_event ?hg (N := 11) ?hd (cs := #[.int .i64 0, .int .i64 0, .bool false]) (t := 49) ?hr ?_; (case hd => rfl); (case hg => rfl); (case hr => first | (go_simp; done) | (go_simp; rfl)); intro gb144 hg w70 hbox hb; have n0_ := Aside0.mk (IsS66.below (by repeat (first | (with_reducible first | exact HI134.out | apply IsS66.alloc | apply IsS66.drewN | apply IsS66.drew | apply IsS66.set_0 | apply IsS66.set_1 | apply IsS66.set_2) | exact HI134.out)) hb); have n1_ := Aside0.mk (below_step (by repeat (first | (with_reducible first | exact HB.out | apply below_alloc | apply pw_below_drewN | apply below_drew1 | refine below_set ?_ (IsS66.ge HI134.out)) | exact HB.out)) hb); have n2_ := Aside0.mk (hbox); have n3_ := Aside0.mk ((by rw [hg]; exact (below_size (by repeat (first | (with_reducible first | exact HB.out | apply below_alloc | apply pw_below_drewN | apply below_drew1 | refine below_set ?_ (IsS66.ge HI134.out)) | exact HB.out))) : w.heap.size ≤ gb144)); have n4_ := Aside0.mk ((by rw [hg]; exact (below_size (by repeat (first | (with_reducible first | exact HB.out | apply below_alloc | apply pw_below_drewN | apply below_drew1 | refine below_set ?_ (IsS66.ge HI134.out)) | exact HB.out))) : w.heap.size ≤ gb144)); have n5_ := Aside0.mk ((by rw [hg]; exact Nat.ne_of_lt (IsS66.lt (show IsS66 w _ g134 x135000_3 x135001_3 x135002_3 from by repeat (first | (with_reducible first | exact HI134.out | apply IsS66.alloc | apply IsS66.drewN | apply IsS66.drew | apply IsS66.set_0 | apply IsS66.set_1 | apply IsS66.set_2) | exact HI134.out))) : g134 ≠ gb144)); have n6_ := Aside0.mk ((by rw [hg]; exact Nat.ne_of_gt (IsS66.lt (show IsS66 w _ g134 x135000_3 x135001_3 x135002_3 from by repeat (first | (with_reducible first | exact HI134.out | apply IsS66.alloc | apply IsS66.drewN | apply IsS66.drew | apply IsS66.set_0 | apply IsS66.set_1 | apply IsS66.set_2) | exact HI134.out))) : gb144 ≠ g134)); clear HI134; clear HB; have HI134 := n0_; have HB := n1_; have BK144 := n2_; have GW144 := n3_; have GE144 := n4_; have NB134_144 := n5_; have NB144_134 := n6_; clear n0_ n1_ n2_ n3_ n4_ n5_ n6_; clear hb hbox hg; have hnb71 := NB144_134.out; have hnc71 := NB134_144.out; have hcz72_0 : w70.cell? ⟨gb144, 0, none⟩ = some (.int .i64 0) := (blk_cell BK144.out 0).trans rfl; have hcz72_1 : w70.cell? ⟨gb144, 1, none⟩ = some (.int .i64 0) := (blk_cell BK144.out 1).trans rfl; have hcz72_2 : w70.cell? ⟨gb144, 2, none⟩ = some (.bool false) := (blk_cell BK144.out 2).trans rfl; have hfz72_0 := blk_frozen BK144.out 0; have hfz72_1 := blk_frozen BK144.out 1; have hfz72_2 := blk_frozen BK144.out 2))
                                  go_roundg k3
                                  case measure => have := HJ6.out; have := HJ11.out; have := HK3.out; omega
                                  case rel => exact ⟨(wrap64 (x33_3 + 1)), (x135000_3), (x135001_3), (x135002_3), (by first | rfl | (simp; done) | (simp [*]; done)), H', ⟨by have := HJ6.out; have := HJ11.out; have := HK3.out; omega⟩, ⟨by repeat (first | (with_reducible first | exact HI134.out | apply IsS66.alloc | apply IsS66.drewN | apply IsS66.drew | apply IsS66.set_0 | apply IsS66.set_1 | apply IsS66.set_2 | refine IsS66.far ?_ NB134_144.out _) | exact HI134.out)⟩, ⟨by repeat (first | (with_reducible first | exact HB.out | apply below_alloc | apply pw_below_drewN | apply below_drew1 | refine below_set ?_ (IsS66.ge HI134.out) | refine below_set ?_ GE144.out) | exact HB.out)⟩⟩
                      · rw [if_neg c21] at H
                        exact absurd H (by simp)
                    · rw [if_neg c20] at H
                      exact absurd H (by simp)
                  · rw [if_neg c19] at H
                    have c19b0 : decide (x33_3 < (l3.length : Int)) = false := decide_eq_false c19
                    clear c19
                    by_cases c73 : a2 = true
                    · subst c73
                      have H1 : ((token_Token_Commits.f x135000_3 x135001_3 x135002_3).bind fun bt161 => (if bt161.1 = a0 then ((token_Token_Unlock.f bt161.2.1 bt161.2.2.1 bt161.2.2.2 a0).bind fun bt165 => (if bt165.1 = true then ((token_Token_Free.f bt165.2.1 bt165.2.2.1 bt165.2.2.2 a0).bind fun bt169 => (some bt169.1)) else (some false))) else (some false))) = some r := by rw [if_pos rfl] at H; exact H
                      clear H
                      have H := H1
                      clear H1
                      replace H := Option.bind_eq_some_iff.mp H
                      obtain ⟨⟨t161, t162, t163, t164⟩, A740, H⟩ := H
                      replace H : (if t161 = a0 then ((token_Token_Unlock.f t162 t163 t164 a0).bind fun bt165 => (if bt165.1 = true then ((token_Token_Free.f bt165.2.1 bt165.2.2.1 bt165.2.2.2 a0).bind fun bt169 => (some bt169.1)) else (some false))) else (some false)) = some r := H
                      have A74 := Aside0.mk A740
                      clear A740
                      by_cases c75 : t161 = a0
                      · rw [if_pos c75] at H
                        have c75b0 : (t161 == a0) = true := beq_iff_eq.mpr c75
                        have c75b1 : (t161 != a0) = false := bne_eq_false_iff_eq.mpr c75
                        clear c75
                        replace H := Option.bind_eq_some_iff.mp H
                        obtain ⟨⟨t165, t166, t167, t168⟩, A760, H⟩ := H
                        replace H : (if t165 = true then ((token_Token_Free.f t166 t167 t168 a0).bind fun bt169 => (some bt169.1)) else (some false)) = some r := H
                        have A76 := Aside0.mk A760
                        clear A760
                        by_cases c77 : t165 = true
                        · subst c77
                          have H1 : ((token_Token_Free.f t166 t167 t168 a0).bind fun bt169 => (some bt169.1)) = some r := by rw [if_pos rfl] at H; exact H
                          clear H
                          have H := H1
                          clear H1
                          replace H := Option.bind_eq_some_iff.mp H
                          obtain ⟨⟨t169, t170, t171, t172⟩, A780, H⟩ := H
                          replace H : (some t169) = some r := H
                          have A78 := Aside0.mk A780
                          clear A780
                          obtain rfl := Option.some.inj H
                          go_wp2_with (first | ((with_reducible refine gate_callee (f := 33) rfl ?_); refine goesL_ (some 73) rfl rfl Try.func33 (by kernel_rfl) rfl #[.pointer (some ⟨g134, 0, none⟩)] rfl (by (try simp only [List.map_toArray, List.map_cons, List.map_nil]); first | done | rfl | (simp only [List.length_drop, List.length_take]; rfl)) ?_; (with_reducible refine (token_Token_Commits.calls g134 x135000_3 x135001_3 x135002_3 t161 t162 t163 t164 w _ ?side1 ?side2 A74.out).mono ?_); (case side1 => repeat (first | (with_reducible first | exact HI134.out | apply IsS66.alloc | apply IsS66.drewN | apply IsS66.drew | apply IsS66.set_0 | apply IsS66.set_1 | apply IsS66.set_2) | exact HI134.out)); (case side2 => repeat (first | (with_reducible first | exact HB.out | apply below_alloc | apply pw_below_drewN | apply below_drew1 | refine below_set ?_ (IsS66.ge HI134.out)) | exact HB.out)); rintro e w79 ⟨rfl, hi, hb, hk⟩; refine ⟨_, rfl, ?_⟩; have n0_ := Aside0.mk (hb); have n1_ := Aside0.mk (hi); clear HB; clear HI134; have HB := n0_; have HI134 := n1_; clear n0_ n1_; (try clear hb); (try clear hb2); (try clear hk); (try clear hi)) | (go_at_call 28; (with_reducible refine (token_Token_Unlock.calls g134 t162 t163 t164 a0 true t166 t167 t168 w _ ?side1 ?side2 A76.out).mono ?_); (case side1 => repeat (first | (with_reducible first | exact HI134.out | apply IsS66.alloc | apply IsS66.drewN | apply IsS66.drew | apply IsS66.set_0 | apply IsS66.set_1 | apply IsS66.set_2) | exact HI134.out)); (case side2 => repeat (first | (with_reducible first | exact HB.out | apply below_alloc | apply pw_below_drewN | apply below_drew1 | refine below_set ?_ (IsS66.ge HI134.out)) | exact HB.out)); rintro e w80 ⟨rfl, hi, hb, hk⟩; have n0_ := Aside0.mk (hb); have n1_ := Aside0.mk (hi); clear HB; clear HI134; have HB := n0_; have HI134 := n1_; clear n0_ n1_; (try clear hb); (try clear hb2); (try clear hk); (try clear hi)) | (go_at_call 34; (with_reducible refine (token_Token_Free.calls g134 t166 t167 t168 a0 t169 t170 t171 t172 w _ ?side1 ?side2 A78.out).mono ?_); (case side1 => repeat (first | (with_reducible first | exact HI134.out | apply IsS66.alloc | apply IsS66.drewN | apply IsS66.drew | apply IsS66.set_0 | apply IsS66.set_1 | apply IsS66.set_2) | exact HI134.out)); (case side2 => repeat (first | (with_reducible first | exact HB.out | apply below_alloc | apply pw_below_drewN | apply below_drew1 | refine below_set ?_ (IsS66.ge HI134.out)) | exact HB.out)); rintro e w81 ⟨rfl, hi, hb, hk⟩; have n0_ := Aside0.mk (hb); have n1_ := Aside0.mk (hi); clear HB; clear HI134; have HB := n0_; have HI134 := n1_; clear n0_ n1_; (try clear hb); (try clear hb2); (try clear hk); (try clear hi)))
                          go_ret
                          exact ⟨by first | rfl | (simp [errW_none, errW_some] <;> rfl) | (simp [*, errW_none, errW_some] <;> rfl), by repeat (first | (with_reducible first | exact HB.out | apply below_alloc | apply pw_below_drewN | apply below_drew1 | refine below_set ?_ (IsS66.ge HI134.out)) | exact HB.out)⟩
                        · replace c77 := Bool.eq_false_iff.mpr c77
                          subst c77
                          have H1 : (some false) = some r := by rw [if_neg (show ¬ (false = true) by decide)] at H; exact H
                          clear H
                          have H := H1
                          clear H1
                          obtain rfl := Option.some.inj H
                          go_wp2_with (first | ((with_reducible refine gate_callee (f := 33) rfl ?_); refine goesL_ (some 73) rfl rfl Try.func33 (by kernel_rfl) rfl #[.pointer (some ⟨g134, 0, none⟩)] rfl (by (try simp only [List.map_toArray, List.map_cons, List.map_nil]); first | done | rfl | (simp only [List.length_drop, List.length_take]; rfl)) ?_; (with_reducible refine (token_Token_Commits.calls g134 x135000_3 x135001_3 x135002_3 t161 t162 t163 t164 w _ ?side1 ?side2 A74.out).mono ?_); (case side1 => repeat (first | (with_reducible first | exact HI134.out | apply IsS66.alloc | apply IsS66.drewN | apply IsS66.drew | apply IsS66.set_0 | apply IsS66.set_1 | apply IsS66.set_2) | exact HI134.out)); (case side2 => repeat (first | (with_reducible first | exact HB.out | apply below_alloc | apply pw_below_drewN | apply below_drew1 | refine below_set ?_ (IsS66.ge HI134.out)) | exact HB.out)); rintro e w82 ⟨rfl, hi, hb, hk⟩; refine ⟨_, rfl, ?_⟩; have n0_ := Aside0.mk (hb); have n1_ := Aside0.mk (hi); clear HB; clear HI134; have HB := n0_; have HI134 := n1_; clear n0_ n1_; (try clear hb); (try clear hb2); (try clear hk); (try clear hi)) | (go_at_call 28; (with_reducible refine (token_Token_Unlock.calls g134 t162 t163 t164 a0 false t166 t167 t168 w _ ?side1 ?side2 A76.out).mono ?_); (case side1 => repeat (first | (with_reducible first | exact HI134.out | apply IsS66.alloc | apply IsS66.drewN | apply IsS66.drew | apply IsS66.set_0 | apply IsS66.set_1 | apply IsS66.set_2) | exact HI134.out)); (case side2 => repeat (first | (with_reducible first | exact HB.out | apply below_alloc | apply pw_below_drewN | apply below_drew1 | refine below_set ?_ (IsS66.ge HI134.out)) | exact HB.out)); rintro e w83 ⟨rfl, hi, hb, hk⟩; have n0_ := Aside0.mk (hb); have n1_ := Aside0.mk (hi); clear HB; clear HI134; have HB := n0_; have HI134 := n1_; clear n0_ n1_; (try clear hb); (try clear hb2); (try clear hk); (try clear hi)))
                          go_ret
                          exact ⟨by first | rfl | (simp [errW_none, errW_some] <;> rfl) | (simp [*, errW_none, errW_some] <;> rfl), by repeat (first | (with_reducible first | exact HB.out | apply below_alloc | apply pw_below_drewN | apply below_drew1 | refine below_set ?_ (IsS66.ge HI134.out)) | exact HB.out)⟩
                      · rw [if_neg c75] at H
                        have c75b0 : (t161 == a0) = false := beq_eq_false_iff_ne.mpr c75
                        have c75b1 : (t161 != a0) = true := bne_iff_ne.mpr c75
                        obtain rfl := Option.some.inj H
                        go_wp2_with (first | ((with_reducible refine gate_callee (f := 33) rfl ?_); refine goesL_ (some 73) rfl rfl Try.func33 (by kernel_rfl) rfl #[.pointer (some ⟨g134, 0, none⟩)] rfl (by (try simp only [List.map_toArray, List.map_cons, List.map_nil]); first | done | rfl | (simp only [List.length_drop, List.length_take]; rfl)) ?_; (with_reducible refine (token_Token_Commits.calls g134 x135000_3 x135001_3 x135002_3 t161 t162 t163 t164 w _ ?side1 ?side2 A74.out).mono ?_); (case side1 => repeat (first | (with_reducible first | exact HI134.out | apply IsS66.alloc | apply IsS66.drewN | apply IsS66.drew | apply IsS66.set_0 | apply IsS66.set_1 | apply IsS66.set_2) | exact HI134.out)); (case side2 => repeat (first | (with_reducible first | exact HB.out | apply below_alloc | apply pw_below_drewN | apply below_drew1 | refine below_set ?_ (IsS66.ge HI134.out)) | exact HB.out)); rintro e w84 ⟨rfl, hi, hb, hk⟩; refine ⟨_, rfl, ?_⟩; have n0_ := Aside0.mk (hb); have n1_ := Aside0.mk (hi); clear HB; clear HI134; have HB := n0_; have HI134 := n1_; clear n0_ n1_; (try clear hb); (try clear hb2); (try clear hk); (try clear hi)))
                        go_ret
                        exact ⟨by first | rfl | (simp [errW_none, errW_some] <;> rfl) | (simp [*, errW_none, errW_some] <;> rfl), by repeat (first | (with_reducible first | exact HB.out | apply below_alloc | apply pw_below_drewN | apply below_drew1 | refine below_set ?_ (IsS66.ge HI134.out)) | exact HB.out)⟩
                    · replace c73 := Bool.eq_false_iff.mpr c73
                      subst c73
                      have H1 : ((token_Token_Holder.f x135000_3 x135001_3 x135002_3).bind fun bt173 => (if bt173.1 = a0 then ((token_Token_Soft.f bt173.2.1 bt173.2.2.1 bt173.2.2.2).bind fun bt177 => (if bt177.1 = true then (if a1 = true then ((token_Token_Drop.f bt177.2.1 bt177.2.2.1 bt177.2.2.2 a0).bind fun bt181 => (if bt181.1 = true then ((token_Token_Holder.f bt181.2.1 bt181.2.2.1 bt181.2.2.2).bind fun bt185 => (some (bt185.1 == (-1)))) else (some false))) else (some false)) else (if a1 = true then (some false) else ((token_Token_Drop.f bt177.2.1 bt177.2.2.1 bt177.2.2.2 a0).bind fun bt189 => (if bt189.1 = true then ((token_Token_Holder.f bt189.2.1 bt189.2.2.1 bt189.2.2.2).bind fun bt193 => (some (bt193.1 == (-1)))) else (some false)))))) else (some false))) = some r := by rw [if_neg (show ¬ (false = true) by decide)] at H; exact H
                      clear H
                      have H := H1
                      clear H1
                      replace H := Option.bind_eq_some_iff.mp H
                      obtain ⟨⟨t173, t174, t175, t176⟩, A850, H⟩ := H
                      replace H : (if t173 = a0 then ((token_Token_Soft.f t174 t175 t176).bind fun bt177 => (if bt177.1 = true then (if a1 = true then ((token_Token_Drop.f bt177.2.1 bt177.2.2.1 bt177.2.2.2 a0).bind fun bt181 => (if bt181.1 = true then ((token_Token_Holder.f bt181.2.1 bt181.2.2.1 bt181.2.2.2).bind fun bt185 => (some (bt185.1 == (-1)))) else (some false))) else (some false)) else (if a1 = true then (some false) else ((token_Token_Drop.f bt177.2.1 bt177.2.2.1 bt177.2.2.2 a0).bind fun bt189 => (if bt189.1 = true then ((token_Token_Holder.f bt189.2.1 bt189.2.2.1 bt189.2.2.2).bind fun bt193 => (some (bt193.1 == (-1)))) else (some false)))))) else (some false)) = some r := H
                      have A85 := Aside0.mk A850
                      clear A850
                      by_cases c86 : t173 = a0
                      · rw [if_pos c86] at H
                        have c86b0 : (t173 == a0) = true := beq_iff_eq.mpr c86
                        have c86b1 : (t173 != a0) = false := bne_eq_false_iff_eq.mpr c86
                        clear c86
                        replace H := Option.bind_eq_some_iff.mp H
                        obtain ⟨⟨t177, t178, t179, t180⟩, A870, H⟩ := H
                        replace H : (if t177 = true then (if a1 = true then ((token_Token_Drop.f t178 t179 t180 a0).bind fun bt181 => (if bt181.1 = true then ((token_Token_Holder.f bt181.2.1 bt181.2.2.1 bt181.2.2.2).bind fun bt185 => (some (bt185.1 == (-1)))) else (some false))) else (some false)) else (if a1 = true then (some false) else ((token_Token_Drop.f t178 t179 t180 a0).bind fun bt189 => (if bt189.1 = true then ((token_Token_Holder.f bt189.2.1 bt189.2.2.1 bt189.2.2.2).bind fun bt193 => (some (bt193.1 == (-1)))) else (some false))))) = some r := H
                        have A87 := Aside0.mk A870
                        clear A870
                        by_cases c88 : t177 = true
                        · subst c88
                          have H1 : (if a1 = true then ((token_Token_Drop.f t178 t179 t180 a0).bind fun bt181 => (if bt181.1 = true then ((token_Token_Holder.f bt181.2.1 bt181.2.2.1 bt181.2.2.2).bind fun bt185 => (some (bt185.1 == (-1)))) else (some false))) else (some false)) = some r := by rw [if_pos rfl] at H; exact H
                          clear H
                          have H := H1
                          clear H1
                          by_cases c89 : a1 = true
                          · subst c89
                            have H1 : ((token_Token_Drop.f t178 t179 t180 a0).bind fun bt181 => (if bt181.1 = true then ((token_Token_Holder.f bt181.2.1 bt181.2.2.1 bt181.2.2.2).bind fun bt185 => (some (bt185.1 == (-1)))) else (some false))) = some r := by rw [if_pos rfl] at H; exact H
                            clear H
                            have H := H1
                            clear H1
                            replace H := Option.bind_eq_some_iff.mp H
                            obtain ⟨⟨t181, t182, t183, t184⟩, A900, H⟩ := H
                            replace H : (if t181 = true then ((token_Token_Holder.f t182 t183 t184).bind fun bt185 => (some (bt185.1 == (-1)))) else (some false)) = some r := H
                            have A90 := Aside0.mk A900
                            clear A900
                            by_cases c91 : t181 = true
                            · subst c91
                              have H1 : ((token_Token_Holder.f t182 t183 t184).bind fun bt185 => (some (bt185.1 == (-1)))) = some r := by rw [if_pos rfl] at H; exact H
                              clear H
                              have H := H1
                              clear H1
                              replace H := Option.bind_eq_some_iff.mp H
                              obtain ⟨⟨t185, t186, t187, t188⟩, A920, H⟩ := H
                              replace H : (some (t185 == (-1))) = some r := H
                              have A92 := Aside0.mk A920
                              clear A920
                              obtain rfl := Option.some.inj H
                              go_wp2_with (first | ((with_reducible refine gate_callee (f := 32) rfl ?_); refine goesL_ (some 87) rfl rfl Try.func32 (by kernel_rfl) rfl #[.pointer (some ⟨g134, 0, none⟩)] rfl (by (try simp only [List.map_toArray, List.map_cons, List.map_nil]); first | done | rfl | (simp only [List.length_drop, List.length_take]; rfl)) ?_; (with_reducible refine (token_Token_Holder.calls g134 x135000_3 x135001_3 x135002_3 t173 t174 t175 t176 w _ ?side1 ?side2 A85.out).mono ?_); (case side1 => repeat (first | (with_reducible first | exact HI134.out | apply IsS66.alloc | apply IsS66.drewN | apply IsS66.drew | apply IsS66.set_0 | apply IsS66.set_1 | apply IsS66.set_2) | exact HI134.out)); (case side2 => repeat (first | (with_reducible first | exact HB.out | apply below_alloc | apply pw_below_drewN | apply below_drew1 | refine below_set ?_ (IsS66.ge HI134.out)) | exact HB.out)); rintro e w93 ⟨rfl, hi, hb, hk⟩; refine ⟨_, rfl, ?_⟩; have n0_ := Aside0.mk (hb); have n1_ := Aside0.mk (hi); clear HB; clear HI134; have HB := n0_; have HI134 := n1_; clear n0_ n1_; (try clear hb); (try clear hb2); (try clear hk); (try clear hi)) | (go_at_call 31; (with_reducible refine (token_Token_Soft.calls g134 t174 t175 t176 true t178 t179 t180 w _ ?side1 ?side2 A87.out).mono ?_); (case side1 => repeat (first | (with_reducible first | exact HI134.out | apply IsS66.alloc | apply IsS66.drewN | apply IsS66.drew | apply IsS66.set_0 | apply IsS66.set_1 | apply IsS66.set_2) | exact HI134.out)); (case side2 => repeat (first | (with_reducible first | exact HB.out | apply below_alloc | apply pw_below_drewN | apply below_drew1 | refine below_set ?_ (IsS66.ge HI134.out)) | exact HB.out)); rintro e w94 ⟨rfl, hi, hb, hk⟩; have n0_ := Aside0.mk (hb); have n1_ := Aside0.mk (hi); clear HB; clear HI134; have HB := n0_; have HI134 := n1_; clear n0_ n1_; (try clear hb); (try clear hb2); (try clear hk); (try clear hi)) | (go_at_call 29; (with_reducible refine (token_Token_Drop.calls g134 t178 t179 t180 a0 true t182 t183 t184 w _ ?side1 ?side2 A90.out).mono ?_); (case side1 => repeat (first | (with_reducible first | exact HI134.out | apply IsS66.alloc | apply IsS66.drewN | apply IsS66.drew | apply IsS66.set_0 | apply IsS66.set_1 | apply IsS66.set_2) | exact HI134.out)); (case side2 => repeat (first | (with_reducible first | exact HB.out | apply below_alloc | apply pw_below_drewN | apply below_drew1 | refine below_set ?_ (IsS66.ge HI134.out)) | exact HB.out)); rintro e w95 ⟨rfl, hi, hb, hk⟩; have n0_ := Aside0.mk (hb); have n1_ := Aside0.mk (hi); clear HB; clear HI134; have HB := n0_; have HI134 := n1_; clear n0_ n1_; (try clear hb); (try clear hb2); (try clear hk); (try clear hi)) | (go_at_call 32; (with_reducible refine (token_Token_Holder.calls g134 t182 t183 t184 t185 t186 t187 t188 w _ ?side1 ?side2 A92.out).mono ?_); (case side1 => repeat (first | (with_reducible first | exact HI134.out | apply IsS66.alloc | apply IsS66.drewN | apply IsS66.drew | apply IsS66.set_0 | apply IsS66.set_1 | apply IsS66.set_2) | exact HI134.out)); (case side2 => repeat (first | (with_reducible first | exact HB.out | apply below_alloc | apply pw_below_drewN | apply below_drew1 | refine below_set ?_ (IsS66.ge HI134.out)) | exact HB.out)); rintro e w96 ⟨rfl, hi, hb, hk⟩; have n0_ := Aside0.mk (hb); have n1_ := Aside0.mk (hi); clear HB; clear HI134; have HB := n0_; have HI134 := n1_; clear n0_ n1_; (try clear hb); (try clear hb2); (try clear hk); (try clear hi)))
                              go_ret
                              exact ⟨by first | rfl | (simp [errW_none, errW_some] <;> rfl) | (simp [*, errW_none, errW_some] <;> rfl), by repeat (first | (with_reducible first | exact HB.out | apply below_alloc | apply pw_below_drewN | apply below_drew1 | refine below_set ?_ (IsS66.ge HI134.out)) | exact HB.out)⟩
                            · replace c91 := Bool.eq_false_iff.mpr c91
                              subst c91
                              have H1 : (some false) = some r := by rw [if_neg (show ¬ (false = true) by decide)] at H; exact H
                              clear H
                              have H := H1
                              clear H1
                              obtain rfl := Option.some.inj H
                              go_wp2_with (first | ((with_reducible refine gate_callee (f := 32) rfl ?_); refine goesL_ (some 87) rfl rfl Try.func32 (by kernel_rfl) rfl #[.pointer (some ⟨g134, 0, none⟩)] rfl (by (try simp only [List.map_toArray, List.map_cons, List.map_nil]); first | done | rfl | (simp only [List.length_drop, List.length_take]; rfl)) ?_; (with_reducible refine (token_Token_Holder.calls g134 x135000_3 x135001_3 x135002_3 t173 t174 t175 t176 w _ ?side1 ?side2 A85.out).mono ?_); (case side1 => repeat (first | (with_reducible first | exact HI134.out | apply IsS66.alloc | apply IsS66.drewN | apply IsS66.drew | apply IsS66.set_0 | apply IsS66.set_1 | apply IsS66.set_2) | exact HI134.out)); (case side2 => repeat (first | (with_reducible first | exact HB.out | apply below_alloc | apply pw_below_drewN | apply below_drew1 | refine below_set ?_ (IsS66.ge HI134.out)) | exact HB.out)); rintro e w97 ⟨rfl, hi, hb, hk⟩; refine ⟨_, rfl, ?_⟩; have n0_ := Aside0.mk (hb); have n1_ := Aside0.mk (hi); clear HB; clear HI134; have HB := n0_; have HI134 := n1_; clear n0_ n1_; (try clear hb); (try clear hb2); (try clear hk); (try clear hi)) | (go_at_call 31; (with_reducible refine (token_Token_Soft.calls g134 t174 t175 t176 true t178 t179 t180 w _ ?side1 ?side2 A87.out).mono ?_); (case side1 => repeat (first | (with_reducible first | exact HI134.out | apply IsS66.alloc | apply IsS66.drewN | apply IsS66.drew | apply IsS66.set_0 | apply IsS66.set_1 | apply IsS66.set_2) | exact HI134.out)); (case side2 => repeat (first | (with_reducible first | exact HB.out | apply below_alloc | apply pw_below_drewN | apply below_drew1 | refine below_set ?_ (IsS66.ge HI134.out)) | exact HB.out)); rintro e w98 ⟨rfl, hi, hb, hk⟩; have n0_ := Aside0.mk (hb); have n1_ := Aside0.mk (hi); clear HB; clear HI134; have HB := n0_; have HI134 := n1_; clear n0_ n1_; (try clear hb); (try clear hb2); (try clear hk); (try clear hi)) | (go_at_call 29; (with_reducible refine (token_Token_Drop.calls g134 t178 t179 t180 a0 false t182 t183 t184 w _ ?side1 ?side2 A90.out).mono ?_); (case side1 => repeat (first | (with_reducible first | exact HI134.out | apply IsS66.alloc | apply IsS66.drewN | apply IsS66.drew | apply IsS66.set_0 | apply IsS66.set_1 | apply IsS66.set_2) | exact HI134.out)); (case side2 => repeat (first | (with_reducible first | exact HB.out | apply below_alloc | apply pw_below_drewN | apply below_drew1 | refine below_set ?_ (IsS66.ge HI134.out)) | exact HB.out)); rintro e w99 ⟨rfl, hi, hb, hk⟩; have n0_ := Aside0.mk (hb); have n1_ := Aside0.mk (hi); clear HB; clear HI134; have HB := n0_; have HI134 := n1_; clear n0_ n1_; (try clear hb); (try clear hb2); (try clear hk); (try clear hi)))
                              go_ret
                              exact ⟨by first | rfl | (simp [errW_none, errW_some] <;> rfl) | (simp [*, errW_none, errW_some] <;> rfl), by repeat (first | (with_reducible first | exact HB.out | apply below_alloc | apply pw_below_drewN | apply below_drew1 | refine below_set ?_ (IsS66.ge HI134.out)) | exact HB.out)⟩
                          · replace c89 := Bool.eq_false_iff.mpr c89
                            subst c89
                            have H1 : (some false) = some r := by rw [if_neg (show ¬ (false = true) by decide)] at H; exact H
                            clear H
                            have H := H1
                            clear H1
                            obtain rfl := Option.some.inj H
                            go_wp2_with (first | ((with_reducible refine gate_callee (f := 32) rfl ?_); refine goesL_ (some 87) rfl rfl Try.func32 (by kernel_rfl) rfl #[.pointer (some ⟨g134, 0, none⟩)] rfl (by (try simp only [List.map_toArray, List.map_cons, List.map_nil]); first | done | rfl | (simp only [List.length_drop, List.length_take]; rfl)) ?_; (with_reducible refine (token_Token_Holder.calls g134 x135000_3 x135001_3 x135002_3 t173 t174 t175 t176 w _ ?side1 ?side2 A85.out).mono ?_); (case side1 => repeat (first | (with_reducible first | exact HI134.out | apply IsS66.alloc | apply IsS66.drewN | apply IsS66.drew | apply IsS66.set_0 | apply IsS66.set_1 | apply IsS66.set_2) | exact HI134.out)); (case side2 => repeat (first | (with_reducible first | exact HB.out | apply below_alloc | apply pw_below_drewN | apply below_drew1 | refine below_set ?_ (IsS66.ge HI134.out)) | exact HB.out)); rintro e w100 ⟨rfl, hi, hb, hk⟩; refine ⟨_, rfl, ?_⟩; have n0_ := Aside0.mk (hb); have n1_ := Aside0.mk (hi); clear HB; clear HI134; have HB := n0_; have HI134 := n1_; clear n0_ n1_; (try clear hb); (try clear hb2); (try clear hk); (try clear hi)) | (go_at_call 31; (with_reducible refine (token_Token_Soft.calls g134 t174 t175 t176 true t178 t179 t180 w _ ?side1 ?side2 A87.out).mono ?_); (case side1 => repeat (first | (with_reducible first | exact HI134.out | apply IsS66.alloc | apply IsS66.drewN | apply IsS66.drew | apply IsS66.set_0 | apply IsS66.set_1 | apply IsS66.set_2) | exact HI134.out)); (case side2 => repeat (first | (with_reducible first | exact HB.out | apply below_alloc | apply pw_below_drewN | apply below_drew1 | refine below_set ?_ (IsS66.ge HI134.out)) | exact HB.out)); rintro e w101 ⟨rfl, hi, hb, hk⟩; have n0_ := Aside0.mk (hb); have n1_ := Aside0.mk (hi); clear HB; clear HI134; have HB := n0_; have HI134 := n1_; clear n0_ n1_; (try clear hb); (try clear hb2); (try clear hk); (try clear hi)))
                            go_ret
                            exact ⟨by first | rfl | (simp [errW_none, errW_some] <;> rfl) | (simp [*, errW_none, errW_some] <;> rfl), by repeat (first | (with_reducible first | exact HB.out | apply below_alloc | apply pw_below_drewN | apply below_drew1 | refine below_set ?_ (IsS66.ge HI134.out)) | exact HB.out)⟩
                        · replace c88 := Bool.eq_false_iff.mpr c88
                          subst c88
                          have H1 : (if a1 = true then (some false) else ((token_Token_Drop.f t178 t179 t180 a0).bind fun bt189 => (if bt189.1 = true then ((token_Token_Holder.f bt189.2.1 bt189.2.2.1 bt189.2.2.2).bind fun bt193 => (some (bt193.1 == (-1)))) else (some false)))) = some r := by rw [if_neg (show ¬ (false = true) by decide)] at H; exact H
                          clear H
                          have H := H1
                          clear H1
                          by_cases c102 : a1 = true
                          · subst c102
                            have H1 : (some false) = some r := by rw [if_pos rfl] at H; exact H
                            clear H
                            have H := H1
                            clear H1
                            obtain rfl := Option.some.inj H
                            go_wp2_with (first | ((with_reducible refine gate_callee (f := 32) rfl ?_); refine goesL_ (some 87) rfl rfl Try.func32 (by kernel_rfl) rfl #[.pointer (some ⟨g134, 0, none⟩)] rfl (by (try simp only [List.map_toArray, List.map_cons, List.map_nil]); first | done | rfl | (simp only [List.length_drop, List.length_take]; rfl)) ?_; (with_reducible refine (token_Token_Holder.calls g134 x135000_3 x135001_3 x135002_3 t173 t174 t175 t176 w _ ?side1 ?side2 A85.out).mono ?_); (case side1 => repeat (first | (with_reducible first | exact HI134.out | apply IsS66.alloc | apply IsS66.drewN | apply IsS66.drew | apply IsS66.set_0 | apply IsS66.set_1 | apply IsS66.set_2) | exact HI134.out)); (case side2 => repeat (first | (with_reducible first | exact HB.out | apply below_alloc | apply pw_below_drewN | apply below_drew1 | refine below_set ?_ (IsS66.ge HI134.out)) | exact HB.out)); rintro e w103 ⟨rfl, hi, hb, hk⟩; refine ⟨_, rfl, ?_⟩; have n0_ := Aside0.mk (hb); have n1_ := Aside0.mk (hi); clear HB; clear HI134; have HB := n0_; have HI134 := n1_; clear n0_ n1_; (try clear hb); (try clear hb2); (try clear hk); (try clear hi)) | (go_at_call 31; (with_reducible refine (token_Token_Soft.calls g134 t174 t175 t176 false t178 t179 t180 w _ ?side1 ?side2 A87.out).mono ?_); (case side1 => repeat (first | (with_reducible first | exact HI134.out | apply IsS66.alloc | apply IsS66.drewN | apply IsS66.drew | apply IsS66.set_0 | apply IsS66.set_1 | apply IsS66.set_2) | exact HI134.out)); (case side2 => repeat (first | (with_reducible first | exact HB.out | apply below_alloc | apply pw_below_drewN | apply below_drew1 | refine below_set ?_ (IsS66.ge HI134.out)) | exact HB.out)); rintro e w104 ⟨rfl, hi, hb, hk⟩; have n0_ := Aside0.mk (hb); have n1_ := Aside0.mk (hi); clear HB; clear HI134; have HB := n0_; have HI134 := n1_; clear n0_ n1_; (try clear hb); (try clear hb2); (try clear hk); (try clear hi)))
                            go_ret
                            exact ⟨by first | rfl | (simp [errW_none, errW_some] <;> rfl) | (simp [*, errW_none, errW_some] <;> rfl), by repeat (first | (with_reducible first | exact HB.out | apply below_alloc | apply pw_below_drewN | apply below_drew1 | refine below_set ?_ (IsS66.ge HI134.out)) | exact HB.out)⟩
                          · replace c102 := Bool.eq_false_iff.mpr c102
                            subst c102
                            have H1 : ((token_Token_Drop.f t178 t179 t180 a0).bind fun bt189 => (if bt189.1 = true then ((token_Token_Holder.f bt189.2.1 bt189.2.2.1 bt189.2.2.2).bind fun bt193 => (some (bt193.1 == (-1)))) else (some false))) = some r := by rw [if_neg (show ¬ (false = true) by decide)] at H; exact H
                            clear H
                            have H := H1
                            clear H1
                            replace H := Option.bind_eq_some_iff.mp H
                            obtain ⟨⟨t189, t190, t191, t192⟩, A1050, H⟩ := H
                            replace H : (if t189 = true then ((token_Token_Holder.f t190 t191 t192).bind fun bt193 => (some (bt193.1 == (-1)))) else (some false)) = some r := H
                            have A105 := Aside0.mk A1050
                            clear A1050
                            by_cases c106 : t189 = true
                            · subst c106
                              have H1 : ((token_Token_Holder.f t190 t191 t192).bind fun bt193 => (some (bt193.1 == (-1)))) = some r := by rw [if_pos rfl] at H; exact H
                              clear H
                              have H := H1
                              clear H1
                              replace H := Option.bind_eq_some_iff.mp H
                              obtain ⟨⟨t193, t194, t195, t196⟩, A1070, H⟩ := H
                              replace H : (some (t193 == (-1))) = some r := H
                              have A107 := Aside0.mk A1070
                              clear A1070
                              obtain rfl := Option.some.inj H
                              go_wp2_with (first | ((with_reducible refine gate_callee (f := 32) rfl ?_); refine goesL_ (some 87) rfl rfl Try.func32 (by kernel_rfl) rfl #[.pointer (some ⟨g134, 0, none⟩)] rfl (by (try simp only [List.map_toArray, List.map_cons, List.map_nil]); first | done | rfl | (simp only [List.length_drop, List.length_take]; rfl)) ?_; (with_reducible refine (token_Token_Holder.calls g134 x135000_3 x135001_3 x135002_3 t173 t174 t175 t176 w _ ?side1 ?side2 A85.out).mono ?_); (case side1 => repeat (first | (with_reducible first | exact HI134.out | apply IsS66.alloc | apply IsS66.drewN | apply IsS66.drew | apply IsS66.set_0 | apply IsS66.set_1 | apply IsS66.set_2) | exact HI134.out)); (case side2 => repeat (first | (with_reducible first | exact HB.out | apply below_alloc | apply pw_below_drewN | apply below_drew1 | refine below_set ?_ (IsS66.ge HI134.out)) | exact HB.out)); rintro e w108 ⟨rfl, hi, hb, hk⟩; refine ⟨_, rfl, ?_⟩; have n0_ := Aside0.mk (hb); have n1_ := Aside0.mk (hi); clear HB; clear HI134; have HB := n0_; have HI134 := n1_; clear n0_ n1_; (try clear hb); (try clear hb2); (try clear hk); (try clear hi)) | (go_at_call 31; (with_reducible refine (token_Token_Soft.calls g134 t174 t175 t176 false t178 t179 t180 w _ ?side1 ?side2 A87.out).mono ?_); (case side1 => repeat (first | (with_reducible first | exact HI134.out | apply IsS66.alloc | apply IsS66.drewN | apply IsS66.drew | apply IsS66.set_0 | apply IsS66.set_1 | apply IsS66.set_2) | exact HI134.out)); (case side2 => repeat (first | (with_reducible first | exact HB.out | apply below_alloc | apply pw_below_drewN | apply below_drew1 | refine below_set ?_ (IsS66.ge HI134.out)) | exact HB.out)); rintro e w109 ⟨rfl, hi, hb, hk⟩; have n0_ := Aside0.mk (hb); have n1_ := Aside0.mk (hi); clear HB; clear HI134; have HB := n0_; have HI134 := n1_; clear n0_ n1_; (try clear hb); (try clear hb2); (try clear hk); (try clear hi)) | (go_at_call 29; (with_reducible refine (token_Token_Drop.calls g134 t178 t179 t180 a0 true t190 t191 t192 w _ ?side1 ?side2 A105.out).mono ?_); (case side1 => repeat (first | (with_reducible first | exact HI134.out | apply IsS66.alloc | apply IsS66.drewN | apply IsS66.drew | apply IsS66.set_0 | apply IsS66.set_1 | apply IsS66.set_2) | exact HI134.out)); (case side2 => repeat (first | (with_reducible first | exact HB.out | apply below_alloc | apply pw_below_drewN | apply below_drew1 | refine below_set ?_ (IsS66.ge HI134.out)) | exact HB.out)); rintro e w110 ⟨rfl, hi, hb, hk⟩; have n0_ := Aside0.mk (hb); have n1_ := Aside0.mk (hi); clear HB; clear HI134; have HB := n0_; have HI134 := n1_; clear n0_ n1_; (try clear hb); (try clear hb2); (try clear hk); (try clear hi)) | (go_at_call 32; (with_reducible refine (token_Token_Holder.calls g134 t190 t191 t192 t193 t194 t195 t196 w _ ?side1 ?side2 A107.out).mono ?_); (case side1 => repeat (first | (with_reducible first | exact HI134.out | apply IsS66.alloc | apply IsS66.drewN | apply IsS66.drew | apply IsS66.set_0 | apply IsS66.set_1 | apply IsS66.set_2) | exact HI134.out)); (case side2 => repeat (first | (with_reducible first | exact HB.out | apply below_alloc | apply pw_below_drewN | apply below_drew1 | refine below_set ?_ (IsS66.ge HI134.out)) | exact HB.out)); rintro e w111 ⟨rfl, hi, hb, hk⟩; have n0_ := Aside0.mk (hb); have n1_ := Aside0.mk (hi); clear HB; clear HI134; have HB := n0_; have HI134 := n1_; clear n0_ n1_; (try clear hb); (try clear hb2); (try clear hk); (try clear hi)))
                              go_ret
                              exact ⟨by first | rfl | (simp [errW_none, errW_some] <;> rfl) | (simp [*, errW_none, errW_some] <;> rfl), by repeat (first | (with_reducible first | exact HB.out | apply below_alloc | apply pw_below_drewN | apply below_drew1 | refine below_set ?_ (IsS66.ge HI134.out)) | exact HB.out)⟩
                            · replace c106 := Bool.eq_false_iff.mpr c106
                              subst c106
                              have H1 : (some false) = some r := by rw [if_neg (show ¬ (false = true) by decide)] at H; exact H
                              clear H
                              have H := H1
                              clear H1
                              obtain rfl := Option.some.inj H
                              go_wp2_with (first | ((with_reducible refine gate_callee (f := 32) rfl ?_); refine goesL_ (some 87) rfl rfl Try.func32 (by kernel_rfl) rfl #[.pointer (some ⟨g134, 0, none⟩)] rfl (by (try simp only [List.map_toArray, List.map_cons, List.map_nil]); first | done | rfl | (simp only [List.length_drop, List.length_take]; rfl)) ?_; (with_reducible refine (token_Token_Holder.calls g134 x135000_3 x135001_3 x135002_3 t173 t174 t175 t176 w _ ?side1 ?side2 A85.out).mono ?_); (case side1 => repeat (first | (with_reducible first | exact HI134.out | apply IsS66.alloc | apply IsS66.drewN | apply IsS66.drew | apply IsS66.set_0 | apply IsS66.set_1 | apply IsS66.set_2) | exact HI134.out)); (case side2 => repeat (first | (with_reducible first | exact HB.out | apply below_alloc | apply pw_below_drewN | apply below_drew1 | refine below_set ?_ (IsS66.ge HI134.out)) | exact HB.out)); rintro e w112 ⟨rfl, hi, hb, hk⟩; refine ⟨_, rfl, ?_⟩; have n0_ := Aside0.mk (hb); have n1_ := Aside0.mk (hi); clear HB; clear HI134; have HB := n0_; have HI134 := n1_; clear n0_ n1_; (try clear hb); (try clear hb2); (try clear hk); (try clear hi)) | (go_at_call 31; (with_reducible refine (token_Token_Soft.calls g134 t174 t175 t176 false t178 t179 t180 w _ ?side1 ?side2 A87.out).mono ?_); (case side1 => repeat (first | (with_reducible first | exact HI134.out | apply IsS66.alloc | apply IsS66.drewN | apply IsS66.drew | apply IsS66.set_0 | apply IsS66.set_1 | apply IsS66.set_2) | exact HI134.out)); (case side2 => repeat (first | (with_reducible first | exact HB.out | apply below_alloc | apply pw_below_drewN | apply below_drew1 | refine below_set ?_ (IsS66.ge HI134.out)) | exact HB.out)); rintro e w113 ⟨rfl, hi, hb, hk⟩; have n0_ := Aside0.mk (hb); have n1_ := Aside0.mk (hi); clear HB; clear HI134; have HB := n0_; have HI134 := n1_; clear n0_ n1_; (try clear hb); (try clear hb2); (try clear hk); (try clear hi)) | (go_at_call 29; (with_reducible refine (token_Token_Drop.calls g134 t178 t179 t180 a0 false t190 t191 t192 w _ ?side1 ?side2 A105.out).mono ?_); (case side1 => repeat (first | (with_reducible first | exact HI134.out | apply IsS66.alloc | apply IsS66.drewN | apply IsS66.drew | apply IsS66.set_0 | apply IsS66.set_1 | apply IsS66.set_2) | exact HI134.out)); (case side2 => repeat (first | (with_reducible first | exact HB.out | apply below_alloc | apply pw_below_drewN | apply below_drew1 | refine below_set ?_ (IsS66.ge HI134.out)) | exact HB.out)); rintro e w114 ⟨rfl, hi, hb, hk⟩; have n0_ := Aside0.mk (hb); have n1_ := Aside0.mk (hi); clear HB; clear HI134; have HB := n0_; have HI134 := n1_; clear n0_ n1_; (try clear hb); (try clear hb2); (try clear hk); (try clear hi)))
                              go_ret
                              exact ⟨by first | rfl | (simp [errW_none, errW_some] <;> rfl) | (simp [*, errW_none, errW_some] <;> rfl), by repeat (first | (with_reducible first | exact HB.out | apply below_alloc | apply pw_below_drewN | apply below_drew1 | refine below_set ?_ (IsS66.ge HI134.out)) | exact HB.out)⟩
                      · rw [if_neg c86] at H
                        have c86b0 : (t173 == a0) = false := beq_eq_false_iff_ne.mpr c86
                        have c86b1 : (t173 != a0) = true := bne_iff_ne.mpr c86
                        obtain rfl := Option.some.inj H
                        go_wp2_with (first | ((with_reducible refine gate_callee (f := 32) rfl ?_); refine goesL_ (some 87) rfl rfl Try.func32 (by kernel_rfl) rfl #[.pointer (some ⟨g134, 0, none⟩)] rfl (by (try simp only [List.map_toArray, List.map_cons, List.map_nil]); first | done | rfl | (simp only [List.length_drop, List.length_take]; rfl)) ?_; (with_reducible refine (token_Token_Holder.calls g134 x135000_3 x135001_3 x135002_3 t173 t174 t175 t176 w _ ?side1 ?side2 A85.out).mono ?_); (case side1 => repeat (first | (with_reducible first | exact HI134.out | apply IsS66.alloc | apply IsS66.drewN | apply IsS66.drew | apply IsS66.set_0 | apply IsS66.set_1 | apply IsS66.set_2) | exact HI134.out)); (case side2 => repeat (first | (with_reducible first | exact HB.out | apply below_alloc | apply pw_below_drewN | apply below_drew1 | refine below_set ?_ (IsS66.ge HI134.out)) | exact HB.out)); rintro e w115 ⟨rfl, hi, hb, hk⟩; refine ⟨_, rfl, ?_⟩; have n0_ := Aside0.mk (hb); have n1_ := Aside0.mk (hi); clear HB; clear HI134; have HB := n0_; have HI134 := n1_; clear n0_ n1_; (try clear hb); (try clear hb2); (try clear hk); (try clear hi)))
                        go_ret
                        exact ⟨by first | rfl | (simp [errW_none, errW_some] <;> rfl) | (simp [*, errW_none, errW_some] <;> rfl), by repeat (first | (with_reducible first | exact HB.out | apply below_alloc | apply pw_below_drewN | apply below_drew1 | refine below_set ?_ (IsS66.ge HI134.out)) | exact HB.out)⟩
  · replace c6 := Bool.eq_false_iff.mpr c6
    subst c6
    have H1 : (some false) = some r := by rw [if_neg (show ¬ (false = true) by decide)] at H; exact H
    clear H
    have H := H1
    clear H1
    obtain rfl := Option.some.inj H
    go_enter Try.func9, Try.ntmps9
    go_wp2_with (first | ((with_reducible refine gate_callee (f := 24) rfl ?_); refine goesL_ (some 13) rfl rfl Try.func24 (by kernel_rfl) rfl #[] rfl (by (try simp only [List.map_toArray, List.map_cons, List.map_nil]); first | done | rfl | (simp only [List.length_drop, List.length_take]; rfl)) ?_; (with_reducible refine (countermandlaw19_alive.calls  false _ A5.out).mono ?_); rintro e w116 ⟨rfl, hb⟩; refine ⟨_, rfl, ?_⟩; have n0_ := Aside0.mk (below_step (by repeat (first | (with_reducible first | exact HB.out | apply below_alloc | apply pw_below_drewN | apply below_drew1) | exact HB.out)) hb); clear HB; have HB := n0_; clear n0_; (try clear hb); (try clear hb2); (try clear hk); (try clear hi)))
    go_ret
    exact ⟨by first | rfl | (simp [errW_none, errW_some] <;> rfl) | (simp [*, errW_none, errW_some] <;> rfl), by repeat (first | (with_reducible first | exact HB.out | apply below_alloc | apply pw_below_drewN | apply below_drew1) | exact HB.out)⟩

/-- THE ONE PURE STATEMENT of countermandlaw19_TokenWaits: yours. -/
def countermandlaw19_TokenWaits.Pure : Prop := ∀ (a0 : Int) (a1 : Bool) (a2 : Bool) (l3 : List (S49)), (Lit.int .i64 a0).wf = true → l3.length ≤ maxLen → (∀ x ∈ l3, (Lit.int .i64 x.f0).wf = true ∧ (Lit.int .i64 x.f1).wf = true) → ∃ k, countermandlaw19_TokenWaits.f k a0 a1 a2 l3 = some true
theorem countermandlaw19_TokenWaits.walk (P : countermandlaw19_TokenWaits.Pure) (a0 : Int) (a1 : Bool) (a2 : Bool) (a3 : Option Addr) (len3 cap3 : Nat) (z3 : List (S49)) (w : World) (w0 : (Lit.int .i64 a0).wf = true) (w3 : z3.length = len3 ∧ Kd.C k49 w a3 z3.length z3 ∧ z3.length ≤ cap3 ∧ z3.length ≤ maxLen ∧ (∀ x ∈ z3, (Lit.int .i64 x.f0).wf = true ∧ (Lit.int .i64 x.f1).wf = true)) :
    Calls Try.prog 9 #[.int .i64 a0, .bool a1, .bool a2, .slice a3 len3 cap3] w fun e w' => e = .returned (.bool true) ∧ Below w.heap.size w w' := by
  obtain ⟨rfl, hr3, hc3, hm3, hg3⟩ := w3
  obtain ⟨k, h⟩ := P a0 a1 a2 z3 w0 hm3 hg3
  refine (countermandlaw19_TokenWaits.calls k a0 a1 a2 _ _ z3 true w hr3 hc3 h).mono ?_
  rintro e w' ⟨rfl, hd⟩
  exact ⟨rfl, hd⟩

end Go.Proofs.Ytfimbmdbaaiemaa.PTokenWaits
