/- Written by a program of this session, which began as the kit's print and is turned in wip/printer: the plain form of each function, and that the Go code comes to it. -/
import Derived.Test.YtfimbmdbaaiemaaPCursorPartsx0
import Derived.Test.YtfimbmdbaaiemaaPCursorPartsx1
namespace Go.Proofs.Ytfimbmdbaaiemaa.PCursorParts
open Go.RowKit Go.Proofs.YtfimbmdbaaiemaaW.PrintWords Go.Proofs.YtfimbmdbaaiemaaW.PrintLast Go.Proofs.YtfimbmdbaaiemaaW.PrintMore
attribute [local go_sem] max2_int min2_int max_two min_two max_three min_three max_four min_four   -- for this text's walks alone
set_option linter.unusedVariables false
set_option linter.unusedSimpArgs false

/-! ### countermandlaw15_CursorParts: function 7 -/
mutual
def countermandlaw15_CursorParts.j0 : Nat → List Int → Int → Bool → Option (Bool)
  | 0, _, _, _ => none
  | k + 1, x0, x1, x22 => if x22 = true then (some true) else (countermandlaw15_CursorParts.l0 k x1 x0 (x0.length : Int) 0 0 0 0 0 0 0)
def countermandlaw15_CursorParts.l0 : Nat → Int → List Int → Int → Int → Int → Int → Int → Int → Int → Int → Option (Bool)
  | 0, _, _, _, _, _, _, _, _, _, _ => none
  | k + 1, x1, x27, x28, x29, x122000, x122001, x122002, x123000, x123001, x123002 => if x29 < x28 then (if 0 ≤ x29 then (if x29 < (x27.length : Int) then ((cursor_Cursor_Step.f x122000 x122001 x122002 (rd x27 x29)).bind fun bt124 => (if (rd x27 x29) = x1 then ((cursor_Cursor_Step.f x123000 x123001 x123002 (rd x27 x29)).bind fun bt128 => (countermandlaw15_CursorParts.l0 k x1 x27 x28 (wrap64 (x29 + 1)) bt124.2.1 bt124.2.2.1 bt124.2.2.2 bt128.2.1 bt128.2.2.1 bt128.2.2.2)) else (countermandlaw15_CursorParts.l0 k x1 x27 x28 (wrap64 (x29 + 1)) bt124.2.1 bt124.2.2.1 bt124.2.2.2 x123000 x123001 x123002))) else (none)) else (none)) else ((cursor_Cursor_Copy.f x122000 x122001 x122002).bind fun bt132 => (countermandlaw15_CursorParts.l1 k x1 0 x122000 x122001 x122002 x123000 x123001 x123002 bt132.1 bt132.2.1 bt132.2.2))
def countermandlaw15_CursorParts.l1 : Nat → Int → Int → Int → Int → Int → Int → Int → Int → Int → Int → Int → Option (Bool)
  | 0, _, _, _, _, _, _, _, _, _, _, _ => none
  | k + 1, x1, x45, x122000, x122001, x122002, x123000, x123001, x123002, x136000, x136001, x136002 => if x45 < 100 then ((cursor_Cursor_Step.f x122000 x122001 x122002 x1).bind fun bt136 => (countermandlaw15_CursorParts.l1 k x1 (wrap64 (x45 + 1)) bt136.2.1 bt136.2.2.1 bt136.2.2.2 x123000 x123001 x123002 x136000 x136001 x136002)) else ((cursor_Cursor_Read.f x136000 x136001 x136002 x1).bind fun bt140 => ((cursor_Cursor_Read.f x123000 x123001 x123002 x1).bind fun bt144 => (if bt140.1 = bt144.1 then ((cursor_Cursor_Read.f x122000 x122001 x122002 x1).bind fun bt148 => (if bt148.1 = 64 then ((cursor_Cursor_Any.f bt144.2.1 bt144.2.2.1 bt144.2.2.2).bind fun bt152 => ((cursor_Cursor_Read.f bt152.2.1 bt152.2.2.1 bt152.2.2.2 x1).bind fun bt156 => (if bt152.1 = true then (if bt156.1 > 0 then (some true) else (some false)) else (if bt156.1 > 0 then (some false) else (some true))))) else (some false))) else (some false))))
end
def countermandlaw15_CursorParts.f (k : Nat) (l0 : List Int) (a1 : Int) : Option (Bool) := (countermandlaw15_alive.f).bind fun t120 => (if t120 = true then (if (l0.length : Int) > 300 then (countermandlaw15_CursorParts.j0 k l0 a1 true) else (if a1 < 0 then (countermandlaw15_CursorParts.j0 k l0 a1 true) else (countermandlaw15_CursorParts.j0 k l0 a1 (decide (a1 > 2))))) else (some false))
theorem countermandlaw15_CursorParts.mono_l : ∀ k, (∀ y0 y1 y2, LeO (countermandlaw15_CursorParts.j0 k y0 y1 y2) (countermandlaw15_CursorParts.j0 (k + 1) y0 y1 y2)) ∧ (∀ y0 y1 y2 y3 y4 y5 y6 y7 y8 y9, LeO (countermandlaw15_CursorParts.l0 k y0 y1 y2 y3 y4 y5 y6 y7 y8 y9) (countermandlaw15_CursorParts.l0 (k + 1) y0 y1 y2 y3 y4 y5 y6 y7 y8 y9)) ∧ (∀ y0 y1 y2 y3 y4 y5 y6 y7 y8 y9 y10, LeO (countermandlaw15_CursorParts.l1 k y0 y1 y2 y3 y4 y5 y6 y7 y8 y9 y10) (countermandlaw15_CursorParts.l1 (k + 1) y0 y1 y2 y3 y4 y5 y6 y7 y8 y9 y10))
  | 0 => ⟨fun _ _ _ r h => by simp [countermandlaw15_CursorParts.j0] at h, fun _ _ _ _ _ _ _ _ _ _ r h => by simp [countermandlaw15_CursorParts.l0] at h, fun _ _ _ _ _ _ _ _ _ _ _ r h => by simp [countermandlaw15_CursorParts.l1] at h⟩
  | k + 1 => by
    obtain ⟨ih0, ih1, ih2⟩ := countermandlaw15_CursorParts.mono_l k
    refine ⟨?_, ?_, ?_⟩
    · intro y0 y1 y2
      unfold countermandlaw15_CursorParts.j0
      repeat' first
      | (with_reducible exact ih0 _ _ _)
      | (with_reducible exact ih1 _ _ _ _ _ _ _ _ _ _)
      | (with_reducible exact ih2 _ _ _ _ _ _ _ _ _ _ _)
      | (with_reducible exact LeO.refl _)
      | (with_reducible exact LeO.none _)
      | (with_reducible refine LeO.ite ?_ ?_)
      | (with_reducible refine LeO.bind ?_ (fun _ => ?_))
      | exact ih0 _ _ _
      | exact ih1 _ _ _ _ _ _ _ _ _ _
      | exact ih2 _ _ _ _ _ _ _ _ _ _ _
      | exact LeO.none _
      | refine LeO.ite ?_ ?_
      | refine LeO.bind ?_ (fun _ => ?_)
    · intro y0 y1 y2 y3 y4 y5 y6 y7 y8 y9
      unfold countermandlaw15_CursorParts.l0
      repeat' first
      | (with_reducible exact ih0 _ _ _)
      | (with_reducible exact ih1 _ _ _ _ _ _ _ _ _ _)
      | (with_reducible exact ih2 _ _ _ _ _ _ _ _ _ _ _)
      | (with_reducible exact LeO.refl _)
      | (with_reducible exact LeO.none _)
      | (with_reducible refine LeO.ite ?_ ?_)
      | (with_reducible refine LeO.bind ?_ (fun _ => ?_))
      | exact ih0 _ _ _
      | exact ih1 _ _ _ _ _ _ _ _ _ _
      | exact ih2 _ _ _ _ _ _ _ _ _ _ _
      | exact LeO.none _
      | refine LeO.ite ?_ ?_
      | refine LeO.bind ?_ (fun _ => ?_)
    · intro y0 y1 y2 y3 y4 y5 y6 y7 y8 y9 y10
      unfold countermandlaw15_CursorParts.l1
      repeat' first
      | (with_reducible exact ih0 _ _ _)
      | (with_reducible exact ih1 _ _ _ _ _ _ _ _ _ _)
      | (with_reducible exact ih2 _ _ _ _ _ _ _ _ _ _ _)
      | (with_reducible exact LeO.refl _)
      | (with_reducible exact LeO.none _)
      | (with_reducible refine LeO.ite ?_ ?_)
      | (with_reducible refine LeO.bind ?_ (fun _ => ?_))
      | exact ih0 _ _ _
      | exact ih1 _ _ _ _ _ _ _ _ _ _
      | exact ih2 _ _ _ _ _ _ _ _ _ _ _
      | exact LeO.none _
      | refine LeO.ite ?_ ?_
      | refine LeO.bind ?_ (fun _ => ?_)
theorem countermandlaw15_CursorParts.mono : ∀ a0 a1 k, LeO (countermandlaw15_CursorParts.f k a0 a1) (countermandlaw15_CursorParts.f (k + 1) a0 a1) := by
  intro a0 a1 k
  obtain ⟨ih0, ih1, ih2⟩ := countermandlaw15_CursorParts.mono_l k
  unfold countermandlaw15_CursorParts.f
  repeat' first
      | (with_reducible exact ih0 _ _ _)
      | (with_reducible exact ih1 _ _ _ _ _ _ _ _ _ _)
      | (with_reducible exact ih2 _ _ _ _ _ _ _ _ _ _ _)
      | (with_reducible exact LeO.refl _)
      | (with_reducible exact LeO.none _)
      | (with_reducible refine LeO.ite ?_ ?_)
      | (with_reducible refine LeO.bind ?_ (fun _ => ?_))
      | exact ih0 _ _ _
      | exact ih1 _ _ _ _ _ _ _ _ _ _
      | exact ih2 _ _ _ _ _ _ _ _ _ _ _
      | exact LeO.none _
      | refine LeO.ite ?_ ?_
      | refine LeO.bind ?_ (fun _ => ?_)
set_option maxHeartbeats 8000000 in
set_option maxRecDepth 100000 in
theorem countermandlaw15_CursorParts.calls (k : Nat) (A0 : Option Addr) (c0 : Nat) (l0 : List Int) (a1 : Int) (r : Bool) (w : World) (hr0 : Kd.C (Kd.int .i64) w A0 l0.length l0) (hc0 : l0.length ≤ c0) (h : countermandlaw15_CursorParts.f k l0 a1 = some r) (hrT : r = true) :
    Calls Try.prog 7 #[.slice A0 l0.length c0, .int .i64 a1] w fun e w' => e = .returned (.bool r) ∧ Below w.heap.size w w' := by
  have hu36 := Try.underlying36
  have HR0 := Aside0.mk hr0
  have HC0 := Aside0.mk hc0
  clear hr0 hc0
  have HB := Aside0.mk (Below.refl w.heap.size w)
  have H : ((countermandlaw15_alive.f).bind fun t120 => (if t120 = true then (if (l0.length : Int) > 300 then (countermandlaw15_CursorParts.j0 k l0 a1 true) else (if a1 < 0 then (countermandlaw15_CursorParts.j0 k l0 a1 true) else (countermandlaw15_CursorParts.j0 k l0 a1 (decide (a1 > 2))))) else (some false))) = some r := h
  clear h
  replace H := Option.bind_eq_some_iff.mp H
  obtain ⟨t120, A30, H⟩ := H
  replace H : (if t120 = true then (if (l0.length : Int) > 300 then (countermandlaw15_CursorParts.j0 k l0 a1 true) else (if a1 < 0 then (countermandlaw15_CursorParts.j0 k l0 a1 true) else (countermandlaw15_CursorParts.j0 k l0 a1 (decide (a1 > 2))))) else (some false)) = some r := H
  have A3 := Aside0.mk A30
  clear A30
  by_cases c4 : t120 = true
  · subst c4
    have H1 : (if (l0.length : Int) > 300 then (countermandlaw15_CursorParts.j0 k l0 a1 true) else (if a1 < 0 then (countermandlaw15_CursorParts.j0 k l0 a1 true) else (countermandlaw15_CursorParts.j0 k l0 a1 (decide (a1 > 2))))) = some r := by rw [if_pos rfl] at H; exact H
    clear H
    have H := H1
    clear H1
    have HC5 := Aside0.mk H
    clear H
    go_enter Try.func7, Try.ntmps7
    go_upto_region 3 with (first | ((with_reducible refine gate_callee (f := 17) rfl ?_); refine goesL_ (some 10) rfl rfl Try.func17 (by kernel_rfl) rfl #[] rfl (by (try simp only [List.map_toArray, List.map_cons, List.map_nil]); first | done | rfl | (simp only [List.length_drop, List.length_take]; rfl)) ?_; (with_reducible refine (countermandlaw15_alive.calls  true _ A3.out).mono ?_); rintro e w6 ⟨rfl, hb⟩; refine ⟨_, rfl, ?_⟩; have n0_ := Aside0.mk (below_step (by repeat (first | (with_reducible first | exact HB.out | apply below_alloc | apply pw_below_drewN | apply below_drew1) | exact HB.out)) hb); clear HB; have HB := n0_; clear n0_; (try clear hb); (try clear hb2); (try clear hk); (try clear hi)))
    (try simp only [Act.put, List.setIfInBounds_toArray, List.set_cons_zero, List.set_cons_succ])
    go_cut [22] (fun v22 wc => ∃ (kq : Nat) (x22_4 : Bool), v22 = .bool x22_4 ∧ Aside0 (countermandlaw15_CursorParts.j0 kq l0 a1 x22_4 = some r) ∧ Aside0 (kq ≤ k) ∧ Aside0 (Below w.heap.size w wc))
    case first =>
      have H := HC5.out
      clear HC5
      by_cases c7 : (l0.length : Int) > 300
      · rw [if_pos c7] at H
        have c7b0 : decide (300 < (l0.length : Int)) = true := decide_eq_true c7
        have c7b1 : decide (300 < l0.length) = true := decide_eq_true (by omega)
        clear c7
        (first | rw [c7b0] | (simp only [i64_w, i32_w]; rw [c7b0]) | skip)
        have H' := Aside0.mk H
        clear H
        go_wp2
        go_meet
        case rel => exact ⟨_, (true), (by first | rfl | (simp; done) | (simp [*]; done)), H', ⟨by first | omega | exact Nat.le_refl _⟩, ⟨by repeat (first | (with_reducible first | exact HB.out | apply below_alloc | apply pw_below_drewN | apply below_drew1) | exact HB.out)⟩⟩
      · rw [if_neg c7] at H
        have c7b0 : decide (300 < (l0.length : Int)) = false := decide_eq_false c7
        have c7b1 : decide (300 < l0.length) = false := decide_eq_false (by omega)
        clear c7
        (first | rw [c7b0] | (simp only [i64_w, i32_w]; rw [c7b0]) | skip)
        by_cases c8 : a1 < 0
        · rw [if_pos c8] at H
          have c8b0 : decide (a1 < 0) = true := decide_eq_true c8
          clear c8
          have H' := Aside0.mk H
          clear H
          go_wp2
          go_meet
          case rel => exact ⟨_, (true), (by first | rfl | (simp; done) | (simp [*]; done)), H', ⟨by first | omega | exact Nat.le_refl _⟩, ⟨by repeat (first | (with_reducible first | exact HB.out | apply below_alloc | apply pw_below_drewN | apply below_drew1) | exact HB.out)⟩⟩
        · rw [if_neg c8] at H
          have c8b0 : decide (a1 < 0) = false := decide_eq_false c8
          clear c8
          have H' := Aside0.mk H
          clear H
          go_wp2
          go_meet
          case rel => exact ⟨_, (decide (a1 > 2)), (by first | rfl | (simp; done) | (simp [*]; done)), H', ⟨by first | omega | exact Nat.le_refl _⟩, ⟨by repeat (first | (with_reducible first | exact HB.out | apply below_alloc | apply pw_below_drewN | apply below_drew1) | exact HB.out)⟩⟩
    case rest =>
      clear HC5
      try clear c1
      try clear p2
      try clear c4
      try clear c7
      try clear c7b0
      try clear c7b1
      try clear c8
      try clear c8b0
      obtain ⟨kq, x22_4, rfl, HA, HJ4, HB⟩ := hcut
      cases kq with
      | zero => exact absurd HA.out (by simp [countermandlaw15_CursorParts.j0])
      | succ kj4 =>
        have H := HA.out
        clear HA
        simp only [countermandlaw15_CursorParts.j0] at H
        by_cases c9 : x22_4 = true
        · subst c9
          have H1 : (some true) = some r := by rw [if_pos rfl] at H; exact H
          clear H
          have H := H1
          clear H1
          obtain rfl := Option.some.inj H
          clear hrT
          go_wp2
          go_ret
          exact ⟨by first | rfl | (simp [errW_none, errW_some] <;> rfl) | (simp [*, errW_none, errW_some] <;> rfl), by repeat (first | (with_reducible first | exact HB.out | apply below_alloc | apply pw_below_drewN | apply below_drew1) | exact HB.out)⟩
        · replace c9 := Bool.eq_false_iff.mpr c9
          subst c9
          have H1 : (countermandlaw15_CursorParts.l0 kj4 a1 l0 (l0.length : Int) 0 0 0 0 0 0 0) = some r := by rw [if_neg (show ¬ (false = true) by decide)] at H; exact H
          clear H
          have H := H1
          clear H1
          have H' := Aside0.mk H
          clear H
          go_wp2_with (first | ((with_reducible refine gate_dst (N := 24) rfl ?_); refine box_event ?hg (N := 24) ?hd (cs := #[.int .i64 0, .int .i64 0, .int .i64 0]) (t := 36) ?hr ?_; (case hd => rfl); (case hg => rfl); (case hr => first | (go_simp; done) | (go_simp; rfl)); intro gb121 hg w10 hbox hb; have n0_ := Aside0.mk (below_step (by repeat (first | (with_reducible first | exact HB.out | apply below_alloc | apply pw_below_drewN | apply below_drew1) | exact HB.out)) hb); have n1_ := Aside0.mk ((show IsS36 w w10 gb121 0 0 0 from ⟨hbox, (by rw [hg]; exact (below_size (by repeat (first | (with_reducible first | exact HB.out | apply below_alloc | apply pw_below_drewN | apply below_drew1) | exact HB.out))) : w.heap.size ≤ gb121)⟩)); clear HB; have HB := n0_; have HI121 := n1_; clear n0_ n1_; clear hb hbox hg) | ((with_reducible refine gate_dst (N := 26) rfl ?_); refine box_event ?hg (N := 26) ?hd (cs := #[.int .i64 0, .int .i64 0, .int .i64 0]) (t := 36) ?hr ?_; (case hd => rfl); (case hg => rfl); (case hr => first | (go_simp; done) | (go_simp; rfl)); intro gb122 hg w11 hbox hb; have n0_ := Aside0.mk (IsS36.below (by repeat (first | (with_reducible first | exact HI121.out | apply IsS36.alloc | apply IsS36.drewN | apply IsS36.drew | apply IsS36.set_0 | apply IsS36.set_1 | apply IsS36.set_2) | exact HI121.out)) hb); have n1_ := Aside0.mk (below_step (by repeat (first | (with_reducible first | exact HB.out | apply below_alloc | apply pw_below_drewN | apply below_drew1 | refine below_set ?_ (IsS36.ge HI121.out)) | exact HB.out)) hb); have n2_ := Aside0.mk ((by rw [hg]; exact Nat.ne_of_lt (IsS36.lt (show IsS36 w _ gb121 0 0 0 from by repeat (first | (with_reducible first | exact HI121.out | apply IsS36.alloc | apply IsS36.drewN | apply IsS36.drew | apply IsS36.set_0 | apply IsS36.set_1 | apply IsS36.set_2) | exact HI121.out))) : gb121 ≠ gb122)); have n3_ := Aside0.mk ((by rw [hg]; exact Nat.ne_of_gt (IsS36.lt (show IsS36 w _ gb121 0 0 0 from by repeat (first | (with_reducible first | exact HI121.out | apply IsS36.alloc | apply IsS36.drewN | apply IsS36.drew | apply IsS36.set_0 | apply IsS36.set_1 | apply IsS36.set_2) | exact HI121.out))) : gb122 ≠ gb121)); have n4_ := Aside0.mk ((show IsS36 w w11 gb122 0 0 0 from ⟨hbox, (by rw [hg]; exact (below_size (by repeat (first | (with_reducible first | exact HB.out | apply below_alloc | apply pw_below_drewN | apply below_drew1 | refine below_set ?_ (IsS36.ge HI121.out)) | exact HB.out))) : w.heap.size ≤ gb122)⟩)); clear HI121; clear HB; have HI121 := n0_; have HB := n1_; have NB121_122 := n2_; have NB122_121 := n3_; have HI122 := n4_; clear n0_ n1_ n2_ n3_ n4_; clear hb hbox hg))
          go_loopg [29] kj4 (fun kq v29 w' => ∃ (x29_2 : Int) (x122000_2 : Int) (x122001_2 : Int) (x122002_2 : Int) (x123000_2 : Int) (x123001_2 : Int) (x123002_2 : Int), v29 = .int .i64 x29_2 ∧ Aside0 (countermandlaw15_CursorParts.l0 kq a1 l0 (l0.length : Int) x29_2 x122000_2 x122001_2 x122002_2 x123000_2 x123001_2 x123002_2 = some r) ∧ Aside0 (kq ≤ kj4) ∧ Aside0 (IsS36 w w' gb121 x122000_2 x122001_2 x122002_2) ∧ Aside0 (IsS36 w w' gb122 x123000_2 x123001_2 x123002_2) ∧ Aside0 (Below w.heap.size w w'))
          case atStart => exact ⟨(0), (0), (0), (0), (0), (0), (0), (by first | rfl | (simp; done) | (simp [*]; done)), H', ⟨Nat.le_refl _⟩, ⟨by repeat (first | (with_reducible first | exact HI121.out | apply IsS36.alloc | apply IsS36.drewN | apply IsS36.drew | apply IsS36.set_0 | apply IsS36.set_1 | apply IsS36.set_2) | exact HI121.out)⟩, ⟨by repeat (first | (with_reducible first | exact HI122.out | apply IsS36.alloc | apply IsS36.drewN | apply IsS36.drew | apply IsS36.set_0 | apply IsS36.set_1 | apply IsS36.set_2) | exact HI122.out)⟩, ⟨by repeat (first | (with_reducible first | exact HB.out | apply below_alloc | apply pw_below_drewN | apply below_drew1 | refine below_set ?_ (IsS36.ge HI121.out) | refine below_set ?_ (IsS36.ge HI122.out)) | exact HB.out)⟩⟩
          case round =>
            clear H'
            try clear c1
            try clear p2
            try clear c4
            try clear c7
            try clear c7b0
            try clear c7b1
            try clear c8
            try clear c8b0
            try clear c9
            try clear p2
            obtain ⟨x29_2, x122000_2, x122001_2, x122002_2, x123000_2, x123001_2, x123002_2, rfl, HA, HK2, HI121, HI122, HB⟩ := hrel
            cases gk with
            | zero => exact absurd HA.out (by simp [countermandlaw15_CursorParts.l0])
            | succ k2 =>
              have H := HA.out
              clear HA
              simp only [countermandlaw15_CursorParts.l0] at H
              by_cases c12 : x29_2 < (l0.length : Int)
              · rw [if_pos c12] at H
                have c12b0 : decide (x29_2 < (l0.length : Int)) = true := decide_eq_true c12
                clear c12
                by_cases c13 : 0 ≤ x29_2
                · rw [if_pos c13] at H
                  have c13b0 : decide (0 ≤ x29_2) = true := decide_eq_true c13
                  clear c13
                  by_cases c14 : x29_2 < (l0.length : Int)
                  · rw [if_pos c14] at H
                    have c14b0 : decide (x29_2 < (l0.length : Int)) = true := decide_eq_true c14
                    clear c14
                    replace H := Option.bind_eq_some_iff.mp H
                    obtain ⟨⟨t124, t125, t126, t127⟩, A150, H⟩ := H
                    replace H : (if (rd l0 x29_2) = a1 then ((cursor_Cursor_Step.f x123000_2 x123001_2 x123002_2 (rd l0 x29_2)).bind fun bt128 => (countermandlaw15_CursorParts.l0 k2 a1 l0 (l0.length : Int) (wrap64 (x29_2 + 1)) t125 t126 t127 bt128.2.1 bt128.2.2.1 bt128.2.2.2)) else (countermandlaw15_CursorParts.l0 k2 a1 l0 (l0.length : Int) (wrap64 (x29_2 + 1)) t125 t126 t127 x123000_2 x123001_2 x123002_2)) = some r := H
                    have A15 := Aside0.mk A150
                    clear A150
                    by_cases c16 : (rd l0 x29_2) = a1
                    · rw [if_pos c16] at H
                      have c16b0 : ((rd l0 x29_2) == a1) = true := beq_iff_eq.mpr c16
                      have c16b1 : ((rd l0 x29_2) != a1) = false := bne_eq_false_iff_eq.mpr c16
                      clear c16
                      replace H := Option.bind_eq_some_iff.mp H
                      obtain ⟨⟨t128, t129, t130, t131⟩, A170, H⟩ := H
                      replace H : (countermandlaw15_CursorParts.l0 k2 a1 l0 (l0.length : Int) (wrap64 (x29_2 + 1)) t125 t126 t127 t129 t130 t131) = some r := H
                      have A17 := Aside0.mk A170
                      clear A170
                      have H' := Aside0.mk H
                      clear H
                      have p123 : 0 ≤ (x29_2 : Int) := of_decide_eq_true (by first | (with_reducible assumption) | assumption)
                      have q123 : x29_2 < (l0.length : Int) := of_decide_eq_true (by first | (with_reducible assumption) | assumption)
                      obtain ⟨ad123, e123, hx123_0⟩ := Kd.at_int HR0.out x29_2 p123 q123
                      cases e123
                      replace hx123_0 := (HB.out.cell (World.block_lt_of_cell? w _ hx123_0)).trans hx123_0
                      replace p123 := eq_true p123
                      replace q123 := eq_true q123
                      go_wp2_with (first | ((with_reducible refine gate_callee (f := 19) rfl ?_); refine goesL_ (some 35) rfl rfl Try.func19 (by kernel_rfl) rfl #[.pointer (some ⟨gb121, 0, none⟩), .int .i64 (rd l0 x29_2)] rfl (by (try simp only [List.map_toArray, List.map_cons, List.map_nil]); first | done | rfl | (simp only [List.length_drop, List.length_take]; rfl)) ?_; (with_reducible refine (cursor_Cursor_Step.calls gb121 x122000_2 x122001_2 x122002_2 (rd l0 x29_2) t124 t125 t126 t127 w _ ?side1 ?side2 A15.out).mono ?_); (case side1 => repeat (first | (with_reducible first | exact HI121.out | apply IsS36.alloc | apply IsS36.drewN | apply IsS36.drew | apply IsS36.set_0 | apply IsS36.set_1 | apply IsS36.set_2) | exact HI121.out)); (case side2 => repeat (first | (with_reducible first | exact HB.out | apply below_alloc | apply pw_below_drewN | apply below_drew1 | refine below_set ?_ (IsS36.ge HI121.out) | refine below_set ?_ (IsS36.ge HI122.out)) | exact HB.out)); rintro e w18 ⟨rfl, hi, hb, hk⟩; refine ⟨_, rfl, ?_⟩; have n0_ := Aside0.mk ((show IsS36 w w18 gb122 x123000_2 x123001_2 x123002_2 from ⟨KeepBut.blk hk (show IsS36 w _ gb122 x123000_2 x123001_2 x123002_2 from by repeat (first | (with_reducible first | exact HI122.out | apply IsS36.alloc | apply IsS36.drewN | apply IsS36.drew | apply IsS36.set_0 | apply IsS36.set_1 | apply IsS36.set_2) | exact HI122.out)).1 NB122_121.out (by simp), (show IsS36 w _ gb122 x123000_2 x123001_2 x123002_2 from by repeat (first | (with_reducible first | exact HI122.out | apply IsS36.alloc | apply IsS36.drewN | apply IsS36.drew | apply IsS36.set_0 | apply IsS36.set_1 | apply IsS36.set_2) | exact HI122.out)).2⟩)); have n1_ := Aside0.mk (hb); have n2_ := Aside0.mk (hi); clear HI122; clear HB; clear HI121; have HI122 := n0_; have HB := n1_; have HI121 := n2_; clear n0_ n1_ n2_; (try clear hb); (try clear hb2); (try clear hk); (try clear hi)) | ((with_reducible refine gate_callee (f := 19) rfl ?_); refine goesL_ (some 41) rfl rfl Try.func19 (by kernel_rfl) rfl #[.pointer (some ⟨gb122, 0, none⟩), .int .i64 (rd l0 x29_2)] rfl (by (try simp only [List.map_toArray, List.map_cons, List.map_nil]); first | done | rfl | (simp only [List.length_drop, List.length_take]; rfl)) ?_; (with_reducible refine (cursor_Cursor_Step.calls gb122 x123000_2 x123001_2 x123002_2 (rd l0 x29_2) t128 t129 t130 t131 w _ ?side1 ?side2 A17.out).mono ?_); (case side1 => repeat (first | (with_reducible first | exact HI122.out | apply IsS36.alloc | apply IsS36.drewN | apply IsS36.drew | apply IsS36.set_0 | apply IsS36.set_1 | apply IsS36.set_2) | exact HI122.out)); (case side2 => repeat (first | (with_reducible first | exact HB.out | apply below_alloc | apply pw_below_drewN | apply below_drew1 | refine below_set ?_ (IsS36.ge HI121.out) | refine below_set ?_ (IsS36.ge HI122.out)) | exact HB.out)); rintro e w19 ⟨rfl, hi, hb, hk⟩; refine ⟨_, rfl, ?_⟩; have n0_ := Aside0.mk ((show IsS36 w w19 gb121 t125 t126 t127 from ⟨KeepBut.blk hk (show IsS36 w _ gb121 t125 t126 t127 from by repeat (first | (with_reducible first | exact HI121.out | apply IsS36.alloc | apply IsS36.drewN | apply IsS36.drew | apply IsS36.set_0 | apply IsS36.set_1 | apply IsS36.set_2) | exact HI121.out)).1 NB121_122.out (by simp), (show IsS36 w _ gb121 t125 t126 t127 from by repeat (first | (with_reducible first | exact HI121.out | apply IsS36.alloc | apply IsS36.drewN | apply IsS36.drew | apply IsS36.set_0 | apply IsS36.set_1 | apply IsS36.set_2) | exact HI121.out)).2⟩)); have n1_ := Aside0.mk (hb); have n2_ := Aside0.mk (hi); clear HI121; clear HB; clear HI122; have HI121 := n0_; have HB := n1_; have HI122 := n2_; clear n0_ n1_ n2_; (try clear hb); (try clear hb2); (try clear hk); (try clear hi)))
                      go_roundg k2
                      case measure => have := HJ4.out; have := HK2.out; omega
                      case rel => exact ⟨(wrap64 (x29_2 + 1)), (t125), (t126), (t127), (t129), (t130), (t131), (by first | rfl | (simp; done) | (simp [*]; done)), H', ⟨by have := HJ4.out; have := HK2.out; omega⟩, ⟨by repeat (first | (with_reducible first | exact HI121.out | apply IsS36.alloc | apply IsS36.drewN | apply IsS36.drew | apply IsS36.set_0 | apply IsS36.set_1 | apply IsS36.set_2) | exact HI121.out)⟩, ⟨by repeat (first | (with_reducible first | exact HI122.out | apply IsS36.alloc | apply IsS36.drewN | apply IsS36.drew | apply IsS36.set_0 | apply IsS36.set_1 | apply IsS36.set_2) | exact HI122.out)⟩, ⟨by repeat (first | (with_reducible first | exact HB.out | apply below_alloc | apply pw_below_drewN | apply below_drew1 | refine below_set ?_ (IsS36.ge HI121.out) | refine below_set ?_ (IsS36.ge HI122.out)) | exact HB.out)⟩⟩
                    · rw [if_neg c16] at H
                      have c16b0 : ((rd l0 x29_2) == a1) = false := beq_eq_false_iff_ne.mpr c16
                      have c16b1 : ((rd l0 x29_2) != a1) = true := bne_iff_ne.mpr c16
                      have H' := Aside0.mk H
                      clear H
                      have p123 : 0 ≤ (x29_2 : Int) := of_decide_eq_true (by first | (with_reducible assumption) | assumption)
                      have q123 : x29_2 < (l0.length : Int) := of_decide_eq_true (by first | (with_reducible assumption) | assumption)
                      obtain ⟨ad123, e123, hx123_0⟩ := Kd.at_int HR0.out x29_2 p123 q123
                      cases e123
                      replace hx123_0 := (HB.out.cell (World.block_lt_of_cell? w _ hx123_0)).trans hx123_0
                      replace p123 := eq_true p123
                      replace q123 := eq_true q123
                      go_wp2_with (first | ((with_reducible refine gate_callee (f := 19) rfl ?_); refine goesL_ (some 35) rfl rfl Try.func19 (by kernel_rfl) rfl #[.pointer (some ⟨gb121, 0, none⟩), .int .i64 (rd l0 x29_2)] rfl (by (try simp only [List.map_toArray, List.map_cons, List.map_nil]); first | done | rfl | (simp only [List.length_drop, List.length_take]; rfl)) ?_; (with_reducible refine (cursor_Cursor_Step.calls gb121 x122000_2 x122001_2 x122002_2 (rd l0 x29_2) t124 t125 t126 t127 w _ ?side1 ?side2 A15.out).mono ?_); (case side1 => repeat (first | (with_reducible first | exact HI121.out | apply IsS36.alloc | apply IsS36.drewN | apply IsS36.drew | apply IsS36.set_0 | apply IsS36.set_1 | apply IsS36.set_2) | exact HI121.out)); (case side2 => repeat (first | (with_reducible first | exact HB.out | apply below_alloc | apply pw_below_drewN | apply below_drew1 | refine below_set ?_ (IsS36.ge HI121.out) | refine below_set ?_ (IsS36.ge HI122.out)) | exact HB.out)); rintro e w20 ⟨rfl, hi, hb, hk⟩; refine ⟨_, rfl, ?_⟩; have n0_ := Aside0.mk ((show IsS36 w w20 gb122 x123000_2 x123001_2 x123002_2 from ⟨KeepBut.blk hk (show IsS36 w _ gb122 x123000_2 x123001_2 x123002_2 from by repeat (first | (with_reducible first | exact HI122.out | apply IsS36.alloc | apply IsS36.drewN | apply IsS36.drew | apply IsS36.set_0 | apply IsS36.set_1 | apply IsS36.set_2) | exact HI122.out)).1 NB122_121.out (by simp), (show IsS36 w _ gb122 x123000_2 x123001_2 x123002_2 from by repeat (first | (with_reducible first | exact HI122.out | apply IsS36.alloc | apply IsS36.drewN | apply IsS36.drew | apply IsS36.set_0 | apply IsS36.set_1 | apply IsS36.set_2) | exact HI122.out)).2⟩)); have n1_ := Aside0.mk (hb); have n2_ := Aside0.mk (hi); clear HI122; clear HB; clear HI121; have HI122 := n0_; have HB := n1_; have HI121 := n2_; clear n0_ n1_ n2_; (try clear hb); (try clear hb2); (try clear hk); (try clear hi)))
                      go_roundg k2
                      case measure => have := HJ4.out; have := HK2.out; omega
                      case rel => exact ⟨(wrap64 (x29_2 + 1)), (t125), (t126), (t127), (x123000_2), (x123001_2), (x123002_2), (by first | rfl | (simp; done) | (simp [*]; done)), H', ⟨by have := HJ4.out; have := HK2.out; omega⟩, ⟨by repeat (first | (with_reducible first | exact HI121.out | apply IsS36.alloc | apply IsS36.drewN | apply IsS36.drew | apply IsS36.set_0 | apply IsS36.set_1 | apply IsS36.set_2) | exact HI121.out)⟩, ⟨by repeat (first | (with_reducible first | exact HI122.out | apply IsS36.alloc | apply IsS36.drewN | apply IsS36.drew | apply IsS36.set_0 | apply IsS36.set_1 | apply IsS36.set_2) | exact HI122.out)⟩, ⟨by repeat (first | (with_reducible first | exact HB.out | apply below_alloc | apply pw_below_drewN | apply below_drew1 | refine below_set ?_ (IsS36.ge HI121.out) | refine below_set ?_ (IsS36.ge HI122.out)) | exact HB.out)⟩⟩
                  · rw [if_neg c14] at H
                    exact absurd H (by simp)
                · rw [if_neg c13] at H
                  exact absurd H (by simp)
              · rw [if_neg c12] at H
                have c12b0 : decide (x29_2 < (l0.length : Int)) = false := decide_eq_false c12
                clear c12
                replace H := Option.bind_eq_some_iff.mp H
                obtain ⟨⟨t132, t133, t134⟩, A210, H⟩ := H
                replace H : (countermandlaw15_CursorParts.l1 k2 a1 0 x122000_2 x122001_2 x122002_2 x123000_2 x123001_2 x123002_2 t132 t133 t134) = some r := H
                have A21 := Aside0.mk A210
                clear A210
                have H' := Aside0.mk H
                clear H
                go_wp2_with (first | ((with_reducible refine gate_callee (f := 21) rfl ?_); refine goesL_ (some 44) rfl rfl Try.func21 (by kernel_rfl) rfl #[.pointer (some ⟨gb121, 0, none⟩)] rfl (by (try simp only [List.map_toArray, List.map_cons, List.map_nil]); first | done | rfl | (simp only [List.length_drop, List.length_take]; rfl)) ?_; (with_reducible refine (cursor_Cursor_Copy.calls gb121 x122000_2 x122001_2 x122002_2 t132 t133 t134 w _ ?side1 ?side2 A21.out).mono ?_); (case side1 => repeat (first | (with_reducible first | exact HI121.out | apply IsS36.alloc | apply IsS36.drewN | apply IsS36.drew | apply IsS36.set_0 | apply IsS36.set_1 | apply IsS36.set_2) | exact HI121.out)); (case side2 => repeat (first | (with_reducible first | exact HB.out | apply below_alloc | apply pw_below_drewN | apply below_drew1 | refine below_set ?_ (IsS36.ge HI121.out) | refine below_set ?_ (IsS36.ge HI122.out)) | exact HB.out)); rintro e w22 ⟨g135, rfl, hi, hb, hb2, hn⟩; refine ⟨_, rfl, ?_⟩; have n0_ := Aside0.mk ((Nat.ne_of_lt (Nat.lt_of_lt_of_le (IsS36.lt (show IsS36 w _ gb121 x122000_2 x122001_2 x122002_2 from by repeat (first | (with_reducible first | exact HI121.out | apply IsS36.alloc | apply IsS36.drewN | apply IsS36.drew | apply IsS36.set_0 | apply IsS36.set_1 | apply IsS36.set_2) | exact HI121.out))) hn) : gb121 ≠ g135)); have n1_ := Aside0.mk ((Nat.ne_of_gt (Nat.lt_of_lt_of_le (IsS36.lt (show IsS36 w _ gb121 x122000_2 x122001_2 x122002_2 from by repeat (first | (with_reducible first | exact HI121.out | apply IsS36.alloc | apply IsS36.drewN | apply IsS36.drew | apply IsS36.set_0 | apply IsS36.set_1 | apply IsS36.set_2) | exact HI121.out))) hn) : g135 ≠ gb121)); have n2_ := Aside0.mk ((Nat.ne_of_lt (Nat.lt_of_lt_of_le (IsS36.lt (show IsS36 w _ gb122 x123000_2 x123001_2 x123002_2 from by repeat (first | (with_reducible first | exact HI122.out | apply IsS36.alloc | apply IsS36.drewN | apply IsS36.drew | apply IsS36.set_0 | apply IsS36.set_1 | apply IsS36.set_2) | exact HI122.out))) hn) : gb122 ≠ g135)); have n3_ := Aside0.mk ((Nat.ne_of_gt (Nat.lt_of_lt_of_le (IsS36.lt (show IsS36 w _ gb122 x123000_2 x123001_2 x123002_2 from by repeat (first | (with_reducible first | exact HI122.out | apply IsS36.alloc | apply IsS36.drewN | apply IsS36.drew | apply IsS36.set_0 | apply IsS36.set_1 | apply IsS36.set_2) | exact HI122.out))) hn) : g135 ≠ gb122)); have n4_ := Aside0.mk (IsS36.below (by repeat (first | (with_reducible first | exact HI121.out | apply IsS36.alloc | apply IsS36.drewN | apply IsS36.drew | apply IsS36.set_0 | apply IsS36.set_1 | apply IsS36.set_2) | exact HI121.out)) hb2); have n5_ := Aside0.mk (IsS36.below (by repeat (first | (with_reducible first | exact HI122.out | apply IsS36.alloc | apply IsS36.drewN | apply IsS36.drew | apply IsS36.set_0 | apply IsS36.set_1 | apply IsS36.set_2) | exact HI122.out)) hb2); have n6_ := Aside0.mk (hb); have n7_ := Aside0.mk (hi); clear HI121; clear HI122; clear HB; have NB121_135 := n0_; have NB135_121 := n1_; have NB122_135 := n2_; have NB135_122 := n3_; have HI121 := n4_; have HI122 := n5_; have HB := n6_; have HI135 := n7_; clear n0_ n1_ n2_ n3_ n4_ n5_ n6_ n7_; (try clear hb); (try clear hb2); (try clear hk); (try clear hi)))
                go_loopg [45] k2 (fun kq v45 w' => ∃ (x45_3 : Int) (x122000_3 : Int) (x122001_3 : Int) (x122002_3 : Int), v45 = .int .i64 x45_3 ∧ Aside0 (countermandlaw15_CursorParts.l1 kq a1 x45_3 x122000_3 x122001_3 x122002_3 x123000_2 x123001_2 x123002_2 t132 t133 t134 = some r) ∧ Aside0 (kq ≤ k2) ∧ Aside0 (IsS36 w w' gb121 x122000_3 x122001_3 x122002_3) ∧ Aside0 (IsS36 w w' gb122 x123000_2 x123001_2 x123002_2) ∧ Aside0 (IsS36 w w' g135 t132 t133 t134) ∧ Aside0 (Below w.heap.size w w'))
                case atStart => exact ⟨(0), (x122000_2), (x122001_2), (x122002_2), (by first | rfl | (simp; done) | (simp [*]; done)), H', ⟨Nat.le_refl _⟩, ⟨by repeat (first | (with_reducible first | exact HI121.out | apply IsS36.alloc | apply IsS36.drewN | apply IsS36.drew | apply IsS36.set_0 | apply IsS36.set_1 | apply IsS36.set_2) | exact HI121.out)⟩, ⟨by repeat (first | (with_reducible first | exact HI122.out | apply IsS36.alloc | apply IsS36.drewN | apply IsS36.drew | apply IsS36.set_0 | apply IsS36.set_1 | apply IsS36.set_2) | exact HI122.out)⟩, ⟨by repeat (first | (with_reducible first | exact HI135.out | apply IsS36.alloc | apply IsS36.drewN | apply IsS36.drew | apply IsS36.set_0 | apply IsS36.set_1 | apply IsS36.set_2) | exact HI135.out)⟩, ⟨by repeat (first | (with_reducible first | exact HB.out | apply below_alloc | apply pw_below_drewN | apply below_drew1 | refine below_set ?_ (IsS36.ge HI121.out) | refine below_set ?_ (IsS36.ge HI122.out) | refine below_set ?_ (IsS36.ge HI135.out)) | exact HB.out)⟩⟩
                case round =>
                  clear H'
                  try clear c1
                  try clear p1
                  try clear q1
                  try clear hx1
                  try clear c2
                  try clear p2
                  try clear c4
                  try clear p6
                  try clear c7
                  try clear c7b0
                  try clear c7b1
                  try clear c8
                  try clear c8b0
                  try clear c9
                  try clear c12
                  try clear c12b0
                  try clear p12
                  try clear q12
                  try clear hx12
                  try clear c13
                  try clear c13b0
                  try clear c14
                  try clear c14b0
                  try clear c16
                  try clear c16b0
                  try clear c16b1
                  try clear c17
                  try clear c19
                  try clear c21
                  try clear hx123_0
                  try clear p123
                  try clear p2
                  try clear q123
                  obtain ⟨x45_3, x122000_3, x122001_3, x122002_3, rfl, HA, HK3, HI121, HI122, HI135, HB⟩ := hrel
                  cases gk with
                  | zero => exact absurd HA.out (by simp [countermandlaw15_CursorParts.l1])
                  | succ k3 =>
                    have H := HA.out
                    clear HA
                    simp only [countermandlaw15_CursorParts.l1] at H
                    by_cases c23 : x45_3 < 100
                    · rw [if_pos c23] at H
                      have c23b0 : decide (x45_3 < 100) = true := decide_eq_true c23
                      clear c23
                      replace H := Option.bind_eq_some_iff.mp H
                      obtain ⟨⟨t136, t137, t138, t139⟩, A240, H⟩ := H
                      replace H : (countermandlaw15_CursorParts.l1 k3 a1 (wrap64 (x45_3 + 1)) t137 t138 t139 x123000_2 x123001_2 x123002_2 t132 t133 t134) = some r := H
                      have A24 := Aside0.mk A240
                      clear A240
                      have H' := Aside0.mk H
                      clear H
                      go_wp2_with (first | ((with_reducible refine gate_callee (f := 19) rfl ?_); refine goesL_ (some 49) rfl rfl Try.func19 (by kernel_rfl) rfl #[.pointer (some ⟨gb121, 0, none⟩), .int .i64 a1] rfl (by (try simp only [List.map_toArray, List.map_cons, List.map_nil]); first | done | rfl | (simp only [List.length_drop, List.length_take]; rfl)) ?_; (with_reducible refine (cursor_Cursor_Step.calls gb121 x122000_3 x122001_3 x122002_3 a1 t136 t137 t138 t139 w _ ?side1 ?side2 A24.out).mono ?_); (case side1 => repeat (first | (with_reducible first | exact HI121.out | apply IsS36.alloc | apply IsS36.drewN | apply IsS36.drew | apply IsS36.set_0 | apply IsS36.set_1 | apply IsS36.set_2) | exact HI121.out)); (case side2 => repeat (first | (with_reducible first | exact HB.out | apply below_alloc | apply pw_below_drewN | apply below_drew1 | refine below_set ?_ (IsS36.ge HI121.out) | refine below_set ?_ (IsS36.ge HI122.out) | refine below_set ?_ (IsS36.ge HI135.out)) | exact HB.out)); rintro e w25 ⟨rfl, hi, hb, hk⟩; refine ⟨_, rfl, ?_⟩; have n0_ := Aside0.mk ((show IsS36 w w25 gb122 x123000_2 x123001_2 x123002_2 from ⟨KeepBut.blk hk (show IsS36 w _ gb122 x123000_2 x123001_2 x123002_2 from by repeat (first | (with_reducible first | exact HI122.out | apply IsS36.alloc | apply IsS36.drewN | apply IsS36.drew | apply IsS36.set_0 | apply IsS36.set_1 | apply IsS36.set_2) | exact HI122.out)).1 NB122_121.out (by simp), (show IsS36 w _ gb122 x123000_2 x123001_2 x123002_2 from by repeat (first | (with_reducible first | exact HI122.out | apply IsS36.alloc | apply IsS36.drewN | apply IsS36.drew | apply IsS36.set_0 | apply IsS36.set_1 | apply IsS36.set_2) | exact HI122.out)).2⟩)); have n1_ := Aside0.mk ((show IsS36 w w25 g135 t132 t133 t134 from ⟨KeepBut.blk hk (show IsS36 w _ g135 t132 t133 t134 from by repeat (first | (with_reducible first | exact HI135.out | apply IsS36.alloc | apply IsS36.drewN | apply IsS36.drew | apply IsS36.set_0 | apply IsS36.set_1 | apply IsS36.set_2) | exact HI135.out)).1 NB135_121.out (by simp), (show IsS36 w _ g135 t132 t133 t134 from by repeat (first | (with_reducible first | exact HI135.out | apply IsS36.alloc | apply IsS36.drewN | apply IsS36.drew | apply IsS36.set_0 | apply IsS36.set_1 | apply IsS36.set_2) | exact HI135.out)).2⟩)); have n2_ := Aside0.mk (hb); have n3_ := Aside0.mk (hi); clear HI122; clear HI135; clear HB; clear HI121; have HI122 := n0_; have HI135 := n1_; have HB := n2_; have HI121 := n3_; clear n0_ n1_ n2_ n3_; (try clear hb); (try clear hb2); (try clear hk); (try clear hi)))
                      go_roundg k3
                      case measure => have := HJ4.out; have := HK2.out; have := HK3.out; omega
                      case rel => exact ⟨(wrap64 (x45_3 + 1)), (t137), (t138), (t139), (by first | rfl | (simp; done) | (simp [*]; done)), H', ⟨by have := HJ4.out; have := HK2.out; have := HK3.out; omega⟩, ⟨by repeat (first | (with_reducible first | exact HI121.out | apply IsS36.alloc | apply IsS36.drewN | apply IsS36.drew | apply IsS36.set_0 | apply IsS36.set_1 | apply IsS36.set_2) | exact HI121.out)⟩, ⟨by repeat (first | (with_reducible first | exact HI122.out | apply IsS36.alloc | apply IsS36.drewN | apply IsS36.drew | apply IsS36.set_0 | apply IsS36.set_1 | apply IsS36.set_2) | exact HI122.out)⟩, ⟨by repeat (first | (with_reducible first | exact HI135.out | apply IsS36.alloc | apply IsS36.drewN | apply IsS36.drew | apply IsS36.set_0 | apply IsS36.set_1 | apply IsS36.set_2) | exact HI135.out)⟩, ⟨by repeat (first | (with_reducible first | exact HB.out | apply below_alloc | apply pw_below_drewN | apply below_drew1 | refine below_set ?_ (IsS36.ge HI121.out) | refine below_set ?_ (IsS36.ge HI122.out) | refine below_set ?_ (IsS36.ge HI135.out)) | exact HB.out)⟩⟩
                    · rw [if_neg c23] at H
                      have c23b0 : decide (x45_3 < 100) = false := decide_eq_false c23
                      clear c23
                      replace H := Option.bind_eq_some_iff.mp H
                      obtain ⟨⟨t140, t141, t142, t143⟩, A260, H⟩ := H
                      replace H : ((cursor_Cursor_Read.f x123000_2 x123001_2 x123002_2 a1).bind fun bt144 => (if t140 = bt144.1 then ((cursor_Cursor_Read.f x122000_3 x122001_3 x122002_3 a1).bind fun bt148 => (if bt148.1 = 64 then ((cursor_Cursor_Any.f bt144.2.1 bt144.2.2.1 bt144.2.2.2).bind fun bt152 => ((cursor_Cursor_Read.f bt152.2.1 bt152.2.2.1 bt152.2.2.2 a1).bind fun bt156 => (if bt152.1 = true then (if bt156.1 > 0 then (some true) else (some false)) else (if bt156.1 > 0 then (some false) else (some true))))) else (some false))) else (some false))) = some r := H
                      have A26 := Aside0.mk A260
                      clear A260
                      replace H := Option.bind_eq_some_iff.mp H
                      obtain ⟨⟨t144, t145, t146, t147⟩, A270, H⟩ := H
                      replace H : (if t140 = t144 then ((cursor_Cursor_Read.f x122000_3 x122001_3 x122002_3 a1).bind fun bt148 => (if bt148.1 = 64 then ((cursor_Cursor_Any.f t145 t146 t147).bind fun bt152 => ((cursor_Cursor_Read.f bt152.2.1 bt152.2.2.1 bt152.2.2.2 a1).bind fun bt156 => (if bt152.1 = true then (if bt156.1 > 0 then (some true) else (some false)) else (if bt156.1 > 0 then (some false) else (some true))))) else (some false))) else (some false)) = some r := H
                      have A27 := Aside0.mk A270
                      clear A270
                      by_cases c28 : t140 = t144
                      · rw [if_pos c28] at H
                        have c28b0 : (t140 == t144) = true := beq_iff_eq.mpr c28
                        have c28b1 : (t140 != t144) = false := bne_eq_false_iff_eq.mpr c28
                        clear c28
                        replace H := Option.bind_eq_some_iff.mp H
                        obtain ⟨⟨t148, t149, t150, t151⟩, A290, H⟩ := H
                        replace H : (if t148 = 64 then ((cursor_Cursor_Any.f t145 t146 t147).bind fun bt152 => ((cursor_Cursor_Read.f bt152.2.1 bt152.2.2.1 bt152.2.2.2 a1).bind fun bt156 => (if bt152.1 = true then (if bt156.1 > 0 then (some true) else (some false)) else (if bt156.1 > 0 then (some false) else (some true))))) else (some false)) = some r := H
                        have A29 := Aside0.mk A290
                        clear A290
                        by_cases c30 : t148 = 64
                        · rw [if_pos c30] at H
                          have c30b0 : (t148 == 64) = true := beq_iff_eq.mpr c30
                          have c30b1 : (t148 != 64) = false := bne_eq_false_iff_eq.mpr c30
                          clear c30
                          replace H := Option.bind_eq_some_iff.mp H
                          obtain ⟨⟨t152, t153, t154, t155⟩, A310, H⟩ := H
                          replace H : ((cursor_Cursor_Read.f t153 t154 t155 a1).bind fun bt156 => (if t152 = true then (if bt156.1 > 0 then (some true) else (some false)) else (if bt156.1 > 0 then (some false) else (some true)))) = some r := H
                          have A31 := Aside0.mk A310
                          clear A310
                          replace H := Option.bind_eq_some_iff.mp H
                          obtain ⟨⟨t156, t157, t158, t159⟩, A320, H⟩ := H
                          replace H : (if t152 = true then (if t156 > 0 then (some true) else (some false)) else (if t156 > 0 then (some false) else (some true))) = some r := H
                          have A32 := Aside0.mk A320
                          clear A320
                          by_cases c33 : t152 = true
                          · subst c33
                            have H1 : (if t156 > 0 then (some true) else (some false)) = some r := by rw [if_pos rfl] at H; exact H
                            clear H
                            have H := H1
                            clear H1
                            by_cases c34 : t156 > 0
                            · rw [if_pos c34] at H
                              have c34b0 : decide (0 < t156) = true := decide_eq_true c34
                              clear c34
                              obtain rfl := Option.some.inj H
                              clear hrT
                              go_wp2_with (first | ((with_reducible refine gate_callee (f := 20) rfl ?_); refine goesL_ (some 53) rfl rfl Try.func20 (by kernel_rfl) rfl #[.pointer (some ⟨g135, 0, none⟩), .int .i64 a1] rfl (by (try simp only [List.map_toArray, List.map_cons, List.map_nil]); first | done | rfl | (simp only [List.length_drop, List.length_take]; rfl)) ?_; (with_reducible refine (cursor_Cursor_Read.calls g135 t132 t133 t134 a1 t140 t141 t142 t143 w _ ?side1 ?side2 A26.out).mono ?_); (case side1 => repeat (first | (with_reducible first | exact HI135.out | apply IsS36.alloc | apply IsS36.drewN | apply IsS36.drew | apply IsS36.set_0 | apply IsS36.set_1 | apply IsS36.set_2) | exact HI135.out)); (case side2 => repeat (first | (with_reducible first | exact HB.out | apply below_alloc | apply pw_below_drewN | apply below_drew1 | refine below_set ?_ (IsS36.ge HI121.out) | refine below_set ?_ (IsS36.ge HI122.out) | refine below_set ?_ (IsS36.ge HI135.out)) | exact HB.out)); rintro e w35 ⟨rfl, hi, hb, hk⟩; refine ⟨_, rfl, ?_⟩; have n0_ := Aside0.mk ((show IsS36 w w35 gb121 x122000_3 x122001_3 x122002_3 from ⟨KeepBut.blk hk (show IsS36 w _ gb121 x122000_3 x122001_3 x122002_3 from by repeat (first | (with_reducible first | exact HI121.out | apply IsS36.alloc | apply IsS36.drewN | apply IsS36.drew | apply IsS36.set_0 | apply IsS36.set_1 | apply IsS36.set_2) | exact HI121.out)).1 NB121_135.out (by simp), (show IsS36 w _ gb121 x122000_3 x122001_3 x122002_3 from by repeat (first | (with_reducible first | exact HI121.out | apply IsS36.alloc | apply IsS36.drewN | apply IsS36.drew | apply IsS36.set_0 | apply IsS36.set_1 | apply IsS36.set_2) | exact HI121.out)).2⟩)); have n1_ := Aside0.mk ((show IsS36 w w35 gb122 x123000_2 x123001_2 x123002_2 from ⟨KeepBut.blk hk (show IsS36 w _ gb122 x123000_2 x123001_2 x123002_2 from by repeat (first | (with_reducible first | exact HI122.out | apply IsS36.alloc | apply IsS36.drewN | apply IsS36.drew | apply IsS36.set_0 | apply IsS36.set_1 | apply IsS36.set_2) | exact HI122.out)).1 NB122_135.out (by simp), (show IsS36 w _ gb122 x123000_2 x123001_2 x123002_2 from by repeat (first | (with_reducible first | exact HI122.out | apply IsS36.alloc | apply IsS36.drewN | apply IsS36.drew | apply IsS36.set_0 | apply IsS36.set_1 | apply IsS36.set_2) | exact HI122.out)).2⟩)); have n2_ := Aside0.mk (hb); have n3_ := Aside0.mk (hi); clear HI121; clear HI122; clear HB; clear HI135; have HI121 := n0_; have HI122 := n1_; have HB := n2_; have HI135 := n3_; clear n0_ n1_ n2_ n3_; (try clear hb); (try clear hb2); (try clear hk); (try clear hi)) | ((with_reducible refine gate_callee (f := 20) rfl ?_); refine goesL_ (some 56) rfl rfl Try.func20 (by kernel_rfl) rfl #[.pointer (some ⟨gb122, 0, none⟩), .int .i64 a1] rfl (by (try simp only [List.map_toArray, List.map_cons, List.map_nil]); first | done | rfl | (simp only [List.length_drop, List.length_take]; rfl)) ?_; (with_reducible refine (cursor_Cursor_Read.calls gb122 x123000_2 x123001_2 x123002_2 a1 t144 t145 t146 t147 w _ ?side1 ?side2 A27.out).mono ?_); (case side1 => repeat (first | (with_reducible first | exact HI122.out | apply IsS36.alloc | apply IsS36.drewN | apply IsS36.drew | apply IsS36.set_0 | apply IsS36.set_1 | apply IsS36.set_2) | exact HI122.out)); (case side2 => repeat (first | (with_reducible first | exact HB.out | apply below_alloc | apply pw_below_drewN | apply below_drew1 | refine below_set ?_ (IsS36.ge HI121.out) | refine below_set ?_ (IsS36.ge HI122.out) | refine below_set ?_ (IsS36.ge HI135.out)) | exact HB.out)); rintro e w36 ⟨rfl, hi, hb, hk⟩; refine ⟨_, rfl, ?_⟩; have n0_ := Aside0.mk ((show IsS36 w w36 gb121 x122000_3 x122001_3 x122002_3 from ⟨KeepBut.blk hk (show IsS36 w _ gb121 x122000_3 x122001_3 x122002_3 from by repeat (first | (with_reducible first | exact HI121.out | apply IsS36.alloc | apply IsS36.drewN | apply IsS36.drew | apply IsS36.set_0 | apply IsS36.set_1 | apply IsS36.set_2) | exact HI121.out)).1 NB121_122.out (by simp), (show IsS36 w _ gb121 x122000_3 x122001_3 x122002_3 from by repeat (first | (with_reducible first | exact HI121.out | apply IsS36.alloc | apply IsS36.drewN | apply IsS36.drew | apply IsS36.set_0 | apply IsS36.set_1 | apply IsS36.set_2) | exact HI121.out)).2⟩)); have n1_ := Aside0.mk ((show IsS36 w w36 g135 t141 t142 t143 from ⟨KeepBut.blk hk (show IsS36 w _ g135 t141 t142 t143 from by repeat (first | (with_reducible first | exact HI135.out | apply IsS36.alloc | apply IsS36.drewN | apply IsS36.drew | apply IsS36.set_0 | apply IsS36.set_1 | apply IsS36.set_2) | exact HI135.out)).1 NB135_122.out (by simp), (show IsS36 w _ g135 t141 t142 t143 from by repeat (first | (with_reducible first | exact HI135.out | apply IsS36.alloc | apply IsS36.drewN | apply IsS36.drew | apply IsS36.set_0 | apply IsS36.set_1 | apply IsS36.set_2) | exact HI135.out)).2⟩)); have n2_ := Aside0.mk (hb); have n3_ := Aside0.mk (hi); clear HI121; clear HI135; clear HB; clear HI122; have HI121 := n0_; have HI135 := n1_; have HB := n2_; have HI122 := n3_; clear n0_ n1_ n2_ n3_; (try clear hb); (try clear hb2); (try clear hk); (try clear hi)) | (go_at_call 20; (with_reducible refine (cursor_Cursor_Read.calls gb121 x122000_3 x122001_3 x122002_3 a1 t148 t149 t150 t151 w _ ?side1 ?side2 A29.out).mono ?_); (case side1 => repeat (first | (with_reducible first | exact HI121.out | apply IsS36.alloc | apply IsS36.drewN | apply IsS36.drew | apply IsS36.set_0 | apply IsS36.set_1 | apply IsS36.set_2) | exact HI121.out)); (case side2 => repeat (first | (with_reducible first | exact HB.out | apply below_alloc | apply pw_below_drewN | apply below_drew1 | refine below_set ?_ (IsS36.ge HI121.out) | refine below_set ?_ (IsS36.ge HI122.out) | refine below_set ?_ (IsS36.ge HI135.out)) | exact HB.out)); rintro e w37 ⟨rfl, hi, hb, hk⟩; have n0_ := Aside0.mk ((show IsS36 w w37 gb122 t145 t146 t147 from ⟨KeepBut.blk hk (show IsS36 w _ gb122 t145 t146 t147 from by repeat (first | (with_reducible first | exact HI122.out | apply IsS36.alloc | apply IsS36.drewN | apply IsS36.drew | apply IsS36.set_0 | apply IsS36.set_1 | apply IsS36.set_2) | exact HI122.out)).1 NB122_121.out (by simp), (show IsS36 w _ gb122 t145 t146 t147 from by repeat (first | (with_reducible first | exact HI122.out | apply IsS36.alloc | apply IsS36.drewN | apply IsS36.drew | apply IsS36.set_0 | apply IsS36.set_1 | apply IsS36.set_2) | exact HI122.out)).2⟩)); have n1_ := Aside0.mk ((show IsS36 w w37 g135 t141 t142 t143 from ⟨KeepBut.blk hk (show IsS36 w _ g135 t141 t142 t143 from by repeat (first | (with_reducible first | exact HI135.out | apply IsS36.alloc | apply IsS36.drewN | apply IsS36.drew | apply IsS36.set_0 | apply IsS36.set_1 | apply IsS36.set_2) | exact HI135.out)).1 NB135_121.out (by simp), (show IsS36 w _ g135 t141 t142 t143 from by repeat (first | (with_reducible first | exact HI135.out | apply IsS36.alloc | apply IsS36.drewN | apply IsS36.drew | apply IsS36.set_0 | apply IsS36.set_1 | apply IsS36.set_2) | exact HI135.out)).2⟩)); have n2_ := Aside0.mk (hb); have n3_ := Aside0.mk (hi); clear HI122; clear HI135; clear HB; clear HI121; have HI122 := n0_; have HI135 := n1_; have HB := n2_; have HI121 := n3_; clear n0_ n1_ n2_ n3_; (try clear hb); (try clear hb2); (try clear hk); (try clear hi)) | (go_at_call 23; (with_reducible refine (cursor_Cursor_Any.calls gb122 t145 t146 t147 true t153 t154 t155 w _ ?side1 ?side2 A31.out).mono ?_); (case side1 => repeat (first | (with_reducible first | exact HI122.out | apply IsS36.alloc | apply IsS36.drewN | apply IsS36.drew | apply IsS36.set_0 | apply IsS36.set_1 | apply IsS36.set_2) | exact HI122.out)); (case side2 => repeat (first | (with_reducible first | exact HB.out | apply below_alloc | apply pw_below_drewN | apply below_drew1 | refine below_set ?_ (IsS36.ge HI121.out) | refine below_set ?_ (IsS36.ge HI122.out) | refine below_set ?_ (IsS36.ge HI135.out)) | exact HB.out)); rintro e w38 ⟨rfl, hi, hb, hk⟩; have n0_ := Aside0.mk ((show IsS36 w w38 gb121 t149 t150 t151 from ⟨KeepBut.blk hk (show IsS36 w _ gb121 t149 t150 t151 from by repeat (first | (with_reducible first | exact HI121.out | apply IsS36.alloc | apply IsS36.drewN | apply IsS36.drew | apply IsS36.set_0 | apply IsS36.set_1 | apply IsS36.set_2) | exact HI121.out)).1 NB121_122.out (by simp), (show IsS36 w _ gb121 t149 t150 t151 from by repeat (first | (with_reducible first | exact HI121.out | apply IsS36.alloc | apply IsS36.drewN | apply IsS36.drew | apply IsS36.set_0 | apply IsS36.set_1 | apply IsS36.set_2) | exact HI121.out)).2⟩)); have n1_ := Aside0.mk ((show IsS36 w w38 g135 t141 t142 t143 from ⟨KeepBut.blk hk (show IsS36 w _ g135 t141 t142 t143 from by repeat (first | (with_reducible first | exact HI135.out | apply IsS36.alloc | apply IsS36.drewN | apply IsS36.drew | apply IsS36.set_0 | apply IsS36.set_1 | apply IsS36.set_2) | exact HI135.out)).1 NB135_122.out (by simp), (show IsS36 w _ g135 t141 t142 t143 from by repeat (first | (with_reducible first | exact HI135.out | apply IsS36.alloc | apply IsS36.drewN | apply IsS36.drew | apply IsS36.set_0 | apply IsS36.set_1 | apply IsS36.set_2) | exact HI135.out)).2⟩)); have n2_ := Aside0.mk (hb); have n3_ := Aside0.mk (hi); clear HI121; clear HI135; clear HB; clear HI122; have HI121 := n0_; have HI135 := n1_; have HB := n2_; have HI122 := n3_; clear n0_ n1_ n2_ n3_; (try clear hb); (try clear hb2); (try clear hk); (try clear hi)) | (go_at_call 20; (with_reducible refine (cursor_Cursor_Read.calls gb122 t153 t154 t155 a1 t156 t157 t158 t159 w _ ?side1 ?side2 A32.out).mono ?_); (case side1 => repeat (first | (with_reducible first | exact HI122.out | apply IsS36.alloc | apply IsS36.drewN | apply IsS36.drew | apply IsS36.set_0 | apply IsS36.set_1 | apply IsS36.set_2) | exact HI122.out)); (case side2 => repeat (first | (with_reducible first | exact HB.out | apply below_alloc | apply pw_below_drewN | apply below_drew1 | refine below_set ?_ (IsS36.ge HI121.out) | refine below_set ?_ (IsS36.ge HI122.out) | refine below_set ?_ (IsS36.ge HI135.out)) | exact HB.out)); rintro e w39 ⟨rfl, hi, hb, hk⟩; have n0_ := Aside0.mk ((show IsS36 w w39 gb121 t149 t150 t151 from ⟨KeepBut.blk hk (show IsS36 w _ gb121 t149 t150 t151 from by repeat (first | (with_reducible first | exact HI121.out | apply IsS36.alloc | apply IsS36.drewN | apply IsS36.drew | apply IsS36.set_0 | apply IsS36.set_1 | apply IsS36.set_2) | exact HI121.out)).1 NB121_122.out (by simp), (show IsS36 w _ gb121 t149 t150 t151 from by repeat (first | (with_reducible first | exact HI121.out | apply IsS36.alloc | apply IsS36.drewN | apply IsS36.drew | apply IsS36.set_0 | apply IsS36.set_1 | apply IsS36.set_2) | exact HI121.out)).2⟩)); have n1_ := Aside0.mk ((show IsS36 w w39 g135 t141 t142 t143 from ⟨KeepBut.blk hk (show IsS36 w _ g135 t141 t142 t143 from by repeat (first | (with_reducible first | exact HI135.out | apply IsS36.alloc | apply IsS36.drewN | apply IsS36.drew | apply IsS36.set_0 | apply IsS36.set_1 | apply IsS36.set_2) | exact HI135.out)).1 NB135_122.out (by simp), (show IsS36 w _ g135 t141 t142 t143 from by repeat (first | (with_reducible first | exact HI135.out | apply IsS36.alloc | apply IsS36.drewN | apply IsS36.drew | apply IsS36.set_0 | apply IsS36.set_1 | apply IsS36.set_2) | exact HI135.out)).2⟩)); have n2_ := Aside0.mk (hb); have n3_ := Aside0.mk (hi); clear HI121; clear HI135; clear HB; clear HI122; have HI121 := n0_; have HI135 := n1_; have HB := n2_; have HI122 := n3_; clear n0_ n1_ n2_ n3_; (try clear hb); (try clear hb2); (try clear hk); (try clear hi)))
                              go_ret
                              exact ⟨by first | rfl | (simp [errW_none, errW_some] <;> rfl) | (simp [*, errW_none, errW_some] <;> rfl), by repeat (first | (with_reducible first | exact HB.out | apply below_alloc | apply pw_below_drewN | apply below_drew1 | refine below_set ?_ (IsS36.ge HI121.out) | refine below_set ?_ (IsS36.ge HI122.out) | refine below_set ?_ (IsS36.ge HI135.out)) | exact HB.out)⟩
                            · rw [if_neg c34] at H
                              have c34b0 : decide (0 < t156) = false := decide_eq_false c34
                              clear c34
                              obtain rfl := Option.some.inj H
                              cases hrT
                          · replace c33 := Bool.eq_false_iff.mpr c33
                            subst c33
                            have H1 : (if t156 > 0 then (some false) else (some true)) = some r := by rw [if_neg (show ¬ (false = true) by decide)] at H; exact H
                            clear H
                            have H := H1
                            clear H1
                            by_cases c40 : t156 > 0
                            · rw [if_pos c40] at H
                              have c40b0 : decide (0 < t156) = true := decide_eq_true c40
                              clear c40
                              obtain rfl := Option.some.inj H
                              cases hrT
                            · rw [if_neg c40] at H
                              have c40b0 : decide (0 < t156) = false := decide_eq_false c40
                              clear c40
                              obtain rfl := Option.some.inj H
                              clear hrT
                              go_wp2_with (first | ((with_reducible refine gate_callee (f := 20) rfl ?_); refine goesL_ (some 53) rfl rfl Try.func20 (by kernel_rfl) rfl #[.pointer (some ⟨g135, 0, none⟩), .int .i64 a1] rfl (by (try simp only [List.map_toArray, List.map_cons, List.map_nil]); first | done | rfl | (simp only [List.length_drop, List.length_take]; rfl)) ?_; (with_reducible refine (cursor_Cursor_Read.calls g135 t132 t133 t134 a1 t140 t141 t142 t143 w _ ?side1 ?side2 A26.out).mono ?_); (case side1 => repeat (first | (with_reducible first | exact HI135.out | apply IsS36.alloc | apply IsS36.drewN | apply IsS36.drew | apply IsS36.set_0 | apply IsS36.set_1 | apply IsS36.set_2) | exact HI135.out)); (case side2 => repeat (first | (with_reducible first | exact HB.out | apply below_alloc | apply pw_below_drewN | apply below_drew1 | refine below_set ?_ (IsS36.ge HI121.out) | refine below_set ?_ (IsS36.ge HI122.out) | refine below_set ?_ (IsS36.ge HI135.out)) | exact HB.out)); rintro e w41 ⟨rfl, hi, hb, hk⟩; refine ⟨_, rfl, ?_⟩; have n0_ := Aside0.mk ((show IsS36 w w41 gb121 x122000_3 x122001_3 x122002_3 from ⟨KeepBut.blk hk (show IsS36 w _ gb121 x122000_3 x122001_3 x122002_3 from by repeat (first | (with_reducible first | exact HI121.out | apply IsS36.alloc | apply IsS36.drewN | apply IsS36.drew | apply IsS36.set_0 | apply IsS36.set_1 | apply IsS36.set_2) | exact HI121.out)).1 NB121_135.out (by simp), (show IsS36 w _ gb121 x122000_3 x122001_3 x122002_3 from by repeat (first | (with_reducible first | exact HI121.out | apply IsS36.alloc | apply IsS36.drewN | apply IsS36.drew | apply IsS36.set_0 | apply IsS36.set_1 | apply IsS36.set_2) | exact HI121.out)).2⟩)); have n1_ := Aside0.mk ((show IsS36 w w41 gb122 x123000_2 x123001_2 x123002_2 from ⟨KeepBut.blk hk (show IsS36 w _ gb122 x123000_2 x123001_2 x123002_2 from by repeat (first | (with_reducible first | exact HI122.out | apply IsS36.alloc | apply IsS36.drewN | apply IsS36.drew | apply IsS36.set_0 | apply IsS36.set_1 | apply IsS36.set_2) | exact HI122.out)).1 NB122_135.out (by simp), (show IsS36 w _ gb122 x123000_2 x123001_2 x123002_2 from by repeat (first | (with_reducible first | exact HI122.out | apply IsS36.alloc | apply IsS36.drewN | apply IsS36.drew | apply IsS36.set_0 | apply IsS36.set_1 | apply IsS36.set_2) | exact HI122.out)).2⟩)); have n2_ := Aside0.mk (hb); have n3_ := Aside0.mk (hi); clear HI121; clear HI122; clear HB; clear HI135; have HI121 := n0_; have HI122 := n1_; have HB := n2_; have HI135 := n3_; clear n0_ n1_ n2_ n3_; (try clear hb); (try clear hb2); (try clear hk); (try clear hi)) | ((with_reducible refine gate_callee (f := 20) rfl ?_); refine goesL_ (some 56) rfl rfl Try.func20 (by kernel_rfl) rfl #[.pointer (some ⟨gb122, 0, none⟩), .int .i64 a1] rfl (by (try simp only [List.map_toArray, List.map_cons, List.map_nil]); first | done | rfl | (simp only [List.length_drop, List.length_take]; rfl)) ?_; (with_reducible refine (cursor_Cursor_Read.calls gb122 x123000_2 x123001_2 x123002_2 a1 t144 t145 t146 t147 w _ ?side1 ?side2 A27.out).mono ?_); (case side1 => repeat (first | (with_reducible first | exact HI122.out | apply IsS36.alloc | apply IsS36.drewN | apply IsS36.drew | apply IsS36.set_0 | apply IsS36.set_1 | apply IsS36.set_2) | exact HI122.out)); (case side2 => repeat (first | (with_reducible first | exact HB.out | apply below_alloc | apply pw_below_drewN | apply below_drew1 | refine below_set ?_ (IsS36.ge HI121.out) | refine below_set ?_ (IsS36.ge HI122.out) | refine below_set ?_ (IsS36.ge HI135.out)) | exact HB.out)); rintro e w42 ⟨rfl, hi, hb, hk⟩; refine ⟨_, rfl, ?_⟩; have n0_ := Aside0.mk ((show IsS36 w w42 gb121 x122000_3 x122001_3 x122002_3 from ⟨KeepBut.blk hk (show IsS36 w _ gb121 x122000_3 x122001_3 x122002_3 from by repeat (first | (with_reducible first | exact HI121.out | apply IsS36.alloc | apply IsS36.drewN | apply IsS36.drew | apply IsS36.set_0 | apply IsS36.set_1 | apply IsS36.set_2) | exact HI121.out)).1 NB121_122.out (by simp), (show IsS36 w _ gb121 x122000_3 x122001_3 x122002_3 from by repeat (first | (with_reducible first | exact HI121.out | apply IsS36.alloc | apply IsS36.drewN | apply IsS36.drew | apply IsS36.set_0 | apply IsS36.set_1 | apply IsS36.set_2) | exact HI121.out)).2⟩)); have n1_ := Aside0.mk ((show IsS36 w w42 g135 t141 t142 t143 from ⟨KeepBut.blk hk (show IsS36 w _ g135 t141 t142 t143 from by repeat (first | (with_reducible first | exact HI135.out | apply IsS36.alloc | apply IsS36.drewN | apply IsS36.drew | apply IsS36.set_0 | apply IsS36.set_1 | apply IsS36.set_2) | exact HI135.out)).1 NB135_122.out (by simp), (show IsS36 w _ g135 t141 t142 t143 from by repeat (first | (with_reducible first | exact HI135.out | apply IsS36.alloc | apply IsS36.drewN | apply IsS36.drew | apply IsS36.set_0 | apply IsS36.set_1 | apply IsS36.set_2) | exact HI135.out)).2⟩)); have n2_ := Aside0.mk (hb); have n3_ := Aside0.mk (hi); clear HI121; clear HI135; clear HB; clear HI122; have HI121 := n0_; have HI135 := n1_; have HB := n2_; have HI122 := n3_; clear n0_ n1_ n2_ n3_; (try clear hb); (try clear hb2); (try clear hk); (try clear hi)) | (go_at_call 20; (with_reducible refine (cursor_Cursor_Read.calls gb121 x122000_3 x122001_3 x122002_3 a1 t148 t149 t150 t151 w _ ?side1 ?side2 A29.out).mono ?_); (case side1 => repeat (first | (with_reducible first | exact HI121.out | apply IsS36.alloc | apply IsS36.drewN | apply IsS36.drew | apply IsS36.set_0 | apply IsS36.set_1 | apply IsS36.set_2) | exact HI121.out)); (case side2 => repeat (first | (with_reducible first | exact HB.out | apply below_alloc | apply pw_below_drewN | apply below_drew1 | refine below_set ?_ (IsS36.ge HI121.out) | refine below_set ?_ (IsS36.ge HI122.out) | refine below_set ?_ (IsS36.ge HI135.out)) | exact HB.out)); rintro e w43 ⟨rfl, hi, hb, hk⟩; have n0_ := Aside0.mk ((show IsS36 w w43 gb122 t145 t146 t147 from ⟨KeepBut.blk hk (show IsS36 w _ gb122 t145 t146 t147 from by repeat (first | (with_reducible first | exact HI122.out | apply IsS36.alloc | apply IsS36.drewN | apply IsS36.drew | apply IsS36.set_0 | apply IsS36.set_1 | apply IsS36.set_2) | exact HI122.out)).1 NB122_121.out (by simp), (show IsS36 w _ gb122 t145 t146 t147 from by repeat (first | (with_reducible first | exact HI122.out | apply IsS36.alloc | apply IsS36.drewN | apply IsS36.drew | apply IsS36.set_0 | apply IsS36.set_1 | apply IsS36.set_2) | exact HI122.out)).2⟩)); have n1_ := Aside0.mk ((show IsS36 w w43 g135 t141 t142 t143 from ⟨KeepBut.blk hk (show IsS36 w _ g135 t141 t142 t143 from by repeat (first | (with_reducible first | exact HI135.out | apply IsS36.alloc | apply IsS36.drewN | apply IsS36.drew | apply IsS36.set_0 | apply IsS36.set_1 | apply IsS36.set_2) | exact HI135.out)).1 NB135_121.out (by simp), (show IsS36 w _ g135 t141 t142 t143 from by repeat (first | (with_reducible first | exact HI135.out | apply IsS36.alloc | apply IsS36.drewN | apply IsS36.drew | apply IsS36.set_0 | apply IsS36.set_1 | apply IsS36.set_2) | exact HI135.out)).2⟩)); have n2_ := Aside0.mk (hb); have n3_ := Aside0.mk (hi); clear HI122; clear HI135; clear HB; clear HI121; have HI122 := n0_; have HI135 := n1_; have HB := n2_; have HI121 := n3_; clear n0_ n1_ n2_ n3_; (try clear hb); (try clear hb2); (try clear hk); (try clear hi)) | (go_at_call 23; (with_reducible refine (cursor_Cursor_Any.calls gb122 t145 t146 t147 false t153 t154 t155 w _ ?side1 ?side2 A31.out).mono ?_); (case side1 => repeat (first | (with_reducible first | exact HI122.out | apply IsS36.alloc | apply IsS36.drewN | apply IsS36.drew | apply IsS36.set_0 | apply IsS36.set_1 | apply IsS36.set_2) | exact HI122.out)); (case side2 => repeat (first | (with_reducible first | exact HB.out | apply below_alloc | apply pw_below_drewN | apply below_drew1 | refine below_set ?_ (IsS36.ge HI121.out) | refine below_set ?_ (IsS36.ge HI122.out) | refine below_set ?_ (IsS36.ge HI135.out)) | exact HB.out)); rintro e w44 ⟨rfl, hi, hb, hk⟩; have n0_ := Aside0.mk ((show IsS36 w w44 gb121 t149 t150 t151 from ⟨KeepBut.blk hk (show IsS36 w _ gb121 t149 t150 t151 from by repeat (first | (with_reducible first | exact HI121.out | apply IsS36.alloc | apply IsS36.drewN | apply IsS36.drew | apply IsS36.set_0 | apply IsS36.set_1 | apply IsS36.set_2) | exact HI121.out)).1 NB121_122.out (by simp), (show IsS36 w _ gb121 t149 t150 t151 from by repeat (first | (with_reducible first | exact HI121.out | apply IsS36.alloc | apply IsS36.drewN | apply IsS36.drew | apply IsS36.set_0 | apply IsS36.set_1 | apply IsS36.set_2) | exact HI121.out)).2⟩)); have n1_ := Aside0.mk ((show IsS36 w w44 g135 t141 t142 t143 from ⟨KeepBut.blk hk (show IsS36 w _ g135 t141 t142 t143 from by repeat (first | (with_reducible first | exact HI135.out | apply IsS36.alloc | apply IsS36.drewN | apply IsS36.drew | apply IsS36.set_0 | apply IsS36.set_1 | apply IsS36.set_2) | exact HI135.out)).1 NB135_122.out (by simp), (show IsS36 w _ g135 t141 t142 t143 from by repeat (first | (with_reducible first | exact HI135.out | apply IsS36.alloc | apply IsS36.drewN | apply IsS36.drew | apply IsS36.set_0 | apply IsS36.set_1 | apply IsS36.set_2) | exact HI135.out)).2⟩)); have n2_ := Aside0.mk (hb); have n3_ := Aside0.mk (hi); clear HI121; clear HI135; clear HB; clear HI122; have HI121 := n0_; have HI135 := n1_; have HB := n2_; have HI122 := n3_; clear n0_ n1_ n2_ n3_; (try clear hb); (try clear hb2); (try clear hk); (try clear hi)) | (go_at_call 20; (with_reducible refine (cursor_Cursor_Read.calls gb122 t153 t154 t155 a1 t156 t157 t158 t159 w _ ?side1 ?side2 A32.out).mono ?_); (case side1 => repeat (first | (with_reducible first | exact HI122.out | apply IsS36.alloc | apply IsS36.drewN | apply IsS36.drew | apply IsS36.set_0 | apply IsS36.set_1 | apply IsS36.set_2) | exact HI122.out)); (case side2 => repeat (first | (with_reducible first | exact HB.out | apply below_alloc | apply pw_below_drewN | apply below_drew1 | refine below_set ?_ (IsS36.ge HI121.out) | refine below_set ?_ (IsS36.ge HI122.out) | refine below_set ?_ (IsS36.ge HI135.out)) | exact HB.out)); rintro e w45 ⟨rfl, hi, hb, hk⟩; have n0_ := Aside0.mk ((show IsS36 w w45 gb121 t149 t150 t151 from ⟨KeepBut.blk hk (show IsS36 w _ gb121 t149 t150 t151 from by repeat (first | (with_reducible first | exact HI121.out | apply IsS36.alloc | apply IsS36.drewN | apply IsS36.drew | apply IsS36.set_0 | apply IsS36.set_1 | apply IsS36.set_2) | exact HI121.out)).1 NB121_122.out (by simp), (show IsS36 w _ gb121 t149 t150 t151 from by repeat (first | (with_reducible first | exact HI121.out | apply IsS36.alloc | apply IsS36.drewN | apply IsS36.drew | apply IsS36.set_0 | apply IsS36.set_1 | apply IsS36.set_2) | exact HI121.out)).2⟩)); have n1_ := Aside0.mk ((show IsS36 w w45 g135 t141 t142 t143 from ⟨KeepBut.blk hk (show IsS36 w _ g135 t141 t142 t143 from by repeat (first | (with_reducible first | exact HI135.out | apply IsS36.alloc | apply IsS36.drewN | apply IsS36.drew | apply IsS36.set_0 | apply IsS36.set_1 | apply IsS36.set_2) | exact HI135.out)).1 NB135_122.out (by simp), (show IsS36 w _ g135 t141 t142 t143 from by repeat (first | (with_reducible first | exact HI135.out | apply IsS36.alloc | apply IsS36.drewN | apply IsS36.drew | apply IsS36.set_0 | apply IsS36.set_1 | apply IsS36.set_2) | exact HI135.out)).2⟩)); have n2_ := Aside0.mk (hb); have n3_ := Aside0.mk (hi); clear HI121; clear HI135; clear HB; clear HI122; have HI121 := n0_; have HI135 := n1_; have HB := n2_; have HI122 := n3_; clear n0_ n1_ n2_ n3_; (try clear hb); (try clear hb2); (try clear hk); (try clear hi)))
                              go_ret
                              exact ⟨by first | rfl | (simp [errW_none, errW_some] <;> rfl) | (simp [*, errW_none, errW_some] <;> rfl), by repeat (first | (with_reducible first | exact HB.out | apply below_alloc | apply pw_below_drewN | apply below_drew1 | refine below_set ?_ (IsS36.ge HI121.out) | refine below_set ?_ (IsS36.ge HI122.out) | refine below_set ?_ (IsS36.ge HI135.out)) | exact HB.out)⟩
                        · rw [if_neg c30] at H
                          have c30b0 : (t148 == 64) = false := beq_eq_false_iff_ne.mpr c30
                          have c30b1 : (t148 != 64) = true := bne_iff_ne.mpr c30
                          obtain rfl := Option.some.inj H
                          cases hrT
                      · rw [if_neg c28] at H
                        have c28b0 : (t140 == t144) = false := beq_eq_false_iff_ne.mpr c28
                        have c28b1 : (t140 != t144) = true := bne_iff_ne.mpr c28
                        obtain rfl := Option.some.inj H
                        cases hrT
  · replace c4 := Bool.eq_false_iff.mpr c4
    subst c4
    have H1 : (some false) = some r := by rw [if_neg (show ¬ (false = true) by decide)] at H; exact H
    clear H
    have H := H1
    clear H1
    obtain rfl := Option.some.inj H
    cases hrT

/-- THE ONE PURE STATEMENT of countermandlaw15_CursorParts: yours. -/
def countermandlaw15_CursorParts.Pure : Prop := ∀ (l0 : List Int) (a1 : Int), l0.length ≤ maxLen → l0.length * 8 ≤ 140737488351232 → (∀ x ∈ l0, (Lit.int .i64 x).wf = true) → (Lit.int .i64 a1).wf = true → ∃ k, countermandlaw15_CursorParts.f k l0 a1 = some true
theorem countermandlaw15_CursorParts.walk (P : countermandlaw15_CursorParts.Pure) (a0 : Option Addr) (len0 cap0 : Nat) (z0 : List Int) (a1 : Int) (w : World) (w0 : (a0 = none ∧ len0 = 0 ∧ cap0 = 0 ∧ z0 = []) ∨ ∃ x, a0 = some x ∧ len0 ≤ cap0 ∧ cap0 ≤ maxLen ∧ z0.length = cap0 ∧ (∀ i, i < z0.length → w.cell? (x.add i) = some (.int .i64 (z0.getD i 0))) ∧ ∀ n ∈ z0, (Lit.int .i64 n).wf = true) (y0 : len0 * 8 ≤ 140737488351232) (w1 : (Lit.int .i64 a1).wf = true) :
    Calls Try.prog 7 #[.slice a0 len0 cap0, .int .i64 a1] w fun e w' => e = .returned (.bool true) ∧ Below w.heap.size w w' := by
  obtain ⟨l0, rfl, hr0, hm0, hw0, hc0⟩ := ReadsInt.ofRowC w0
  obtain ⟨k, h⟩ := P l0 a1 hm0 y0 hw0 w1
  refine (countermandlaw15_CursorParts.calls k _ _ l0 a1 true w (Kd.C_of_reads (d := (0 : Int)) (h1 := fun _ => rfl) hr0) hc0 h rfl).mono ?_
  rintro e w' ⟨rfl, hd⟩
  exact ⟨rfl, hd⟩

end Go.Proofs.Ytfimbmdbaaiemaa.PCursorParts
