/- Written by a program of this session, which began as the kit's print and is turned in wip/printer: the plain form of each function, and that the Go code comes to it. -/
import Derived.Test.YtodffnchcbapcaaPWireOrderx0
import Derived.Test.YtodffnchcbapcaaPWireOrderx1
namespace Go.Proofs.Ytodffnchcbapcaa.PWireOrder
open Go.RowKit Go.Proofs.YtodffnchcbapcaaW.PrintWords Go.Proofs.YtodffnchcbapcaaW.PrintLast Go.Proofs.YtodffnchcbapcaaW.PrintMore
attribute [local go_sem] max2_int min2_int max_two min_two max_three min_three max_four min_four   -- for this text's walks alone
set_option linter.unusedVariables false
set_option linter.unusedSimpArgs false

/-! ### countermandlaw06_great: function 15 -/
def countermandlaw06_great.l0 : Nat → Int → List (S29) → Int → Int → Option (Bool)
  | 0, _, _, _, _ => none
  | k + 1, x3, x9, x10, x11 => if x11 < x10 then (if 0 ≤ x11 then (if x11 < (x9.length : Int) then (if (((rd_T29 x9 x11).f2).size : Int) > 2048 then (some true) else (if (wrap64 (x3 + (((rd_T29 x9 x11).f2).size : Int))) > 2048 then (some true) else (countermandlaw06_great.l0 k (wrap64 (x3 + (((rd_T29 x9 x11).f2).size : Int))) x9 x10 (wrap64 (x11 + 1))))) else (none)) else (none)) else (some false)
def countermandlaw06_great.f (k : Nat) (l0 : List (S29)) : Option (Bool) := if (l0.length : Int) > 80 then (some true) else (countermandlaw06_great.l0 k 0 l0 (l0.length : Int) 0)
theorem countermandlaw06_great.mono_l : ∀ k, (∀ y0 y1 y2 y3, LeO (countermandlaw06_great.l0 k y0 y1 y2 y3) (countermandlaw06_great.l0 (k + 1) y0 y1 y2 y3))
  | 0 => fun _ _ _ _ r h => by simp [countermandlaw06_great.l0] at h
  | k + 1 => by
    have ih0 := countermandlaw06_great.mono_l k
    · intro y0 y1 y2 y3
      unfold countermandlaw06_great.l0
      repeat' first
      | (with_reducible exact ih0 _ _ _ _)
      | (with_reducible exact LeO.refl _)
      | (with_reducible exact LeO.none _)
      | (with_reducible refine LeO.ite ?_ ?_)
      | (with_reducible refine LeO.bind ?_ (fun _ => ?_))
      | exact ih0 _ _ _ _
      | exact LeO.none _
      | refine LeO.ite ?_ ?_
      | refine LeO.bind ?_ (fun _ => ?_)
theorem countermandlaw06_great.mono : ∀ a0 k, LeO (countermandlaw06_great.f k a0) (countermandlaw06_great.f (k + 1) a0) := by
  intro a0 k
  have ih0 := countermandlaw06_great.mono_l k
  unfold countermandlaw06_great.f
  repeat' first
      | (with_reducible exact ih0 _ _ _ _)
      | (with_reducible exact LeO.refl _)
      | (with_reducible exact LeO.none _)
      | (with_reducible refine LeO.ite ?_ ?_)
      | (with_reducible refine LeO.bind ?_ (fun _ => ?_))
      | exact ih0 _ _ _ _
      | exact LeO.none _
      | refine LeO.ite ?_ ?_
      | refine LeO.bind ?_ (fun _ => ?_)
set_option maxHeartbeats 8000000 in
set_option maxRecDepth 100000 in
theorem countermandlaw06_great.calls (k : Nat) (A0 : Option Addr) (c0 : Nat) (l0 : List (S29)) (r : Bool) (w : World) (hr0 : Kd.C k29 w A0 l0.length l0) (hc0 : l0.length ≤ c0) (h : countermandlaw06_great.f k l0 = some r) :
    Calls Try.prog 15 #[.slice A0 l0.length c0] w fun e w' => e = .returned (.bool r) ∧ Below w.heap.size w w' := by
  have hu29 := Try.underlying29
  have HR0 := Aside0.mk hr0
  have HC0 := Aside0.mk hc0
  clear hr0 hc0
  have HB := Aside0.mk (Below.refl w.heap.size w)
  have H : (if (l0.length : Int) > 80 then (some true) else (countermandlaw06_great.l0 k 0 l0 (l0.length : Int) 0)) = some r := h
  clear h
  by_cases c2 : (l0.length : Int) > 80
  · rw [if_pos c2] at H
    have c2b0 : decide (80 < (l0.length : Int)) = true := decide_eq_true c2
    have c2b1 : decide (80 < l0.length) = true := decide_eq_true (by omega)
    clear c2
    obtain rfl := Option.some.inj H
    simp only [Option.some.injEq, Prod.mk.injEq] at H
    obtain ⟨rfl⟩ := H
    go_enter Try.func15, Try.ntmps15
    go_wp2
    go_ret
    exact ⟨by first | rfl | (simp [errW_none, errW_some] <;> rfl) | (simp [*, errW_none, errW_some] <;> rfl), by repeat (first | (with_reducible first | exact HB.out | apply below_alloc | apply pw_below_drewN | apply below_drew1) | exact HB.out)⟩
  · rw [if_neg c2] at H
    have c2b0 : decide (80 < (l0.length : Int)) = false := decide_eq_false c2
    have c2b1 : decide (80 < l0.length) = false := decide_eq_false (by omega)
    clear c2
    have H' := Aside0.mk H
    clear H
    go_enter Try.func15, Try.ntmps15
    go_wp2
    go_loopg [3, 11] k (fun kq v3 v11 w' => ∃ (x3_1 : Int) (x11_1 : Int), v3 = .int .i64 x3_1 ∧ v11 = .int .i64 x11_1 ∧ Aside0 (countermandlaw06_great.l0 kq x3_1 l0 (l0.length : Int) x11_1 = some r) ∧ Aside0 (kq ≤ k) ∧ Aside0 (Below w.heap.size w w'))
    case atStart => exact ⟨(0), (0), (by first | rfl | (simp; done) | (simp [*]; done)), (by first | rfl | (simp; done) | (simp [*]; done)), H', ⟨Nat.le_refl _⟩, ⟨by repeat (first | (with_reducible first | exact HB.out | apply below_alloc | apply pw_below_drewN | apply below_drew1) | exact HB.out)⟩⟩
    case round =>
      clear H'
      try clear c1
      try clear c2
      try clear c2b0
      try clear c2b1
      try clear p2
      obtain ⟨x3_1, x11_1, rfl, rfl, HA, HK1, HB⟩ := hrel
      cases gk with
      | zero => exact absurd HA.out (by simp [countermandlaw06_great.l0])
      | succ k1 =>
        have H := HA.out
        clear HA
        simp only [countermandlaw06_great.l0] at H
        by_cases c3 : x11_1 < (l0.length : Int)
        · rw [if_pos c3] at H
          have c3b0 : decide (x11_1 < (l0.length : Int)) = true := decide_eq_true c3
          clear c3
          by_cases c4 : 0 ≤ x11_1
          · rw [if_pos c4] at H
            have c4b0 : decide (0 ≤ x11_1) = true := decide_eq_true c4
            clear c4
            by_cases c5 : x11_1 < (l0.length : Int)
            · rw [if_pos c5] at H
              have c5b0 : decide (x11_1 < (l0.length : Int)) = true := decide_eq_true c5
              clear c5
              by_cases c6 : (((rd_T29 l0 x11_1).f2).size : Int) > 2048
              · rw [if_pos c6] at H
                have c6b0 : decide (2048 < (((rd_T29 l0 x11_1).f2).size : Int)) = true := decide_eq_true c6
                have c6b1 : decide (2048 < ((rd_T29 l0 x11_1).f2).size) = true := decide_eq_true (by omega)
                clear c6
                obtain rfl := Option.some.inj H
                simp only [Option.some.injEq, Prod.mk.injEq] at H
                obtain ⟨rfl⟩ := H
                have p172 : 0 ≤ (x11_1 : Int) := of_decide_eq_true (by first | (with_reducible assumption) | assumption)
                have q172 : x11_1 < (l0.length : Int) := of_decide_eq_true (by first | (with_reducible assumption) | assumption)
                obtain ⟨ad172, e172, hx172_0, hx172_1, hx172_2, hx172_3⟩ := at_T29 HR0.out x11_1 p172 q172
                cases e172
                replace hx172_0 := (HB.out.cell (World.block_lt_of_cell? w _ hx172_0)).trans hx172_0
                replace hx172_1 := (HB.out.cell (World.block_lt_of_cell? w _ hx172_1)).trans hx172_1
                replace hx172_2 := (HB.out.cell (World.block_lt_of_cell? w _ hx172_2)).trans hx172_2
                replace hx172_3 := (HB.out.cell (World.block_lt_of_cell? w _ hx172_3)).trans hx172_3
                replace p172 := eq_true p172
                replace q172 := eq_true q172
                go_wp2_with (first | ((with_reducible refine gate_dst (N := 5) rfl ?_); refine box_event ?hg (N := 5) ?hd (cs := #[.int .i64 0, .int .i64 0, .string (⟨#[]⟩ : ByteArray), .int .i64 0]) (t := 29) ?hr ?_; (case hd => rfl); (case hg => rfl); (case hr => first | (go_simp; done) | (go_simp; rfl)); intro gb173 hg w7 hbox hb; have n0_ := Aside0.mk (below_step (by repeat (first | (with_reducible first | exact HB.out | apply below_alloc | apply pw_below_drewN | apply below_drew1) | exact HB.out)) hb); have n1_ := Aside0.mk (hbox); have n2_ := Aside0.mk ((by rw [hg]; exact (below_size (by repeat (first | (with_reducible first | exact HB.out | apply below_alloc | apply pw_below_drewN | apply below_drew1) | exact HB.out))) : w.heap.size ≤ gb173)); have n3_ := Aside0.mk ((by rw [hg]; exact (below_size (by repeat (first | (with_reducible first | exact HB.out | apply below_alloc | apply pw_below_drewN | apply below_drew1) | exact HB.out))) : w.heap.size ≤ gb173)); clear HB; have HB := n0_; have BK173 := n1_; have GW173 := n2_; have GE173 := n3_; clear n0_ n1_ n2_ n3_; clear hb hbox hg; have hcz8_0 : w7.cell? ⟨gb173, 0, none⟩ = some (.int .i64 0) := (blk_cell BK173.out 0).trans rfl; have hcz8_1 : w7.cell? ⟨gb173, 1, none⟩ = some (.int .i64 0) := (blk_cell BK173.out 1).trans rfl; have hcz8_2 : w7.cell? ⟨gb173, 2, none⟩ = some (.string (⟨#[]⟩ : ByteArray)) := (blk_cell BK173.out 2).trans rfl; have hcz8_3 : w7.cell? ⟨gb173, 3, none⟩ = some (.int .i64 0) := (blk_cell BK173.out 3).trans rfl; have hfz8_0 := blk_frozen BK173.out 0; have hfz8_1 := blk_frozen BK173.out 1; have hfz8_2 := blk_frozen BK173.out 2; have hfz8_3 := blk_frozen BK173.out 3))
                go_ret
                exact ⟨by first | rfl | (simp [errW_none, errW_some] <;> rfl) | (simp [*, errW_none, errW_some] <;> rfl), by repeat (first | (with_reducible first | exact HB.out | apply below_alloc | apply pw_below_drewN | apply below_drew1 | refine below_set ?_ GE173.out) | exact HB.out)⟩
              · rw [if_neg c6] at H
                have c6b0 : decide (2048 < (((rd_T29 l0 x11_1).f2).size : Int)) = false := decide_eq_false c6
                have c6b1 : decide (2048 < ((rd_T29 l0 x11_1).f2).size) = false := decide_eq_false (by omega)
                clear c6
                by_cases c9 : (wrap64 (x3_1 + (((rd_T29 l0 x11_1).f2).size : Int))) > 2048
                · rw [if_pos c9] at H
                  have c9b0 : decide (2048 < (wrap64 (x3_1 + (((rd_T29 l0 x11_1).f2).size : Int)))) = true := decide_eq_true c9
                  clear c9
                  obtain rfl := Option.some.inj H
                  simp only [Option.some.injEq, Prod.mk.injEq] at H
                  obtain ⟨rfl⟩ := H
                  have p172 : 0 ≤ (x11_1 : Int) := of_decide_eq_true (by first | (with_reducible assumption) | assumption)
                  have q172 : x11_1 < (l0.length : Int) := of_decide_eq_true (by first | (with_reducible assumption) | assumption)
                  obtain ⟨ad172, e172, hx172_0, hx172_1, hx172_2, hx172_3⟩ := at_T29 HR0.out x11_1 p172 q172
                  cases e172
                  replace hx172_0 := (HB.out.cell (World.block_lt_of_cell? w _ hx172_0)).trans hx172_0
                  replace hx172_1 := (HB.out.cell (World.block_lt_of_cell? w _ hx172_1)).trans hx172_1
                  replace hx172_2 := (HB.out.cell (World.block_lt_of_cell? w _ hx172_2)).trans hx172_2
                  replace hx172_3 := (HB.out.cell (World.block_lt_of_cell? w _ hx172_3)).trans hx172_3
                  replace p172 := eq_true p172
                  replace q172 := eq_true q172
                  go_wp2_with (first | ((with_reducible refine gate_dst (N := 5) rfl ?_); refine box_event ?hg (N := 5) ?hd (cs := #[.int .i64 0, .int .i64 0, .string (⟨#[]⟩ : ByteArray), .int .i64 0]) (t := 29) ?hr ?_; (case hd => rfl); (case hg => rfl); (case hr => first | (go_simp; done) | (go_simp; rfl)); intro gb173 hg w10 hbox hb; have n0_ := Aside0.mk (below_step (by repeat (first | (with_reducible first | exact HB.out | apply below_alloc | apply pw_below_drewN | apply below_drew1) | exact HB.out)) hb); have n1_ := Aside0.mk (hbox); have n2_ := Aside0.mk ((by rw [hg]; exact (below_size (by repeat (first | (with_reducible first | exact HB.out | apply below_alloc | apply pw_below_drewN | apply below_drew1) | exact HB.out))) : w.heap.size ≤ gb173)); have n3_ := Aside0.mk ((by rw [hg]; exact (below_size (by repeat (first | (with_reducible first | exact HB.out | apply below_alloc | apply pw_below_drewN | apply below_drew1) | exact HB.out))) : w.heap.size ≤ gb173)); clear HB; have HB := n0_; have BK173 := n1_; have GW173 := n2_; have GE173 := n3_; clear n0_ n1_ n2_ n3_; clear hb hbox hg; have hcz11_0 : w10.cell? ⟨gb173, 0, none⟩ = some (.int .i64 0) := (blk_cell BK173.out 0).trans rfl; have hcz11_1 : w10.cell? ⟨gb173, 1, none⟩ = some (.int .i64 0) := (blk_cell BK173.out 1).trans rfl; have hcz11_2 : w10.cell? ⟨gb173, 2, none⟩ = some (.string (⟨#[]⟩ : ByteArray)) := (blk_cell BK173.out 2).trans rfl; have hcz11_3 : w10.cell? ⟨gb173, 3, none⟩ = some (.int .i64 0) := (blk_cell BK173.out 3).trans rfl; have hfz11_0 := blk_frozen BK173.out 0; have hfz11_1 := blk_frozen BK173.out 1; have hfz11_2 := blk_frozen BK173.out 2; have hfz11_3 := blk_frozen BK173.out 3))
                  go_ret
                  exact ⟨by first | rfl | (simp [errW_none, errW_some] <;> rfl) | (simp [*, errW_none, errW_some] <;> rfl), by repeat (first | (with_reducible first | exact HB.out | apply below_alloc | apply pw_below_drewN | apply below_drew1 | refine below_set ?_ GE173.out) | exact HB.out)⟩
                · rw [if_neg c9] at H
                  have c9b0 : decide (2048 < (wrap64 (x3_1 + (((rd_T29 l0 x11_1).f2).size : Int)))) = false := decide_eq_false c9
                  clear c9
                  have H' := Aside0.mk H
                  clear H
                  have p172 : 0 ≤ (x11_1 : Int) := of_decide_eq_true (by first | (with_reducible assumption) | assumption)
                  have q172 : x11_1 < (l0.length : Int) := of_decide_eq_true (by first | (with_reducible assumption) | assumption)
                  obtain ⟨ad172, e172, hx172_0, hx172_1, hx172_2, hx172_3⟩ := at_T29 HR0.out x11_1 p172 q172
                  cases e172
                  replace hx172_0 := (HB.out.cell (World.block_lt_of_cell? w _ hx172_0)).trans hx172_0
                  replace hx172_1 := (HB.out.cell (World.block_lt_of_cell? w _ hx172_1)).trans hx172_1
                  replace hx172_2 := (HB.out.cell (World.block_lt_of_cell? w _ hx172_2)).trans hx172_2
                  replace hx172_3 := (HB.out.cell (World.block_lt_of_cell? w _ hx172_3)).trans hx172_3
                  replace p172 := eq_true p172
                  replace q172 := eq_true q172
                  go_wp2_with (first | ((with_reducible refine gate_dst (N := 5) rfl ?_); refine box_event ?hg (N := 5) ?hd (cs := #[.int .i64 0, .int .i64 0, .string (⟨#[]⟩ : ByteArray), .int .i64 0]) (t := 29) ?hr ?_; (case hd => rfl); (case hg => rfl); (case hr => first | (go_simp; done) | (go_simp; rfl)); intro gb173 hg w12 hbox hb; have n0_ := Aside0.mk (below_step (by repeat (first | (with_reducible first | exact HB.out | apply below_alloc | apply pw_below_drewN | apply below_drew1) | exact HB.out)) hb); have n1_ := Aside0.mk (hbox); have n2_ := Aside0.mk ((by rw [hg]; exact (below_size (by repeat (first | (with_reducible first | exact HB.out | apply below_alloc | apply pw_below_drewN | apply below_drew1) | exact HB.out))) : w.heap.size ≤ gb173)); have n3_ := Aside0.mk ((by rw [hg]; exact (below_size (by repeat (first | (with_reducible first | exact HB.out | apply below_alloc | apply pw_below_drewN | apply below_drew1) | exact HB.out))) : w.heap.size ≤ gb173)); clear HB; have HB := n0_; have BK173 := n1_; have GW173 := n2_; have GE173 := n3_; clear n0_ n1_ n2_ n3_; clear hb hbox hg; have hcz13_0 : w12.cell? ⟨gb173, 0, none⟩ = some (.int .i64 0) := (blk_cell BK173.out 0).trans rfl; have hcz13_1 : w12.cell? ⟨gb173, 1, none⟩ = some (.int .i64 0) := (blk_cell BK173.out 1).trans rfl; have hcz13_2 : w12.cell? ⟨gb173, 2, none⟩ = some (.string (⟨#[]⟩ : ByteArray)) := (blk_cell BK173.out 2).trans rfl; have hcz13_3 : w12.cell? ⟨gb173, 3, none⟩ = some (.int .i64 0) := (blk_cell BK173.out 3).trans rfl; have hfz13_0 := blk_frozen BK173.out 0; have hfz13_1 := blk_frozen BK173.out 1; have hfz13_2 := blk_frozen BK173.out 2; have hfz13_3 := blk_frozen BK173.out 3))
                  go_roundg k1
                  case measure => have := HK1.out; omega
                  case rel => exact ⟨(wrap64 (x3_1 + (((rd_T29 l0 x11_1).f2).size : Int))), (wrap64 (x11_1 + 1)), (by first | rfl | (simp; done) | (simp [*]; done)), (by first | rfl | (simp; done) | (simp [*]; done)), H', ⟨by have := HK1.out; omega⟩, ⟨by repeat (first | (with_reducible first | exact HB.out | apply below_alloc | apply pw_below_drewN | apply below_drew1 | refine below_set ?_ GE173.out) | exact HB.out)⟩⟩
            · rw [if_neg c5] at H
              exact absurd H (by simp)
          · rw [if_neg c4] at H
            exact absurd H (by simp)
        · rw [if_neg c3] at H
          have c3b0 : decide (x11_1 < (l0.length : Int)) = false := decide_eq_false c3
          clear c3
          obtain rfl := Option.some.inj H
          simp only [Option.some.injEq, Prod.mk.injEq] at H
          obtain ⟨rfl⟩ := H
          go_wp2
          go_ret
          exact ⟨by first | rfl | (simp [errW_none, errW_some] <;> rfl) | (simp [*, errW_none, errW_some] <;> rfl), by repeat (first | (with_reducible first | exact HB.out | apply below_alloc | apply pw_below_drewN | apply below_drew1) | exact HB.out)⟩

/-! ### countermandref06_Is: function 16 -/
def countermandref06_Is.f (a0 : Int) : Option (Bool) := if a0 ≥ 0 then (some (decide (a0 ≤ 2))) else (some false)
set_option maxHeartbeats 8000000 in
set_option maxRecDepth 100000 in
theorem countermandref06_Is.calls (a0 : Int) (r : Bool) (w : World) (h : countermandref06_Is.f a0 = some r) :
    Calls Try.prog 16 #[.int .i64 a0] w fun e w' => e = .returned (.bool r) ∧ Drawn0 w w' := by
  have H : (if a0 ≥ 0 then (some (decide (a0 ≤ 2))) else (some false)) = some r := h
  clear h
  by_cases c2 : a0 ≥ 0
  · rw [if_pos c2] at H
    have c2b0 : decide (0 ≤ a0) = true := decide_eq_true c2
    clear c2
    obtain rfl := Option.some.inj H
    simp only [Option.some.injEq, Prod.mk.injEq] at H
    obtain ⟨rfl⟩ := H
    go_enter Try.func16, Try.ntmps16
    go_wp2
    go_ret
    exact ⟨by first | rfl | (simp; done) | (simp [*]; done), by repeat (first | exact Drawn0.refl _ | apply Drawn0.step)⟩
  · rw [if_neg c2] at H
    have c2b0 : decide (0 ≤ a0) = false := decide_eq_false c2
    clear c2
    obtain rfl := Option.some.inj H
    simp only [Option.some.injEq, Prod.mk.injEq] at H
    obtain ⟨rfl⟩ := H
    go_enter Try.func16, Try.ntmps16
    go_wp2
    go_ret
    exact ⟨by first | rfl | (simp; done) | (simp [*]; done), by repeat (first | exact Drawn0.refl _ | apply Drawn0.step)⟩

/-! ### countermandlaw06_WireOrder: function 3 -/
mutual
def countermandlaw06_WireOrder.j0 : Nat → List (S29) → Int → Bool → Option (Bool)
  | 0, _, _, _ => none
  | k + 1, x0, x1, x19 => if x19 = true then (some true) else ((wire_New.f).bind fun bt177 => (countermandlaw06_WireOrder.l0 k x1 (⟨#[]⟩ : ByteArray) 0 x0 (x0.length : Int) 0 bt177.1 bt177.2.1 bt177.2.2.1 bt177.2.2.2.1 bt177.2.2.2.2.1 bt177.2.2.2.2.2.1 bt177.2.2.2.2.2.2.1 bt177.2.2.2.2.2.2.2.1 bt177.2.2.2.2.2.2.2.2))
def countermandlaw06_WireOrder.l0 : Nat → Int → ByteArray → Int → List (S29) → Int → Int → ByteArray → ByteArray → ByteArray → ByteArray → ByteArray → ByteArray → ByteArray → ByteArray → ByteArray → Option (Bool)
  | 0, _, _, _, _, _, _, _, _, _, _, _, _, _, _, _ => none
  | k + 1, x1, x6, x7, x21, x22, x23, x187000, x187001, x187002, x187003, x187004, x187005, x187006, x187007, x187008 => if x23 < x22 then (if 0 ≤ x23 then (if x23 < (x21.length : Int) then (if ((rd_T29 x21 x23).f0) = 0 then ((wire_Wire_Push.f x187000 x187001 x187002 x187003 x187004 x187005 x187006 x187007 x187008 ((rd_T29 x21 x23).f1) ((rd_T29 x21 x23).f2)).bind fun bt189 => (if ((rd_T29 x21 x23).f1) = x1 then (if x6.size + ((rd_T29 x21 x23).f2).size ≤ 9223372036854775807 then (countermandlaw06_WireOrder.j2 k x1 (x6 ++ ((rd_T29 x21 x23).f2)) x7 x21 x22 x23 bt189.2.1 bt189.2.2.1 bt189.2.2.2.1 bt189.2.2.2.2.1 bt189.2.2.2.2.2.1 bt189.2.2.2.2.2.2.1 bt189.2.2.2.2.2.2.2.1 bt189.2.2.2.2.2.2.2.2.1 bt189.2.2.2.2.2.2.2.2.2) else (none)) else (countermandlaw06_WireOrder.j2 k x1 x6 x7 x21 x22 x23 bt189.2.1 bt189.2.2.1 bt189.2.2.2.1 bt189.2.2.2.2.1 bt189.2.2.2.2.2.1 bt189.2.2.2.2.2.2.1 bt189.2.2.2.2.2.2.2.1 bt189.2.2.2.2.2.2.2.2.1 bt189.2.2.2.2.2.2.2.2.2))) else (if ((rd_T29 x21 x23).f0) = 1 then ((wire_Wire_Pump.f x187000 x187001 x187002 x187003 x187004 x187005 x187006 x187007 x187008 ((rd_T29 x21 x23).f1)).bind fun bt199 => (countermandlaw06_WireOrder.j2 k x1 x6 x7 x21 x22 x23 bt199.2.1 bt199.2.2.1 bt199.2.2.2.1 bt199.2.2.2.2.1 bt199.2.2.2.2.2.1 bt199.2.2.2.2.2.2.1 bt199.2.2.2.2.2.2.2.1 bt199.2.2.2.2.2.2.2.2.1 bt199.2.2.2.2.2.2.2.2.2)) else (if ((rd_T29 x21 x23).f0) = 2 then ((wire_Wire_Take.f x187000 x187001 x187002 x187003 x187004 x187005 x187006 x187007 x187008 ((rd_T29 x21 x23).f1) ((rd_T29 x21 x23).f3)).bind fun bt209 => (countermandlaw06_WireOrder.j2 k x1 x6 x7 x21 x22 x23 bt209.2.1 bt209.2.2.1 bt209.2.2.2.1 bt209.2.2.2.2.1 bt209.2.2.2.2.2.1 bt209.2.2.2.2.2.2.1 bt209.2.2.2.2.2.2.2.1 bt209.2.2.2.2.2.2.2.2.1 bt209.2.2.2.2.2.2.2.2.2)) else (countermandlaw06_WireOrder.j2 k x1 x6 x7 x21 x22 x23 x187000 x187001 x187002 x187003 x187004 x187005 x187006 x187007 x187008)))) else (none)) else (none)) else (some true)
def countermandlaw06_WireOrder.j2 : Nat → Int → ByteArray → Int → List (S29) → Int → Int → ByteArray → ByteArray → ByteArray → ByteArray → ByteArray → ByteArray → ByteArray → ByteArray → ByteArray → Option (Bool)
  | 0, _, _, _, _, _, _, _, _, _, _, _, _, _, _, _ => none
  | k + 1, x1, x6, x7, x21, x22, x23, x187000, x187001, x187002, x187003, x187004, x187005, x187006, x187007, x187008 => (wire_Wire_Trace.f x187000 x187001 x187002 x187003 x187004 x187005 x187006 x187007 x187008 x1).bind fun bt219 => ((wire_Wire_All.f bt219.2.1 bt219.2.2.1 bt219.2.2.2.1 bt219.2.2.2.2.1 bt219.2.2.2.2.2.1 bt219.2.2.2.2.2.2.1 bt219.2.2.2.2.2.2.2.1 bt219.2.2.2.2.2.2.2.2.1 bt219.2.2.2.2.2.2.2.2.2 x1).bind fun bt229 => (if bt229.1.toList = x6.toList then (if (bt219.1.size : Int) < x7 then (some false) else (if 0 ≤ (bt219.1.size : Int) then (if (bt219.1.size : Int) ≤ (x6.size : Int) then (if bt219.1.toList = (x6.extract 0 ((bt219.1.size : Int) : Int).toNat).toList then (countermandlaw06_WireOrder.l0 k x1 x6 (bt219.1.size : Int) x21 x22 (wrap64 (x23 + 1)) bt229.2.1 bt229.2.2.1 bt229.2.2.2.1 bt229.2.2.2.2.1 bt229.2.2.2.2.2.1 bt229.2.2.2.2.2.2.1 bt229.2.2.2.2.2.2.2.1 bt229.2.2.2.2.2.2.2.2.1 bt229.2.2.2.2.2.2.2.2.2) else (some false)) else (none)) else (none))) else (some false)))
end
def countermandlaw06_WireOrder.f (k : Nat) (l0 : List (S29)) (a1 : Int) : Option (Bool) := (countermandlaw06_alive.f).bind fun t174 => (if t174 = true then ((countermandlaw06_great.f k l0).bind fun t175 => (if t175 = true then (countermandlaw06_WireOrder.j0 k l0 a1 true) else ((countermandref06_Is.f a1).bind fun t176 => (countermandlaw06_WireOrder.j0 k l0 a1 (!t176))))) else (some false))
theorem countermandlaw06_WireOrder.mono_l : ∀ k, (∀ y0 y1 y2, LeO (countermandlaw06_WireOrder.j0 k y0 y1 y2) (countermandlaw06_WireOrder.j0 (k + 1) y0 y1 y2)) ∧ (∀ y0 y1 y2 y3 y4 y5 y6 y7 y8 y9 y10 y11 y12 y13 y14, LeO (countermandlaw06_WireOrder.l0 k y0 y1 y2 y3 y4 y5 y6 y7 y8 y9 y10 y11 y12 y13 y14) (countermandlaw06_WireOrder.l0 (k + 1) y0 y1 y2 y3 y4 y5 y6 y7 y8 y9 y10 y11 y12 y13 y14)) ∧ (∀ y0 y1 y2 y3 y4 y5 y6 y7 y8 y9 y10 y11 y12 y13 y14, LeO (countermandlaw06_WireOrder.j2 k y0 y1 y2 y3 y4 y5 y6 y7 y8 y9 y10 y11 y12 y13 y14) (countermandlaw06_WireOrder.j2 (k + 1) y0 y1 y2 y3 y4 y5 y6 y7 y8 y9 y10 y11 y12 y13 y14))
  | 0 => ⟨fun _ _ _ r h => by simp [countermandlaw06_WireOrder.j0] at h, fun _ _ _ _ _ _ _ _ _ _ _ _ _ _ _ r h => by simp [countermandlaw06_WireOrder.l0] at h, fun _ _ _ _ _ _ _ _ _ _ _ _ _ _ _ r h => by simp [countermandlaw06_WireOrder.j2] at h⟩
  | k + 1 => by
    obtain ⟨ih0, ih1, ih2⟩ := countermandlaw06_WireOrder.mono_l k
    refine ⟨?_, ?_, ?_⟩
    · intro y0 y1 y2
      unfold countermandlaw06_WireOrder.j0
      repeat' first
      | (with_reducible exact ih0 _ _ _)
      | (with_reducible exact ih1 _ _ _ _ _ _ _ _ _ _ _ _ _ _ _)
      | (with_reducible exact ih2 _ _ _ _ _ _ _ _ _ _ _ _ _ _ _)
      | (with_reducible exact countermandlaw06_great.mono _ _)
      | (with_reducible exact LeO.refl _)
      | (with_reducible exact LeO.none _)
      | (with_reducible refine LeO.ite ?_ ?_)
      | (with_reducible refine LeO.bind ?_ (fun _ => ?_))
      | exact ih0 _ _ _
      | exact ih1 _ _ _ _ _ _ _ _ _ _ _ _ _ _ _
      | exact ih2 _ _ _ _ _ _ _ _ _ _ _ _ _ _ _
      | exact countermandlaw06_great.mono _ _
      | exact LeO.none _
      | refine LeO.ite ?_ ?_
      | refine LeO.bind ?_ (fun _ => ?_)
    · intro y0 y1 y2 y3 y4 y5 y6 y7 y8 y9 y10 y11 y12 y13 y14
      unfold countermandlaw06_WireOrder.l0
      repeat' first
      | (with_reducible exact ih0 _ _ _)
      | (with_reducible exact ih1 _ _ _ _ _ _ _ _ _ _ _ _ _ _ _)
      | (with_reducible exact ih2 _ _ _ _ _ _ _ _ _ _ _ _ _ _ _)
      | (with_reducible exact countermandlaw06_great.mono _ _)
      | (with_reducible exact LeO.refl _)
      | (with_reducible exact LeO.none _)
      | (with_reducible refine LeO.ite ?_ ?_)
      | (with_reducible refine LeO.bind ?_ (fun _ => ?_))
      | exact ih0 _ _ _
      | exact ih1 _ _ _ _ _ _ _ _ _ _ _ _ _ _ _
      | exact ih2 _ _ _ _ _ _ _ _ _ _ _ _ _ _ _
      | exact countermandlaw06_great.mono _ _
      | exact LeO.none _
      | refine LeO.ite ?_ ?_
      | refine LeO.bind ?_ (fun _ => ?_)
    · intro y0 y1 y2 y3 y4 y5 y6 y7 y8 y9 y10 y11 y12 y13 y14
      unfold countermandlaw06_WireOrder.j2
      repeat' first
      | (with_reducible exact ih0 _ _ _)
      | (with_reducible exact ih1 _ _ _ _ _ _ _ _ _ _ _ _ _ _ _)
      | (with_reducible exact ih2 _ _ _ _ _ _ _ _ _ _ _ _ _ _ _)
      | (with_reducible exact countermandlaw06_great.mono _ _)
      | (with_reducible exact LeO.refl _)
      | (with_reducible exact LeO.none _)
      | (with_reducible refine LeO.ite ?_ ?_)
      | (with_reducible refine LeO.bind ?_ (fun _ => ?_))
      | exact ih0 _ _ _
      | exact ih1 _ _ _ _ _ _ _ _ _ _ _ _ _ _ _
      | exact ih2 _ _ _ _ _ _ _ _ _ _ _ _ _ _ _
      | exact countermandlaw06_great.mono _ _
      | exact LeO.none _
      | refine LeO.ite ?_ ?_
      | refine LeO.bind ?_ (fun _ => ?_)
theorem countermandlaw06_WireOrder.mono : ∀ a0 a1 k, LeO (countermandlaw06_WireOrder.f k a0 a1) (countermandlaw06_WireOrder.f (k + 1) a0 a1) := by
  intro a0 a1 k
  obtain ⟨ih0, ih1, ih2⟩ := countermandlaw06_WireOrder.mono_l k
  unfold countermandlaw06_WireOrder.f
  repeat' first
      | (with_reducible exact ih0 _ _ _)
      | (with_reducible exact ih1 _ _ _ _ _ _ _ _ _ _ _ _ _ _ _)
      | (with_reducible exact ih2 _ _ _ _ _ _ _ _ _ _ _ _ _ _ _)
      | (with_reducible exact countermandlaw06_great.mono _ _)
      | (with_reducible exact LeO.refl _)
      | (with_reducible exact LeO.none _)
      | (with_reducible refine LeO.ite ?_ ?_)
      | (with_reducible refine LeO.bind ?_ (fun _ => ?_))
      | exact ih0 _ _ _
      | exact ih1 _ _ _ _ _ _ _ _ _ _ _ _ _ _ _
      | exact ih2 _ _ _ _ _ _ _ _ _ _ _ _ _ _ _
      | exact countermandlaw06_great.mono _ _
      | exact LeO.none _
      | refine LeO.ite ?_ ?_
      | refine LeO.bind ?_ (fun _ => ?_)
set_option maxHeartbeats 8000000 in
set_option maxRecDepth 100000 in
theorem countermandlaw06_WireOrder.calls (k : Nat) (A0 : Option Addr) (c0 : Nat) (l0 : List (S29)) (a1 : Int) (r : Bool) (w : World) (hr0 : Kd.C k29 w A0 l0.length l0) (hc0 : l0.length ≤ c0) (h : countermandlaw06_WireOrder.f k l0 a1 = some r) (hrT : r = true) :
    Calls Try.prog 3 #[.slice A0 l0.length c0, .int .i64 a1] w fun e w' => e = .returned (.bool r) ∧ Below w.heap.size w w' := by
  have hu29 := Try.underlying29
  have HR0 := Aside0.mk hr0
  have HC0 := Aside0.mk hc0
  clear hr0 hc0
  have HB := Aside0.mk (Below.refl w.heap.size w)
  have H : ((countermandlaw06_alive.f).bind fun t174 => (if t174 = true then ((countermandlaw06_great.f k l0).bind fun t175 => (if t175 = true then (countermandlaw06_WireOrder.j0 k l0 a1 true) else ((countermandref06_Is.f a1).bind fun t176 => (countermandlaw06_WireOrder.j0 k l0 a1 (!t176))))) else (some false))) = some r := h
  clear h
  replace H := Option.bind_eq_some_iff.mp H
  obtain ⟨t174, A30, H⟩ := H
  replace H : (if t174 = true then ((countermandlaw06_great.f k l0).bind fun t175 => (if t175 = true then (countermandlaw06_WireOrder.j0 k l0 a1 true) else ((countermandref06_Is.f a1).bind fun t176 => (countermandlaw06_WireOrder.j0 k l0 a1 (!t176))))) else (some false)) = some r := H
  have A3 := Aside0.mk A30
  clear A30
  by_cases c4 : t174 = true
  · subst c4
    have H1 : ((countermandlaw06_great.f k l0).bind fun t175 => (if t175 = true then (countermandlaw06_WireOrder.j0 k l0 a1 true) else ((countermandref06_Is.f a1).bind fun t176 => (countermandlaw06_WireOrder.j0 k l0 a1 (!t176))))) = some r := by rw [if_pos rfl] at H; exact H
    clear H
    have H := H1
    clear H1
    have HC5 := Aside0.mk H
    clear H
    go_enter Try.func3, Try.ntmps3
    go_upto_region 3 with (first | ((with_reducible refine gate_callee (f := 14) rfl ?_); refine goesL_ (some 11) rfl rfl Try.func14 (by kernel_rfl) rfl #[] rfl (by (try simp only [List.map_toArray, List.map_cons, List.map_nil]); first | done | rfl | (simp only [List.length_drop, List.length_take]; rfl)) ?_; (with_reducible refine (countermandlaw06_alive.calls  true _ A3.out).mono ?_); rintro e w6 ⟨rfl, hb⟩; refine ⟨_, rfl, ?_⟩; have n0_ := Aside0.mk (below_step (by repeat (first | (with_reducible first | exact HB.out | apply below_alloc | apply pw_below_drewN | apply below_drew1) | exact HB.out)) hb); clear HB; have HB := n0_; clear n0_; (try clear hb); (try clear hb2); (try clear hk); (try clear hi)))
    (try simp only [Act.put, List.setIfInBounds_toArray, List.set_cons_zero, List.set_cons_succ])
    go_cut [19] (fun v19 wc => ∃ (kq : Nat) (x19_4 : Bool), v19 = .bool x19_4 ∧ Aside0 (countermandlaw06_WireOrder.j0 kq l0 a1 x19_4 = some r) ∧ Aside0 (kq ≤ k) ∧ Aside0 (Below w.heap.size w wc))
    case first =>
      have H := HC5.out
      clear HC5
      replace H := Option.bind_eq_some_iff.mp H
      obtain ⟨t175, A70, H⟩ := H
      replace H : (if t175 = true then (countermandlaw06_WireOrder.j0 k l0 a1 true) else ((countermandref06_Is.f a1).bind fun t176 => (countermandlaw06_WireOrder.j0 k l0 a1 (!t176)))) = some r := H
      have A7 := Aside0.mk A70
      clear A70
      by_cases c8 : t175 = true
      · subst c8
        have H1 : (countermandlaw06_WireOrder.j0 k l0 a1 true) = some r := by rw [if_pos rfl] at H; exact H
        clear H
        have H := H1
        clear H1
        have H' := Aside0.mk H
        clear H
        go_wp2_with (first | ((with_reducible refine gate_callee (f := 15) rfl ?_); refine goesL_ (some 14) rfl rfl Try.func15 (by kernel_rfl) rfl #[.slice A0 l0.length c0] rfl (by (try simp only [List.map_toArray, List.map_cons, List.map_nil]); first | done | rfl | (simp only [List.length_drop, List.length_take]; rfl)) ?_; (with_reducible refine (countermandlaw06_great.calls k _ _ l0 true _ ?side1 ?side2 A7.out).mono ?_); (case side1 => repeat (first | exact (Kd.C_below HR0.out HB.out) | (with_reducible refine Kd.C_alloc ?_ _) | (with_reducible refine Kd.C_drewN ?_ _) | (with_reducible refine Kd.C_drew ?_))); (case side2 => exact HC0.out); rintro e w9 ⟨rfl, hb⟩; refine ⟨_, rfl, ?_⟩; have n0_ := Aside0.mk (below_step (by repeat (first | (with_reducible first | exact HB.out | apply below_alloc | apply pw_below_drewN | apply below_drew1) | exact HB.out)) hb); clear HB; have HB := n0_; clear n0_; (try clear hb); (try clear hb2); (try clear hk); (try clear hi)))
        go_meet
        case rel => exact ⟨_, (true), (by first | rfl | (simp; done) | (simp [*]; done)), H', ⟨by first | omega | exact Nat.le_refl _⟩, ⟨by repeat (first | (with_reducible first | exact HB.out | apply below_alloc | apply pw_below_drewN | apply below_drew1) | exact HB.out)⟩⟩
      · replace c8 := Bool.eq_false_iff.mpr c8
        subst c8
        have H1 : ((countermandref06_Is.f a1).bind fun t176 => (countermandlaw06_WireOrder.j0 k l0 a1 (!t176))) = some r := by rw [if_neg (show ¬ (false = true) by decide)] at H; exact H
        clear H
        have H := H1
        clear H1
        replace H := Option.bind_eq_some_iff.mp H
        obtain ⟨t176, A100, H⟩ := H
        replace H : (countermandlaw06_WireOrder.j0 k l0 a1 (!t176)) = some r := H
        have A10 := Aside0.mk A100
        clear A100
        have H' := Aside0.mk H
        clear H
        go_wp2_with (first | ((with_reducible refine gate_callee (f := 15) rfl ?_); refine goesL_ (some 14) rfl rfl Try.func15 (by kernel_rfl) rfl #[.slice A0 l0.length c0] rfl (by (try simp only [List.map_toArray, List.map_cons, List.map_nil]); first | done | rfl | (simp only [List.length_drop, List.length_take]; rfl)) ?_; (with_reducible refine (countermandlaw06_great.calls k _ _ l0 false _ ?side1 ?side2 A7.out).mono ?_); (case side1 => repeat (first | exact (Kd.C_below HR0.out HB.out) | (with_reducible refine Kd.C_alloc ?_ _) | (with_reducible refine Kd.C_drewN ?_ _) | (with_reducible refine Kd.C_drew ?_))); (case side2 => exact HC0.out); rintro e w11 ⟨rfl, hb⟩; refine ⟨_, rfl, ?_⟩; have n0_ := Aside0.mk (below_step (by repeat (first | (with_reducible first | exact HB.out | apply below_alloc | apply pw_below_drewN | apply below_drew1) | exact HB.out)) hb); clear HB; have HB := n0_; clear n0_; (try clear hb); (try clear hb2); (try clear hk); (try clear hi)) | (go_at_call 16; (with_reducible refine (countermandref06_Is.calls a1 t176 _ A10.out).mono ?_); rintro e w' ⟨rfl, ⟨nd, rfl⟩⟩))
        go_meet
        case rel => exact ⟨_, (!t176), (by first | rfl | (simp; done) | (simp [*]; done)), H', ⟨by first | omega | exact Nat.le_refl _⟩, ⟨by repeat (first | (with_reducible first | exact HB.out | apply below_alloc | apply pw_below_drewN | apply below_drew1) | exact HB.out)⟩⟩
    case rest =>
      clear HC5
      try clear c1
      try clear p2
      try clear c3
      try clear c4
      try clear c8
      obtain ⟨kq, x19_4, rfl, HA, HJ4, HB⟩ := hcut
      cases kq with
      | zero => exact absurd HA.out (by simp [countermandlaw06_WireOrder.j0])
      | succ kj4 =>
        have H := HA.out
        clear HA
        simp only [countermandlaw06_WireOrder.j0] at H
        by_cases c12 : x19_4 = true
        · subst c12
          have H1 : (some true) = some r := by rw [if_pos rfl] at H; exact H
          clear H
          have H := H1
          clear H1
          obtain rfl := Option.some.inj H
          clear hrT
          go_wp2
          go_ret
          exact ⟨by first | rfl | (simp [errW_none, errW_some] <;> rfl) | (simp [*, errW_none, errW_some] <;> rfl), by repeat (first | (with_reducible first | exact HB.out | apply below_alloc | apply pw_below_drewN | apply below_drew1) | exact HB.out)⟩
        · replace c12 := Bool.eq_false_iff.mpr c12
          subst c12
          have H1 : ((wire_New.f).bind fun bt177 => (countermandlaw06_WireOrder.l0 kj4 a1 (⟨#[]⟩ : ByteArray) 0 l0 (l0.length : Int) 0 bt177.1 bt177.2.1 bt177.2.2.1 bt177.2.2.2.1 bt177.2.2.2.2.1 bt177.2.2.2.2.2.1 bt177.2.2.2.2.2.2.1 bt177.2.2.2.2.2.2.2.1 bt177.2.2.2.2.2.2.2.2)) = some r := by rw [if_neg (show ¬ (false = true) by decide)] at H; exact H
          clear H
          have H := H1
          clear H1
          replace H := Option.bind_eq_some_iff.mp H
          obtain ⟨⟨t177, t178, t179, t180, t181, t182, t183, t184, t185⟩, A130, H⟩ := H
          replace H : (countermandlaw06_WireOrder.l0 kj4 a1 (⟨#[]⟩ : ByteArray) 0 l0 (l0.length : Int) 0 t177 t178 t179 t180 t181 t182 t183 t184 t185) = some r := H
          have A13 := Aside0.mk A130
          clear A130
          have H' := Aside0.mk H
          clear H
          go_wp2_with (first | ((with_reducible refine gate_callee (f := 17) rfl ?_); refine goesL_ (some 20) rfl rfl Try.func17 (by kernel_rfl) rfl #[] rfl (by (try simp only [List.map_toArray, List.map_cons, List.map_nil]); first | done | rfl | (simp only [List.length_drop, List.length_take]; rfl)) ?_; (with_reducible refine (wire_New.calls  t177 t178 t179 t180 t181 t182 t183 t184 t185 w _ ?side1 A13.out).mono ?_); (case side1 => repeat (first | (with_reducible first | exact HB.out | apply below_alloc | apply pw_below_drewN | apply below_drew1) | exact HB.out)); rintro e w14 ⟨g186, rfl, hi, hb, hb2⟩; refine ⟨_, rfl, ?_⟩; have n0_ := Aside0.mk (hb); have n1_ := Aside0.mk (hi); clear HB; have HB := n0_; have HI186 := n1_; clear n0_ n1_; (try clear hb); (try clear hb2); (try clear hk); (try clear hi)))
          go_loopg [6, 7, 23] kj4 (fun kq v6 v7 v23 w' => ∃ (x6_2 : ByteArray) (x7_2 : Int) (x23_2 : Int) (x187000_2 : ByteArray) (x187001_2 : ByteArray) (x187002_2 : ByteArray) (x187003_2 : ByteArray) (x187004_2 : ByteArray) (x187005_2 : ByteArray) (x187006_2 : ByteArray) (x187007_2 : ByteArray) (x187008_2 : ByteArray), v6 = .string x6_2 ∧ v7 = .int .i64 x7_2 ∧ v23 = .int .i64 x23_2 ∧ Aside0 (countermandlaw06_WireOrder.l0 kq a1 x6_2 x7_2 l0 (l0.length : Int) x23_2 x187000_2 x187001_2 x187002_2 x187003_2 x187004_2 x187005_2 x187006_2 x187007_2 x187008_2 = some r) ∧ Aside0 (kq ≤ kj4) ∧ Aside0 (IsS69 w w' g186 x187000_2 x187001_2 x187002_2 x187003_2 x187004_2 x187005_2 x187006_2 x187007_2 x187008_2) ∧ Aside0 (Below w.heap.size w w'))
          case atStart => exact ⟨((⟨#[]⟩ : ByteArray)), (0), (0), (t177), (t178), (t179), (t180), (t181), (t182), (t183), (t184), (t185), (by first | rfl | (simp; done) | (simp [*]; done)), (by first | rfl | (simp; done) | (simp [*]; done)), (by first | rfl | (simp; done) | (simp [*]; done)), H', ⟨Nat.le_refl _⟩, ⟨by repeat (first | (with_reducible first | exact HI186.out | apply IsS69.alloc | apply IsS69.drewN | apply IsS69.drew | apply IsS69.set_0 | apply IsS69.set_1 | apply IsS69.set_2 | apply IsS69.set_3 | apply IsS69.set_4 | apply IsS69.set_5 | apply IsS69.set_6 | apply IsS69.set_7 | apply IsS69.set_8) | exact HI186.out)⟩, ⟨by repeat (first | (with_reducible first | exact HB.out | apply below_alloc | apply pw_below_drewN | apply below_drew1 | refine below_set ?_ (IsS69.ge HI186.out)) | exact HB.out)⟩⟩
          case round =>
            clear H'
            try clear c1
            try clear p2
            try clear c3
            try clear c4
            try clear c8
            try clear c12
            try clear c14
            try clear p2
            obtain ⟨x6_2, x7_2, x23_2, x187000_2, x187001_2, x187002_2, x187003_2, x187004_2, x187005_2, x187006_2, x187007_2, x187008_2, rfl, rfl, rfl, HA, HK2, HI186, HB⟩ := hrel
            cases gk with
            | zero => exact absurd HA.out (by simp [countermandlaw06_WireOrder.l0])
            | succ k2 =>
              have H := HA.out
              clear HA
              simp only [countermandlaw06_WireOrder.l0] at H
              by_cases c15 : x23_2 < (l0.length : Int)
              · rw [if_pos c15] at H
                have c15b0 : decide (x23_2 < (l0.length : Int)) = true := decide_eq_true c15
                clear c15
                by_cases c16 : 0 ≤ x23_2
                · rw [if_pos c16] at H
                  have c16b0 : decide (0 ≤ x23_2) = true := decide_eq_true c16
                  clear c16
                  by_cases c17 : x23_2 < (l0.length : Int)
                  · rw [if_pos c17] at H
                    have c17b0 : decide (x23_2 < (l0.length : Int)) = true := decide_eq_true c17
                    clear c17
                    have HC18 := Aside0.mk H
                    clear H
                    have p187 : 0 ≤ (x23_2 : Int) := of_decide_eq_true (by first | (with_reducible assumption) | assumption)
                    have q187 : x23_2 < (l0.length : Int) := of_decide_eq_true (by first | (with_reducible assumption) | assumption)
                    obtain ⟨ad187, e187, hx187_0, hx187_1, hx187_2, hx187_3⟩ := at_T29 HR0.out x23_2 p187 q187
                    cases e187
                    replace hx187_0 := (HB.out.cell (World.block_lt_of_cell? w _ hx187_0)).trans hx187_0
                    replace hx187_1 := (HB.out.cell (World.block_lt_of_cell? w _ hx187_1)).trans hx187_1
                    replace hx187_2 := (HB.out.cell (World.block_lt_of_cell? w _ hx187_2)).trans hx187_2
                    replace hx187_3 := (HB.out.cell (World.block_lt_of_cell? w _ hx187_3)).trans hx187_3
                    replace p187 := eq_true p187
                    replace q187 := eq_true q187
                    go_upto_block 2 with (first | ((with_reducible refine gate_dst (N := 9) rfl ?_); (try (refine gate_guard (by rfl) ?_; dsimp only)); refine box_event ?hg (N := 9) ?hd (cs := #[.int .i64 0, .int .i64 0, .string (⟨#[]⟩ : ByteArray), .int .i64 0]) (t := 29) ?hr ?_; (case hd => rfl); (case hg => rfl); (case hr => first | (go_simp; done) | (go_simp; rfl)); intro gb188 hg w19 hbox hb; have n0_ := Aside0.mk (IsS69.below (by repeat (first | (with_reducible first | exact HI186.out | apply IsS69.alloc | apply IsS69.drewN | apply IsS69.drew | apply IsS69.set_0 | apply IsS69.set_1 | apply IsS69.set_2 | apply IsS69.set_3 | apply IsS69.set_4 | apply IsS69.set_5 | apply IsS69.set_6 | apply IsS69.set_7 | apply IsS69.set_8) | exact HI186.out)) hb); have n1_ := Aside0.mk (below_step (by repeat (first | (with_reducible first | exact HB.out | apply below_alloc | apply pw_below_drewN | apply below_drew1 | refine below_set ?_ (IsS69.ge HI186.out)) | exact HB.out)) hb); have n2_ := Aside0.mk (hbox); have n3_ := Aside0.mk ((by rw [hg]; exact (below_size (by repeat (first | (with_reducible first | exact HB.out | apply below_alloc | apply pw_below_drewN | apply below_drew1 | refine below_set ?_ (IsS69.ge HI186.out)) | exact HB.out))) : w.heap.size ≤ gb188)); have n4_ := Aside0.mk ((by rw [hg]; exact (below_size (by repeat (first | (with_reducible first | exact HB.out | apply below_alloc | apply pw_below_drewN | apply below_drew1 | refine below_set ?_ (IsS69.ge HI186.out)) | exact HB.out))) : w.heap.size ≤ gb188)); have n5_ := Aside0.mk ((by rw [hg]; exact Nat.ne_of_lt (IsS69.lt (show IsS69 w _ g186 x187000_2 x187001_2 x187002_2 x187003_2 x187004_2 x187005_2 x187006_2 x187007_2 x187008_2 from by repeat (first | (with_reducible first | exact HI186.out | apply IsS69.alloc | apply IsS69.drewN | apply IsS69.drew | apply IsS69.set_0 | apply IsS69.set_1 | apply IsS69.set_2 | apply IsS69.set_3 | apply IsS69.set_4 | apply IsS69.set_5 | apply IsS69.set_6 | apply IsS69.set_7 | apply IsS69.set_8) | exact HI186.out))) : g186 ≠ gb188)); have n6_ := Aside0.mk ((by rw [hg]; exact Nat.ne_of_gt (IsS69.lt (show IsS69 w _ g186 x187000_2 x187001_2 x187002_2 x187003_2 x187004_2 x187005_2 x187006_2 x187007_2 x187008_2 from by repeat (first | (with_reducible first | exact HI186.out | apply IsS69.alloc | apply IsS69.drewN | apply IsS69.drew | apply IsS69.set_0 | apply IsS69.set_1 | apply IsS69.set_2 | apply IsS69.set_3 | apply IsS69.set_4 | apply IsS69.set_5 | apply IsS69.set_6 | apply IsS69.set_7 | apply IsS69.set_8) | exact HI186.out))) : gb188 ≠ g186)); clear HI186; clear HB; have HI186 := n0_; have HB := n1_; have BK188 := n2_; have GW188 := n3_; have GE188 := n4_; have NB186_188 := n5_; have NB188_186 := n6_; clear n0_ n1_ n2_ n3_ n4_ n5_ n6_; clear hb hbox hg; have hnb20 := NB188_186.out; have hnc20 := NB186_188.out; have hcz21_0 : w19.cell? ⟨gb188, 0, none⟩ = some (.int .i64 0) := (blk_cell BK188.out 0).trans rfl; have hcz21_1 : w19.cell? ⟨gb188, 1, none⟩ = some (.int .i64 0) := (blk_cell BK188.out 1).trans rfl; have hcz21_2 : w19.cell? ⟨gb188, 2, none⟩ = some (.string (⟨#[]⟩ : ByteArray)) := (blk_cell BK188.out 2).trans rfl; have hcz21_3 : w19.cell? ⟨gb188, 3, none⟩ = some (.int .i64 0) := (blk_cell BK188.out 3).trans rfl; have hfz21_0 := blk_frozen BK188.out 0; have hfz21_1 := blk_frozen BK188.out 1; have hfz21_2 := blk_frozen BK188.out 2; have hfz21_3 := blk_frozen BK188.out 3))
                    (try simp only [Act.put, List.setIfInBounds_toArray, List.set_cons_zero, List.set_cons_succ])
                    go_cut [6] (fun v6 wc => ∃ (kq : Nat) (x6_17 : ByteArray) (x187000_17 : ByteArray) (x187001_17 : ByteArray) (x187002_17 : ByteArray) (x187003_17 : ByteArray) (x187004_17 : ByteArray) (x187005_17 : ByteArray) (x187006_17 : ByteArray) (x187007_17 : ByteArray) (x187008_17 : ByteArray), v6 = .string x6_17 ∧ Aside0 (countermandlaw06_WireOrder.j2 kq a1 x6_17 x7_2 l0 (l0.length : Int) x23_2 x187000_17 x187001_17 x187002_17 x187003_17 x187004_17 x187005_17 x187006_17 x187007_17 x187008_17 = some r) ∧ Aside0 (kq ≤ k2) ∧ Aside0 (wc.heap[gb188]? = some (.cells #[.int .i64 ((rd_T29 l0 x23_2).f0), .int .i64 ((rd_T29 l0 x23_2).f1), .string ((rd_T29 l0 x23_2).f2), .int .i64 ((rd_T29 l0 x23_2).f3)] 29 (0, 0))) ∧ Aside0 (IsS69 w wc g186 x187000_17 x187001_17 x187002_17 x187003_17 x187004_17 x187005_17 x187006_17 x187007_17 x187008_17) ∧ Aside0 (Below w.heap.size w wc))
                    case first =>
                      have H := HC18.out
                      clear HC18
                      by_cases c22 : ((rd_T29 l0 x23_2).f0) = 0
                      · rw [if_pos c22] at H
                        have c22b0 : (((rd_T29 l0 x23_2).f0) == 0) = true := beq_iff_eq.mpr c22
                        have c22b1 : (((rd_T29 l0 x23_2).f0) != 0) = false := bne_eq_false_iff_eq.mpr c22
                        clear c22
                        (first | rw [c22b0] | (simp only [i64_w, i32_w]; rw [c22b0]) | skip)
                        replace H := Option.bind_eq_some_iff.mp H
                        obtain ⟨⟨t189, t190, t191, t192, t193, t194, t195, t196, t197, t198⟩, A230, H⟩ := H
                        replace H : (if ((rd_T29 l0 x23_2).f1) = a1 then (if x6_2.size + ((rd_T29 l0 x23_2).f2).size ≤ 9223372036854775807 then (countermandlaw06_WireOrder.j2 k2 a1 (x6_2 ++ ((rd_T29 l0 x23_2).f2)) x7_2 l0 (l0.length : Int) x23_2 t190 t191 t192 t193 t194 t195 t196 t197 t198) else (none)) else (countermandlaw06_WireOrder.j2 k2 a1 x6_2 x7_2 l0 (l0.length : Int) x23_2 t190 t191 t192 t193 t194 t195 t196 t197 t198)) = some r := H
                        have A23 := Aside0.mk A230
                        clear A230
                        by_cases c24 : ((rd_T29 l0 x23_2).f1) = a1
                        · rw [if_pos c24] at H
                          have c24b0 : (((rd_T29 l0 x23_2).f1) == a1) = true := beq_iff_eq.mpr c24
                          have c24b1 : (((rd_T29 l0 x23_2).f1) != a1) = false := bne_eq_false_iff_eq.mpr c24
                          clear c24
                          by_cases c25 : x6_2.size + ((rd_T29 l0 x23_2).f2).size ≤ 9223372036854775807
                          · rw [if_pos c25] at H
                            have c25b0 := eq_true c25
                            have c25b1 : decide (x6_2.size + ((rd_T29 l0 x23_2).f2).size ≤ 9223372036854775807) = true := decide_eq_true c25
                            try have c25b2 : (9223372036854775807 < x6_2.size + ((rd_T29 l0 x23_2).f2).size) = False := eq_false (Nat.not_lt.2 c25)
                            have H' := Aside0.mk H
                            clear H
                            have hnb26 := NB188_186.out
                            have hnc26 := NB186_188.out
                            have hcz27_0 : w19.cell? ⟨gb188, 0, none⟩ = some (.int .i64 0) := (blk_cell BK188.out 0).trans rfl
                            have hcz27_1 : w19.cell? ⟨gb188, 1, none⟩ = some (.int .i64 0) := (blk_cell BK188.out 1).trans rfl
                            have hcz27_2 : w19.cell? ⟨gb188, 2, none⟩ = some (.string (⟨#[]⟩ : ByteArray)) := (blk_cell BK188.out 2).trans rfl
                            have hcz27_3 : w19.cell? ⟨gb188, 3, none⟩ = some (.int .i64 0) := (blk_cell BK188.out 3).trans rfl
                            have hfz27_0 := blk_frozen BK188.out 0
                            have hfz27_1 := blk_frozen BK188.out 1
                            have hfz27_2 := blk_frozen BK188.out 2
                            have hfz27_3 := blk_frozen BK188.out 3
                            go_wp2_with (first | ((with_reducible refine gate_callee (f := 18) rfl ?_); refine goesL_ (some 36) rfl rfl Try.func18 (by kernel_rfl) rfl #[.pointer (some ⟨g186, 0, none⟩), .int .i64 ((rd_T29 l0 x23_2).f1), .string ((rd_T29 l0 x23_2).f2)] rfl (by (try simp only [List.map_toArray, List.map_cons, List.map_nil]); first | done | rfl | (simp only [List.length_drop, List.length_take]; rfl)) ?_; (with_reducible refine (wire_Wire_Push.calls g186 x187000_2 x187001_2 x187002_2 x187003_2 x187004_2 x187005_2 x187006_2 x187007_2 x187008_2 ((rd_T29 l0 x23_2).f1) ((rd_T29 l0 x23_2).f2) t189 t190 t191 t192 t193 t194 t195 t196 t197 t198 w _ ?side1 ?side2 A23.out).mono ?_); (case side1 => repeat (first | (with_reducible first | exact HI186.out | apply IsS69.alloc | apply IsS69.drewN | apply IsS69.drew | apply IsS69.set_0 | apply IsS69.set_1 | apply IsS69.set_2 | apply IsS69.set_3 | apply IsS69.set_4 | apply IsS69.set_5 | apply IsS69.set_6 | apply IsS69.set_7 | apply IsS69.set_8 | refine IsS69.far ?_ NB186_188.out _) | exact HI186.out)); (case side2 => repeat (first | (with_reducible first | exact HB.out | apply below_alloc | apply pw_below_drewN | apply below_drew1 | refine below_set ?_ (IsS69.ge HI186.out) | refine below_set ?_ GE188.out) | exact HB.out)); rintro e w28 ⟨rfl, hi, hb, hk⟩; refine ⟨_, rfl, ?_⟩; have n0_ := Aside0.mk (KeepBut.blk hk (g' := gb188) (o := .cells #[.int .i64 ((rd_T29 l0 x23_2).f0), .int .i64 ((rd_T29 l0 x23_2).f1), .string ((rd_T29 l0 x23_2).f2), .int .i64 ((rd_T29 l0 x23_2).f3)] 29 (0, 0)) (by (with_reducible repeat (first | refine blk_drewN ?_ _ | refine blk_drew ?_ | refine blk_alloc ?_ _)); refine blk_put (cs := #[.int .i64 ((rd_T29 l0 x23_2).f0), .int .i64 ((rd_T29 l0 x23_2).f1), .string ((rd_T29 l0 x23_2).f2), .int .i64 0]) ?_ 3 _ rfl; (with_reducible repeat (first | refine blk_drewN ?_ _ | refine blk_drew ?_ | refine blk_alloc ?_ _)); refine blk_put (cs := #[.int .i64 ((rd_T29 l0 x23_2).f0), .int .i64 ((rd_T29 l0 x23_2).f1), .string (⟨#[]⟩ : ByteArray), .int .i64 0]) ?_ 2 _ rfl; (with_reducible repeat (first | refine blk_drewN ?_ _ | refine blk_drew ?_ | refine blk_alloc ?_ _)); refine blk_put (cs := #[.int .i64 ((rd_T29 l0 x23_2).f0), .int .i64 0, .string (⟨#[]⟩ : ByteArray), .int .i64 0]) ?_ 1 _ rfl; (with_reducible repeat (first | refine blk_drewN ?_ _ | refine blk_drew ?_ | refine blk_alloc ?_ _)); refine blk_put (cs := #[.int .i64 0, .int .i64 0, .string (⟨#[]⟩ : ByteArray), .int .i64 0]) ?_ 0 _ rfl; (with_reducible repeat (first | refine blk_drewN ?_ _ | refine blk_drew ?_ | refine blk_alloc ?_ _)); exact BK188.out) NB188_186.out (by simp)); have n1_ := Aside0.mk (hb); have n2_ := Aside0.mk (hi); clear BK188; clear HB; clear HI186; have BK188 := n0_; have HB := n1_; have HI186 := n2_; clear n0_ n1_ n2_; (try clear hb); (try clear hb2); (try clear hk); (try clear hi); have hcz29_0 : w28.cell? ⟨gb188, 0, none⟩ = some (.int .i64 ((rd_T29 l0 x23_2).f0)) := (blk_cell BK188.out 0).trans rfl; have hcz29_1 : w28.cell? ⟨gb188, 1, none⟩ = some (.int .i64 ((rd_T29 l0 x23_2).f1)) := (blk_cell BK188.out 1).trans rfl; have hcz29_2 : w28.cell? ⟨gb188, 2, none⟩ = some (.string ((rd_T29 l0 x23_2).f2)) := (blk_cell BK188.out 2).trans rfl; have hcz29_3 : w28.cell? ⟨gb188, 3, none⟩ = some (.int .i64 ((rd_T29 l0 x23_2).f3)) := (blk_cell BK188.out 3).trans rfl; have hfz29_0 := blk_frozen BK188.out 0; have hfz29_1 := blk_frozen BK188.out 1; have hfz29_2 := blk_frozen BK188.out 2; have hfz29_3 := blk_frozen BK188.out 3))
                            go_meet
                            case rel => exact ⟨_, (x6_2 ++ ((rd_T29 l0 x23_2).f2)), (t190), (t191), (t192), (t193), (t194), (t195), (t196), (t197), (t198), (by first | rfl | (simp; done) | (simp [*]; done)), H', ⟨by have := HJ4.out; have := HK2.out; first | omega | exact Nat.le_refl _⟩, ⟨by (with_reducible repeat (first | refine blk_drewN ?_ _ | refine blk_drew ?_ | refine blk_alloc ?_ _)); exact BK188.out⟩, ⟨by repeat (first | (with_reducible first | exact HI186.out | apply IsS69.alloc | apply IsS69.drewN | apply IsS69.drew | apply IsS69.set_0 | apply IsS69.set_1 | apply IsS69.set_2 | apply IsS69.set_3 | apply IsS69.set_4 | apply IsS69.set_5 | apply IsS69.set_6 | apply IsS69.set_7 | apply IsS69.set_8 | refine IsS69.far ?_ NB186_188.out _) | exact HI186.out)⟩, ⟨by repeat (first | (with_reducible first | exact HB.out | apply below_alloc | apply pw_below_drewN | apply below_drew1 | refine below_set ?_ (IsS69.ge HI186.out) | refine below_set ?_ GE188.out) | exact HB.out)⟩⟩
                          · rw [if_neg c25] at H
                            exact absurd H (by simp)
                        · rw [if_neg c24] at H
                          have c24b0 : (((rd_T29 l0 x23_2).f1) == a1) = false := beq_eq_false_iff_ne.mpr c24
                          have c24b1 : (((rd_T29 l0 x23_2).f1) != a1) = true := bne_iff_ne.mpr c24
                          have H' := Aside0.mk H
                          clear H
                          have hnb30 := NB188_186.out
                          have hnc30 := NB186_188.out
                          have hcz31_0 : w19.cell? ⟨gb188, 0, none⟩ = some (.int .i64 0) := (blk_cell BK188.out 0).trans rfl
                          have hcz31_1 : w19.cell? ⟨gb188, 1, none⟩ = some (.int .i64 0) := (blk_cell BK188.out 1).trans rfl
                          have hcz31_2 : w19.cell? ⟨gb188, 2, none⟩ = some (.string (⟨#[]⟩ : ByteArray)) := (blk_cell BK188.out 2).trans rfl
                          have hcz31_3 : w19.cell? ⟨gb188, 3, none⟩ = some (.int .i64 0) := (blk_cell BK188.out 3).trans rfl
                          have hfz31_0 := blk_frozen BK188.out 0
                          have hfz31_1 := blk_frozen BK188.out 1
                          have hfz31_2 := blk_frozen BK188.out 2
                          have hfz31_3 := blk_frozen BK188.out 3
                          go_wp2_with (first | ((with_reducible refine gate_callee (f := 18) rfl ?_); refine goesL_ (some 36) rfl rfl Try.func18 (by kernel_rfl) rfl #[.pointer (some ⟨g186, 0, none⟩), .int .i64 ((rd_T29 l0 x23_2).f1), .string ((rd_T29 l0 x23_2).f2)] rfl (by (try simp only [List.map_toArray, List.map_cons, List.map_nil]); first | done | rfl | (simp only [List.length_drop, List.length_take]; rfl)) ?_; (with_reducible refine (wire_Wire_Push.calls g186 x187000_2 x187001_2 x187002_2 x187003_2 x187004_2 x187005_2 x187006_2 x187007_2 x187008_2 ((rd_T29 l0 x23_2).f1) ((rd_T29 l0 x23_2).f2) t189 t190 t191 t192 t193 t194 t195 t196 t197 t198 w _ ?side1 ?side2 A23.out).mono ?_); (case side1 => repeat (first | (with_reducible first | exact HI186.out | apply IsS69.alloc | apply IsS69.drewN | apply IsS69.drew | apply IsS69.set_0 | apply IsS69.set_1 | apply IsS69.set_2 | apply IsS69.set_3 | apply IsS69.set_4 | apply IsS69.set_5 | apply IsS69.set_6 | apply IsS69.set_7 | apply IsS69.set_8 | refine IsS69.far ?_ NB186_188.out _) | exact HI186.out)); (case side2 => repeat (first | (with_reducible first | exact HB.out | apply below_alloc | apply pw_below_drewN | apply below_drew1 | refine below_set ?_ (IsS69.ge HI186.out) | refine below_set ?_ GE188.out) | exact HB.out)); rintro e w32 ⟨rfl, hi, hb, hk⟩; refine ⟨_, rfl, ?_⟩; have n0_ := Aside0.mk (KeepBut.blk hk (g' := gb188) (o := .cells #[.int .i64 ((rd_T29 l0 x23_2).f0), .int .i64 ((rd_T29 l0 x23_2).f1), .string ((rd_T29 l0 x23_2).f2), .int .i64 ((rd_T29 l0 x23_2).f3)] 29 (0, 0)) (by (with_reducible repeat (first | refine blk_drewN ?_ _ | refine blk_drew ?_ | refine blk_alloc ?_ _)); refine blk_put (cs := #[.int .i64 ((rd_T29 l0 x23_2).f0), .int .i64 ((rd_T29 l0 x23_2).f1), .string ((rd_T29 l0 x23_2).f2), .int .i64 0]) ?_ 3 _ rfl; (with_reducible repeat (first | refine blk_drewN ?_ _ | refine blk_drew ?_ | refine blk_alloc ?_ _)); refine blk_put (cs := #[.int .i64 ((rd_T29 l0 x23_2).f0), .int .i64 ((rd_T29 l0 x23_2).f1), .string (⟨#[]⟩ : ByteArray), .int .i64 0]) ?_ 2 _ rfl; (with_reducible repeat (first | refine blk_drewN ?_ _ | refine blk_drew ?_ | refine blk_alloc ?_ _)); refine blk_put (cs := #[.int .i64 ((rd_T29 l0 x23_2).f0), .int .i64 0, .string (⟨#[]⟩ : ByteArray), .int .i64 0]) ?_ 1 _ rfl; (with_reducible repeat (first | refine blk_drewN ?_ _ | refine blk_drew ?_ | refine blk_alloc ?_ _)); refine blk_put (cs := #[.int .i64 0, .int .i64 0, .string (⟨#[]⟩ : ByteArray), .int .i64 0]) ?_ 0 _ rfl; (with_reducible repeat (first | refine blk_drewN ?_ _ | refine blk_drew ?_ | refine blk_alloc ?_ _)); exact BK188.out) NB188_186.out (by simp)); have n1_ := Aside0.mk (hb); have n2_ := Aside0.mk (hi); clear BK188; clear HB; clear HI186; have BK188 := n0_; have HB := n1_; have HI186 := n2_; clear n0_ n1_ n2_; (try clear hb); (try clear hb2); (try clear hk); (try clear hi); have hcz33_0 : w32.cell? ⟨gb188, 0, none⟩ = some (.int .i64 ((rd_T29 l0 x23_2).f0)) := (blk_cell BK188.out 0).trans rfl; have hcz33_1 : w32.cell? ⟨gb188, 1, none⟩ = some (.int .i64 ((rd_T29 l0 x23_2).f1)) := (blk_cell BK188.out 1).trans rfl; have hcz33_2 : w32.cell? ⟨gb188, 2, none⟩ = some (.string ((rd_T29 l0 x23_2).f2)) := (blk_cell BK188.out 2).trans rfl; have hcz33_3 : w32.cell? ⟨gb188, 3, none⟩ = some (.int .i64 ((rd_T29 l0 x23_2).f3)) := (blk_cell BK188.out 3).trans rfl; have hfz33_0 := blk_frozen BK188.out 0; have hfz33_1 := blk_frozen BK188.out 1; have hfz33_2 := blk_frozen BK188.out 2; have hfz33_3 := blk_frozen BK188.out 3))
                          go_meet
                          case rel => exact ⟨_, (x6_2), (t190), (t191), (t192), (t193), (t194), (t195), (t196), (t197), (t198), (by first | rfl | (simp; done) | (simp [*]; done)), H', ⟨by have := HJ4.out; have := HK2.out; first | omega | exact Nat.le_refl _⟩, ⟨by (with_reducible repeat (first | refine blk_drewN ?_ _ | refine blk_drew ?_ | refine blk_alloc ?_ _)); exact BK188.out⟩, ⟨by repeat (first | (with_reducible first | exact HI186.out | apply IsS69.alloc | apply IsS69.drewN | apply IsS69.drew | apply IsS69.set_0 | apply IsS69.set_1 | apply IsS69.set_2 | apply IsS69.set_3 | apply IsS69.set_4 | apply IsS69.set_5 | apply IsS69.set_6 | apply IsS69.set_7 | apply IsS69.set_8 | refine IsS69.far ?_ NB186_188.out _) | exact HI186.out)⟩, ⟨by repeat (first | (with_reducible first | exact HB.out | apply below_alloc | apply pw_below_drewN | apply below_drew1 | refine below_set ?_ (IsS69.ge HI186.out) | refine below_set ?_ GE188.out) | exact HB.out)⟩⟩
                      · rw [if_neg c22] at H
                        have c22b0 : (((rd_T29 l0 x23_2).f0) == 0) = false := beq_eq_false_iff_ne.mpr c22
                        have c22b1 : (((rd_T29 l0 x23_2).f0) != 0) = true := bne_iff_ne.mpr c22
                        (first | rw [c22b0] | (simp only [i64_w, i32_w]; rw [c22b0]) | skip)
                        by_cases c34 : ((rd_T29 l0 x23_2).f0) = 1
                        · rw [if_pos c34] at H
                          have c34b0 : (((rd_T29 l0 x23_2).f0) == 1) = true := beq_iff_eq.mpr c34
                          have c34b1 : (((rd_T29 l0 x23_2).f0) != 1) = false := bne_eq_false_iff_eq.mpr c34
                          clear c34
                          replace H := Option.bind_eq_some_iff.mp H
                          obtain ⟨⟨t199, t200, t201, t202, t203, t204, t205, t206, t207, t208⟩, A350, H⟩ := H
                          replace H : (countermandlaw06_WireOrder.j2 k2 a1 x6_2 x7_2 l0 (l0.length : Int) x23_2 t200 t201 t202 t203 t204 t205 t206 t207 t208) = some r := H
                          have A35 := Aside0.mk A350
                          clear A350
                          have H' := Aside0.mk H
                          clear H
                          have hnb36 := NB188_186.out
                          have hnc36 := NB186_188.out
                          have hcz37_0 : w19.cell? ⟨gb188, 0, none⟩ = some (.int .i64 0) := (blk_cell BK188.out 0).trans rfl
                          have hcz37_1 : w19.cell? ⟨gb188, 1, none⟩ = some (.int .i64 0) := (blk_cell BK188.out 1).trans rfl
                          have hcz37_2 : w19.cell? ⟨gb188, 2, none⟩ = some (.string (⟨#[]⟩ : ByteArray)) := (blk_cell BK188.out 2).trans rfl
                          have hcz37_3 : w19.cell? ⟨gb188, 3, none⟩ = some (.int .i64 0) := (blk_cell BK188.out 3).trans rfl
                          have hfz37_0 := blk_frozen BK188.out 0
                          have hfz37_1 := blk_frozen BK188.out 1
                          have hfz37_2 := blk_frozen BK188.out 2
                          have hfz37_3 := blk_frozen BK188.out 3
                          go_wp2_with (first | ((with_reducible refine gate_callee (f := 19) rfl ?_); refine goesL_ (some 50) rfl rfl Try.func19 (by kernel_rfl) rfl #[.pointer (some ⟨g186, 0, none⟩), .int .i64 ((rd_T29 l0 x23_2).f1)] rfl (by (try simp only [List.map_toArray, List.map_cons, List.map_nil]); first | done | rfl | (simp only [List.length_drop, List.length_take]; rfl)) ?_; (with_reducible refine (wire_Wire_Pump.calls g186 x187000_2 x187001_2 x187002_2 x187003_2 x187004_2 x187005_2 x187006_2 x187007_2 x187008_2 ((rd_T29 l0 x23_2).f1) t199 t200 t201 t202 t203 t204 t205 t206 t207 t208 w _ ?side1 ?side2 A35.out).mono ?_); (case side1 => repeat (first | (with_reducible first | exact HI186.out | apply IsS69.alloc | apply IsS69.drewN | apply IsS69.drew | apply IsS69.set_0 | apply IsS69.set_1 | apply IsS69.set_2 | apply IsS69.set_3 | apply IsS69.set_4 | apply IsS69.set_5 | apply IsS69.set_6 | apply IsS69.set_7 | apply IsS69.set_8 | refine IsS69.far ?_ NB186_188.out _) | exact HI186.out)); (case side2 => repeat (first | (with_reducible first | exact HB.out | apply below_alloc | apply pw_below_drewN | apply below_drew1 | refine below_set ?_ (IsS69.ge HI186.out) | refine below_set ?_ GE188.out) | exact HB.out)); rintro e w38 ⟨rfl, hi, hb, hk⟩; refine ⟨_, rfl, ?_⟩; have n0_ := Aside0.mk (KeepBut.blk hk (g' := gb188) (o := .cells #[.int .i64 ((rd_T29 l0 x23_2).f0), .int .i64 ((rd_T29 l0 x23_2).f1), .string ((rd_T29 l0 x23_2).f2), .int .i64 ((rd_T29 l0 x23_2).f3)] 29 (0, 0)) (by (with_reducible repeat (first | refine blk_drewN ?_ _ | refine blk_drew ?_ | refine blk_alloc ?_ _)); refine blk_put (cs := #[.int .i64 ((rd_T29 l0 x23_2).f0), .int .i64 ((rd_T29 l0 x23_2).f1), .string ((rd_T29 l0 x23_2).f2), .int .i64 0]) ?_ 3 _ rfl; (with_reducible repeat (first | refine blk_drewN ?_ _ | refine blk_drew ?_ | refine blk_alloc ?_ _)); refine blk_put (cs := #[.int .i64 ((rd_T29 l0 x23_2).f0), .int .i64 ((rd_T29 l0 x23_2).f1), .string (⟨#[]⟩ : ByteArray), .int .i64 0]) ?_ 2 _ rfl; (with_reducible repeat (first | refine blk_drewN ?_ _ | refine blk_drew ?_ | refine blk_alloc ?_ _)); refine blk_put (cs := #[.int .i64 ((rd_T29 l0 x23_2).f0), .int .i64 0, .string (⟨#[]⟩ : ByteArray), .int .i64 0]) ?_ 1 _ rfl; (with_reducible repeat (first | refine blk_drewN ?_ _ | refine blk_drew ?_ | refine blk_alloc ?_ _)); refine blk_put (cs := #[.int .i64 0, .int .i64 0, .string (⟨#[]⟩ : ByteArray), .int .i64 0]) ?_ 0 _ rfl; (with_reducible repeat (first | refine blk_drewN ?_ _ | refine blk_drew ?_ | refine blk_alloc ?_ _)); exact BK188.out) NB188_186.out (by simp)); have n1_ := Aside0.mk (hb); have n2_ := Aside0.mk (hi); clear BK188; clear HB; clear HI186; have BK188 := n0_; have HB := n1_; have HI186 := n2_; clear n0_ n1_ n2_; (try clear hb); (try clear hb2); (try clear hk); (try clear hi)))
                          go_meet
                          case rel => exact ⟨_, (x6_2), (t200), (t201), (t202), (t203), (t204), (t205), (t206), (t207), (t208), (by first | rfl | (simp; done) | (simp [*]; done)), H', ⟨by have := HJ4.out; have := HK2.out; first | omega | exact Nat.le_refl _⟩, ⟨by (with_reducible repeat (first | refine blk_drewN ?_ _ | refine blk_drew ?_ | refine blk_alloc ?_ _)); exact BK188.out⟩, ⟨by repeat (first | (with_reducible first | exact HI186.out | apply IsS69.alloc | apply IsS69.drewN | apply IsS69.drew | apply IsS69.set_0 | apply IsS69.set_1 | apply IsS69.set_2 | apply IsS69.set_3 | apply IsS69.set_4 | apply IsS69.set_5 | apply IsS69.set_6 | apply IsS69.set_7 | apply IsS69.set_8 | refine IsS69.far ?_ NB186_188.out _) | exact HI186.out)⟩, ⟨by repeat (first | (with_reducible first | exact HB.out | apply below_alloc | apply pw_below_drewN | apply below_drew1 | refine below_set ?_ (IsS69.ge HI186.out) | refine below_set ?_ GE188.out) | exact HB.out)⟩⟩
                        · rw [if_neg c34] at H
                          have c34b0 : (((rd_T29 l0 x23_2).f0) == 1) = false := beq_eq_false_iff_ne.mpr c34
                          have c34b1 : (((rd_T29 l0 x23_2).f0) != 1) = true := bne_iff_ne.mpr c34
                          by_cases c39 : ((rd_T29 l0 x23_2).f0) = 2
                          · rw [if_pos c39] at H
                            have c39b0 : (((rd_T29 l0 x23_2).f0) == 2) = true := beq_iff_eq.mpr c39
                            have c39b1 : (((rd_T29 l0 x23_2).f0) != 2) = false := bne_eq_false_iff_eq.mpr c39
                            clear c39
                            replace H := Option.bind_eq_some_iff.mp H
                            obtain ⟨⟨t209, t210, t211, t212, t213, t214, t215, t216, t217, t218⟩, A400, H⟩ := H
                            replace H : (countermandlaw06_WireOrder.j2 k2 a1 x6_2 x7_2 l0 (l0.length : Int) x23_2 t210 t211 t212 t213 t214 t215 t216 t217 t218) = some r := H
                            have A40 := Aside0.mk A400
                            clear A400
                            have H' := Aside0.mk H
                            clear H
                            have hnb41 := NB188_186.out
                            have hnc41 := NB186_188.out
                            have hcz42_0 : w19.cell? ⟨gb188, 0, none⟩ = some (.int .i64 0) := (blk_cell BK188.out 0).trans rfl
                            have hcz42_1 : w19.cell? ⟨gb188, 1, none⟩ = some (.int .i64 0) := (blk_cell BK188.out 1).trans rfl
                            have hcz42_2 : w19.cell? ⟨gb188, 2, none⟩ = some (.string (⟨#[]⟩ : ByteArray)) := (blk_cell BK188.out 2).trans rfl
                            have hcz42_3 : w19.cell? ⟨gb188, 3, none⟩ = some (.int .i64 0) := (blk_cell BK188.out 3).trans rfl
                            have hfz42_0 := blk_frozen BK188.out 0
                            have hfz42_1 := blk_frozen BK188.out 1
                            have hfz42_2 := blk_frozen BK188.out 2
                            have hfz42_3 := blk_frozen BK188.out 3
                            go_wp2_with (first | ((with_reducible refine gate_callee (f := 20) rfl ?_); refine goesL_ (some 58) rfl rfl Try.func20 (by kernel_rfl) rfl #[.pointer (some ⟨g186, 0, none⟩), .int .i64 ((rd_T29 l0 x23_2).f1), .int .i64 ((rd_T29 l0 x23_2).f3)] rfl (by (try simp only [List.map_toArray, List.map_cons, List.map_nil]); first | done | rfl | (simp only [List.length_drop, List.length_take]; rfl)) ?_; (with_reducible refine (wire_Wire_Take.calls g186 x187000_2 x187001_2 x187002_2 x187003_2 x187004_2 x187005_2 x187006_2 x187007_2 x187008_2 ((rd_T29 l0 x23_2).f1) ((rd_T29 l0 x23_2).f3) t209 t210 t211 t212 t213 t214 t215 t216 t217 t218 w _ ?side1 ?side2 A40.out).mono ?_); (case side1 => repeat (first | (with_reducible first | exact HI186.out | apply IsS69.alloc | apply IsS69.drewN | apply IsS69.drew | apply IsS69.set_0 | apply IsS69.set_1 | apply IsS69.set_2 | apply IsS69.set_3 | apply IsS69.set_4 | apply IsS69.set_5 | apply IsS69.set_6 | apply IsS69.set_7 | apply IsS69.set_8 | refine IsS69.far ?_ NB186_188.out _) | exact HI186.out)); (case side2 => repeat (first | (with_reducible first | exact HB.out | apply below_alloc | apply pw_below_drewN | apply below_drew1 | refine below_set ?_ (IsS69.ge HI186.out) | refine below_set ?_ GE188.out) | exact HB.out)); rintro e w43 ⟨rfl, hi, hb, hk⟩; refine ⟨_, rfl, ?_⟩; have n0_ := Aside0.mk (KeepBut.blk hk (g' := gb188) (o := .cells #[.int .i64 ((rd_T29 l0 x23_2).f0), .int .i64 ((rd_T29 l0 x23_2).f1), .string ((rd_T29 l0 x23_2).f2), .int .i64 ((rd_T29 l0 x23_2).f3)] 29 (0, 0)) (by (with_reducible repeat (first | refine blk_drewN ?_ _ | refine blk_drew ?_ | refine blk_alloc ?_ _)); refine blk_put (cs := #[.int .i64 ((rd_T29 l0 x23_2).f0), .int .i64 ((rd_T29 l0 x23_2).f1), .string ((rd_T29 l0 x23_2).f2), .int .i64 0]) ?_ 3 _ rfl; (with_reducible repeat (first | refine blk_drewN ?_ _ | refine blk_drew ?_ | refine blk_alloc ?_ _)); refine blk_put (cs := #[.int .i64 ((rd_T29 l0 x23_2).f0), .int .i64 ((rd_T29 l0 x23_2).f1), .string (⟨#[]⟩ : ByteArray), .int .i64 0]) ?_ 2 _ rfl; (with_reducible repeat (first | refine blk_drewN ?_ _ | refine blk_drew ?_ | refine blk_alloc ?_ _)); refine blk_put (cs := #[.int .i64 ((rd_T29 l0 x23_2).f0), .int .i64 0, .string (⟨#[]⟩ : ByteArray), .int .i64 0]) ?_ 1 _ rfl; (with_reducible repeat (first | refine blk_drewN ?_ _ | refine blk_drew ?_ | refine blk_alloc ?_ _)); refine blk_put (cs := #[.int .i64 0, .int .i64 0, .string (⟨#[]⟩ : ByteArray), .int .i64 0]) ?_ 0 _ rfl; (with_reducible repeat (first | refine blk_drewN ?_ _ | refine blk_drew ?_ | refine blk_alloc ?_ _)); exact BK188.out) NB188_186.out (by simp)); have n1_ := Aside0.mk (hb); have n2_ := Aside0.mk (hi); clear BK188; clear HB; clear HI186; have BK188 := n0_; have HB := n1_; have HI186 := n2_; clear n0_ n1_ n2_; (try clear hb); (try clear hb2); (try clear hk); (try clear hi)))
                            go_meet
                            case rel => exact ⟨_, (x6_2), (t210), (t211), (t212), (t213), (t214), (t215), (t216), (t217), (t218), (by first | rfl | (simp; done) | (simp [*]; done)), H', ⟨by have := HJ4.out; have := HK2.out; first | omega | exact Nat.le_refl _⟩, ⟨by (with_reducible repeat (first | refine blk_drewN ?_ _ | refine blk_drew ?_ | refine blk_alloc ?_ _)); exact BK188.out⟩, ⟨by repeat (first | (with_reducible first | exact HI186.out | apply IsS69.alloc | apply IsS69.drewN | apply IsS69.drew | apply IsS69.set_0 | apply IsS69.set_1 | apply IsS69.set_2 | apply IsS69.set_3 | apply IsS69.set_4 | apply IsS69.set_5 | apply IsS69.set_6 | apply IsS69.set_7 | apply IsS69.set_8 | refine IsS69.far ?_ NB186_188.out _) | exact HI186.out)⟩, ⟨by repeat (first | (with_reducible first | exact HB.out | apply below_alloc | apply pw_below_drewN | apply below_drew1 | refine below_set ?_ (IsS69.ge HI186.out) | refine below_set ?_ GE188.out) | exact HB.out)⟩⟩
                          · rw [if_neg c39] at H
                            have c39b0 : (((rd_T29 l0 x23_2).f0) == 2) = false := beq_eq_false_iff_ne.mpr c39
                            have c39b1 : (((rd_T29 l0 x23_2).f0) != 2) = true := bne_iff_ne.mpr c39
                            have H' := Aside0.mk H
                            clear H
                            go_wp2
                            go_meet
                            case rel => exact ⟨_, (x6_2), (x187000_2), (x187001_2), (x187002_2), (x187003_2), (x187004_2), (x187005_2), (x187006_2), (x187007_2), (x187008_2), (by first | rfl | (simp; done) | (simp [*]; done)), H', ⟨by have := HJ4.out; have := HK2.out; first | omega | exact Nat.le_refl _⟩, ⟨by (with_reducible repeat (first | refine blk_drewN ?_ _ | refine blk_drew ?_ | refine blk_alloc ?_ _)); refine blk_put (cs := #[.int .i64 ((rd_T29 l0 x23_2).f0), .int .i64 ((rd_T29 l0 x23_2).f1), .string ((rd_T29 l0 x23_2).f2), .int .i64 0]) ?_ 3 _ rfl; (with_reducible repeat (first | refine blk_drewN ?_ _ | refine blk_drew ?_ | refine blk_alloc ?_ _)); refine blk_put (cs := #[.int .i64 ((rd_T29 l0 x23_2).f0), .int .i64 ((rd_T29 l0 x23_2).f1), .string (⟨#[]⟩ : ByteArray), .int .i64 0]) ?_ 2 _ rfl; (with_reducible repeat (first | refine blk_drewN ?_ _ | refine blk_drew ?_ | refine blk_alloc ?_ _)); refine blk_put (cs := #[.int .i64 ((rd_T29 l0 x23_2).f0), .int .i64 0, .string (⟨#[]⟩ : ByteArray), .int .i64 0]) ?_ 1 _ rfl; (with_reducible repeat (first | refine blk_drewN ?_ _ | refine blk_drew ?_ | refine blk_alloc ?_ _)); refine blk_put (cs := #[.int .i64 0, .int .i64 0, .string (⟨#[]⟩ : ByteArray), .int .i64 0]) ?_ 0 _ rfl; (with_reducible repeat (first | refine blk_drewN ?_ _ | refine blk_drew ?_ | refine blk_alloc ?_ _)); exact BK188.out⟩, ⟨by repeat (first | (with_reducible first | exact HI186.out | apply IsS69.alloc | apply IsS69.drewN | apply IsS69.drew | apply IsS69.set_0 | apply IsS69.set_1 | apply IsS69.set_2 | apply IsS69.set_3 | apply IsS69.set_4 | apply IsS69.set_5 | apply IsS69.set_6 | apply IsS69.set_7 | apply IsS69.set_8 | refine IsS69.far ?_ NB186_188.out _) | exact HI186.out)⟩, ⟨by repeat (first | (with_reducible first | exact HB.out | apply below_alloc | apply pw_below_drewN | apply below_drew1 | refine below_set ?_ (IsS69.ge HI186.out) | refine below_set ?_ GE188.out) | exact HB.out)⟩⟩
                    case rest =>
                      clear HC18
                      try clear c1
                      try clear p1
                      try clear q1
                      try clear hx1
                      try clear c2
                      try clear p2
                      try clear c3
                      try clear c4
                      try clear c8
                      try clear c12
                      try clear c14
                      try clear c15
                      try clear c15b0
                      try clear c16
                      try clear c16b0
                      try clear c17
                      try clear c17b0
                      try clear c18
                      try clear p18
                      try clear q18
                      try clear hx18
                      try clear c19
                      try clear c20
                      try clear c22
                      try clear c22b0
                      try clear c22b1
                      try clear c24
                      try clear c24b0
                      try clear c24b1
                      try clear c25
                      try clear c25b0
                      try clear c25b1
                      try clear c25b2
                      try clear c26
                      try clear c30
                      try clear c34
                      try clear c34b0
                      try clear c34b1
                      try clear c36
                      try clear c39
                      try clear c39b0
                      try clear c39b1
                      try clear c41
                      try clear hcz21_0
                      try clear hcz21_1
                      try clear hcz21_2
                      try clear hcz21_3
                      try clear hcz27_0
                      try clear hcz27_1
                      try clear hcz27_2
                      try clear hcz27_3
                      try clear hcz29_0
                      try clear hcz29_1
                      try clear hcz29_2
                      try clear hcz29_3
                      try clear hcz31_0
                      try clear hcz31_1
                      try clear hcz31_2
                      try clear hcz31_3
                      try clear hcz33_0
                      try clear hcz33_1
                      try clear hcz33_2
                      try clear hcz33_3
                      try clear hcz37_0
                      try clear hcz37_1
                      try clear hcz37_2
                      try clear hcz37_3
                      try clear hcz42_0
                      try clear hcz42_1
                      try clear hcz42_2
                      try clear hcz42_3
                      try clear hfz21_0
                      try clear hfz21_1
                      try clear hfz21_2
                      try clear hfz21_3
                      try clear hfz27_0
                      try clear hfz27_1
                      try clear hfz27_2
                      try clear hfz27_3
                      try clear hfz29_0
                      try clear hfz29_1
                      try clear hfz29_2
                      try clear hfz29_3
                      try clear hfz31_0
                      try clear hfz31_1
                      try clear hfz31_2
                      try clear hfz31_3
                      try clear hfz33_0
                      try clear hfz33_1
                      try clear hfz33_2
                      try clear hfz33_3
                      try clear hfz37_0
                      try clear hfz37_1
                      try clear hfz37_2
                      try clear hfz37_3
                      try clear hfz42_0
                      try clear hfz42_1
                      try clear hfz42_2
                      try clear hfz42_3
                      try clear hx187_0
                      try clear hx187_1
                      try clear hx187_2
                      try clear hx187_3
                      try clear p187
                      try clear p2
                      try clear q187
                      obtain ⟨kq, x6_17, x187000_17, x187001_17, x187002_17, x187003_17, x187004_17, x187005_17, x187006_17, x187007_17, x187008_17, rfl, HA, HJ17, BK188, HI186, HB⟩ := hcut
                      cases kq with
                      | zero => exact absurd HA.out (by simp [countermandlaw06_WireOrder.j2])
                      | succ kj17 =>
                        have H := HA.out
                        clear HA
                        simp only [countermandlaw06_WireOrder.j2] at H
                        replace H := Option.bind_eq_some_iff.mp H
                        obtain ⟨⟨t219, t220, t221, t222, t223, t224, t225, t226, t227, t228⟩, A440, H⟩ := H
                        replace H : ((wire_Wire_All.f t220 t221 t222 t223 t224 t225 t226 t227 t228 a1).bind fun bt229 => (if bt229.1.toList = x6_17.toList then (if (t219.size : Int) < x7_2 then (some false) else (if 0 ≤ (t219.size : Int) then (if (t219.size : Int) ≤ (x6_17.size : Int) then (if t219.toList = (x6_17.extract 0 ((t219.size : Int) : Int).toNat).toList then (countermandlaw06_WireOrder.l0 kj17 a1 x6_17 (t219.size : Int) l0 (l0.length : Int) (wrap64 (x23_2 + 1)) bt229.2.1 bt229.2.2.1 bt229.2.2.2.1 bt229.2.2.2.2.1 bt229.2.2.2.2.2.1 bt229.2.2.2.2.2.2.1 bt229.2.2.2.2.2.2.2.1 bt229.2.2.2.2.2.2.2.2.1 bt229.2.2.2.2.2.2.2.2.2) else (some false)) else (none)) else (none))) else (some false))) = some r := H
                        have A44 := Aside0.mk A440
                        clear A440
                        replace H := Option.bind_eq_some_iff.mp H
                        obtain ⟨⟨t229, t230, t231, t232, t233, t234, t235, t236, t237, t238⟩, A450, H⟩ := H
                        replace H : (if t229.toList = x6_17.toList then (if (t219.size : Int) < x7_2 then (some false) else (if 0 ≤ (t219.size : Int) then (if (t219.size : Int) ≤ (x6_17.size : Int) then (if t219.toList = (x6_17.extract 0 ((t219.size : Int) : Int).toNat).toList then (countermandlaw06_WireOrder.l0 kj17 a1 x6_17 (t219.size : Int) l0 (l0.length : Int) (wrap64 (x23_2 + 1)) t230 t231 t232 t233 t234 t235 t236 t237 t238) else (some false)) else (none)) else (none))) else (some false)) = some r := H
                        have A45 := Aside0.mk A450
                        clear A450
                        by_cases c46 : t229.toList = x6_17.toList
                        · rw [if_pos c46] at H
                          have c46b0 : (t229.toList == x6_17.toList) = true := beq_iff_eq.mpr c46
                          have c46b1 : (t229.toList != x6_17.toList) = false := bne_eq_false_iff_eq.mpr c46
                          clear c46
                          by_cases c47 : (t219.size : Int) < x7_2
                          · rw [if_pos c47] at H
                            have c47b0 : decide ((t219.size : Int) < x7_2) = true := decide_eq_true c47
                            clear c47
                            obtain rfl := Option.some.inj H
                            cases hrT
                          · rw [if_neg c47] at H
                            have c47b0 : decide ((t219.size : Int) < x7_2) = false := decide_eq_false c47
                            clear c47
                            by_cases c48 : 0 ≤ (t219.size : Int)
                            · rw [if_pos c48] at H
                              have c48b0 := eq_true c48
                              have c48b1 : decide (0 ≤ (t219.size : Int)) = true := decide_eq_true c48
                              clear c48
                              by_cases c49 : (t219.size : Int) ≤ (x6_17.size : Int)
                              · rw [if_pos c49] at H
                                have c49b0 := eq_true c49
                                have c49b1 : decide ((t219.size : Int) ≤ (x6_17.size : Int)) = true := decide_eq_true c49
                                clear c49
                                by_cases c50 : t219.toList = (x6_17.extract 0 ((t219.size : Int) : Int).toNat).toList
                                · rw [if_pos c50] at H
                                  have c50b0 : (t219.toList == (x6_17.extract 0 ((t219.size : Int) : Int).toNat).toList) = true := beq_iff_eq.mpr c50
                                  have c50b8 : (t219.toList == (x6_17.extract 0 t219.size).toList) = true := beq_iff_eq.mpr c50
                                  have c50b1 : (t219.toList != (x6_17.extract 0 ((t219.size : Int) : Int).toNat).toList) = false := bne_eq_false_iff_eq.mpr c50
                                  have c50b9 : (t219.toList != (x6_17.extract 0 t219.size).toList) = false := bne_eq_false_iff_eq.mpr c50
                                  clear c50
                                  have H' := Aside0.mk H
                                  clear H
                                  go_wp2_with (first | ((with_reducible refine gate_callee (f := 21) rfl ?_); refine goesL_ (some 61) rfl rfl Try.func21 (by kernel_rfl) rfl #[.pointer (some ⟨g186, 0, none⟩), .int .i64 a1] rfl (by (try simp only [List.map_toArray, List.map_cons, List.map_nil]); first | done | rfl | (simp only [List.length_drop, List.length_take]; rfl)) ?_; (with_reducible refine (wire_Wire_Trace.calls g186 x187000_17 x187001_17 x187002_17 x187003_17 x187004_17 x187005_17 x187006_17 x187007_17 x187008_17 a1 t219 t220 t221 t222 t223 t224 t225 t226 t227 t228 w _ ?side1 ?side2 A44.out).mono ?_); (case side1 => repeat (first | (with_reducible first | exact HI186.out | apply IsS69.alloc | apply IsS69.drewN | apply IsS69.drew | apply IsS69.set_0 | apply IsS69.set_1 | apply IsS69.set_2 | apply IsS69.set_3 | apply IsS69.set_4 | apply IsS69.set_5 | apply IsS69.set_6 | apply IsS69.set_7 | apply IsS69.set_8 | refine IsS69.far ?_ NB186_188.out _) | exact HI186.out)); (case side2 => repeat (first | (with_reducible first | exact HB.out | apply below_alloc | apply pw_below_drewN | apply below_drew1 | refine below_set ?_ (IsS69.ge HI186.out) | refine below_set ?_ GE188.out) | exact HB.out)); rintro e w51 ⟨rfl, hi, hb, hk⟩; refine ⟨_, rfl, ?_⟩; have n0_ := Aside0.mk (KeepBut.blk hk (g' := gb188) (o := .cells #[.int .i64 ((rd_T29 l0 x23_2).f0), .int .i64 ((rd_T29 l0 x23_2).f1), .string ((rd_T29 l0 x23_2).f2), .int .i64 ((rd_T29 l0 x23_2).f3)] 29 (0, 0)) (by (with_reducible repeat (first | refine blk_drewN ?_ _ | refine blk_drew ?_ | refine blk_alloc ?_ _)); exact BK188.out) NB188_186.out (by simp)); have n1_ := Aside0.mk (hb); have n2_ := Aside0.mk (hi); clear BK188; clear HB; clear HI186; have BK188 := n0_; have HB := n1_; have HI186 := n2_; clear n0_ n1_ n2_; (try clear hb); (try clear hb2); (try clear hk); (try clear hi)) | ((with_reducible refine gate_callee (f := 22) rfl ?_); refine goesL_ (some 64) rfl rfl Try.func22 (by kernel_rfl) rfl #[.pointer (some ⟨g186, 0, none⟩), .int .i64 a1] rfl (by (try simp only [List.map_toArray, List.map_cons, List.map_nil]); first | done | rfl | (simp only [List.length_drop, List.length_take]; rfl)) ?_; (with_reducible refine (wire_Wire_All.calls g186 t220 t221 t222 t223 t224 t225 t226 t227 t228 a1 t229 t230 t231 t232 t233 t234 t235 t236 t237 t238 w _ ?side1 ?side2 A45.out).mono ?_); (case side1 => repeat (first | (with_reducible first | exact HI186.out | apply IsS69.alloc | apply IsS69.drewN | apply IsS69.drew | apply IsS69.set_0 | apply IsS69.set_1 | apply IsS69.set_2 | apply IsS69.set_3 | apply IsS69.set_4 | apply IsS69.set_5 | apply IsS69.set_6 | apply IsS69.set_7 | apply IsS69.set_8 | refine IsS69.far ?_ NB186_188.out _) | exact HI186.out)); (case side2 => repeat (first | (with_reducible first | exact HB.out | apply below_alloc | apply pw_below_drewN | apply below_drew1 | refine below_set ?_ (IsS69.ge HI186.out) | refine below_set ?_ GE188.out) | exact HB.out)); rintro e w52 ⟨rfl, hi, hb, hk⟩; refine ⟨_, rfl, ?_⟩; have n0_ := Aside0.mk (KeepBut.blk hk (g' := gb188) (o := .cells #[.int .i64 ((rd_T29 l0 x23_2).f0), .int .i64 ((rd_T29 l0 x23_2).f1), .string ((rd_T29 l0 x23_2).f2), .int .i64 ((rd_T29 l0 x23_2).f3)] 29 (0, 0)) (by (with_reducible repeat (first | refine blk_drewN ?_ _ | refine blk_drew ?_ | refine blk_alloc ?_ _)); exact BK188.out) NB188_186.out (by simp)); have n1_ := Aside0.mk (hb); have n2_ := Aside0.mk (hi); clear BK188; clear HB; clear HI186; have BK188 := n0_; have HB := n1_; have HI186 := n2_; clear n0_ n1_ n2_; (try clear hb); (try clear hb2); (try clear hk); (try clear hi)))
                                  go_roundg kj17
                                  case measure => have := HJ4.out; have := HK2.out; have := HJ17.out; omega
                                  case rel => exact ⟨(x6_17), ((t219.size : Int)), (wrap64 (x23_2 + 1)), (t230), (t231), (t232), (t233), (t234), (t235), (t236), (t237), (t238), (by first | rfl | (simp; done) | (simp [*]; done)), (by first | rfl | (simp; done) | (simp [*]; done)), (by first | rfl | (simp; done) | (simp [*]; done)), H', ⟨by have := HJ4.out; have := HK2.out; have := HJ17.out; omega⟩, ⟨by repeat (first | (with_reducible first | exact HI186.out | apply IsS69.alloc | apply IsS69.drewN | apply IsS69.drew | apply IsS69.set_0 | apply IsS69.set_1 | apply IsS69.set_2 | apply IsS69.set_3 | apply IsS69.set_4 | apply IsS69.set_5 | apply IsS69.set_6 | apply IsS69.set_7 | apply IsS69.set_8 | refine IsS69.far ?_ NB186_188.out _) | exact HI186.out)⟩, ⟨by repeat (first | (with_reducible first | exact HB.out | apply below_alloc | apply pw_below_drewN | apply below_drew1 | refine below_set ?_ (IsS69.ge HI186.out) | refine below_set ?_ GE188.out) | exact HB.out)⟩⟩
                                · rw [if_neg c50] at H
                                  have c50b0 : (t219.toList == (x6_17.extract 0 ((t219.size : Int) : Int).toNat).toList) = false := beq_eq_false_iff_ne.mpr c50
                                  have c50b8 : (t219.toList == (x6_17.extract 0 t219.size).toList) = false := beq_eq_false_iff_ne.mpr c50
                                  have c50b1 : (t219.toList != (x6_17.extract 0 ((t219.size : Int) : Int).toNat).toList) = true := bne_iff_ne.mpr c50
                                  have c50b9 : (t219.toList != (x6_17.extract 0 t219.size).toList) = true := bne_iff_ne.mpr c50
                                  obtain rfl := Option.some.inj H
                                  cases hrT
                              · rw [if_neg c49] at H
                                exact absurd H (by simp)
                            · rw [if_neg c48] at H
                              exact absurd H (by simp)
                        · rw [if_neg c46] at H
                          have c46b0 : (t229.toList == x6_17.toList) = false := beq_eq_false_iff_ne.mpr c46
                          have c46b1 : (t229.toList != x6_17.toList) = true := bne_iff_ne.mpr c46
                          obtain rfl := Option.some.inj H
                          cases hrT
                  · rw [if_neg c17] at H
                    exact absurd H (by simp)
                · rw [if_neg c16] at H
                  exact absurd H (by simp)
              · rw [if_neg c15] at H
                have c15b0 : decide (x23_2 < (l0.length : Int)) = false := decide_eq_false c15
                clear c15
                obtain rfl := Option.some.inj H
                clear hrT
                go_wp2
                go_ret
                exact ⟨by first | rfl | (simp [errW_none, errW_some] <;> rfl) | (simp [*, errW_none, errW_some] <;> rfl), by repeat (first | (with_reducible first | exact HB.out | apply below_alloc | apply pw_below_drewN | apply below_drew1 | refine below_set ?_ (IsS69.ge HI186.out)) | exact HB.out)⟩
  · replace c4 := Bool.eq_false_iff.mpr c4
    subst c4
    have H1 : (some false) = some r := by rw [if_neg (show ¬ (false = true) by decide)] at H; exact H
    clear H
    have H := H1
    clear H1
    obtain rfl := Option.some.inj H
    cases hrT

/-- THE ONE PURE STATEMENT of countermandlaw06_WireOrder: yours. -/
def countermandlaw06_WireOrder.Pure : Prop := ∀ (l0 : List (S29)) (a1 : Int), l0.length ≤ maxLen → (∀ x ∈ l0, (Lit.int .i64 x.f0).wf = true ∧ (Lit.int .i64 x.f1).wf = true ∧ x.f2.size ≤ maxLen ∧ (Lit.int .i64 x.f3).wf = true) → (Lit.int .i64 a1).wf = true → ∃ k, countermandlaw06_WireOrder.f k l0 a1 = some true
theorem countermandlaw06_WireOrder.walk (P : countermandlaw06_WireOrder.Pure) (a0 : Option Addr) (len0 cap0 : Nat) (z0 : List (S29)) (a1 : Int) (w : World) (w0 : z0.length = len0 ∧ Kd.C k29 w a0 z0.length z0 ∧ z0.length ≤ cap0 ∧ z0.length ≤ maxLen ∧ (∀ x ∈ z0, (Lit.int .i64 x.f0).wf = true ∧ (Lit.int .i64 x.f1).wf = true ∧ x.f2.size ≤ maxLen ∧ (Lit.int .i64 x.f3).wf = true)) (w1 : (Lit.int .i64 a1).wf = true) :
    Calls Try.prog 3 #[.slice a0 len0 cap0, .int .i64 a1] w fun e w' => e = .returned (.bool true) ∧ Below w.heap.size w w' := by
  obtain ⟨rfl, hr0, hc0, hm0, hg0⟩ := w0
  obtain ⟨k, h⟩ := P z0 a1 hm0 hg0 w1
  refine (countermandlaw06_WireOrder.calls k _ _ z0 a1 true w hr0 hc0 h rfl).mono ?_
  rintro e w' ⟨rfl, hd⟩
  exact ⟨rfl, hd⟩

end Go.Proofs.Ytodffnchcbapcaa.PWireOrder
