/- Written by a program of this session, which began as the kit's print and is turned in wip/printer: the plain form of each function, and that the Go code comes to it. -/
import Derived.Test.YtfimbmdbaaiemaaPFileDoesx0
import Derived.Test.YtfimbmdbaaiemaaPFileDoesx1
import Derived.Test.YtfimbmdbaaiemaaPFileDoesx2
import Derived.Test.YtfimbmdbaaiemaaPFileDoesx3
namespace Go.Proofs.Ytfimbmdbaaiemaa.PFileDoes
open Go.RowKit Go.Proofs.YtfimbmdbaaiemaaW.PrintWords Go.Proofs.YtfimbmdbaaiemaaW.PrintLast Go.Proofs.YtfimbmdbaaiemaaW.PrintMore
attribute [local go_sem] max2_int min2_int max_two min_two max_three min_three max_four min_four   -- for this text's walks alone
set_option linter.unusedVariables false
set_option linter.unusedSimpArgs false

attribute [local go_sem high] eqA25 eqA57
/-! ### countermandref09_At: function 43 -/
def countermandref09_At.l0 : Nat → Int → Int → Bool → ByteArray → Option (Int)
  | 0, _, _, _, _ => none
  | k + 1, x1, x5, x118000, x118001 => if x5 < (x118001.size : Int) then (if x5 = x1 then (if 0 ≤ x5 then (some (wrap64 (bt x118001 x5))) else (none)) else (countermandref09_At.l0 k x1 (wrap64 (x5 + 1)) x118000 x118001)) else (some (-1))
def countermandref09_At.f (k : Nat) (a0_0 : Bool) (a0_1 : ByteArray) (a1 : Int) : Option (Int) := countermandref09_At.l0 k a1 0 a0_0 a0_1
theorem countermandref09_At.mono_l : ∀ k, (∀ y0 y1 y2 y3, LeO (countermandref09_At.l0 k y0 y1 y2 y3) (countermandref09_At.l0 (k + 1) y0 y1 y2 y3))
  | 0 => fun _ _ _ _ r h => by simp [countermandref09_At.l0] at h
  | k + 1 => by
    have ih0 := countermandref09_At.mono_l k
    · intro y0 y1 y2 y3
      unfold countermandref09_At.l0
      repeat' first
      | (with_reducible exact ih0 _ _ _ _)
      | (with_reducible exact LeO.refl _)
      | (with_reducible exact LeO.none _)
      | (with_reducible refine LeO.ite ?_ ?_)
      | (with_reducible refine LeO.bind ?_ (fun _ => ?_))
      | exact ih0 _ _ _ _
      | exact LeO.none _
      | refine LeO.ite ?_ ?_
      | refine LeO.bind ?_ (fun _ => ?_)
theorem countermandref09_At.mono : ∀ a0 a1 a2 k, LeO (countermandref09_At.f k a0 a1 a2) (countermandref09_At.f (k + 1) a0 a1 a2) := by
  intro a0 a1 a2 k
  have ih0 := countermandref09_At.mono_l k
  unfold countermandref09_At.f
  repeat' first
      | (with_reducible exact ih0 _ _ _ _)
      | (with_reducible exact LeO.refl _)
      | (with_reducible exact LeO.none _)
      | (with_reducible refine LeO.ite ?_ ?_)
      | (with_reducible refine LeO.bind ?_ (fun _ => ?_))
      | exact ih0 _ _ _ _
      | exact LeO.none _
      | refine LeO.ite ?_ ?_
      | refine LeO.bind ?_ (fun _ => ?_)
set_option maxHeartbeats 8000000 in
set_option maxRecDepth 100000 in
theorem countermandref09_At.calls (k : Nat) (a0_0 : Bool) (a0_1 : ByteArray) (a1 : Int) (r : Int) (w : World) (h : countermandref09_At.f k a0_0 a0_1 a1 = some r) :
    Calls Try.prog 43 #[.agg #[.bool a0_0, .string a0_1], .int .i64 a1] w fun e w' => e = .returned (.int .i64 r) ∧ Below w.heap.size w w' := by
  have hu57 := Try.underlying57
  have HB := Aside0.mk (Below.refl w.heap.size w)
  have H : (countermandref09_At.l0 k a1 0 a0_0 a0_1) = some r := h
  clear h
  have H' := Aside0.mk H
  clear H
  go_enter Try.func43, Try.ntmps43
  go_wp2_with (first | ((with_reducible refine gate_dst (N := 2) rfl ?_); refine box_event ?hg (N := 2) ?hd (cs := #[.bool a0_0, .string a0_1]) (t := 57) ?hr ?_; (case hd => rfl); (case hg => rfl); (case hr => first | (go_simp; done) | (go_simp; rfl)); intro gb117 hg w3 hbox hb; have n0_ := Aside0.mk (below_step (by repeat (first | (with_reducible first | exact HB.out | apply below_alloc | apply pw_below_drewN | apply below_drew1) | exact HB.out)) hb); have n1_ := Aside0.mk (hbox); have n2_ := Aside0.mk ((by rw [hg]; exact (below_size (by repeat (first | (with_reducible first | exact HB.out | apply below_alloc | apply pw_below_drewN | apply below_drew1) | exact HB.out))) : w.heap.size ≤ gb117)); have n3_ := Aside0.mk ((by rw [hg]; exact (below_size (by repeat (first | (with_reducible first | exact HB.out | apply below_alloc | apply pw_below_drewN | apply below_drew1) | exact HB.out))) : w.heap.size ≤ gb117)); clear HB; have HB := n0_; have BK117 := n1_; have GW117 := n2_; have GE117 := n3_; clear n0_ n1_ n2_ n3_; clear hb hbox hg))
  go_loopg [5] k (fun kq v5 w' => ∃ (x5_1 : Int), v5 = .int .i64 x5_1 ∧ Aside0 (countermandref09_At.l0 kq a1 x5_1 a0_0 a0_1 = some r) ∧ Aside0 (kq ≤ k) ∧ Aside0 (w'.heap[gb117]? = some (.cells #[.bool a0_0, .string a0_1] 57 (0, 0))) ∧ Aside0 (Below w.heap.size w w'))
  case atStart => exact ⟨(0), (by first | rfl | (simp; done) | (simp [*]; done)), H', ⟨Nat.le_refl _⟩, ⟨by (with_reducible repeat (first | refine blk_drewN ?_ _ | refine blk_drew ?_ | refine blk_alloc ?_ _)); exact BK117.out⟩, ⟨by repeat (first | (with_reducible first | exact HB.out | apply below_alloc | apply pw_below_drewN | apply below_drew1 | refine below_set ?_ GE117.out) | exact HB.out)⟩⟩
  case round =>
    clear H'
    try clear p2
    obtain ⟨x5_1, rfl, HA, HK1, BK117, HB⟩ := hrel
    cases gk with
    | zero => exact absurd HA.out (by simp [countermandref09_At.l0])
    | succ k1 =>
      have H := HA.out
      clear HA
      simp only [countermandref09_At.l0] at H
      by_cases c4 : x5_1 < (a0_1.size : Int)
      · rw [if_pos c4] at H
        have c4b0 : decide (x5_1 < (a0_1.size : Int)) = true := decide_eq_true c4
        clear c4
        by_cases c5 : x5_1 = a1
        · rw [if_pos c5] at H
          have c5b0 : (x5_1 == a1) = true := beq_iff_eq.mpr c5
          have c5b1 : (x5_1 != a1) = false := bne_eq_false_iff_eq.mpr c5
          clear c5
          by_cases c6 : 0 ≤ x5_1
          · rw [if_pos c6] at H
            have c6b0 : decide (0 ≤ x5_1) = true := decide_eq_true c6
            clear c6
            obtain rfl := Option.some.inj H
            simp only [Option.some.injEq, Prod.mk.injEq] at H
            obtain ⟨rfl⟩ := H
            have hcz8_0 : wr.cell? ⟨gb117, 0, none⟩ = some (.bool a0_0) := (blk_cell BK117.out 0).trans rfl
            have hcz8_1 : wr.cell? ⟨gb117, 1, none⟩ = some (.string a0_1) := (blk_cell BK117.out 1).trans rfl
            have hfz8_0 := blk_frozen BK117.out 0
            have hfz8_1 := blk_frozen BK117.out 1
            have p7 : 0 ≤ (x5_1 : Int) := of_decide_eq_true (by first | (with_reducible assumption) | assumption)
            have q7 : x5_1 < (a0_1.size : Int) := of_decide_eq_true (by first | (with_reducible assumption) | assumption)
            have hx7 := bt_at a0_1 x5_1
            replace p7 := eq_true p7
            replace q7 := eq_true q7
            go_wp2
            go_ret
            exact ⟨by first | rfl | (simp [errW_none, errW_some] <;> rfl) | (simp [*, errW_none, errW_some] <;> rfl), by repeat (first | (with_reducible first | exact HB.out | apply below_alloc | apply pw_below_drewN | apply below_drew1 | refine below_set ?_ GE117.out) | exact HB.out)⟩
          · rw [if_neg c6] at H
            exact absurd H (by simp)
        · rw [if_neg c5] at H
          have c5b0 : (x5_1 == a1) = false := beq_eq_false_iff_ne.mpr c5
          have c5b1 : (x5_1 != a1) = true := bne_iff_ne.mpr c5
          have H' := Aside0.mk H
          clear H
          have hcz9_0 : wr.cell? ⟨gb117, 0, none⟩ = some (.bool a0_0) := (blk_cell BK117.out 0).trans rfl
          have hcz9_1 : wr.cell? ⟨gb117, 1, none⟩ = some (.string a0_1) := (blk_cell BK117.out 1).trans rfl
          have hfz9_0 := blk_frozen BK117.out 0
          have hfz9_1 := blk_frozen BK117.out 1
          go_wp2
          go_roundg k1
          case measure => have := HK1.out; omega
          case rel => exact ⟨(wrap64 (x5_1 + 1)), (by first | rfl | (simp; done) | (simp [*]; done)), H', ⟨by have := HK1.out; omega⟩, ⟨by (with_reducible repeat (first | refine blk_drewN ?_ _ | refine blk_drew ?_ | refine blk_alloc ?_ _)); exact BK117.out⟩, ⟨by repeat (first | (with_reducible first | exact HB.out | apply below_alloc | apply pw_below_drewN | apply below_drew1 | refine below_set ?_ GE117.out) | exact HB.out)⟩⟩
      · rw [if_neg c4] at H
        have c4b0 : decide (x5_1 < (a0_1.size : Int)) = false := decide_eq_false c4
        clear c4
        obtain rfl := Option.some.inj H
        simp only [Option.some.injEq, Prod.mk.injEq] at H
        obtain ⟨rfl⟩ := H
        have hcz10_0 : wr.cell? ⟨gb117, 0, none⟩ = some (.bool a0_0) := (blk_cell BK117.out 0).trans rfl
        have hcz10_1 : wr.cell? ⟨gb117, 1, none⟩ = some (.string a0_1) := (blk_cell BK117.out 1).trans rfl
        have hfz10_0 := blk_frozen BK117.out 0
        have hfz10_1 := blk_frozen BK117.out 1
        go_wp2
        go_ret
        exact ⟨by first | rfl | (simp [errW_none, errW_some] <;> rfl) | (simp [*, errW_none, errW_some] <;> rfl), by repeat (first | (with_reducible first | exact HB.out | apply below_alloc | apply pw_below_drewN | apply below_drew1 | refine below_set ?_ GE117.out) | exact HB.out)⟩

/-! ### countermandref09_Put: function 41 -/
mutual
def countermandref09_Put.j0 : Nat → Int → Int → Bool → Bool → ByteArray → Option (Bool × ByteArray)
  | 0, _, _, _, _, _ => none
  | k + 1, x1, x2, x15, x119000, x119001 => if x15 = true then (some (x119000, x119001)) else (countermandref09_Put.l0 k x1 x2 (⟨#[]⟩ : ByteArray) 0 x119000 x119001)
def countermandref09_Put.l0 : Nat → Int → Int → ByteArray → Int → Bool → ByteArray → Option (Bool × ByteArray)
  | 0, _, _, _, _, _, _ => none
  | k + 1, x1, x2, x7, x8, x119000, x119001 => if x8 < (x119001.size : Int) then (countermandref09_Put.j2 k x1 x2 x7 x8 true x119000 x119001) else (countermandref09_Put.j2 k x1 x2 x7 x8 (decide (x8 ≤ x1)) x119000 x119001)
def countermandref09_Put.j2 : Nat → Int → Int → ByteArray → Int → Bool → Bool → ByteArray → Option (Bool × ByteArray)
  | 0, _, _, _, _, _, _, _ => none
  | k + 1, x1, x2, x7, x8, x26, x119000, x119001 => if x26 = true then ((countermandref09_At.f k x119000 x119001 x8).bind fun t120 => (if x8 = x1 then ((some (([(wrap64 (x2)) % 256] : List Int) : List Int)).bind fun y121 => (if x7.size + (strOfNums y121).size ≤ 9223372036854775807 then (countermandref09_Put.l0 k x1 x2 (x7 ++ (strOfNums y121)) (wrap64 (x8 + 1)) x119000 x119001) else (none))) else ((some (([(mx t120 0) % 256] : List Int) : List Int)).bind fun y124 => (if x7.size + (strOfNums y124).size ≤ 9223372036854775807 then (countermandref09_Put.l0 k x1 x2 (x7 ++ (strOfNums y124)) (wrap64 (x8 + 1)) x119000 x119001) else (none))))) else (some (true, x7))
end
def countermandref09_Put.f (k : Nat) (a0_0 : Bool) (a0_1 : ByteArray) (a1 : Int) (a2 : Int) : Option (Bool × ByteArray) := if a1 < 0 then (countermandref09_Put.j0 k a1 a2 true a0_0 a0_1) else (countermandref09_Put.j0 k a1 a2 (decide (a1 > 31)) a0_0 a0_1)
theorem countermandref09_Put.mono_l : ∀ k, (∀ y0 y1 y2 y3 y4, LeO (countermandref09_Put.j0 k y0 y1 y2 y3 y4) (countermandref09_Put.j0 (k + 1) y0 y1 y2 y3 y4)) ∧ (∀ y0 y1 y2 y3 y4 y5, LeO (countermandref09_Put.l0 k y0 y1 y2 y3 y4 y5) (countermandref09_Put.l0 (k + 1) y0 y1 y2 y3 y4 y5)) ∧ (∀ y0 y1 y2 y3 y4 y5 y6, LeO (countermandref09_Put.j2 k y0 y1 y2 y3 y4 y5 y6) (countermandref09_Put.j2 (k + 1) y0 y1 y2 y3 y4 y5 y6))
  | 0 => ⟨fun _ _ _ _ _ r h => by simp [countermandref09_Put.j0] at h, fun _ _ _ _ _ _ r h => by simp [countermandref09_Put.l0] at h, fun _ _ _ _ _ _ _ r h => by simp [countermandref09_Put.j2] at h⟩
  | k + 1 => by
    obtain ⟨ih0, ih1, ih2⟩ := countermandref09_Put.mono_l k
    refine ⟨?_, ?_, ?_⟩
    · intro y0 y1 y2 y3 y4
      unfold countermandref09_Put.j0
      repeat' first
      | (with_reducible exact ih0 _ _ _ _ _)
      | (with_reducible exact ih1 _ _ _ _ _ _)
      | (with_reducible exact ih2 _ _ _ _ _ _ _)
      | (with_reducible exact countermandref09_At.mono _ _ _ _)
      | (with_reducible exact LeO.refl _)
      | (with_reducible exact LeO.none _)
      | (with_reducible refine LeO.ite ?_ ?_)
      | (with_reducible refine LeO.bind ?_ (fun _ => ?_))
      | exact ih0 _ _ _ _ _
      | exact ih1 _ _ _ _ _ _
      | exact ih2 _ _ _ _ _ _ _
      | exact countermandref09_At.mono _ _ _ _
      | exact LeO.none _
      | refine LeO.ite ?_ ?_
      | refine LeO.bind ?_ (fun _ => ?_)
    · intro y0 y1 y2 y3 y4 y5
      unfold countermandref09_Put.l0
      repeat' first
      | (with_reducible exact ih0 _ _ _ _ _)
      | (with_reducible exact ih1 _ _ _ _ _ _)
      | (with_reducible exact ih2 _ _ _ _ _ _ _)
      | (with_reducible exact countermandref09_At.mono _ _ _ _)
      | (with_reducible exact LeO.refl _)
      | (with_reducible exact LeO.none _)
      | (with_reducible refine LeO.ite ?_ ?_)
      | (with_reducible refine LeO.bind ?_ (fun _ => ?_))
      | exact ih0 _ _ _ _ _
      | exact ih1 _ _ _ _ _ _
      | exact ih2 _ _ _ _ _ _ _
      | exact countermandref09_At.mono _ _ _ _
      | exact LeO.none _
      | refine LeO.ite ?_ ?_
      | refine LeO.bind ?_ (fun _ => ?_)
    · intro y0 y1 y2 y3 y4 y5 y6
      unfold countermandref09_Put.j2
      repeat' first
      | (with_reducible exact ih0 _ _ _ _ _)
      | (with_reducible exact ih1 _ _ _ _ _ _)
      | (with_reducible exact ih2 _ _ _ _ _ _ _)
      | (with_reducible exact countermandref09_At.mono _ _ _ _)
      | (with_reducible exact LeO.refl _)
      | (with_reducible exact LeO.none _)
      | (with_reducible refine LeO.ite ?_ ?_)
      | (with_reducible refine LeO.bind ?_ (fun _ => ?_))
      | exact ih0 _ _ _ _ _
      | exact ih1 _ _ _ _ _ _
      | exact ih2 _ _ _ _ _ _ _
      | exact countermandref09_At.mono _ _ _ _
      | exact LeO.none _
      | refine LeO.ite ?_ ?_
      | refine LeO.bind ?_ (fun _ => ?_)
theorem countermandref09_Put.mono : ∀ a0 a1 a2 a3 k, LeO (countermandref09_Put.f k a0 a1 a2 a3) (countermandref09_Put.f (k + 1) a0 a1 a2 a3) := by
  intro a0 a1 a2 a3 k
  obtain ⟨ih0, ih1, ih2⟩ := countermandref09_Put.mono_l k
  unfold countermandref09_Put.f
  repeat' first
      | (with_reducible exact ih0 _ _ _ _ _)
      | (with_reducible exact ih1 _ _ _ _ _ _)
      | (with_reducible exact ih2 _ _ _ _ _ _ _)
      | (with_reducible exact countermandref09_At.mono _ _ _ _)
      | (with_reducible exact LeO.refl _)
      | (with_reducible exact LeO.none _)
      | (with_reducible refine LeO.ite ?_ ?_)
      | (with_reducible refine LeO.bind ?_ (fun _ => ?_))
      | exact ih0 _ _ _ _ _
      | exact ih1 _ _ _ _ _ _
      | exact ih2 _ _ _ _ _ _ _
      | exact countermandref09_At.mono _ _ _ _
      | exact LeO.none _
      | refine LeO.ite ?_ ?_
      | refine LeO.bind ?_ (fun _ => ?_)
set_option maxHeartbeats 8000000 in
set_option maxRecDepth 100000 in
theorem countermandref09_Put.calls (k : Nat) (a0_0 : Bool) (a0_1 : ByteArray) (a1 : Int) (a2 : Int) (r1 : Bool) (r2 : ByteArray) (w : World) (h : countermandref09_Put.f k a0_0 a0_1 a1 a2 = some (r1, r2)) :
    Calls Try.prog 41 #[.agg #[.bool a0_0, .string a0_1], .int .i64 a1, .int .u8 a2] w fun e w' => e = .returned (.agg #[.bool r1, .string r2]) ∧ Below w.heap.size w w' := by
  have hu57 := Try.underlying57
  have HB := Aside0.mk (Below.refl w.heap.size w)
  have H : (if a1 < 0 then (countermandref09_Put.j0 k a1 a2 true a0_0 a0_1) else (countermandref09_Put.j0 k a1 a2 (decide (a1 > 31)) a0_0 a0_1)) = some (r1, r2) := h
  clear h
  have HC4 := Aside0.mk H
  clear H
  go_enter Try.func41, Try.ntmps41
  go_upto_region 1 with (first | ((with_reducible refine gate_dst (N := 3) rfl ?_); refine box_event ?hg (N := 3) ?hd (cs := #[.bool a0_0, .string a0_1]) (t := 57) ?hr ?_; (case hd => rfl); (case hg => rfl); (case hr => first | (go_simp; done) | (go_simp; rfl)); intro gb118 hg w5 hbox hb; have n0_ := Aside0.mk (below_step (by repeat (first | (with_reducible first | exact HB.out | apply below_alloc | apply pw_below_drewN | apply below_drew1) | exact HB.out)) hb); have n1_ := Aside0.mk (hbox); have n2_ := Aside0.mk ((by rw [hg]; exact (below_size (by repeat (first | (with_reducible first | exact HB.out | apply below_alloc | apply pw_below_drewN | apply below_drew1) | exact HB.out))) : w.heap.size ≤ gb118)); have n3_ := Aside0.mk ((by rw [hg]; exact (below_size (by repeat (first | (with_reducible first | exact HB.out | apply below_alloc | apply pw_below_drewN | apply below_drew1) | exact HB.out))) : w.heap.size ≤ gb118)); clear HB; have HB := n0_; have BK118 := n1_; have GW118 := n2_; have GE118 := n3_; clear n0_ n1_ n2_ n3_; clear hb hbox hg) | ((with_reducible refine gate_dst (N := 6) rfl ?_); refine box_event ?hg (N := 6) ?hd (cs := #[.bool false, .string (⟨#[]⟩ : ByteArray)]) (t := 57) ?hr ?_; (case hd => rfl); (case hg => rfl); (case hr => first | (go_simp; done) | (go_simp; rfl)); intro gb119 hg w6 hbox hb; have n0_ := Aside0.mk (blk_below (g := gb118) (o := .cells #[.bool a0_0, .string a0_1] 57 (0, 0)) (by (with_reducible repeat (first | refine blk_drewN ?_ _ | refine blk_drew ?_ | refine blk_alloc ?_ _)); exact BK118.out) hb); have n1_ := Aside0.mk (below_step (by repeat (first | (with_reducible first | exact HB.out | apply below_alloc | apply pw_below_drewN | apply below_drew1 | refine below_set ?_ GE118.out) | exact HB.out)) hb); have n2_ := Aside0.mk (hbox); have n3_ := Aside0.mk ((by rw [hg]; exact (below_size (by repeat (first | (with_reducible first | exact HB.out | apply below_alloc | apply pw_below_drewN | apply below_drew1 | refine below_set ?_ GE118.out) | exact HB.out))) : w.heap.size ≤ gb119)); have n4_ := Aside0.mk ((by rw [hg]; exact (below_size (by repeat (first | (with_reducible first | exact HB.out | apply below_alloc | apply pw_below_drewN | apply below_drew1 | refine below_set ?_ GE118.out) | exact HB.out))) : w.heap.size ≤ gb119)); have n5_ := Aside0.mk ((by rw [hg]; exact Nat.ne_of_lt (blk_lt (g := gb118) (o := .cells #[.bool a0_0, .string a0_1] 57 (0, 0)) (by (with_reducible repeat (first | refine blk_drewN ?_ _ | refine blk_drew ?_ | refine blk_alloc ?_ _)); exact BK118.out)) : gb118 ≠ gb119)); have n6_ := Aside0.mk ((by rw [hg]; exact Nat.ne_of_gt (blk_lt (g := gb118) (o := .cells #[.bool a0_0, .string a0_1] 57 (0, 0)) (by (with_reducible repeat (first | refine blk_drewN ?_ _ | refine blk_drew ?_ | refine blk_alloc ?_ _)); exact BK118.out)) : gb119 ≠ gb118)); clear BK118; clear HB; have BK118 := n0_; have HB := n1_; have BK119 := n2_; have GW119 := n3_; have GE119 := n4_; have NB118_119 := n5_; have NB119_118 := n6_; clear n0_ n1_ n2_ n3_ n4_ n5_ n6_; clear hb hbox hg))
  (try simp only [Act.put, List.setIfInBounds_toArray, List.set_cons_zero, List.set_cons_succ])
  go_cut [15] (fun v15 wc => ∃ (kq : Nat) (x15_3 : Bool), v15 = .bool x15_3 ∧ Aside0 (countermandref09_Put.j0 kq a1 a2 x15_3 a0_0 a0_1 = some (r1, r2)) ∧ Aside0 (kq ≤ k) ∧ Aside0 (wc.heap[gb118]? = some (.cells #[.bool a0_0, .string a0_1] 57 (0, 0))) ∧ Aside0 (wc.heap[gb119]? = some (.cells #[.bool false, .string (⟨#[]⟩ : ByteArray)] 57 (0, 0))) ∧ Aside0 (Below w.heap.size w wc))
  case first =>
    have H := HC4.out
    clear HC4
    by_cases c7 : a1 < 0
    · rw [if_pos c7] at H
      have c7b0 : decide (a1 < 0) = true := decide_eq_true c7
      clear c7
      (first | rw [c7b0] | (simp only [i64_w, i32_w]; rw [c7b0]) | skip)
      have H' := Aside0.mk H
      clear H
      go_wp2
      go_meet
      case rel => exact ⟨_, (true), (by first | rfl | (simp; done) | (simp [*]; done)), H', ⟨by first | omega | exact Nat.le_refl _⟩, ⟨by (with_reducible repeat (first | refine blk_drewN ?_ _ | refine blk_drew ?_ | refine blk_alloc ?_ _)); exact BK118.out⟩, ⟨by (with_reducible repeat (first | refine blk_drewN ?_ _ | refine blk_drew ?_ | refine blk_alloc ?_ _)); exact BK119.out⟩, ⟨by repeat (first | (with_reducible first | exact HB.out | apply below_alloc | apply pw_below_drewN | apply below_drew1 | refine below_set ?_ GE118.out | refine below_set ?_ GE119.out) | exact HB.out)⟩⟩
    · rw [if_neg c7] at H
      have c7b0 : decide (a1 < 0) = false := decide_eq_false c7
      clear c7
      (first | rw [c7b0] | (simp only [i64_w, i32_w]; rw [c7b0]) | skip)
      have H' := Aside0.mk H
      clear H
      go_wp2
      go_meet
      case rel => exact ⟨_, (decide (a1 > 31)), (by first | rfl | (simp; done) | (simp [*]; done)), H', ⟨by first | omega | exact Nat.le_refl _⟩, ⟨by (with_reducible repeat (first | refine blk_drewN ?_ _ | refine blk_drew ?_ | refine blk_alloc ?_ _)); exact BK118.out⟩, ⟨by (with_reducible repeat (first | refine blk_drewN ?_ _ | refine blk_drew ?_ | refine blk_alloc ?_ _)); exact BK119.out⟩, ⟨by repeat (first | (with_reducible first | exact HB.out | apply below_alloc | apply pw_below_drewN | apply below_drew1 | refine below_set ?_ GE118.out | refine below_set ?_ GE119.out) | exact HB.out)⟩⟩
  case rest =>
    clear HC4
    try clear p2
    try clear c4
    try clear c7
    try clear c7b0
    obtain ⟨kq, x15_3, rfl, HA, HJ3, BK118, BK119, HB⟩ := hcut
    cases kq with
    | zero => exact absurd HA.out (by simp [countermandref09_Put.j0])
    | succ kj3 =>
      have H := HA.out
      clear HA
      simp only [countermandref09_Put.j0] at H
      by_cases c8 : x15_3 = true
      · subst c8
        have H1 : (some (a0_0, a0_1)) = some (r1, r2) := by rw [if_pos rfl] at H; exact H
        clear H
        have H := H1
        clear H1
        simp only [Option.some.injEq, Prod.mk.injEq] at H
        obtain ⟨rfl, rfl⟩ := H
        have hnb9 := NB118_119.out
        have hnc9 := NB119_118.out
        have hcz10_0 : wc.cell? ⟨gb118, 0, none⟩ = some (.bool a0_0) := (blk_cell BK118.out 0).trans rfl
        have hcz10_1 : wc.cell? ⟨gb118, 1, none⟩ = some (.string a0_1) := (blk_cell BK118.out 1).trans rfl
        have hfz10_0 := blk_frozen BK118.out 0
        have hfz10_1 := blk_frozen BK118.out 1
        have hcz11_0 : wc.cell? ⟨gb119, 0, none⟩ = some (.bool false) := (blk_cell BK119.out 0).trans rfl
        have hcz11_1 : wc.cell? ⟨gb119, 1, none⟩ = some (.string (⟨#[]⟩ : ByteArray)) := (blk_cell BK119.out 1).trans rfl
        have hfz11_0 := blk_frozen BK119.out 0
        have hfz11_1 := blk_frozen BK119.out 1
        go_wp2
        refine bodyPost_ret (results_cell_row rfl _ _ gb119 57 #[.bool a0_0, .string a0_1] (0, 0) _ rfl (by (with_reducible repeat (first | refine blk_drewN ?_ _ | refine blk_drew ?_ | refine blk_alloc ?_ _)); refine blk_put (cs := #[.bool a0_0, .string (⟨#[]⟩ : ByteArray)]) ?_ 1 _ rfl; (with_reducible repeat (first | refine blk_drewN ?_ _ | refine blk_drew ?_ | refine blk_alloc ?_ _)); refine blk_put (cs := #[.bool false, .string (⟨#[]⟩ : ByteArray)]) ?_ 0 _ rfl; (with_reducible repeat (first | refine blk_drewN ?_ _ | refine blk_drew ?_ | refine blk_alloc ?_ _)); exact BK119.out) Try.underlying57 rfl (by kernel_rfl)) rfl ?_
        exact ⟨by first | rfl | (simp [errW_none, errW_some] <;> rfl) | (simp [*, errW_none, errW_some] <;> rfl), by repeat (first | (with_reducible first | exact HB.out | apply below_alloc | apply pw_below_drewN | apply below_drew1 | refine below_set ?_ GE118.out | refine below_set ?_ GE119.out) | exact HB.out)⟩
      · replace c8 := Bool.eq_false_iff.mpr c8
        subst c8
        have H1 : (countermandref09_Put.l0 kj3 a1 a2 (⟨#[]⟩ : ByteArray) 0 a0_0 a0_1) = some (r1, r2) := by rw [if_neg (show ¬ (false = true) by decide)] at H; exact H
        clear H
        have H := H1
        clear H1
        have H' := Aside0.mk H
        clear H
        go_wp2
        go_loopg [7, 8] kj3 (fun kq v7 v8 w' => ∃ (x7_2 : ByteArray) (x8_2 : Int), v7 = .string x7_2 ∧ v8 = .int .i64 x8_2 ∧ Aside0 (countermandref09_Put.l0 kq a1 a2 x7_2 x8_2 a0_0 a0_1 = some (r1, r2)) ∧ Aside0 (kq ≤ kj3) ∧ Aside0 (w'.heap[gb118]? = some (.cells #[.bool a0_0, .string a0_1] 57 (0, 0))) ∧ Aside0 (w'.heap[gb119]? = some (.cells #[.bool false, .string (⟨#[]⟩ : ByteArray)] 57 (0, 0))) ∧ Aside0 (Below w.heap.size w w'))
        case atStart => exact ⟨((⟨#[]⟩ : ByteArray)), (0), (by first | rfl | (simp; done) | (simp [*]; done)), (by first | rfl | (simp; done) | (simp [*]; done)), H', ⟨Nat.le_refl _⟩, ⟨by (with_reducible repeat (first | refine blk_drewN ?_ _ | refine blk_drew ?_ | refine blk_alloc ?_ _)); exact BK118.out⟩, ⟨by (with_reducible repeat (first | refine blk_drewN ?_ _ | refine blk_drew ?_ | refine blk_alloc ?_ _)); exact BK119.out⟩, ⟨by repeat (first | (with_reducible first | exact HB.out | apply below_alloc | apply pw_below_drewN | apply below_drew1 | refine below_set ?_ GE118.out | refine below_set ?_ GE119.out) | exact HB.out)⟩⟩
        case round =>
          clear H'
          try clear p2
          try clear c4
          try clear c7
          try clear c7b0
          try clear c8
          try clear c9
          try clear hcz10_0
          try clear hcz10_1
          try clear hcz11_0
          try clear hcz11_1
          try clear hfz10_0
          try clear hfz10_1
          try clear hfz11_0
          try clear hfz11_1
          try clear p2
          obtain ⟨x7_2, x8_2, rfl, rfl, HA, HK2, BK118, BK119, HB⟩ := hrel
          cases gk with
          | zero => exact absurd HA.out (by simp [countermandref09_Put.l0])
          | succ k2 =>
            have H := HA.out
            clear HA
            simp only [countermandref09_Put.l0] at H
            have HC12 := Aside0.mk H
            clear H
            go_upto_region 5 with (fail)
            go_cut [26] (fun v26 wc => ∃ (kq : Nat) (x26_11 : Bool), v26 = .bool x26_11 ∧ Aside0 (countermandref09_Put.j2 kq a1 a2 x7_2 x8_2 x26_11 a0_0 a0_1 = some (r1, r2)) ∧ Aside0 (kq ≤ k2) ∧ Aside0 (wc.heap[gb118]? = some (.cells #[.bool a0_0, .string a0_1] 57 (0, 0))) ∧ Aside0 (wc.heap[gb119]? = some (.cells #[.bool false, .string (⟨#[]⟩ : ByteArray)] 57 (0, 0))) ∧ Aside0 (Below w.heap.size w wc))
            case first =>
              have H := HC12.out
              clear HC12
              by_cases c13 : x8_2 < (a0_1.size : Int)
              · rw [if_pos c13] at H
                have c13b0 : decide (x8_2 < (a0_1.size : Int)) = true := decide_eq_true c13
                clear c13
                (first | rw [c13b0] | (simp only [i64_w, i32_w]; rw [c13b0]) | skip)
                have H' := Aside0.mk H
                clear H
                have hnb14 := NB118_119.out
                have hnc14 := NB119_118.out
                have hcz15_0 : wr.cell? ⟨gb118, 0, none⟩ = some (.bool a0_0) := (blk_cell BK118.out 0).trans rfl
                have hcz15_1 : wr.cell? ⟨gb118, 1, none⟩ = some (.string a0_1) := (blk_cell BK118.out 1).trans rfl
                have hfz15_0 := blk_frozen BK118.out 0
                have hfz15_1 := blk_frozen BK118.out 1
                go_wp2
                go_meet
                case rel => exact ⟨_, (true), (by first | rfl | (simp; done) | (simp [*]; done)), H', ⟨by have := HJ3.out; have := HK2.out; first | omega | exact Nat.le_refl _⟩, ⟨by (with_reducible repeat (first | refine blk_drewN ?_ _ | refine blk_drew ?_ | refine blk_alloc ?_ _)); exact BK118.out⟩, ⟨by (with_reducible repeat (first | refine blk_drewN ?_ _ | refine blk_drew ?_ | refine blk_alloc ?_ _)); exact BK119.out⟩, ⟨by repeat (first | (with_reducible first | exact HB.out | apply below_alloc | apply pw_below_drewN | apply below_drew1 | refine below_set ?_ GE118.out | refine below_set ?_ GE119.out) | exact HB.out)⟩⟩
              · rw [if_neg c13] at H
                have c13b0 : decide (x8_2 < (a0_1.size : Int)) = false := decide_eq_false c13
                clear c13
                (first | rw [c13b0] | (simp only [i64_w, i32_w]; rw [c13b0]) | skip)
                have H' := Aside0.mk H
                clear H
                have hnb16 := NB118_119.out
                have hnc16 := NB119_118.out
                have hcz17_0 : wr.cell? ⟨gb118, 0, none⟩ = some (.bool a0_0) := (blk_cell BK118.out 0).trans rfl
                have hcz17_1 : wr.cell? ⟨gb118, 1, none⟩ = some (.string a0_1) := (blk_cell BK118.out 1).trans rfl
                have hfz17_0 := blk_frozen BK118.out 0
                have hfz17_1 := blk_frozen BK118.out 1
                go_wp2
                go_meet
                case rel => exact ⟨_, (decide (x8_2 ≤ a1)), (by first | rfl | (simp; done) | (simp [*]; done)), H', ⟨by have := HJ3.out; have := HK2.out; first | omega | exact Nat.le_refl _⟩, ⟨by (with_reducible repeat (first | refine blk_drewN ?_ _ | refine blk_drew ?_ | refine blk_alloc ?_ _)); exact BK118.out⟩, ⟨by (with_reducible repeat (first | refine blk_drewN ?_ _ | refine blk_drew ?_ | refine blk_alloc ?_ _)); exact BK119.out⟩, ⟨by repeat (first | (with_reducible first | exact HB.out | apply below_alloc | apply pw_below_drewN | apply below_drew1 | refine below_set ?_ GE118.out | refine below_set ?_ GE119.out) | exact HB.out)⟩⟩
            case rest =>
              clear HC12
              try clear c1
              try clear p2
              try clear c4
              try clear c7
              try clear c7b0
              try clear c8
              try clear c9
              try clear c13
              try clear c13b0
              try clear c14
              try clear c16
              try clear hcz10_0
              try clear hcz10_1
              try clear hcz11_0
              try clear hcz11_1
              try clear hcz15_0
              try clear hcz15_1
              try clear hcz17_0
              try clear hcz17_1
              try clear hfz10_0
              try clear hfz10_1
              try clear hfz11_0
              try clear hfz11_1
              try clear hfz15_0
              try clear hfz15_1
              try clear hfz17_0
              try clear hfz17_1
              try clear p2
              obtain ⟨kq, x26_11, rfl, HA, HJ11, BK118, BK119, HB⟩ := hcut
              cases kq with
              | zero => exact absurd HA.out (by simp [countermandref09_Put.j2])
              | succ kj11 =>
                have H := HA.out
                clear HA
                simp only [countermandref09_Put.j2] at H
                by_cases c18 : x26_11 = true
                · subst c18
                  have H1 : ((countermandref09_At.f kj11 a0_0 a0_1 x8_2).bind fun t120 => (if x8_2 = a1 then ((some (([(wrap64 (a2)) % 256] : List Int) : List Int)).bind fun y121 => (if x7_2.size + (strOfNums y121).size ≤ 9223372036854775807 then (countermandref09_Put.l0 kj11 a1 a2 (x7_2 ++ (strOfNums y121)) (wrap64 (x8_2 + 1)) a0_0 a0_1) else (none))) else ((some (([(mx t120 0) % 256] : List Int) : List Int)).bind fun y124 => (if x7_2.size + (strOfNums y124).size ≤ 9223372036854775807 then (countermandref09_Put.l0 kj11 a1 a2 (x7_2 ++ (strOfNums y124)) (wrap64 (x8_2 + 1)) a0_0 a0_1) else (none))))) = some (r1, r2) := by rw [if_pos rfl] at H; exact H
                  clear H
                  have H := H1
                  clear H1
                  replace H := Option.bind_eq_some_iff.mp H
                  obtain ⟨t120, A190, H⟩ := H
                  replace H : (if x8_2 = a1 then ((some (([(wrap64 (a2)) % 256] : List Int) : List Int)).bind fun y121 => (if x7_2.size + (strOfNums y121).size ≤ 9223372036854775807 then (countermandref09_Put.l0 kj11 a1 a2 (x7_2 ++ (strOfNums y121)) (wrap64 (x8_2 + 1)) a0_0 a0_1) else (none))) else ((some (([(mx t120 0) % 256] : List Int) : List Int)).bind fun y124 => (if x7_2.size + (strOfNums y124).size ≤ 9223372036854775807 then (countermandref09_Put.l0 kj11 a1 a2 (x7_2 ++ (strOfNums y124)) (wrap64 (x8_2 + 1)) a0_0 a0_1) else (none)))) = some (r1, r2) := H
                  have A19 := Aside0.mk A190
                  clear A190
                  obtain ⟨ji20, hji20⟩ : ∃ j_ : Int, (mx t120 0) = j_ := ⟨_, rfl⟩
                  replace H : (if x8_2 = a1 then ((some (([(wrap64 (a2)) % 256] : List Int) : List Int)).bind fun y121 => (if x7_2.size + (strOfNums y121).size ≤ 9223372036854775807 then (countermandref09_Put.l0 kj11 a1 a2 (x7_2 ++ (strOfNums y121)) (wrap64 (x8_2 + 1)) a0_0 a0_1) else (none))) else ((some (([(ji20) % 256] : List Int) : List Int)).bind fun y124 => (if x7_2.size + (strOfNums y124).size ≤ 9223372036854775807 then (countermandref09_Put.l0 kj11 a1 a2 (x7_2 ++ (strOfNums y124)) (wrap64 (x8_2 + 1)) a0_0 a0_1) else (none)))) = some (r1, r2) := by first | (rw [hji20] at H; exact H) | (simp only [hji20] at H ⊢; exact H)
                  (try rw [hji20] at A19)
                  (try (have hji20l : 0 ≤ ji20 := by (rw [← hji20]; unfold mx; (repeat' split) <;> omega)))
                  (try (have hji20m : 0 ≤ ji20 := by omega))
                  have hji20_ : (if t120 < 0 then 0 else t120) = ji20 := hji20
                  by_cases c21 : x8_2 = a1
                  · rw [if_pos c21] at H
                    have c21b0 : (x8_2 == a1) = true := beq_iff_eq.mpr c21
                    have c21b1 : (x8_2 != a1) = false := bne_eq_false_iff_eq.mpr c21
                    clear c21
                    obtain ⟨y121, hy121⟩ : ∃ y_ : List Int, y_ = (([(wrap64 (a2)) % 256] : List Int)) := ⟨_, rfl⟩
                    replace H : (if x7_2.size + (strOfNums y121).size ≤ 9223372036854775807 then (countermandref09_Put.l0 kj11 a1 a2 (x7_2 ++ (strOfNums y121)) (wrap64 (x8_2 + 1)) a0_0 a0_1) else (none)) = some (r1, r2) := by first | (rw [hy121]; with_reducible exact H) | (have H2_ := (Option.bind_some _ _).symm.trans H; rw [hy121]; with_reducible exact H2_) | (have H2_ := (Option.bind_some _ _).symm.trans H; with_reducible exact H2_) | with_reducible exact H | (rw [hy121]; exact H) | exact H
                    have Ny121 := Aside0.mk hy121
                    clear hy121
                    by_cases c22 : x7_2.size + (strOfNums y121).size ≤ 9223372036854775807
                    · rw [if_pos c22] at H
                      have c22b0 := eq_true c22
                      have c22b1 : decide (x7_2.size + (strOfNums y121).size ≤ 9223372036854775807) = true := decide_eq_true c22
                      try have c22b2 : (9223372036854775807 < x7_2.size + (strOfNums y121).size) = False := eq_false (Nat.not_lt.2 c22)
                      have H' := Aside0.mk H
                      clear H
                      have hnb23 := NB118_119.out
                      have hnc23 := NB119_118.out
                      have hcz24_0 : wc.cell? ⟨gb118, 0, none⟩ = some (.bool a0_0) := (blk_cell BK118.out 0).trans rfl
                      have hcz24_1 : wc.cell? ⟨gb118, 1, none⟩ = some (.string a0_1) := (blk_cell BK118.out 1).trans rfl
                      have hfz24_0 := blk_frozen BK118.out 0
                      have hfz24_1 := blk_frozen BK118.out 1
                      go_wp2_with (first | ((with_reducible refine gate_callee (f := 43) rfl ?_); refine goesL_ (some 31) rfl rfl Try.func43 (by kernel_rfl) rfl #[.agg #[.bool a0_0, .string a0_1], .int .i64 x8_2] rfl (by (try simp only [List.map_toArray, List.map_cons, List.map_nil]); first | done | rfl | (simp only [List.length_drop, List.length_take]; rfl)) ?_; (with_reducible refine (countermandref09_At.calls kj11 a0_0 a0_1 x8_2 t120 _ A19.out).mono ?_); rintro e w25 ⟨rfl, hb⟩; refine ⟨_, rfl, ?_⟩; have n0_ := Aside0.mk (blk_below (g := gb118) (o := .cells #[.bool a0_0, .string a0_1] 57 (0, 0)) (by (with_reducible repeat (first | refine blk_drewN ?_ _ | refine blk_drew ?_ | refine blk_alloc ?_ _)); exact BK118.out) hb); have n1_ := Aside0.mk (blk_below (g := gb119) (o := .cells #[.bool false, .string (⟨#[]⟩ : ByteArray)] 57 (0, 0)) (by (with_reducible repeat (first | refine blk_drewN ?_ _ | refine blk_drew ?_ | refine blk_alloc ?_ _)); exact BK119.out) hb); have n2_ := Aside0.mk (below_step (by repeat (first | (with_reducible first | exact HB.out | apply below_alloc | apply pw_below_drewN | apply below_drew1 | refine below_set ?_ GE118.out | refine below_set ?_ GE119.out) | exact HB.out)) hb); clear BK118; clear BK119; clear HB; have BK118 := n0_; have BK119 := n1_; have HB := n2_; clear n0_ n1_ n2_; (try clear hb); (try clear hb2); (try clear hk); (try clear hi)) | ((with_reducible refine gate_dst (N := 41) rfl ?_); refine Kd.R_lit (Kd.int .u8) _ 5 ?hg (N := 41) ?hd (xs := ([(wrap64 (a2)) % 256] : List Int)) (inner := [.int .u8 ((wrap64 (a2)) % 256)]) (ok := fun _ => True) (okp := fun _ => True) ?hr ?hp (fun _ hk => hk) trivial (Below.refl _ _) (Nat.le_refl _) (by simp) ?_; (case hd => rfl); (case hg => rfl); (case hr => first | (go_simp; done) | (go_simp; rfl)); (case hp => exact (Reps.one (show Kd.M (Kd.int .u8) _ _ _ ((wrap64 (a2)) % 256) [.int .u8 ((wrap64 (a2)) % 256)] from rfl) (Reps.none _ _))); intro v122 w26 ho27 hb hg_ hnew_; clear hg_ hnew_; (first | rw [← Ny121.out] at ho27 | (simp only [Int.reduceToNat] at ho27; rw [← Ny121.out] at ho27)); have n0_ := Aside0.mk (Kd.R_lower ho27 (below_size (by repeat (first | (with_reducible first | exact HB.out | apply below_alloc | apply pw_below_drewN | apply below_drew1 | refine below_set ?_ GE118.out | refine below_set ?_ GE119.out) | exact HB.out)))); have n1_ := Aside0.mk (blk_below (g := gb118) (o := .cells #[.bool a0_0, .string a0_1] 57 (0, 0)) (by (with_reducible repeat (first | refine blk_drewN ?_ _ | refine blk_drew ?_ | refine blk_alloc ?_ _)); exact BK118.out) hb); have n2_ := Aside0.mk (blk_below (g := gb119) (o := .cells #[.bool false, .string (⟨#[]⟩ : ByteArray)] 57 (0, 0)) (by (with_reducible repeat (first | refine blk_drewN ?_ _ | refine blk_drew ?_ | refine blk_alloc ?_ _)); exact BK119.out) hb); have n3_ := Aside0.mk (below_step (by repeat (first | (with_reducible first | exact HB.out | apply below_alloc | apply pw_below_drewN | apply below_drew1 | refine below_set ?_ GE118.out | refine below_set ?_ GE119.out) | exact HB.out)) hb); clear BK118; clear BK119; clear HB; have HO123 := n0_; have BK118 := n1_; have BK119 := n2_; have HB := n3_; clear n0_ n1_ n2_ n3_; clear hb ho27; have hcv28 := own_string (P := Try.prog) Try.underlying32 Try.underlying5 Try.underlying9 (Kd.own_of_R HO123.out)))
                      go_roundg kj11
                      case measure => have := HJ3.out; have := HK2.out; have := HJ11.out; omega
                      case rel => exact ⟨(x7_2 ++ (strOfNums y121)), (wrap64 (x8_2 + 1)), (by first | rfl | (simp; done) | (simp [*]; done)), (by first | rfl | (simp; done) | (simp [*]; done)), H', ⟨by have := HJ3.out; have := HK2.out; have := HJ11.out; omega⟩, ⟨by (with_reducible repeat (first | refine blk_drewN ?_ _ | refine blk_drew ?_ | refine blk_alloc ?_ _)); exact BK118.out⟩, ⟨by (with_reducible repeat (first | refine blk_drewN ?_ _ | refine blk_drew ?_ | refine blk_alloc ?_ _)); exact BK119.out⟩, ⟨by repeat (first | (with_reducible first | exact HB.out | apply below_alloc | apply pw_below_drewN | apply below_drew1 | refine below_set ?_ GE118.out | refine below_set ?_ GE119.out) | exact HB.out)⟩⟩
                    · rw [if_neg c22] at H
                      exact absurd H (by simp)
                  · rw [if_neg c21] at H
                    have c21b0 : (x8_2 == a1) = false := beq_eq_false_iff_ne.mpr c21
                    have c21b1 : (x8_2 != a1) = true := bne_iff_ne.mpr c21
                    obtain ⟨y124, hy124⟩ : ∃ y_ : List Int, y_ = (([(ji20) % 256] : List Int)) := ⟨_, rfl⟩
                    replace H : (if x7_2.size + (strOfNums y124).size ≤ 9223372036854775807 then (countermandref09_Put.l0 kj11 a1 a2 (x7_2 ++ (strOfNums y124)) (wrap64 (x8_2 + 1)) a0_0 a0_1) else (none)) = some (r1, r2) := by first | (rw [hy124]; with_reducible exact H) | (have H2_ := (Option.bind_some _ _).symm.trans H; rw [hy124]; with_reducible exact H2_) | (have H2_ := (Option.bind_some _ _).symm.trans H; with_reducible exact H2_) | with_reducible exact H | (rw [hy124]; exact H) | exact H
                    have Ny124 := Aside0.mk hy124
                    clear hy124
                    by_cases c29 : x7_2.size + (strOfNums y124).size ≤ 9223372036854775807
                    · rw [if_pos c29] at H
                      have c29b0 := eq_true c29
                      have c29b1 : decide (x7_2.size + (strOfNums y124).size ≤ 9223372036854775807) = true := decide_eq_true c29
                      try have c29b2 : (9223372036854775807 < x7_2.size + (strOfNums y124).size) = False := eq_false (Nat.not_lt.2 c29)
                      have H' := Aside0.mk H
                      clear H
                      have hnb30 := NB118_119.out
                      have hnc30 := NB119_118.out
                      have hcz31_0 : wc.cell? ⟨gb118, 0, none⟩ = some (.bool a0_0) := (blk_cell BK118.out 0).trans rfl
                      have hcz31_1 : wc.cell? ⟨gb118, 1, none⟩ = some (.string a0_1) := (blk_cell BK118.out 1).trans rfl
                      have hfz31_0 := blk_frozen BK118.out 0
                      have hfz31_1 := blk_frozen BK118.out 1
                      go_wp2_with (first | ((with_reducible refine gate_callee (f := 43) rfl ?_); refine goesL_ (some 31) rfl rfl Try.func43 (by kernel_rfl) rfl #[.agg #[.bool a0_0, .string a0_1], .int .i64 x8_2] rfl (by (try simp only [List.map_toArray, List.map_cons, List.map_nil]); first | done | rfl | (simp only [List.length_drop, List.length_take]; rfl)) ?_; (with_reducible refine (countermandref09_At.calls kj11 a0_0 a0_1 x8_2 t120 _ A19.out).mono ?_); rintro e w32 ⟨rfl, hb⟩; refine ⟨_, rfl, ?_⟩; have n0_ := Aside0.mk (blk_below (g := gb118) (o := .cells #[.bool a0_0, .string a0_1] 57 (0, 0)) (by (with_reducible repeat (first | refine blk_drewN ?_ _ | refine blk_drew ?_ | refine blk_alloc ?_ _)); exact BK118.out) hb); have n1_ := Aside0.mk (blk_below (g := gb119) (o := .cells #[.bool false, .string (⟨#[]⟩ : ByteArray)] 57 (0, 0)) (by (with_reducible repeat (first | refine blk_drewN ?_ _ | refine blk_drew ?_ | refine blk_alloc ?_ _)); exact BK119.out) hb); have n2_ := Aside0.mk (below_step (by repeat (first | (with_reducible first | exact HB.out | apply below_alloc | apply pw_below_drewN | apply below_drew1 | refine below_set ?_ GE118.out | refine below_set ?_ GE119.out) | exact HB.out)) hb); clear BK118; clear BK119; clear HB; have BK118 := n0_; have BK119 := n1_; have HB := n2_; clear n0_ n1_ n2_; (try clear hb); (try clear hb2); (try clear hk); (try clear hi)) | ((with_reducible refine gate_dst (N := 41) rfl ?_); refine Kd.R_lit (Kd.int .u8) _ 5 ?hg (N := 41) ?hd (xs := ([(ji20) % 256] : List Int)) (inner := [.int .u8 ((ji20) % 256)]) (ok := fun _ => True) (okp := fun _ => True) ?hr ?hp (fun _ hk => hk) trivial (Below.refl _ _) (Nat.le_refl _) (by simp) ?_; (case hd => rfl); (case hg => rfl); (case hr => first | (go_simp; done) | (go_simp; rfl)); (case hp => exact (Reps.one (show Kd.M (Kd.int .u8) _ _ _ ((ji20) % 256) [.int .u8 ((ji20) % 256)] from rfl) (Reps.none _ _))); intro v125 w33 ho34 hb hg_ hnew_; clear hg_ hnew_; (first | rw [← Ny124.out] at ho34 | (simp only [Int.reduceToNat] at ho34; rw [← Ny124.out] at ho34)); have n0_ := Aside0.mk (Kd.R_lower ho34 (below_size (by repeat (first | (with_reducible first | exact HB.out | apply below_alloc | apply pw_below_drewN | apply below_drew1 | refine below_set ?_ GE118.out | refine below_set ?_ GE119.out) | exact HB.out)))); have n1_ := Aside0.mk (blk_below (g := gb118) (o := .cells #[.bool a0_0, .string a0_1] 57 (0, 0)) (by (with_reducible repeat (first | refine blk_drewN ?_ _ | refine blk_drew ?_ | refine blk_alloc ?_ _)); exact BK118.out) hb); have n2_ := Aside0.mk (blk_below (g := gb119) (o := .cells #[.bool false, .string (⟨#[]⟩ : ByteArray)] 57 (0, 0)) (by (with_reducible repeat (first | refine blk_drewN ?_ _ | refine blk_drew ?_ | refine blk_alloc ?_ _)); exact BK119.out) hb); have n3_ := Aside0.mk (below_step (by repeat (first | (with_reducible first | exact HB.out | apply below_alloc | apply pw_below_drewN | apply below_drew1 | refine below_set ?_ GE118.out | refine below_set ?_ GE119.out) | exact HB.out)) hb); clear BK118; clear BK119; clear HB; have HO126 := n0_; have BK118 := n1_; have BK119 := n2_; have HB := n3_; clear n0_ n1_ n2_ n3_; clear hb ho34; have hcv35 := own_string (P := Try.prog) Try.underlying32 Try.underlying5 Try.underlying9 (Kd.own_of_R HO126.out)))
                      go_roundg kj11
                      case measure => have := HJ3.out; have := HK2.out; have := HJ11.out; omega
                      case rel => exact ⟨(x7_2 ++ (strOfNums y124)), (wrap64 (x8_2 + 1)), (by first | rfl | (simp; done) | (simp [*]; done)), (by first | rfl | (simp; done) | (simp [*]; done)), H', ⟨by have := HJ3.out; have := HK2.out; have := HJ11.out; omega⟩, ⟨by (with_reducible repeat (first | refine blk_drewN ?_ _ | refine blk_drew ?_ | refine blk_alloc ?_ _)); exact BK118.out⟩, ⟨by (with_reducible repeat (first | refine blk_drewN ?_ _ | refine blk_drew ?_ | refine blk_alloc ?_ _)); exact BK119.out⟩, ⟨by repeat (first | (with_reducible first | exact HB.out | apply below_alloc | apply pw_below_drewN | apply below_drew1 | refine below_set ?_ GE118.out | refine below_set ?_ GE119.out) | exact HB.out)⟩⟩
                    · rw [if_neg c29] at H
                      exact absurd H (by simp)
                · replace c18 := Bool.eq_false_iff.mpr c18
                  subst c18
                  have H1 : (some (true, x7_2)) = some (r1, r2) := by rw [if_neg (show ¬ (false = true) by decide)] at H; exact H
                  clear H
                  have H := H1
                  clear H1
                  simp only [Option.some.injEq, Prod.mk.injEq] at H
                  obtain ⟨rfl, rfl⟩ := H
                  have hnb36 := NB119_118.out
                  have hnc36 := NB118_119.out
                  have hcz37_0 : wc.cell? ⟨gb119, 0, none⟩ = some (.bool false) := (blk_cell BK119.out 0).trans rfl
                  have hcz37_1 : wc.cell? ⟨gb119, 1, none⟩ = some (.string (⟨#[]⟩ : ByteArray)) := (blk_cell BK119.out 1).trans rfl
                  have hfz37_0 := blk_frozen BK119.out 0
                  have hfz37_1 := blk_frozen BK119.out 1
                  go_wp2
                  refine bodyPost_ret (results_cell_row rfl _ _ gb119 57 #[.bool true, .string x7_2] (0, 0) _ rfl (by (with_reducible repeat (first | refine blk_drewN ?_ _ | refine blk_drew ?_ | refine blk_alloc ?_ _)); refine blk_put (cs := #[.bool true, .string (⟨#[]⟩ : ByteArray)]) ?_ 1 _ rfl; (with_reducible repeat (first | refine blk_drewN ?_ _ | refine blk_drew ?_ | refine blk_alloc ?_ _)); refine blk_put (cs := #[.bool false, .string (⟨#[]⟩ : ByteArray)]) ?_ 0 _ rfl; (with_reducible repeat (first | refine blk_drewN ?_ _ | refine blk_drew ?_ | refine blk_alloc ?_ _)); exact BK119.out) Try.underlying57 rfl (by kernel_rfl)) rfl ?_
                  exact ⟨by first | rfl | (simp [errW_none, errW_some] <;> rfl) | (simp [*, errW_none, errW_some] <;> rfl), by repeat (first | (with_reducible first | exact HB.out | apply below_alloc | apply pw_below_drewN | apply below_drew1 | refine below_set ?_ GE118.out | refine below_set ?_ GE119.out) | exact HB.out)⟩

/-! ### countermandref09_Cut: function 42 -/
mutual
def countermandref09_Cut.j0 : Nat → Int → Bool → Bool → ByteArray → Option (Bool × ByteArray)
  | 0, _, _, _, _ => none
  | k + 1, x1, x17, x128000, x128001 => if x17 = true then (some (x128000, x128001)) else (countermandref09_Cut.l0 k x1 (⟨#[]⟩ : ByteArray) 0 x128000 x128001)
def countermandref09_Cut.l0 : Nat → Int → ByteArray → Int → Bool → ByteArray → Option (Bool × ByteArray)
  | 0, _, _, _, _, _ => none
  | k + 1, x1, x5, x6, x128000, x128001 => if x6 < x1 then ((countermandref09_At.f k x128000 x128001 x6).bind fun t129 => ((some (([(mx t129 0) % 256] : List Int) : List Int)).bind fun y130 => (if x5.size + (strOfNums y130).size ≤ 9223372036854775807 then (countermandref09_Cut.l0 k x1 (x5 ++ (strOfNums y130)) (wrap64 (x6 + 1)) x128000 x128001) else (none)))) else (some (true, x5))
end
def countermandref09_Cut.f (k : Nat) (a0_0 : Bool) (a0_1 : ByteArray) (a1 : Int) : Option (Bool × ByteArray) := if a0_0 = true then (if a1 < 0 then (countermandref09_Cut.j0 k a1 true a0_0 a0_1) else (countermandref09_Cut.j0 k a1 (decide (a1 > 32)) a0_0 a0_1)) else (countermandref09_Cut.j0 k a1 true a0_0 a0_1)
theorem countermandref09_Cut.mono_l : ∀ k, (∀ y0 y1 y2 y3, LeO (countermandref09_Cut.j0 k y0 y1 y2 y3) (countermandref09_Cut.j0 (k + 1) y0 y1 y2 y3)) ∧ (∀ y0 y1 y2 y3 y4, LeO (countermandref09_Cut.l0 k y0 y1 y2 y3 y4) (countermandref09_Cut.l0 (k + 1) y0 y1 y2 y3 y4))
  | 0 => ⟨fun _ _ _ _ r h => by simp [countermandref09_Cut.j0] at h, fun _ _ _ _ _ r h => by simp [countermandref09_Cut.l0] at h⟩
  | k + 1 => by
    obtain ⟨ih0, ih1⟩ := countermandref09_Cut.mono_l k
    refine ⟨?_, ?_⟩
    · intro y0 y1 y2 y3
      unfold countermandref09_Cut.j0
      repeat' first
      | (with_reducible exact ih0 _ _ _ _)
      | (with_reducible exact ih1 _ _ _ _ _)
      | (with_reducible exact countermandref09_At.mono _ _ _ _)
      | (with_reducible exact LeO.refl _)
      | (with_reducible exact LeO.none _)
      | (with_reducible refine LeO.ite ?_ ?_)
      | (with_reducible refine LeO.bind ?_ (fun _ => ?_))
      | exact ih0 _ _ _ _
      | exact ih1 _ _ _ _ _
      | exact countermandref09_At.mono _ _ _ _
      | exact LeO.none _
      | refine LeO.ite ?_ ?_
      | refine LeO.bind ?_ (fun _ => ?_)
    · intro y0 y1 y2 y3 y4
      unfold countermandref09_Cut.l0
      repeat' first
      | (with_reducible exact ih0 _ _ _ _)
      | (with_reducible exact ih1 _ _ _ _ _)
      | (with_reducible exact countermandref09_At.mono _ _ _ _)
      | (with_reducible exact LeO.refl _)
      | (with_reducible exact LeO.none _)
      | (with_reducible refine LeO.ite ?_ ?_)
      | (with_reducible refine LeO.bind ?_ (fun _ => ?_))
      | exact ih0 _ _ _ _
      | exact ih1 _ _ _ _ _
      | exact countermandref09_At.mono _ _ _ _
      | exact LeO.none _
      | refine LeO.ite ?_ ?_
      | refine LeO.bind ?_ (fun _ => ?_)
theorem countermandref09_Cut.mono : ∀ a0 a1 a2 k, LeO (countermandref09_Cut.f k a0 a1 a2) (countermandref09_Cut.f (k + 1) a0 a1 a2) := by
  intro a0 a1 a2 k
  obtain ⟨ih0, ih1⟩ := countermandref09_Cut.mono_l k
  unfold countermandref09_Cut.f
  repeat' first
      | (with_reducible exact ih0 _ _ _ _)
      | (with_reducible exact ih1 _ _ _ _ _)
      | (with_reducible exact countermandref09_At.mono _ _ _ _)
      | (with_reducible exact LeO.refl _)
      | (with_reducible exact LeO.none _)
      | (with_reducible refine LeO.ite ?_ ?_)
      | (with_reducible refine LeO.bind ?_ (fun _ => ?_))
      | exact ih0 _ _ _ _
      | exact ih1 _ _ _ _ _
      | exact countermandref09_At.mono _ _ _ _
      | exact LeO.none _
      | refine LeO.ite ?_ ?_
      | refine LeO.bind ?_ (fun _ => ?_)
set_option maxHeartbeats 8000000 in
set_option maxRecDepth 100000 in
theorem countermandref09_Cut.calls (k : Nat) (a0_0 : Bool) (a0_1 : ByteArray) (a1 : Int) (r1 : Bool) (r2 : ByteArray) (w : World) (h : countermandref09_Cut.f k a0_0 a0_1 a1 = some (r1, r2)) :
    Calls Try.prog 42 #[.agg #[.bool a0_0, .string a0_1], .int .i64 a1] w fun e w' => e = .returned (.agg #[.bool r1, .string r2]) ∧ Below w.heap.size w w' := by
  have hu57 := Try.underlying57
  have HB := Aside0.mk (Below.refl w.heap.size w)
  have H : (if a0_0 = true then (if a1 < 0 then (countermandref09_Cut.j0 k a1 true a0_0 a0_1) else (countermandref09_Cut.j0 k a1 (decide (a1 > 32)) a0_0 a0_1)) else (countermandref09_Cut.j0 k a1 true a0_0 a0_1)) = some (r1, r2) := h
  clear h
  have HC3 := Aside0.mk H
  clear H
  go_enter Try.func42, Try.ntmps42
  go_upto_region 1 with (first | ((with_reducible refine gate_dst (N := 2) rfl ?_); refine box_event ?hg (N := 2) ?hd (cs := #[.bool a0_0, .string a0_1]) (t := 57) ?hr ?_; (case hd => rfl); (case hg => rfl); (case hr => first | (go_simp; done) | (go_simp; rfl)); intro gb127 hg w4 hbox hb; have n0_ := Aside0.mk (below_step (by repeat (first | (with_reducible first | exact HB.out | apply below_alloc | apply pw_below_drewN | apply below_drew1) | exact HB.out)) hb); have n1_ := Aside0.mk (hbox); have n2_ := Aside0.mk ((by rw [hg]; exact (below_size (by repeat (first | (with_reducible first | exact HB.out | apply below_alloc | apply pw_below_drewN | apply below_drew1) | exact HB.out))) : w.heap.size ≤ gb127)); have n3_ := Aside0.mk ((by rw [hg]; exact (below_size (by repeat (first | (with_reducible first | exact HB.out | apply below_alloc | apply pw_below_drewN | apply below_drew1) | exact HB.out))) : w.heap.size ≤ gb127)); clear HB; have HB := n0_; have BK127 := n1_; have GW127 := n2_; have GE127 := n3_; clear n0_ n1_ n2_ n3_; clear hb hbox hg) | ((with_reducible refine gate_dst (N := 4) rfl ?_); refine box_event ?hg (N := 4) ?hd (cs := #[.bool false, .string (⟨#[]⟩ : ByteArray)]) (t := 57) ?hr ?_; (case hd => rfl); (case hg => rfl); (case hr => first | (go_simp; done) | (go_simp; rfl)); intro gb128 hg w5 hbox hb; have n0_ := Aside0.mk (blk_below (g := gb127) (o := .cells #[.bool a0_0, .string a0_1] 57 (0, 0)) (by (with_reducible repeat (first | refine blk_drewN ?_ _ | refine blk_drew ?_ | refine blk_alloc ?_ _)); exact BK127.out) hb); have n1_ := Aside0.mk (below_step (by repeat (first | (with_reducible first | exact HB.out | apply below_alloc | apply pw_below_drewN | apply below_drew1 | refine below_set ?_ GE127.out) | exact HB.out)) hb); have n2_ := Aside0.mk (hbox); have n3_ := Aside0.mk ((by rw [hg]; exact (below_size (by repeat (first | (with_reducible first | exact HB.out | apply below_alloc | apply pw_below_drewN | apply below_drew1 | refine below_set ?_ GE127.out) | exact HB.out))) : w.heap.size ≤ gb128)); have n4_ := Aside0.mk ((by rw [hg]; exact (below_size (by repeat (first | (with_reducible first | exact HB.out | apply below_alloc | apply pw_below_drewN | apply below_drew1 | refine below_set ?_ GE127.out) | exact HB.out))) : w.heap.size ≤ gb128)); have n5_ := Aside0.mk ((by rw [hg]; exact Nat.ne_of_lt (blk_lt (g := gb127) (o := .cells #[.bool a0_0, .string a0_1] 57 (0, 0)) (by (with_reducible repeat (first | refine blk_drewN ?_ _ | refine blk_drew ?_ | refine blk_alloc ?_ _)); exact BK127.out)) : gb127 ≠ gb128)); have n6_ := Aside0.mk ((by rw [hg]; exact Nat.ne_of_gt (blk_lt (g := gb127) (o := .cells #[.bool a0_0, .string a0_1] 57 (0, 0)) (by (with_reducible repeat (first | refine blk_drewN ?_ _ | refine blk_drew ?_ | refine blk_alloc ?_ _)); exact BK127.out)) : gb128 ≠ gb127)); clear BK127; clear HB; have BK127 := n0_; have HB := n1_; have BK128 := n2_; have GW128 := n3_; have GE128 := n4_; have NB127_128 := n5_; have NB128_127 := n6_; clear n0_ n1_ n2_ n3_ n4_ n5_ n6_; clear hb hbox hg))
  (try simp only [Act.put, List.setIfInBounds_toArray, List.set_cons_zero, List.set_cons_succ])
  go_cut [17] (fun v17 wc => ∃ (kq : Nat) (x17_2 : Bool), v17 = .bool x17_2 ∧ Aside0 (countermandref09_Cut.j0 kq a1 x17_2 a0_0 a0_1 = some (r1, r2)) ∧ Aside0 (kq ≤ k) ∧ Aside0 (wc.heap[gb127]? = some (.cells #[.bool a0_0, .string a0_1] 57 (0, 0))) ∧ Aside0 (wc.heap[gb128]? = some (.cells #[.bool false, .string (⟨#[]⟩ : ByteArray)] 57 (0, 0))) ∧ Aside0 (Below w.heap.size w wc))
  case first =>
    have H := HC3.out
    clear HC3
    by_cases c6 : a0_0 = true
    · subst c6
      have H1 : (if a1 < 0 then (countermandref09_Cut.j0 k a1 true true a0_1) else (countermandref09_Cut.j0 k a1 (decide (a1 > 32)) true a0_1)) = some (r1, r2) := by rw [if_pos rfl] at H; exact H
      clear H
      have H := H1
      clear H1
      by_cases c7 : a1 < 0
      · rw [if_pos c7] at H
        have c7b0 : decide (a1 < 0) = true := decide_eq_true c7
        clear c7
        (first | rw [c7b0] | (simp only [i64_w, i32_w]; rw [c7b0]) | skip)
        have H' := Aside0.mk H
        clear H
        have hnb8 := NB127_128.out
        have hnc8 := NB128_127.out
        have hcz9_0 : w5.cell? ⟨gb127, 0, none⟩ = some (.bool true) := (blk_cell BK127.out 0).trans rfl
        have hcz9_1 : w5.cell? ⟨gb127, 1, none⟩ = some (.string a0_1) := (blk_cell BK127.out 1).trans rfl
        have hfz9_0 := blk_frozen BK127.out 0
        have hfz9_1 := blk_frozen BK127.out 1
        go_wp2
        go_meet
        case rel => exact ⟨_, (true), (by first | rfl | (simp; done) | (simp [*]; done)), H', ⟨by first | omega | exact Nat.le_refl _⟩, ⟨by (with_reducible repeat (first | refine blk_drewN ?_ _ | refine blk_drew ?_ | refine blk_alloc ?_ _)); exact BK127.out⟩, ⟨by (with_reducible repeat (first | refine blk_drewN ?_ _ | refine blk_drew ?_ | refine blk_alloc ?_ _)); exact BK128.out⟩, ⟨by repeat (first | (with_reducible first | exact HB.out | apply below_alloc | apply pw_below_drewN | apply below_drew1 | refine below_set ?_ GE127.out | refine below_set ?_ GE128.out) | exact HB.out)⟩⟩
      · rw [if_neg c7] at H
        have c7b0 : decide (a1 < 0) = false := decide_eq_false c7
        clear c7
        (first | rw [c7b0] | (simp only [i64_w, i32_w]; rw [c7b0]) | skip)
        have H' := Aside0.mk H
        clear H
        have hnb10 := NB127_128.out
        have hnc10 := NB128_127.out
        have hcz11_0 : w5.cell? ⟨gb127, 0, none⟩ = some (.bool true) := (blk_cell BK127.out 0).trans rfl
        have hcz11_1 : w5.cell? ⟨gb127, 1, none⟩ = some (.string a0_1) := (blk_cell BK127.out 1).trans rfl
        have hfz11_0 := blk_frozen BK127.out 0
        have hfz11_1 := blk_frozen BK127.out 1
        go_wp2
        go_meet
        case rel => exact ⟨_, (decide (a1 > 32)), (by first | rfl | (simp; done) | (simp [*]; done)), H', ⟨by first | omega | exact Nat.le_refl _⟩, ⟨by (with_reducible repeat (first | refine blk_drewN ?_ _ | refine blk_drew ?_ | refine blk_alloc ?_ _)); exact BK127.out⟩, ⟨by (with_reducible repeat (first | refine blk_drewN ?_ _ | refine blk_drew ?_ | refine blk_alloc ?_ _)); exact BK128.out⟩, ⟨by repeat (first | (with_reducible first | exact HB.out | apply below_alloc | apply pw_below_drewN | apply below_drew1 | refine below_set ?_ GE127.out | refine below_set ?_ GE128.out) | exact HB.out)⟩⟩
    · replace c6 := Bool.eq_false_iff.mpr c6
      subst c6
      have H1 : (countermandref09_Cut.j0 k a1 true false a0_1) = some (r1, r2) := by rw [if_neg (show ¬ (false = true) by decide)] at H; exact H
      clear H
      have H := H1
      clear H1
      have H' := Aside0.mk H
      clear H
      have hnb12 := NB127_128.out
      have hnc12 := NB128_127.out
      have hcz13_0 : w5.cell? ⟨gb127, 0, none⟩ = some (.bool false) := (blk_cell BK127.out 0).trans rfl
      have hcz13_1 : w5.cell? ⟨gb127, 1, none⟩ = some (.string a0_1) := (blk_cell BK127.out 1).trans rfl
      have hfz13_0 := blk_frozen BK127.out 0
      have hfz13_1 := blk_frozen BK127.out 1
      go_wp2
      go_meet
      case rel => exact ⟨_, (true), (by first | rfl | (simp; done) | (simp [*]; done)), H', ⟨by first | omega | exact Nat.le_refl _⟩, ⟨by (with_reducible repeat (first | refine blk_drewN ?_ _ | refine blk_drew ?_ | refine blk_alloc ?_ _)); exact BK127.out⟩, ⟨by (with_reducible repeat (first | refine blk_drewN ?_ _ | refine blk_drew ?_ | refine blk_alloc ?_ _)); exact BK128.out⟩, ⟨by repeat (first | (with_reducible first | exact HB.out | apply below_alloc | apply pw_below_drewN | apply below_drew1 | refine below_set ?_ GE127.out | refine below_set ?_ GE128.out) | exact HB.out)⟩⟩
  case rest =>
    clear HC3
    try clear c1
    try clear p2
    try clear c4
    try clear c6
    try clear c7
    try clear c7b0
    try clear c8
    try clear c10
    try clear c12
    try clear hcz11_0
    try clear hcz11_1
    try clear hcz13_0
    try clear hcz13_1
    try clear hcz9_0
    try clear hcz9_1
    try clear hfz11_0
    try clear hfz11_1
    try clear hfz13_0
    try clear hfz13_1
    try clear hfz9_0
    try clear hfz9_1
    obtain ⟨kq, x17_2, rfl, HA, HJ2, BK127, BK128, HB⟩ := hcut
    cases kq with
    | zero => exact absurd HA.out (by simp [countermandref09_Cut.j0])
    | succ kj2 =>
      have H := HA.out
      clear HA
      simp only [countermandref09_Cut.j0] at H
      by_cases c14 : x17_2 = true
      · subst c14
        have H1 : (some (a0_0, a0_1)) = some (r1, r2) := by rw [if_pos rfl] at H; exact H
        clear H
        have H := H1
        clear H1
        simp only [Option.some.injEq, Prod.mk.injEq] at H
        obtain ⟨rfl, rfl⟩ := H
        have hnb15 := NB127_128.out
        have hnc15 := NB128_127.out
        have hcz16_0 : wc.cell? ⟨gb127, 0, none⟩ = some (.bool a0_0) := (blk_cell BK127.out 0).trans rfl
        have hcz16_1 : wc.cell? ⟨gb127, 1, none⟩ = some (.string a0_1) := (blk_cell BK127.out 1).trans rfl
        have hfz16_0 := blk_frozen BK127.out 0
        have hfz16_1 := blk_frozen BK127.out 1
        have hcz17_0 : wc.cell? ⟨gb128, 0, none⟩ = some (.bool false) := (blk_cell BK128.out 0).trans rfl
        have hcz17_1 : wc.cell? ⟨gb128, 1, none⟩ = some (.string (⟨#[]⟩ : ByteArray)) := (blk_cell BK128.out 1).trans rfl
        have hfz17_0 := blk_frozen BK128.out 0
        have hfz17_1 := blk_frozen BK128.out 1
        go_wp2
        refine bodyPost_ret (results_cell_row rfl _ _ gb128 57 #[.bool a0_0, .string a0_1] (0, 0) _ rfl (by (with_reducible repeat (first | refine blk_drewN ?_ _ | refine blk_drew ?_ | refine blk_alloc ?_ _)); refine blk_put (cs := #[.bool a0_0, .string (⟨#[]⟩ : ByteArray)]) ?_ 1 _ rfl; (with_reducible repeat (first | refine blk_drewN ?_ _ | refine blk_drew ?_ | refine blk_alloc ?_ _)); refine blk_put (cs := #[.bool false, .string (⟨#[]⟩ : ByteArray)]) ?_ 0 _ rfl; (with_reducible repeat (first | refine blk_drewN ?_ _ | refine blk_drew ?_ | refine blk_alloc ?_ _)); exact BK128.out) Try.underlying57 rfl (by kernel_rfl)) rfl ?_
        exact ⟨by first | rfl | (simp [errW_none, errW_some] <;> rfl) | (simp [*, errW_none, errW_some] <;> rfl), by repeat (first | (with_reducible first | exact HB.out | apply below_alloc | apply pw_below_drewN | apply below_drew1 | refine below_set ?_ GE127.out | refine below_set ?_ GE128.out) | exact HB.out)⟩
      · replace c14 := Bool.eq_false_iff.mpr c14
        subst c14
        have H1 : (countermandref09_Cut.l0 kj2 a1 (⟨#[]⟩ : ByteArray) 0 a0_0 a0_1) = some (r1, r2) := by rw [if_neg (show ¬ (false = true) by decide)] at H; exact H
        clear H
        have H := H1
        clear H1
        have H' := Aside0.mk H
        clear H
        go_wp2
        go_loopg [5, 6] kj2 (fun kq v5 v6 w' => ∃ (x5_2 : ByteArray) (x6_2 : Int), v5 = .string x5_2 ∧ v6 = .int .i64 x6_2 ∧ Aside0 (countermandref09_Cut.l0 kq a1 x5_2 x6_2 a0_0 a0_1 = some (r1, r2)) ∧ Aside0 (kq ≤ kj2) ∧ Aside0 (w'.heap[gb127]? = some (.cells #[.bool a0_0, .string a0_1] 57 (0, 0))) ∧ Aside0 (w'.heap[gb128]? = some (.cells #[.bool false, .string (⟨#[]⟩ : ByteArray)] 57 (0, 0))) ∧ Aside0 (Below w.heap.size w w'))
        case atStart => exact ⟨((⟨#[]⟩ : ByteArray)), (0), (by first | rfl | (simp; done) | (simp [*]; done)), (by first | rfl | (simp; done) | (simp [*]; done)), H', ⟨Nat.le_refl _⟩, ⟨by (with_reducible repeat (first | refine blk_drewN ?_ _ | refine blk_drew ?_ | refine blk_alloc ?_ _)); exact BK127.out⟩, ⟨by (with_reducible repeat (first | refine blk_drewN ?_ _ | refine blk_drew ?_ | refine blk_alloc ?_ _)); exact BK128.out⟩, ⟨by repeat (first | (with_reducible first | exact HB.out | apply below_alloc | apply pw_below_drewN | apply below_drew1 | refine below_set ?_ GE127.out | refine below_set ?_ GE128.out) | exact HB.out)⟩⟩
        case round =>
          clear H'
          try clear c1
          try clear p2
          try clear c4
          try clear c6
          try clear c7
          try clear c7b0
          try clear c8
          try clear c10
          try clear c12
          try clear c14
          try clear c15
          try clear hcz11_0
          try clear hcz11_1
          try clear hcz13_0
          try clear hcz13_1
          try clear hcz16_0
          try clear hcz16_1
          try clear hcz17_0
          try clear hcz17_1
          try clear hcz9_0
          try clear hcz9_1
          try clear hfz11_0
          try clear hfz11_1
          try clear hfz13_0
          try clear hfz13_1
          try clear hfz16_0
          try clear hfz16_1
          try clear hfz17_0
          try clear hfz17_1
          try clear hfz9_0
          try clear hfz9_1
          try clear p2
          obtain ⟨x5_2, x6_2, rfl, rfl, HA, HK2, BK127, BK128, HB⟩ := hrel
          cases gk with
          | zero => exact absurd HA.out (by simp [countermandref09_Cut.l0])
          | succ k2 =>
            have H := HA.out
            clear HA
            simp only [countermandref09_Cut.l0] at H
            by_cases c18 : x6_2 < a1
            · rw [if_pos c18] at H
              have c18b0 : decide (x6_2 < a1) = true := decide_eq_true c18
              clear c18
              replace H := Option.bind_eq_some_iff.mp H
              obtain ⟨t129, A190, H⟩ := H
              replace H : ((some (([(mx t129 0) % 256] : List Int) : List Int)).bind fun y130 => (if x5_2.size + (strOfNums y130).size ≤ 9223372036854775807 then (countermandref09_Cut.l0 k2 a1 (x5_2 ++ (strOfNums y130)) (wrap64 (x6_2 + 1)) a0_0 a0_1) else (none))) = some (r1, r2) := H
              have A19 := Aside0.mk A190
              clear A190
              obtain ⟨ji20, hji20⟩ : ∃ j_ : Int, (mx t129 0) = j_ := ⟨_, rfl⟩
              replace H : ((some (([(ji20) % 256] : List Int) : List Int)).bind fun y130 => (if x5_2.size + (strOfNums y130).size ≤ 9223372036854775807 then (countermandref09_Cut.l0 k2 a1 (x5_2 ++ (strOfNums y130)) (wrap64 (x6_2 + 1)) a0_0 a0_1) else (none))) = some (r1, r2) := by first | (rw [hji20] at H; exact H) | (simp only [hji20] at H ⊢; exact H)
              (try rw [hji20] at A19)
              (try (have hji20l : 0 ≤ ji20 := by (rw [← hji20]; unfold mx; (repeat' split) <;> omega)))
              (try (have hji20m : 0 ≤ ji20 := by omega))
              have hji20_ : (if t129 < 0 then 0 else t129) = ji20 := hji20
              obtain ⟨y130, hy130⟩ : ∃ y_ : List Int, y_ = (([(ji20) % 256] : List Int)) := ⟨_, rfl⟩
              replace H : (if x5_2.size + (strOfNums y130).size ≤ 9223372036854775807 then (countermandref09_Cut.l0 k2 a1 (x5_2 ++ (strOfNums y130)) (wrap64 (x6_2 + 1)) a0_0 a0_1) else (none)) = some (r1, r2) := by first | (rw [hy130]; with_reducible exact H) | (have H2_ := (Option.bind_some _ _).symm.trans H; rw [hy130]; with_reducible exact H2_) | (have H2_ := (Option.bind_some _ _).symm.trans H; with_reducible exact H2_) | with_reducible exact H | (rw [hy130]; exact H) | exact H
              have Ny130 := Aside0.mk hy130
              clear hy130
              by_cases c21 : x5_2.size + (strOfNums y130).size ≤ 9223372036854775807
              · rw [if_pos c21] at H
                have c21b0 := eq_true c21
                have c21b1 : decide (x5_2.size + (strOfNums y130).size ≤ 9223372036854775807) = true := decide_eq_true c21
                try have c21b2 : (9223372036854775807 < x5_2.size + (strOfNums y130).size) = False := eq_false (Nat.not_lt.2 c21)
                have H' := Aside0.mk H
                clear H
                have hnb22 := NB127_128.out
                have hnc22 := NB128_127.out
                have hcz23_0 : wr.cell? ⟨gb127, 0, none⟩ = some (.bool a0_0) := (blk_cell BK127.out 0).trans rfl
                have hcz23_1 : wr.cell? ⟨gb127, 1, none⟩ = some (.string a0_1) := (blk_cell BK127.out 1).trans rfl
                have hfz23_0 := blk_frozen BK127.out 0
                have hfz23_1 := blk_frozen BK127.out 1
                go_wp2_with (first | ((with_reducible refine gate_callee (f := 43) rfl ?_); refine goesL_ (some 27) rfl rfl Try.func43 (by kernel_rfl) rfl #[.agg #[.bool a0_0, .string a0_1], .int .i64 x6_2] rfl (by (try simp only [List.map_toArray, List.map_cons, List.map_nil]); first | done | rfl | (simp only [List.length_drop, List.length_take]; rfl)) ?_; (with_reducible refine (countermandref09_At.calls k2 a0_0 a0_1 x6_2 t129 _ A19.out).mono ?_); rintro e w24 ⟨rfl, hb⟩; refine ⟨_, rfl, ?_⟩; have n0_ := Aside0.mk (blk_below (g := gb127) (o := .cells #[.bool a0_0, .string a0_1] 57 (0, 0)) (by (with_reducible repeat (first | refine blk_drewN ?_ _ | refine blk_drew ?_ | refine blk_alloc ?_ _)); exact BK127.out) hb); have n1_ := Aside0.mk (blk_below (g := gb128) (o := .cells #[.bool false, .string (⟨#[]⟩ : ByteArray)] 57 (0, 0)) (by (with_reducible repeat (first | refine blk_drewN ?_ _ | refine blk_drew ?_ | refine blk_alloc ?_ _)); exact BK128.out) hb); have n2_ := Aside0.mk (below_step (by repeat (first | (with_reducible first | exact HB.out | apply below_alloc | apply pw_below_drewN | apply below_drew1 | refine below_set ?_ GE127.out | refine below_set ?_ GE128.out) | exact HB.out)) hb); clear BK127; clear BK128; clear HB; have BK127 := n0_; have BK128 := n1_; have HB := n2_; clear n0_ n1_ n2_; (try clear hb); (try clear hb2); (try clear hk); (try clear hi)) | ((with_reducible refine gate_dst (N := 30) rfl ?_); refine Kd.R_lit (Kd.int .u8) _ 5 ?hg (N := 30) ?hd (xs := ([(ji20) % 256] : List Int)) (inner := [.int .u8 ((ji20) % 256)]) (ok := fun _ => True) (okp := fun _ => True) ?hr ?hp (fun _ hk => hk) trivial (Below.refl _ _) (Nat.le_refl _) (by simp) ?_; (case hd => rfl); (case hg => rfl); (case hr => first | (go_simp; done) | (go_simp; rfl)); (case hp => exact (Reps.one (show Kd.M (Kd.int .u8) _ _ _ ((ji20) % 256) [.int .u8 ((ji20) % 256)] from rfl) (Reps.none _ _))); intro v131 w25 ho26 hb hg_ hnew_; clear hg_ hnew_; (first | rw [← Ny130.out] at ho26 | (simp only [Int.reduceToNat] at ho26; rw [← Ny130.out] at ho26)); have n0_ := Aside0.mk (Kd.R_lower ho26 (below_size (by repeat (first | (with_reducible first | exact HB.out | apply below_alloc | apply pw_below_drewN | apply below_drew1 | refine below_set ?_ GE127.out | refine below_set ?_ GE128.out) | exact HB.out)))); have n1_ := Aside0.mk (blk_below (g := gb127) (o := .cells #[.bool a0_0, .string a0_1] 57 (0, 0)) (by (with_reducible repeat (first | refine blk_drewN ?_ _ | refine blk_drew ?_ | refine blk_alloc ?_ _)); exact BK127.out) hb); have n2_ := Aside0.mk (blk_below (g := gb128) (o := .cells #[.bool false, .string (⟨#[]⟩ : ByteArray)] 57 (0, 0)) (by (with_reducible repeat (first | refine blk_drewN ?_ _ | refine blk_drew ?_ | refine blk_alloc ?_ _)); exact BK128.out) hb); have n3_ := Aside0.mk (below_step (by repeat (first | (with_reducible first | exact HB.out | apply below_alloc | apply pw_below_drewN | apply below_drew1 | refine below_set ?_ GE127.out | refine below_set ?_ GE128.out) | exact HB.out)) hb); clear BK127; clear BK128; clear HB; have HO132 := n0_; have BK127 := n1_; have BK128 := n2_; have HB := n3_; clear n0_ n1_ n2_ n3_; clear hb ho26; have hcv27 := own_string (P := Try.prog) Try.underlying32 Try.underlying5 Try.underlying9 (Kd.own_of_R HO132.out)))
                go_roundg k2
                case measure => have := HJ2.out; have := HK2.out; omega
                case rel => exact ⟨(x5_2 ++ (strOfNums y130)), (wrap64 (x6_2 + 1)), (by first | rfl | (simp; done) | (simp [*]; done)), (by first | rfl | (simp; done) | (simp [*]; done)), H', ⟨by have := HJ2.out; have := HK2.out; omega⟩, ⟨by (with_reducible repeat (first | refine blk_drewN ?_ _ | refine blk_drew ?_ | refine blk_alloc ?_ _)); exact BK127.out⟩, ⟨by (with_reducible repeat (first | refine blk_drewN ?_ _ | refine blk_drew ?_ | refine blk_alloc ?_ _)); exact BK128.out⟩, ⟨by repeat (first | (with_reducible first | exact HB.out | apply below_alloc | apply pw_below_drewN | apply below_drew1 | refine below_set ?_ GE127.out | refine below_set ?_ GE128.out) | exact HB.out)⟩⟩
              · rw [if_neg c21] at H
                exact absurd H (by simp)
            · rw [if_neg c18] at H
              have c18b0 : decide (x6_2 < a1) = false := decide_eq_false c18
              clear c18
              simp only [Option.some.injEq, Prod.mk.injEq] at H
              obtain ⟨rfl, rfl⟩ := H
              have hnb28 := NB128_127.out
              have hnc28 := NB127_128.out
              have hcz29_0 : wr.cell? ⟨gb128, 0, none⟩ = some (.bool false) := (blk_cell BK128.out 0).trans rfl
              have hcz29_1 : wr.cell? ⟨gb128, 1, none⟩ = some (.string (⟨#[]⟩ : ByteArray)) := (blk_cell BK128.out 1).trans rfl
              have hfz29_0 := blk_frozen BK128.out 0
              have hfz29_1 := blk_frozen BK128.out 1
              go_wp2
              refine bodyPost_ret (results_cell_row rfl _ _ gb128 57 #[.bool true, .string x5_2] (0, 0) _ rfl (by (with_reducible repeat (first | refine blk_drewN ?_ _ | refine blk_drew ?_ | refine blk_alloc ?_ _)); refine blk_put (cs := #[.bool true, .string (⟨#[]⟩ : ByteArray)]) ?_ 1 _ rfl; (with_reducible repeat (first | refine blk_drewN ?_ _ | refine blk_drew ?_ | refine blk_alloc ?_ _)); refine blk_put (cs := #[.bool false, .string (⟨#[]⟩ : ByteArray)]) ?_ 0 _ rfl; (with_reducible repeat (first | refine blk_drewN ?_ _ | refine blk_drew ?_ | refine blk_alloc ?_ _)); exact BK128.out) Try.underlying57 rfl (by kernel_rfl)) rfl ?_
              exact ⟨by first | rfl | (simp [errW_none, errW_some] <;> rfl) | (simp [*, errW_none, errW_some] <;> rfl), by repeat (first | (with_reducible first | exact HB.out | apply below_alloc | apply pw_below_drewN | apply below_drew1 | refine below_set ?_ GE127.out | refine below_set ?_ GE128.out) | exact HB.out)⟩

/-! ### countermandlaw09_FileDoes: function 11 -/
def countermandlaw09_FileDoes.j0 : Nat → Int → Int → Bool → Bool → ByteArray → Option (Bool)
  | 0, _, _, _, _, _ => none
  | k + 1, x1, x2, x27, x134000, x134001 => if x27 = true then (some false) else ((file_Good.f x134000 x134001).bind fun t136 => (if t136 = true then ((file_Put.f x134000 x134001 x1 x2).bind fun bt138 => ((file_Cut.f k x134000 x134001 x1).bind fun bt140 => ((countermandref09_Put.f k x134000 x134001 x1 x2).bind fun bt144 => (if (bt138.1 == bt144.1 && (bt138.2.toList == bt144.2.toList)) = true then ((countermandref09_Cut.f k x134000 x134001 x1).bind fun bt146 => (if (bt140.1 == bt146.1 && (bt140.2.toList == bt146.2.toList)) = true then ((file_At.f x134000 x134001 x1).bind fun t148 => ((countermandref09_At.f k x134000 x134001 x1).bind fun t149 => (if t148 = t149 then ((file_Make.f x134000 x134001).bind fun bt150 => (if (bt150.1 && (bt150.2.toList == x134001.toList)) = true then ((file_Good.f bt138.1 bt138.2).bind fun t152 => (if t152 = true then ((file_Good.f bt140.1 bt140.2).bind fun t153 => (some t153)) else (some false))) else (some false))) else (some false)))) else (some false))) else (some false))))) else (some true)))
def countermandlaw09_FileDoes.f (k : Nat) (a0_0 : Bool) (a0_1 : ByteArray) (a1 : Int) (a2 : Int) : Option (Bool) := (countermandlaw09_alive.f).bind fun t134 => (if t134 = true then ((file_Good.f a0_0 a0_1).bind fun t135 => (if (a0_1.size : Int) ≤ 32 then (if a0_0 = true then (if t135 = true then (countermandlaw09_FileDoes.j0 k a1 a2 false a0_0 a0_1) else (countermandlaw09_FileDoes.j0 k a1 a2 true a0_0 a0_1)) else (if t135 = true then (if a0_1.toList = ([] : List UInt8) then (countermandlaw09_FileDoes.j0 k a1 a2 false a0_0 a0_1) else (countermandlaw09_FileDoes.j0 k a1 a2 true a0_0 a0_1)) else (if a0_1.toList = ([] : List UInt8) then (countermandlaw09_FileDoes.j0 k a1 a2 true a0_0 a0_1) else (countermandlaw09_FileDoes.j0 k a1 a2 false a0_0 a0_1)))) else (if t135 = true then (countermandlaw09_FileDoes.j0 k a1 a2 true a0_0 a0_1) else (countermandlaw09_FileDoes.j0 k a1 a2 false a0_0 a0_1)))) else (some false))
theorem countermandlaw09_FileDoes.mono_l : ∀ k, (∀ y0 y1 y2 y3 y4, LeO (countermandlaw09_FileDoes.j0 k y0 y1 y2 y3 y4) (countermandlaw09_FileDoes.j0 (k + 1) y0 y1 y2 y3 y4))
  | 0 => fun _ _ _ _ _ r h => by simp [countermandlaw09_FileDoes.j0] at h
  | k + 1 => by
    have ih0 := countermandlaw09_FileDoes.mono_l k
    · intro y0 y1 y2 y3 y4
      unfold countermandlaw09_FileDoes.j0
      repeat' first
      | (with_reducible exact ih0 _ _ _ _ _)
      | (with_reducible exact countermandref09_At.mono _ _ _ _)
      | (with_reducible exact countermandref09_Cut.mono _ _ _ _)
      | (with_reducible exact countermandref09_Put.mono _ _ _ _ _)
      | (with_reducible exact file_Cut.mono _ _ _ _)
      | (with_reducible exact LeO.refl _)
      | (with_reducible exact LeO.none _)
      | (with_reducible refine LeO.ite ?_ ?_)
      | (with_reducible refine LeO.bind ?_ (fun _ => ?_))
      | exact ih0 _ _ _ _ _
      | exact countermandref09_At.mono _ _ _ _
      | exact countermandref09_Cut.mono _ _ _ _
      | exact countermandref09_Put.mono _ _ _ _ _
      | exact file_Cut.mono _ _ _ _
      | exact LeO.none _
      | refine LeO.ite ?_ ?_
      | refine LeO.bind ?_ (fun _ => ?_)
theorem countermandlaw09_FileDoes.mono : ∀ a0 a1 a2 a3 k, LeO (countermandlaw09_FileDoes.f k a0 a1 a2 a3) (countermandlaw09_FileDoes.f (k + 1) a0 a1 a2 a3) := by
  intro a0 a1 a2 a3 k
  have ih0 := countermandlaw09_FileDoes.mono_l k
  unfold countermandlaw09_FileDoes.f
  repeat' first
      | (with_reducible exact ih0 _ _ _ _ _)
      | (with_reducible exact countermandref09_At.mono _ _ _ _)
      | (with_reducible exact countermandref09_Cut.mono _ _ _ _)
      | (with_reducible exact countermandref09_Put.mono _ _ _ _ _)
      | (with_reducible exact file_Cut.mono _ _ _ _)
      | (with_reducible exact LeO.refl _)
      | (with_reducible exact LeO.none _)
      | (with_reducible refine LeO.ite ?_ ?_)
      | (with_reducible refine LeO.bind ?_ (fun _ => ?_))
      | exact ih0 _ _ _ _ _
      | exact countermandref09_At.mono _ _ _ _
      | exact countermandref09_Cut.mono _ _ _ _
      | exact countermandref09_Put.mono _ _ _ _ _
      | exact file_Cut.mono _ _ _ _
      | exact LeO.none _
      | refine LeO.ite ?_ ?_
      | refine LeO.bind ?_ (fun _ => ?_)
def countermandlaw09_FileDoes.T3 : Bool × List (List Nat × List Nat) := (true, [([], []), ([0], [0]), ([], []), ([2], [2]), ([3], [3]), ([4], [4]), ([5, 1], [5]), ([6], [6]), ([7, 6], [6, 7]), ([8, 6, 6], [6, 8]), ([9], [9]), ([10, 9], [9, 10]), ([11, 9], [9, 11]), ([9, 12, 6], [6, 9, 12]), ([6, 13], [6, 13]), ([1, 14], [1, 14])])
def countermandlaw09_FileDoes.B3 : List Nat := [0, 1, 0, 4, 12, 28, 63, 127, 255, 511, 1023, 2047, 4095, 8191, 16383, 32767]
theorem countermandlaw09_FileDoes.tab3 : rtab .any (opsOf Try.f11 3) = countermandlaw09_FileDoes.T3 := by kernel_rfl
theorem countermandlaw09_FileDoes.bits3 : waitsOk countermandlaw09_FileDoes.T3.2 countermandlaw09_FileDoes.B3 = true := by kernel_rfl
def countermandlaw09_FileDoes.T8 : Bool × List (List Nat × List Nat) := (true, [([], []), ([], []), ([], []), ([0, 1, 2], [0, 1, 2]), ([], []), ([], []), ([4, 5, 3], [4, 5]), ([], []), ([], []), ([7, 3, 6, 0, 1, 2, 3, 7, 8], [3, 7]), ([8, 6, 9, 0, 1, 2, 3, 4, 5, 6, 7, 8, 9], [6, 8])])
def countermandlaw09_FileDoes.B8 : List Nat := [0, 0, 0, 7, 0, 0, 63, 0, 0, 511, 1023]
theorem countermandlaw09_FileDoes.tab8 : rtab .any (opsOf Try.f11 8) = countermandlaw09_FileDoes.T8 := by kernel_rfl
theorem countermandlaw09_FileDoes.bits8 : waitsOk countermandlaw09_FileDoes.T8.2 countermandlaw09_FileDoes.B8 = true := by kernel_rfl
def countermandlaw09_FileDoes.T9 : Bool × List (List Nat × List Nat) := (true, [([], []), ([], []), ([], []), ([], []), ([1, 2, 3], [1, 2, 3]), ([0, 4], [0, 4]), ([5, 4], [5]), ([6], [6]), ([6], [6]), ([6], [6]), ([8, 9, 6, 6], [6, 8, 9]), ([7, 10, 6], [6, 7, 10]), ([6, 11], [6, 11]), ([12, 10], [12]), ([13], [13]), ([13], [13]), ([14, 15, 13, 13], [13, 14, 15]), ([13], [13]), ([13], [13]), ([17, 18, 16, 13], [13, 17, 18]), ([16, 19, 13], [13, 16, 19]), ([13, 20], [13, 20]), ([21, 19], [21]), ([22], [22]), ([23, 22, 22], [22, 23]), ([22], [22]), ([25, 22], [22, 25]), ([26, 22], [22, 26]), ([24, 27, 22], [22, 24, 27]), ([22, 28], [22, 28]), ([29, 24], [29]), ([30], [30]), ([31, 30, 30], [30, 31]), ([30, 32], [30, 32]), ([33, 32], [33]), ([34], [34]), ([35, 34, 34], [34, 35]), ([34, 36], [34, 36]), ([37, 36, 0, 1, 2, 3, 4, 5, 6, 7, 8, 9, 10, 11, 12, 13, 14, 15, 16, 17, 18, 19, 20, 21, 22, 23, 24, 25, 26, 27, 28, 29, 30, 31, 32, 33, 34, 35, 36, 37], [37])])
def countermandlaw09_FileDoes.B9 : List Nat := [0, 0, 0, 0, 14, 31, 63, 127, 127, 127, 895, 2047, 4095, 8191, 16383, 16383, 65535, 16383, 16383, 524287, 1048575, 2097151, 4194303, 8388607, 16777215, 8388607, 41943039, 109051903, 268435455, 536870911, 1073741823, 2147483647, 4294967295, 8589934591, 17179869183, 34359738367, 68719476735, 137438953471, 274877906943]
theorem countermandlaw09_FileDoes.tab9 : rtab .any (opsOf Try.f11 9) = countermandlaw09_FileDoes.T9 := by kernel_rfl
theorem countermandlaw09_FileDoes.bits9 : waitsOk countermandlaw09_FileDoes.T9.2 countermandlaw09_FileDoes.B9 = true := by kernel_rfl

end Go.Proofs.Ytfimbmdbaaiemaa.PFileDoes
