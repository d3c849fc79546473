/- Written by a program of this session, which began as the kit's print and is turned in wip/printer: the plain form of each function, and that the Go code comes to it. -/
import Derived.Test.YtfoefgckjaafnaaPCodeShiftsx0
import Derived.Test.YtfoefgckjaafnaaPCodeShiftsx6
namespace Go.Proofs.Ytfoefgckjaafnaa.PCodeShifts
open Go.RowKit Go.Proofs.YtfoefgckjaafnaaW.PrintWords Go.Proofs.YtfoefgckjaafnaaW.PrintLast Go.Proofs.YtfoefgckjaafnaaW.PrintMore
attribute [local go_sem] max2_int min2_int max_two min_two max_three min_three max_four min_four   -- for this text's walks alone
set_option linter.unusedVariables false
set_option linter.unusedSimpArgs false

/-! ### code_Blocks: function 32 -/
def code_Blocks.l0 : Nat → Int → List (S71) → Int → Int → Option (Int)
  | 0, _, _, _, _ => none
  | k + 1, x3, x6, x7, x8 => if x8 < x7 then (if 0 ≤ x8 then (if x8 < (x6.length : Int) then (if ((rd_T71 x6 x8).f0) = 4 then (code_Blocks.l0 k (wrap64 (x3 + 1)) x6 x7 (wrap64 (x8 + 1))) else (code_Blocks.l0 k x3 x6 x7 (wrap64 (x8 + 1)))) else (none)) else (none)) else (some x3)
def code_Blocks.f (k : Nat) (l0 : List (S71)) : Option (Int) := code_Blocks.l0 k 0 l0 (l0.length : Int) 0
theorem code_Blocks.mono_l : ∀ k, (∀ y0 y1 y2 y3, LeO (code_Blocks.l0 k y0 y1 y2 y3) (code_Blocks.l0 (k + 1) y0 y1 y2 y3))
  | 0 => fun _ _ _ _ r h => by simp [code_Blocks.l0] at h
  | k + 1 => by
    have ih0 := code_Blocks.mono_l k
    · intro y0 y1 y2 y3
      unfold code_Blocks.l0
      repeat' first
      | (with_reducible exact ih0 _ _ _ _)
      | (with_reducible exact LeO.refl _)
      | (with_reducible exact LeO.none _)
      | (with_reducible refine LeO.ite ?_ ?_)
      | (with_reducible refine LeO.bind ?_ (fun _ => ?_))
      | exact ih0 _ _ _ _
      | exact LeO.none _
      | refine LeO.ite ?_ ?_
      | refine LeO.bind ?_ (fun _ => ?_)
theorem code_Blocks.mono : ∀ a0 k, LeO (code_Blocks.f k a0) (code_Blocks.f (k + 1) a0) := by
  intro a0 k
  have ih0 := code_Blocks.mono_l k
  unfold code_Blocks.f
  repeat' first
      | (with_reducible exact ih0 _ _ _ _)
      | (with_reducible exact LeO.refl _)
      | (with_reducible exact LeO.none _)
      | (with_reducible refine LeO.ite ?_ ?_)
      | (with_reducible refine LeO.bind ?_ (fun _ => ?_))
      | exact ih0 _ _ _ _
      | exact LeO.none _
      | refine LeO.ite ?_ ?_
      | refine LeO.bind ?_ (fun _ => ?_)
set_option maxHeartbeats 8000000 in
set_option maxRecDepth 100000 in
theorem code_Blocks.calls (k : Nat) (A0 : Option Addr) (c0 : Nat) (l0 : List (S71)) (r : Int) (w : World) (hr0 : Kd.C k71 w A0 l0.length l0) (hc0 : l0.length ≤ c0) (h : code_Blocks.f k l0 = some r) :
    Calls Try.prog 32 #[.slice A0 l0.length c0] w fun e w' => e = .returned (.int .i64 r) ∧ Below w.heap.size w w' := by
  have hu71 := Try.underlying71
  have HR0 := Aside0.mk hr0
  have HC0 := Aside0.mk hc0
  clear hr0 hc0
  have HB := Aside0.mk (Below.refl w.heap.size w)
  have H : (code_Blocks.l0 k 0 l0 (l0.length : Int) 0) = some r := h
  clear h
  have H' := Aside0.mk H
  clear H
  go_enter Try.func32, Try.ntmps32
  go_wp2
  go_loopg [3, 8] k (fun kq v3 v8 w' => ∃ (x3_1 : Int) (x8_1 : Int), v3 = .int .i64 x3_1 ∧ v8 = .int .i64 x8_1 ∧ Aside0 (code_Blocks.l0 kq x3_1 l0 (l0.length : Int) x8_1 = some r) ∧ Aside0 (kq ≤ k) ∧ Aside0 (Below w.heap.size w w'))
  case atStart => exact ⟨(0), (0), (by first | rfl | (simp; done) | (simp [*]; done)), (by first | rfl | (simp; done) | (simp [*]; done)), H', ⟨Nat.le_refl _⟩, ⟨by repeat (first | (with_reducible first | exact HB.out | apply below_alloc | apply pw_below_drewN | apply below_drew1) | exact HB.out)⟩⟩
  case round =>
    clear H'
    obtain ⟨x3_1, x8_1, rfl, rfl, HA, HK1, HB⟩ := hrel
    cases gk with
    | zero => exact absurd HA.out (by simp [code_Blocks.l0])
    | succ k1 =>
      have H := HA.out
      clear HA
      simp only [code_Blocks.l0] at H
      by_cases c2 : x8_1 < (l0.length : Int)
      · rw [if_pos c2] at H
        have c2b0 : decide (x8_1 < (l0.length : Int)) = true := decide_eq_true c2
        clear c2
        by_cases c3 : 0 ≤ x8_1
        · rw [if_pos c3] at H
          have c3b0 : decide (0 ≤ x8_1) = true := decide_eq_true c3
          clear c3
          by_cases c4 : x8_1 < (l0.length : Int)
          · rw [if_pos c4] at H
            have c4b0 : decide (x8_1 < (l0.length : Int)) = true := decide_eq_true c4
            clear c4
            by_cases c5 : ((rd_T71 l0 x8_1).f0) = 4
            · rw [if_pos c5] at H
              have c5b0 : (((rd_T71 l0 x8_1).f0) == 4) = true := beq_iff_eq.mpr c5
              have c5b1 : (((rd_T71 l0 x8_1).f0) != 4) = false := bne_eq_false_iff_eq.mpr c5
              clear c5
              have H' := Aside0.mk H
              clear H
              have p152 : 0 ≤ (x8_1 : Int) := of_decide_eq_true (by first | (with_reducible assumption) | assumption)
              have q152 : x8_1 < (l0.length : Int) := of_decide_eq_true (by first | (with_reducible assumption) | assumption)
              obtain ⟨ad152, e152, hx152_0, hx152_1, hx152_2, hx152_3⟩ := at_T71 HR0.out x8_1 p152 q152
              cases e152
              replace hx152_0 := (HB.out.cell (World.block_lt_of_cell? w _ hx152_0)).trans hx152_0
              replace hx152_1 := (HB.out.cell (World.block_lt_of_cell? w _ hx152_1)).trans hx152_1
              replace hx152_2 := (HB.out.cell (World.block_lt_of_cell? w _ hx152_2)).trans hx152_2
              replace hx152_3 := (HB.out.cell (World.block_lt_of_cell? w _ hx152_3)).trans hx152_3
              replace p152 := eq_true p152
              replace q152 := eq_true q152
              go_wp2_with (first | ((with_reducible refine gate_dst (N := 5) rfl ?_); refine box_event ?hg (N := 5) ?hd (cs := #[.int .i64 0, .int .i64 0, .int .i64 0, .int .i64 0]) (t := 71) ?hr ?_; (case hd => rfl); (case hg => rfl); (case hr => first | (go_simp; done) | (go_simp; rfl)); intro gb153 hg w6 hbox hb; have n0_ := Aside0.mk (below_step (by repeat (first | (with_reducible first | exact HB.out | apply below_alloc | apply pw_below_drewN | apply below_drew1) | exact HB.out)) hb); have n1_ := Aside0.mk (hbox); have n2_ := Aside0.mk ((by rw [hg]; exact (below_size (by repeat (first | (with_reducible first | exact HB.out | apply below_alloc | apply pw_below_drewN | apply below_drew1) | exact HB.out))) : w.heap.size ≤ gb153)); have n3_ := Aside0.mk ((by rw [hg]; exact (below_size (by repeat (first | (with_reducible first | exact HB.out | apply below_alloc | apply pw_below_drewN | apply below_drew1) | exact HB.out))) : w.heap.size ≤ gb153)); clear HB; have HB := n0_; have BK153 := n1_; have GW153 := n2_; have GE153 := n3_; clear n0_ n1_ n2_ n3_; clear hb hbox hg; have hcz7_0 : w6.cell? ⟨gb153, 0, none⟩ = some (.int .i64 0) := (blk_cell BK153.out 0).trans rfl; have hcz7_1 : w6.cell? ⟨gb153, 1, none⟩ = some (.int .i64 0) := (blk_cell BK153.out 1).trans rfl; have hcz7_2 : w6.cell? ⟨gb153, 2, none⟩ = some (.int .i64 0) := (blk_cell BK153.out 2).trans rfl; have hcz7_3 : w6.cell? ⟨gb153, 3, none⟩ = some (.int .i64 0) := (blk_cell BK153.out 3).trans rfl; have hfz7_0 := blk_frozen BK153.out 0; have hfz7_1 := blk_frozen BK153.out 1; have hfz7_2 := blk_frozen BK153.out 2; have hfz7_3 := blk_frozen BK153.out 3))
              go_roundg k1
              case measure => have := HK1.out; omega
              case rel => exact ⟨(wrap64 (x3_1 + 1)), (wrap64 (x8_1 + 1)), (by first | rfl | (simp; done) | (simp [*]; done)), (by first | rfl | (simp; done) | (simp [*]; done)), H', ⟨by have := HK1.out; omega⟩, ⟨by repeat (first | (with_reducible first | exact HB.out | apply below_alloc | apply pw_below_drewN | apply below_drew1 | refine below_set ?_ GE153.out) | exact HB.out)⟩⟩
            · rw [if_neg c5] at H
              have c5b0 : (((rd_T71 l0 x8_1).f0) == 4) = false := beq_eq_false_iff_ne.mpr c5
              have c5b1 : (((rd_T71 l0 x8_1).f0) != 4) = true := bne_iff_ne.mpr c5
              have H' := Aside0.mk H
              clear H
              have p152 : 0 ≤ (x8_1 : Int) := of_decide_eq_true (by first | (with_reducible assumption) | assumption)
              have q152 : x8_1 < (l0.length : Int) := of_decide_eq_true (by first | (with_reducible assumption) | assumption)
              obtain ⟨ad152, e152, hx152_0, hx152_1, hx152_2, hx152_3⟩ := at_T71 HR0.out x8_1 p152 q152
              cases e152
              replace hx152_0 := (HB.out.cell (World.block_lt_of_cell? w _ hx152_0)).trans hx152_0
              replace hx152_1 := (HB.out.cell (World.block_lt_of_cell? w _ hx152_1)).trans hx152_1
              replace hx152_2 := (HB.out.cell (World.block_lt_of_cell? w _ hx152_2)).trans hx152_2
              replace hx152_3 := (HB.out.cell (World.block_lt_of_cell? w _ hx152_3)).trans hx152_3
              replace p152 := eq_true p152
              replace q152 := eq_true q152
              go_wp2_with (first | ((with_reducible refine gate_dst (N := 5) rfl ?_); refine box_event ?hg (N := 5) ?hd (cs := #[.int .i64 0, .int .i64 0, .int .i64 0, .int .i64 0]) (t := 71) ?hr ?_; (case hd => rfl); (case hg => rfl); (case hr => first | (go_simp; done) | (go_simp; rfl)); intro gb153 hg w8 hbox hb; have n0_ := Aside0.mk (below_step (by repeat (first | (with_reducible first | exact HB.out | apply below_alloc | apply pw_below_drewN | apply below_drew1) | exact HB.out)) hb); have n1_ := Aside0.mk (hbox); have n2_ := Aside0.mk ((by rw [hg]; exact (below_size (by repeat (first | (with_reducible first | exact HB.out | apply below_alloc | apply pw_below_drewN | apply below_drew1) | exact HB.out))) : w.heap.size ≤ gb153)); have n3_ := Aside0.mk ((by rw [hg]; exact (below_size (by repeat (first | (with_reducible first | exact HB.out | apply below_alloc | apply pw_below_drewN | apply below_drew1) | exact HB.out))) : w.heap.size ≤ gb153)); clear HB; have HB := n0_; have BK153 := n1_; have GW153 := n2_; have GE153 := n3_; clear n0_ n1_ n2_ n3_; clear hb hbox hg; have hcz9_0 : w8.cell? ⟨gb153, 0, none⟩ = some (.int .i64 0) := (blk_cell BK153.out 0).trans rfl; have hcz9_1 : w8.cell? ⟨gb153, 1, none⟩ = some (.int .i64 0) := (blk_cell BK153.out 1).trans rfl; have hcz9_2 : w8.cell? ⟨gb153, 2, none⟩ = some (.int .i64 0) := (blk_cell BK153.out 2).trans rfl; have hcz9_3 : w8.cell? ⟨gb153, 3, none⟩ = some (.int .i64 0) := (blk_cell BK153.out 3).trans rfl; have hfz9_0 := blk_frozen BK153.out 0; have hfz9_1 := blk_frozen BK153.out 1; have hfz9_2 := blk_frozen BK153.out 2; have hfz9_3 := blk_frozen BK153.out 3))
              go_roundg k1
              case measure => have := HK1.out; omega
              case rel => exact ⟨(x3_1), (wrap64 (x8_1 + 1)), (by first | rfl | (simp; done) | (simp [*]; done)), (by first | rfl | (simp; done) | (simp [*]; done)), H', ⟨by have := HK1.out; omega⟩, ⟨by repeat (first | (with_reducible first | exact HB.out | apply below_alloc | apply pw_below_drewN | apply below_drew1 | refine below_set ?_ GE153.out) | exact HB.out)⟩⟩
          · rw [if_neg c4] at H
            exact absurd H (by simp)
        · rw [if_neg c3] at H
          exact absurd H (by simp)
      · rw [if_neg c2] at H
        have c2b0 : decide (x8_1 < (l0.length : Int)) = false := decide_eq_false c2
        clear c2
        obtain rfl := Option.some.inj H
        simp only [Option.some.injEq, Prod.mk.injEq] at H
        obtain ⟨rfl⟩ := H
        go_wp2
        go_ret
        exact ⟨by first | rfl | (simp [errW_none, errW_some] <;> rfl) | (simp [*, errW_none, errW_some] <;> rfl), by repeat (first | (with_reducible first | exact HB.out | apply below_alloc | apply pw_below_drewN | apply below_drew1) | exact HB.out)⟩

/-! ### countermandlaw07_alive: function 29 -/
def countermandlaw07_alive.f (k : Nat)  : Option (Bool) := (code_Check.f k (([(⟨4, 0, 0, 0⟩ : S71), (⟨5, 0, 0, 0⟩ : S71)] : List (S71)))).bind fun bt157 => ((code_Check.f k (([(⟨4, 0, 0, 0⟩ : S71)] : List (S71)))).bind fun bt162 => (if bt157.2 = 0 then (if bt162.2 = 11 then ((code_Blocks.f k (([(⟨4, 0, 0, 0⟩ : S71)] : List (S71)))).bind fun t167 => (some (t167 == 1))) else (some false)) else (some false)))
theorem countermandlaw07_alive.mono : ∀ k, LeO (countermandlaw07_alive.f k ) (countermandlaw07_alive.f (k + 1) ) := by
  intro  k
  unfold countermandlaw07_alive.f
  repeat' first
      | (with_reducible exact code_Blocks.mono _ _)
      | (with_reducible exact code_Check.mono _ _)
      | (with_reducible exact LeO.refl _)
      | (with_reducible exact LeO.none _)
      | (with_reducible refine LeO.ite ?_ ?_)
      | (with_reducible refine LeO.bind ?_ (fun _ => ?_))
      | exact code_Blocks.mono _ _
      | exact code_Check.mono _ _
      | exact LeO.none _
      | refine LeO.ite ?_ ?_
      | refine LeO.bind ?_ (fun _ => ?_)
set_option maxHeartbeats 8000000 in
set_option maxRecDepth 100000 in
theorem countermandlaw07_alive.calls (k : Nat)  (r : Bool) (w : World) (h : countermandlaw07_alive.f k  = some r) :
    Calls Try.prog 29 #[] w fun e w' => e = .returned (.bool r) ∧ Below w.heap.size w w' := by
  have hu71 := Try.underlying71
  have HB := Aside0.mk (Below.refl w.heap.size w)
  have H : ((code_Check.f k (([(⟨4, 0, 0, 0⟩ : S71), (⟨5, 0, 0, 0⟩ : S71)] : List (S71)))).bind fun bt157 => ((code_Check.f k (([(⟨4, 0, 0, 0⟩ : S71)] : List (S71)))).bind fun bt162 => (if bt157.2 = 0 then (if bt162.2 = 11 then ((code_Blocks.f k (([(⟨4, 0, 0, 0⟩ : S71)] : List (S71)))).bind fun t167 => (some (t167 == 1))) else (some false)) else (some false)))) = some r := h
  clear h
  obtain ⟨y154, hy154⟩ : ∃ y_ : List (S71), y_ = (([(⟨4, 0, 0, 0⟩ : S71), (⟨5, 0, 0, 0⟩ : S71)] : List (S71))) := ⟨_, rfl⟩
  replace H : ((code_Check.f k y154).bind fun bt157 => ((code_Check.f k (([(⟨4, 0, 0, 0⟩ : S71)] : List (S71)))).bind fun bt162 => (if bt157.2 = 0 then (if bt162.2 = 11 then ((code_Blocks.f k (([(⟨4, 0, 0, 0⟩ : S71)] : List (S71)))).bind fun t167 => (some (t167 == 1))) else (some false)) else (some false)))) = some r := by first | (rw [hy154]; with_reducible exact H) | (have H2_ := (Option.bind_some _ _).symm.trans H; rw [hy154]; with_reducible exact H2_) | (have H2_ := (Option.bind_some _ _).symm.trans H; with_reducible exact H2_) | with_reducible exact H | (rw [hy154]; exact H) | exact H
  have Ny154 := Aside0.mk hy154
  clear hy154
  replace H := Option.bind_eq_some_iff.mp H
  obtain ⟨⟨t157, t158⟩, A10, H⟩ := H
  replace H : ((code_Check.f k (([(⟨4, 0, 0, 0⟩ : S71)] : List (S71)))).bind fun bt162 => (if t158 = 0 then (if bt162.2 = 11 then ((code_Blocks.f k (([(⟨4, 0, 0, 0⟩ : S71)] : List (S71)))).bind fun t167 => (some (t167 == 1))) else (some false)) else (some false))) = some r := H
  have A1 := Aside0.mk A10
  clear A10
  obtain ⟨y159, hy159⟩ : ∃ y_ : List (S71), y_ = (([(⟨4, 0, 0, 0⟩ : S71)] : List (S71))) := ⟨_, rfl⟩
  replace H : ((code_Check.f k y159).bind fun bt162 => (if t158 = 0 then (if bt162.2 = 11 then ((code_Blocks.f k (([(⟨4, 0, 0, 0⟩ : S71)] : List (S71)))).bind fun t167 => (some (t167 == 1))) else (some false)) else (some false))) = some r := by first | (rw [hy159]; with_reducible exact H) | (have H2_ := (Option.bind_some _ _).symm.trans H; rw [hy159]; with_reducible exact H2_) | (have H2_ := (Option.bind_some _ _).symm.trans H; with_reducible exact H2_) | with_reducible exact H | (rw [hy159]; exact H) | exact H
  have Ny159 := Aside0.mk hy159
  clear hy159
  replace H := Option.bind_eq_some_iff.mp H
  obtain ⟨⟨t162, t163⟩, A20, H⟩ := H
  replace H : (if t158 = 0 then (if t163 = 11 then ((code_Blocks.f k (([(⟨4, 0, 0, 0⟩ : S71)] : List (S71)))).bind fun t167 => (some (t167 == 1))) else (some false)) else (some false)) = some r := H
  have A2 := Aside0.mk A20
  clear A20
  by_cases c3 : t158 = 0
  · rw [if_pos c3] at H
    have c3b0 : (t158 == 0) = true := beq_iff_eq.mpr c3
    have c3b1 : (t158 != 0) = false := bne_eq_false_iff_eq.mpr c3
    clear c3
    by_cases c4 : t163 = 11
    · rw [if_pos c4] at H
      have c4b0 : (t163 == 11) = true := beq_iff_eq.mpr c4
      have c4b1 : (t163 != 11) = false := bne_eq_false_iff_eq.mpr c4
      clear c4
      obtain ⟨y164, hy164⟩ : ∃ y_ : List (S71), y_ = (([(⟨4, 0, 0, 0⟩ : S71)] : List (S71))) := ⟨_, rfl⟩
      replace H : ((code_Blocks.f k y164).bind fun t167 => (some (t167 == 1))) = some r := by first | (rw [hy164]; with_reducible exact H) | (have H2_ := (Option.bind_some _ _).symm.trans H; rw [hy164]; with_reducible exact H2_) | (have H2_ := (Option.bind_some _ _).symm.trans H; with_reducible exact H2_) | with_reducible exact H | (rw [hy164]; exact H) | exact H
      have Ny164 := Aside0.mk hy164
      clear hy164
      replace H := Option.bind_eq_some_iff.mp H
      obtain ⟨t167, A50, H⟩ := H
      replace H : (some (t167 == 1)) = some r := H
      have A5 := Aside0.mk A50
      clear A50
      obtain rfl := Option.some.inj H
      simp only [Option.some.injEq, Prod.mk.injEq] at H
      obtain ⟨rfl⟩ := H
      go_enter Try.func29, Try.ntmps29
      go_wp2_with (first | ((with_reducible refine gate_dst (N := 8) rfl ?_); (try (refine gate_guard (by rfl) ?_; dsimp only)); refine Kd.R_lit k71 _ 71 ?hg (N := 8) ?hd (xs := ([(⟨4, 0, 0, 0⟩ : S71), (⟨5, 0, 0, 0⟩ : S71)] : List (S71))) (inner := [.int .i64 4, .int .i64 0, .int .i64 0, .int .i64 0, .int .i64 5, .int .i64 0, .int .i64 0, .int .i64 0]) (ok := fun _ => True) (okp := fun _ => True) ?hr ?hp (fun _ hk => hk) trivial (Below.refl _ _) (Nat.le_refl _) (by simp) ?_; (case hd => rfl); (case hg => rfl); (case hr => first | (go_simp; done) | (go_simp; rfl)); (case hp => exact (Reps.c4 (show Kd.M k71 _ _ _ (⟨4, 0, 0, 0⟩ : S71) [.int .i64 4, .int .i64 0, .int .i64 0, .int .i64 0] from (k71_mkM _ _ _ (⟨4, 0, 0, 0⟩ : S71) )) (Reps.c4 (show Kd.M k71 _ _ _ (⟨5, 0, 0, 0⟩ : S71) [.int .i64 5, .int .i64 0, .int .i64 0, .int .i64 0] from (k71_mkM _ _ _ (⟨5, 0, 0, 0⟩ : S71) )) (Reps.none _ _)))); intro v155 w6 ho7 hb hg_ hnew_; clear hg_ hnew_; (first | rw [← Ny154.out] at ho7 | (simp only [Int.reduceToNat] at ho7; rw [← Ny154.out] at ho7)); have n0_ := Aside0.mk (Kd.R_lower ho7 (below_size (by repeat (first | (with_reducible first | exact HB.out | apply below_alloc | apply pw_below_drewN | apply below_drew1) | exact HB.out)))); have n1_ := Aside0.mk (below_step (by repeat (first | (with_reducible first | exact HB.out | apply below_alloc | apply pw_below_drewN | apply below_drew1) | exact HB.out)) hb); clear HB; have HO156 := n0_; have HB := n1_; clear n0_ n1_; clear hb ho7; obtain ⟨Ao8, co8, eo8⟩ := Kd.R_slice HO156.out; subst eo8) | ((with_reducible refine gate_callee (f := 30) rfl ?_); refine goesL_ (some 9) rfl rfl Try.func30 (by kernel_rfl) rfl #[.slice Ao8 y154.length co8] rfl (by (try simp only [List.map_toArray, List.map_cons, List.map_nil]); first | done | rfl | (simp only [List.length_drop, List.length_take]; rfl)) ?_; (with_reducible refine (code_Check.calls k _ _ y154 t157 t158 _ ?side1 ?side2 A1.out).mono ?_); (case side1 => repeat (first | exact (Kd.R_reads' HO156.out).2.2 | (with_reducible refine Kd.C_alloc ?_ _) | (with_reducible refine Kd.C_drewN ?_ _) | (with_reducible refine Kd.C_drew ?_))); (case side2 => exact (Kd.R_reads' HO156.out).2.1); rintro e w9 ⟨rfl, hb⟩; refine ⟨_, rfl, ?_⟩; have n0_ := Aside0.mk (Kd.R_below (by (with_reducible repeat (first | apply Kd.R_alloc | apply Kd.R_drewN | apply Kd.R_drew)); exact HO156.out) hb); have n1_ := Aside0.mk (below_step (by repeat (first | (with_reducible first | exact HB.out | apply below_alloc | apply pw_below_drewN | apply below_drew1) | exact HB.out)) hb); clear HO156; clear HB; have HO156 := n0_; have HB := n1_; clear n0_ n1_; (try clear hb); (try clear hb2); (try clear hk); (try clear hi)) | ((with_reducible refine gate_dst (N := 14) rfl ?_); (try (refine gate_guard (by rfl) ?_; dsimp only)); refine Kd.R_lit k71 _ 71 ?hg (N := 14) ?hd (xs := ([(⟨4, 0, 0, 0⟩ : S71)] : List (S71))) (inner := [.int .i64 4, .int .i64 0, .int .i64 0, .int .i64 0]) (ok := fun _ => True) (okp := fun _ => True) ?hr ?hp (fun _ hk => hk) trivial (Below.refl _ _) (Nat.le_refl _) (by simp) ?_; (case hd => rfl); (case hg => rfl); (case hr => first | (go_simp; done) | (go_simp; rfl)); (case hp => exact (Reps.c4 (show Kd.M k71 _ _ _ (⟨4, 0, 0, 0⟩ : S71) [.int .i64 4, .int .i64 0, .int .i64 0, .int .i64 0] from (k71_mkM _ _ _ (⟨4, 0, 0, 0⟩ : S71) )) (Reps.none _ _))); intro v160 w10 ho11 hb hg_ hnew_; clear hg_ hnew_; (first | rw [← Ny159.out] at ho11 | (simp only [Int.reduceToNat] at ho11; rw [← Ny159.out] at ho11)); have n0_ := Aside0.mk (Kd.R_elder' (by (with_reducible repeat (first | apply Kd.R_alloc | apply Kd.R_drewN | apply Kd.R_drew)); exact HO156.out) (Kd.R_base ho11) hb); have n1_ := Aside0.mk (Kd.R_lower (Kd.R_new' ho11 (Kd.R_lt (by (with_reducible repeat (first | apply Kd.R_alloc | apply Kd.R_drewN | apply Kd.R_drew)); exact HO156.out))) (below_size (by repeat (first | (with_reducible first | exact HB.out | apply below_alloc | apply pw_below_drewN | apply below_drew1) | exact HB.out)))); have n2_ := Aside0.mk (below_step (by repeat (first | (with_reducible first | exact HB.out | apply below_alloc | apply pw_below_drewN | apply below_drew1) | exact HB.out)) hb); clear HO156; clear HB; have HO156 := n0_; have HO161 := n1_; have HB := n2_; clear n0_ n1_ n2_; clear hb ho11; obtain ⟨Ao12, co12, eo12⟩ := Kd.R_slice HO161.out; subst eo12) | ((with_reducible refine gate_callee (f := 30) rfl ?_); refine goesL_ (some 15) rfl rfl Try.func30 (by kernel_rfl) rfl #[.slice Ao12 y159.length co12] rfl (by (try simp only [List.map_toArray, List.map_cons, List.map_nil]); first | done | rfl | (simp only [List.length_drop, List.length_take]; rfl)) ?_; (with_reducible refine (code_Check.calls k _ _ y159 t162 t163 _ ?side1 ?side2 A2.out).mono ?_); (case side1 => repeat (first | exact (Kd.R_reads' HO161.out).2.2 | (with_reducible refine Kd.C_alloc ?_ _) | (with_reducible refine Kd.C_drewN ?_ _) | (with_reducible refine Kd.C_drew ?_))); (case side2 => exact (Kd.R_reads' HO161.out).2.1); rintro e w13 ⟨rfl, hb⟩; refine ⟨_, rfl, ?_⟩; have n0_ := Aside0.mk (Kd.R_below (by (with_reducible repeat (first | apply Kd.R_alloc | apply Kd.R_drewN | apply Kd.R_drew)); exact HO156.out) hb); have n1_ := Aside0.mk (Kd.R_below (by (with_reducible repeat (first | apply Kd.R_alloc | apply Kd.R_drewN | apply Kd.R_drew)); exact HO161.out) hb); have n2_ := Aside0.mk (below_step (by repeat (first | (with_reducible first | exact HB.out | apply below_alloc | apply pw_below_drewN | apply below_drew1) | exact HB.out)) hb); clear HO156; clear HO161; clear HB; have HO156 := n0_; have HO161 := n1_; have HB := n2_; clear n0_ n1_ n2_; (try clear hb); (try clear hb2); (try clear hk); (try clear hi)) | ((with_reducible refine gate_dst (N := 26) rfl ?_); (try (refine gate_guard (by rfl) ?_; dsimp only)); refine Kd.R_lit k71 _ 71 ?hg (N := 26) ?hd (xs := ([(⟨4, 0, 0, 0⟩ : S71)] : List (S71))) (inner := [.int .i64 4, .int .i64 0, .int .i64 0, .int .i64 0]) (ok := fun _ => True) (okp := fun _ => True) ?hr ?hp (fun _ hk => hk) trivial (Below.refl _ _) (Nat.le_refl _) (by simp) ?_; (case hd => rfl); (case hg => rfl); (case hr => first | (go_simp; done) | (go_simp; rfl)); (case hp => exact (Reps.c4 (show Kd.M k71 _ _ _ (⟨4, 0, 0, 0⟩ : S71) [.int .i64 4, .int .i64 0, .int .i64 0, .int .i64 0] from (k71_mkM _ _ _ (⟨4, 0, 0, 0⟩ : S71) )) (Reps.none _ _))); intro v165 w14 ho15 hb hg_ hnew_; clear hg_ hnew_; (first | rw [← Ny164.out] at ho15 | (simp only [Int.reduceToNat] at ho15; rw [← Ny164.out] at ho15)); have n0_ := Aside0.mk (Kd.R_elder' (by (with_reducible repeat (first | apply Kd.R_alloc | apply Kd.R_drewN | apply Kd.R_drew)); exact HO156.out) (Kd.R_base ho15) hb); have n1_ := Aside0.mk (Kd.R_elder' (by (with_reducible repeat (first | apply Kd.R_alloc | apply Kd.R_drewN | apply Kd.R_drew)); exact HO161.out) (Kd.R_base ho15) hb); have n2_ := Aside0.mk (Kd.R_lower (Kd.R_new' (Kd.R_new' ho15 (Kd.R_lt (by (with_reducible repeat (first | apply Kd.R_alloc | apply Kd.R_drewN | apply Kd.R_drew)); exact HO156.out))) (Kd.R_lt (by (with_reducible repeat (first | apply Kd.R_alloc | apply Kd.R_drewN | apply Kd.R_drew)); exact HO161.out))) (below_size (by repeat (first | (with_reducible first | exact HB.out | apply below_alloc | apply pw_below_drewN | apply below_drew1) | exact HB.out)))); have n3_ := Aside0.mk (below_step (by repeat (first | (with_reducible first | exact HB.out | apply below_alloc | apply pw_below_drewN | apply below_drew1) | exact HB.out)) hb); clear HO156; clear HO161; clear HB; have HO156 := n0_; have HO161 := n1_; have HO166 := n2_; have HB := n3_; clear n0_ n1_ n2_ n3_; clear hb ho15; obtain ⟨Ao16, co16, eo16⟩ := Kd.R_slice HO166.out; subst eo16) | (go_at_call 32; (with_reducible refine (code_Blocks.calls k _ _ y164 t167 _ ?side1 ?side2 A5.out).mono ?_); (case side1 => repeat (first | exact (Kd.R_reads' HO166.out).2.2 | (with_reducible refine Kd.C_alloc ?_ _) | (with_reducible refine Kd.C_drewN ?_ _) | (with_reducible refine Kd.C_drew ?_))); (case side2 => exact (Kd.R_reads' HO166.out).2.1); rintro e w17 ⟨rfl, hb⟩; have n0_ := Aside0.mk (Kd.R_below (by (with_reducible repeat (first | apply Kd.R_alloc | apply Kd.R_drewN | apply Kd.R_drew)); exact HO156.out) hb); have n1_ := Aside0.mk (Kd.R_below (by (with_reducible repeat (first | apply Kd.R_alloc | apply Kd.R_drewN | apply Kd.R_drew)); exact HO161.out) hb); have n2_ := Aside0.mk (Kd.R_below (by (with_reducible repeat (first | apply Kd.R_alloc | apply Kd.R_drewN | apply Kd.R_drew)); exact HO166.out) hb); have n3_ := Aside0.mk (below_step (by repeat (first | (with_reducible first | exact HB.out | apply below_alloc | apply pw_below_drewN | apply below_drew1) | exact HB.out)) hb); clear HO156; clear HO161; clear HO166; clear HB; have HO156 := n0_; have HO161 := n1_; have HO166 := n2_; have HB := n3_; clear n0_ n1_ n2_ n3_; (try clear hb); (try clear hb2); (try clear hk); (try clear hi)))
      go_ret
      exact ⟨by first | rfl | (simp [errW_none, errW_some] <;> rfl) | (simp [*, errW_none, errW_some] <;> rfl), by repeat (first | (with_reducible first | exact HB.out | apply below_alloc | apply pw_below_drewN | apply below_drew1) | exact HB.out)⟩
    · rw [if_neg c4] at H
      have c4b0 : (t163 == 11) = false := beq_eq_false_iff_ne.mpr c4
      have c4b1 : (t163 != 11) = true := bne_iff_ne.mpr c4
      obtain rfl := Option.some.inj H
      simp only [Option.some.injEq, Prod.mk.injEq] at H
      obtain ⟨rfl⟩ := H
      go_enter Try.func29, Try.ntmps29
      go_wp2_with (first | ((with_reducible refine gate_dst (N := 8) rfl ?_); (try (refine gate_guard (by rfl) ?_; dsimp only)); refine Kd.R_lit k71 _ 71 ?hg (N := 8) ?hd (xs := ([(⟨4, 0, 0, 0⟩ : S71), (⟨5, 0, 0, 0⟩ : S71)] : List (S71))) (inner := [.int .i64 4, .int .i64 0, .int .i64 0, .int .i64 0, .int .i64 5, .int .i64 0, .int .i64 0, .int .i64 0]) (ok := fun _ => True) (okp := fun _ => True) ?hr ?hp (fun _ hk => hk) trivial (Below.refl _ _) (Nat.le_refl _) (by simp) ?_; (case hd => rfl); (case hg => rfl); (case hr => first | (go_simp; done) | (go_simp; rfl)); (case hp => exact (Reps.c4 (show Kd.M k71 _ _ _ (⟨4, 0, 0, 0⟩ : S71) [.int .i64 4, .int .i64 0, .int .i64 0, .int .i64 0] from (k71_mkM _ _ _ (⟨4, 0, 0, 0⟩ : S71) )) (Reps.c4 (show Kd.M k71 _ _ _ (⟨5, 0, 0, 0⟩ : S71) [.int .i64 5, .int .i64 0, .int .i64 0, .int .i64 0] from (k71_mkM _ _ _ (⟨5, 0, 0, 0⟩ : S71) )) (Reps.none _ _)))); intro v155 w18 ho19 hb hg_ hnew_; clear hg_ hnew_; (first | rw [← Ny154.out] at ho19 | (simp only [Int.reduceToNat] at ho19; rw [← Ny154.out] at ho19)); have n0_ := Aside0.mk (Kd.R_lower ho19 (below_size (by repeat (first | (with_reducible first | exact HB.out | apply below_alloc | apply pw_below_drewN | apply below_drew1) | exact HB.out)))); have n1_ := Aside0.mk (below_step (by repeat (first | (with_reducible first | exact HB.out | apply below_alloc | apply pw_below_drewN | apply below_drew1) | exact HB.out)) hb); clear HB; have HO156 := n0_; have HB := n1_; clear n0_ n1_; clear hb ho19; obtain ⟨Ao20, co20, eo20⟩ := Kd.R_slice HO156.out; subst eo20) | ((with_reducible refine gate_callee (f := 30) rfl ?_); refine goesL_ (some 9) rfl rfl Try.func30 (by kernel_rfl) rfl #[.slice Ao20 y154.length co20] rfl (by (try simp only [List.map_toArray, List.map_cons, List.map_nil]); first | done | rfl | (simp only [List.length_drop, List.length_take]; rfl)) ?_; (with_reducible refine (code_Check.calls k _ _ y154 t157 t158 _ ?side1 ?side2 A1.out).mono ?_); (case side1 => repeat (first | exact (Kd.R_reads' HO156.out).2.2 | (with_reducible refine Kd.C_alloc ?_ _) | (with_reducible refine Kd.C_drewN ?_ _) | (with_reducible refine Kd.C_drew ?_))); (case side2 => exact (Kd.R_reads' HO156.out).2.1); rintro e w21 ⟨rfl, hb⟩; refine ⟨_, rfl, ?_⟩; have n0_ := Aside0.mk (Kd.R_below (by (with_reducible repeat (first | apply Kd.R_alloc | apply Kd.R_drewN | apply Kd.R_drew)); exact HO156.out) hb); have n1_ := Aside0.mk (below_step (by repeat (first | (with_reducible first | exact HB.out | apply below_alloc | apply pw_below_drewN | apply below_drew1) | exact HB.out)) hb); clear HO156; clear HB; have HO156 := n0_; have HB := n1_; clear n0_ n1_; (try clear hb); (try clear hb2); (try clear hk); (try clear hi)) | ((with_reducible refine gate_dst (N := 14) rfl ?_); (try (refine gate_guard (by rfl) ?_; dsimp only)); refine Kd.R_lit k71 _ 71 ?hg (N := 14) ?hd (xs := ([(⟨4, 0, 0, 0⟩ : S71)] : List (S71))) (inner := [.int .i64 4, .int .i64 0, .int .i64 0, .int .i64 0]) (ok := fun _ => True) (okp := fun _ => True) ?hr ?hp (fun _ hk => hk) trivial (Below.refl _ _) (Nat.le_refl _) (by simp) ?_; (case hd => rfl); (case hg => rfl); (case hr => first | (go_simp; done) | (go_simp; rfl)); (case hp => exact (Reps.c4 (show Kd.M k71 _ _ _ (⟨4, 0, 0, 0⟩ : S71) [.int .i64 4, .int .i64 0, .int .i64 0, .int .i64 0] from (k71_mkM _ _ _ (⟨4, 0, 0, 0⟩ : S71) )) (Reps.none _ _))); intro v160 w22 ho23 hb hg_ hnew_; clear hg_ hnew_; (first | rw [← Ny159.out] at ho23 | (simp only [Int.reduceToNat] at ho23; rw [← Ny159.out] at ho23)); have n0_ := Aside0.mk (Kd.R_elder' (by (with_reducible repeat (first | apply Kd.R_alloc | apply Kd.R_drewN | apply Kd.R_drew)); exact HO156.out) (Kd.R_base ho23) hb); have n1_ := Aside0.mk (Kd.R_lower (Kd.R_new' ho23 (Kd.R_lt (by (with_reducible repeat (first | apply Kd.R_alloc | apply Kd.R_drewN | apply Kd.R_drew)); exact HO156.out))) (below_size (by repeat (first | (with_reducible first | exact HB.out | apply below_alloc | apply pw_below_drewN | apply below_drew1) | exact HB.out)))); have n2_ := Aside0.mk (below_step (by repeat (first | (with_reducible first | exact HB.out | apply below_alloc | apply pw_below_drewN | apply below_drew1) | exact HB.out)) hb); clear HO156; clear HB; have HO156 := n0_; have HO161 := n1_; have HB := n2_; clear n0_ n1_ n2_; clear hb ho23; obtain ⟨Ao24, co24, eo24⟩ := Kd.R_slice HO161.out; subst eo24) | ((with_reducible refine gate_callee (f := 30) rfl ?_); refine goesL_ (some 15) rfl rfl Try.func30 (by kernel_rfl) rfl #[.slice Ao24 y159.length co24] rfl (by (try simp only [List.map_toArray, List.map_cons, List.map_nil]); first | done | rfl | (simp only [List.length_drop, List.length_take]; rfl)) ?_; (with_reducible refine (code_Check.calls k _ _ y159 t162 t163 _ ?side1 ?side2 A2.out).mono ?_); (case side1 => repeat (first | exact (Kd.R_reads' HO161.out).2.2 | (with_reducible refine Kd.C_alloc ?_ _) | (with_reducible refine Kd.C_drewN ?_ _) | (with_reducible refine Kd.C_drew ?_))); (case side2 => exact (Kd.R_reads' HO161.out).2.1); rintro e w25 ⟨rfl, hb⟩; refine ⟨_, rfl, ?_⟩; have n0_ := Aside0.mk (Kd.R_below (by (with_reducible repeat (first | apply Kd.R_alloc | apply Kd.R_drewN | apply Kd.R_drew)); exact HO156.out) hb); have n1_ := Aside0.mk (Kd.R_below (by (with_reducible repeat (first | apply Kd.R_alloc | apply Kd.R_drewN | apply Kd.R_drew)); exact HO161.out) hb); have n2_ := Aside0.mk (below_step (by repeat (first | (with_reducible first | exact HB.out | apply below_alloc | apply pw_below_drewN | apply below_drew1) | exact HB.out)) hb); clear HO156; clear HO161; clear HB; have HO156 := n0_; have HO161 := n1_; have HB := n2_; clear n0_ n1_ n2_; (try clear hb); (try clear hb2); (try clear hk); (try clear hi)))
      go_ret
      exact ⟨by first | rfl | (simp [errW_none, errW_some] <;> rfl) | (simp [*, errW_none, errW_some] <;> rfl), by repeat (first | (with_reducible first | exact HB.out | apply below_alloc | apply pw_below_drewN | apply below_drew1) | exact HB.out)⟩
  · rw [if_neg c3] at H
    have c3b0 : (t158 == 0) = false := beq_eq_false_iff_ne.mpr c3
    have c3b1 : (t158 != 0) = true := bne_iff_ne.mpr c3
    obtain rfl := Option.some.inj H
    simp only [Option.some.injEq, Prod.mk.injEq] at H
    obtain ⟨rfl⟩ := H
    go_enter Try.func29, Try.ntmps29
    go_wp2_with (first | ((with_reducible refine gate_dst (N := 8) rfl ?_); (try (refine gate_guard (by rfl) ?_; dsimp only)); refine Kd.R_lit k71 _ 71 ?hg (N := 8) ?hd (xs := ([(⟨4, 0, 0, 0⟩ : S71), (⟨5, 0, 0, 0⟩ : S71)] : List (S71))) (inner := [.int .i64 4, .int .i64 0, .int .i64 0, .int .i64 0, .int .i64 5, .int .i64 0, .int .i64 0, .int .i64 0]) (ok := fun _ => True) (okp := fun _ => True) ?hr ?hp (fun _ hk => hk) trivial (Below.refl _ _) (Nat.le_refl _) (by simp) ?_; (case hd => rfl); (case hg => rfl); (case hr => first | (go_simp; done) | (go_simp; rfl)); (case hp => exact (Reps.c4 (show Kd.M k71 _ _ _ (⟨4, 0, 0, 0⟩ : S71) [.int .i64 4, .int .i64 0, .int .i64 0, .int .i64 0] from (k71_mkM _ _ _ (⟨4, 0, 0, 0⟩ : S71) )) (Reps.c4 (show Kd.M k71 _ _ _ (⟨5, 0, 0, 0⟩ : S71) [.int .i64 5, .int .i64 0, .int .i64 0, .int .i64 0] from (k71_mkM _ _ _ (⟨5, 0, 0, 0⟩ : S71) )) (Reps.none _ _)))); intro v155 w26 ho27 hb hg_ hnew_; clear hg_ hnew_; (first | rw [← Ny154.out] at ho27 | (simp only [Int.reduceToNat] at ho27; rw [← Ny154.out] at ho27)); have n0_ := Aside0.mk (Kd.R_lower ho27 (below_size (by repeat (first | (with_reducible first | exact HB.out | apply below_alloc | apply pw_below_drewN | apply below_drew1) | exact HB.out)))); have n1_ := Aside0.mk (below_step (by repeat (first | (with_reducible first | exact HB.out | apply below_alloc | apply pw_below_drewN | apply below_drew1) | exact HB.out)) hb); clear HB; have HO156 := n0_; have HB := n1_; clear n0_ n1_; clear hb ho27; obtain ⟨Ao28, co28, eo28⟩ := Kd.R_slice HO156.out; subst eo28) | ((with_reducible refine gate_callee (f := 30) rfl ?_); refine goesL_ (some 9) rfl rfl Try.func30 (by kernel_rfl) rfl #[.slice Ao28 y154.length co28] rfl (by (try simp only [List.map_toArray, List.map_cons, List.map_nil]); first | done | rfl | (simp only [List.length_drop, List.length_take]; rfl)) ?_; (with_reducible refine (code_Check.calls k _ _ y154 t157 t158 _ ?side1 ?side2 A1.out).mono ?_); (case side1 => repeat (first | exact (Kd.R_reads' HO156.out).2.2 | (with_reducible refine Kd.C_alloc ?_ _) | (with_reducible refine Kd.C_drewN ?_ _) | (with_reducible refine Kd.C_drew ?_))); (case side2 => exact (Kd.R_reads' HO156.out).2.1); rintro e w29 ⟨rfl, hb⟩; refine ⟨_, rfl, ?_⟩; have n0_ := Aside0.mk (Kd.R_below (by (with_reducible repeat (first | apply Kd.R_alloc | apply Kd.R_drewN | apply Kd.R_drew)); exact HO156.out) hb); have n1_ := Aside0.mk (below_step (by repeat (first | (with_reducible first | exact HB.out | apply below_alloc | apply pw_below_drewN | apply below_drew1) | exact HB.out)) hb); clear HO156; clear HB; have HO156 := n0_; have HB := n1_; clear n0_ n1_; (try clear hb); (try clear hb2); (try clear hk); (try clear hi)) | ((with_reducible refine gate_dst (N := 14) rfl ?_); (try (refine gate_guard (by rfl) ?_; dsimp only)); refine Kd.R_lit k71 _ 71 ?hg (N := 14) ?hd (xs := ([(⟨4, 0, 0, 0⟩ : S71)] : List (S71))) (inner := [.int .i64 4, .int .i64 0, .int .i64 0, .int .i64 0]) (ok := fun _ => True) (okp := fun _ => True) ?hr ?hp (fun _ hk => hk) trivial (Below.refl _ _) (Nat.le_refl _) (by simp) ?_; (case hd => rfl); (case hg => rfl); (case hr => first | (go_simp; done) | (go_simp; rfl)); (case hp => exact (Reps.c4 (show Kd.M k71 _ _ _ (⟨4, 0, 0, 0⟩ : S71) [.int .i64 4, .int .i64 0, .int .i64 0, .int .i64 0] from (k71_mkM _ _ _ (⟨4, 0, 0, 0⟩ : S71) )) (Reps.none _ _))); intro v160 w30 ho31 hb hg_ hnew_; clear hg_ hnew_; (first | rw [← Ny159.out] at ho31 | (simp only [Int.reduceToNat] at ho31; rw [← Ny159.out] at ho31)); have n0_ := Aside0.mk (Kd.R_elder' (by (with_reducible repeat (first | apply Kd.R_alloc | apply Kd.R_drewN | apply Kd.R_drew)); exact HO156.out) (Kd.R_base ho31) hb); have n1_ := Aside0.mk (Kd.R_lower (Kd.R_new' ho31 (Kd.R_lt (by (with_reducible repeat (first | apply Kd.R_alloc | apply Kd.R_drewN | apply Kd.R_drew)); exact HO156.out))) (below_size (by repeat (first | (with_reducible first | exact HB.out | apply below_alloc | apply pw_below_drewN | apply below_drew1) | exact HB.out)))); have n2_ := Aside0.mk (below_step (by repeat (first | (with_reducible first | exact HB.out | apply below_alloc | apply pw_below_drewN | apply below_drew1) | exact HB.out)) hb); clear HO156; clear HB; have HO156 := n0_; have HO161 := n1_; have HB := n2_; clear n0_ n1_ n2_; clear hb ho31; obtain ⟨Ao32, co32, eo32⟩ := Kd.R_slice HO161.out; subst eo32) | ((with_reducible refine gate_callee (f := 30) rfl ?_); refine goesL_ (some 15) rfl rfl Try.func30 (by kernel_rfl) rfl #[.slice Ao32 y159.length co32] rfl (by (try simp only [List.map_toArray, List.map_cons, List.map_nil]); first | done | rfl | (simp only [List.length_drop, List.length_take]; rfl)) ?_; (with_reducible refine (code_Check.calls k _ _ y159 t162 t163 _ ?side1 ?side2 A2.out).mono ?_); (case side1 => repeat (first | exact (Kd.R_reads' HO161.out).2.2 | (with_reducible refine Kd.C_alloc ?_ _) | (with_reducible refine Kd.C_drewN ?_ _) | (with_reducible refine Kd.C_drew ?_))); (case side2 => exact (Kd.R_reads' HO161.out).2.1); rintro e w33 ⟨rfl, hb⟩; refine ⟨_, rfl, ?_⟩; have n0_ := Aside0.mk (Kd.R_below (by (with_reducible repeat (first | apply Kd.R_alloc | apply Kd.R_drewN | apply Kd.R_drew)); exact HO156.out) hb); have n1_ := Aside0.mk (Kd.R_below (by (with_reducible repeat (first | apply Kd.R_alloc | apply Kd.R_drewN | apply Kd.R_drew)); exact HO161.out) hb); have n2_ := Aside0.mk (below_step (by repeat (first | (with_reducible first | exact HB.out | apply below_alloc | apply pw_below_drewN | apply below_drew1) | exact HB.out)) hb); clear HO156; clear HO161; clear HB; have HO156 := n0_; have HO161 := n1_; have HB := n2_; clear n0_ n1_ n2_; (try clear hb); (try clear hb2); (try clear hk); (try clear hi)))
    go_ret
    exact ⟨by first | rfl | (simp [errW_none, errW_some] <;> rfl) | (simp [*, errW_none, errW_some] <;> rfl), by repeat (first | (with_reducible first | exact HB.out | apply below_alloc | apply pw_below_drewN | apply below_drew1) | exact HB.out)⟩

/-! ### countermandlaw07_CodeShifts: function 11 -/
mutual
def countermandlaw07_CodeShifts.j0 : Nat → List (S71) → Int → Int → Bool → Option (Bool)
  | 0, _, _, _, _ => none
  | k + 1, x0, x1, x2, x35 => if x35 = true then (some true) else (countermandlaw07_CodeShifts.l0 k x0 (([(⟨1, x1, x2, 0⟩ : S71)] : List (S71))) x0 (x0.length : Int) 0)
def countermandlaw07_CodeShifts.l0 : Nat → List (S71) → List (S71) → List (S71) → Int → Int → Option (Bool)
  | 0, _, _, _, _, _ => none
  | k + 1, x0, x9, x40, x41, x42 => if x42 < x41 then (if 0 ≤ x42 then (if x42 < (x40.length : Int) then (if ((rd_T71 x40 x42).f0) = 3 then (if x9.length < 4398046511104 then (countermandlaw07_CodeShifts.l0 k x0 (x9 ++ [(⟨(rd_T71 x40 x42).f0, wrap64 (((rd_T71 x40 x42).f1) + 1), (rd_T71 x40 x42).f2, (rd_T71 x40 x42).f3⟩ : S71)]) x40 x41 (wrap64 (x42 + 1))) else (none)) else (if ((rd_T71 x40 x42).f0) = 20 then (if x9.length < 4398046511104 then (countermandlaw07_CodeShifts.l0 k x0 (x9 ++ [(⟨(rd_T71 x40 x42).f0, wrap64 (((rd_T71 x40 x42).f1) + 1), (rd_T71 x40 x42).f2, (rd_T71 x40 x42).f3⟩ : S71)]) x40 x41 (wrap64 (x42 + 1))) else (none)) else (if x9.length < 4398046511104 then (countermandlaw07_CodeShifts.l0 k x0 (x9 ++ [(⟨(rd_T71 x40 x42).f0, (rd_T71 x40 x42).f1, (rd_T71 x40 x42).f2, (rd_T71 x40 x42).f3⟩ : S71)]) x40 x41 (wrap64 (x42 + 1))) else (none)))) else (none)) else (none)) else ((code_Check.f k x9).bind fun bt185 => (if bt185.2 = 0 then ((code_Blocks.f k x9).bind fun t187 => ((code_Blocks.f k x0).bind fun t188 => (some (t187 == t188)))) else (some false)))
end
def countermandlaw07_CodeShifts.f (k : Nat) (l0 : List (S71)) (a1 : Int) (a2 : Int) : Option (Bool) := (countermandlaw07_alive.f k).bind fun t168 => (if t168 = true then ((code_Check.f k l0).bind fun bt169 => (if bt169.2 = 0 then (if (l0.length : Int) > 47 then (countermandlaw07_CodeShifts.j0 k l0 a1 a2 true) else (if a1 < 0 then (countermandlaw07_CodeShifts.j0 k l0 a1 a2 true) else (countermandlaw07_CodeShifts.j0 k l0 a1 a2 (decide (a1 > 3))))) else (countermandlaw07_CodeShifts.j0 k l0 a1 a2 true))) else (some false))
theorem countermandlaw07_CodeShifts.mono_l : ∀ k, (∀ y0 y1 y2 y3, LeO (countermandlaw07_CodeShifts.j0 k y0 y1 y2 y3) (countermandlaw07_CodeShifts.j0 (k + 1) y0 y1 y2 y3)) ∧ (∀ y0 y1 y2 y3 y4, LeO (countermandlaw07_CodeShifts.l0 k y0 y1 y2 y3 y4) (countermandlaw07_CodeShifts.l0 (k + 1) y0 y1 y2 y3 y4))
  | 0 => ⟨fun _ _ _ _ r h => by simp [countermandlaw07_CodeShifts.j0] at h, fun _ _ _ _ _ r h => by simp [countermandlaw07_CodeShifts.l0] at h⟩
  | k + 1 => by
    obtain ⟨ih0, ih1⟩ := countermandlaw07_CodeShifts.mono_l k
    refine ⟨?_, ?_⟩
    · intro y0 y1 y2 y3
      unfold countermandlaw07_CodeShifts.j0
      repeat' first
      | (with_reducible exact ih0 _ _ _ _)
      | (with_reducible exact ih1 _ _ _ _ _)
      | (with_reducible exact code_Blocks.mono _ _)
      | (with_reducible exact code_Check.mono _ _)
      | (with_reducible exact countermandlaw07_alive.mono _)
      | (with_reducible exact LeO.refl _)
      | (with_reducible exact LeO.none _)
      | (with_reducible refine LeO.ite ?_ ?_)
      | (with_reducible refine LeO.bind ?_ (fun _ => ?_))
      | exact ih0 _ _ _ _
      | exact ih1 _ _ _ _ _
      | exact code_Blocks.mono _ _
      | exact code_Check.mono _ _
      | exact countermandlaw07_alive.mono _
      | exact LeO.none _
      | refine LeO.ite ?_ ?_
      | refine LeO.bind ?_ (fun _ => ?_)
    · intro y0 y1 y2 y3 y4
      unfold countermandlaw07_CodeShifts.l0
      repeat' first
      | (with_reducible exact ih0 _ _ _ _)
      | (with_reducible exact ih1 _ _ _ _ _)
      | (with_reducible exact code_Blocks.mono _ _)
      | (with_reducible exact code_Check.mono _ _)
      | (with_reducible exact countermandlaw07_alive.mono _)
      | (with_reducible exact LeO.refl _)
      | (with_reducible exact LeO.none _)
      | (with_reducible refine LeO.ite ?_ ?_)
      | (with_reducible refine LeO.bind ?_ (fun _ => ?_))
      | exact ih0 _ _ _ _
      | exact ih1 _ _ _ _ _
      | exact code_Blocks.mono _ _
      | exact code_Check.mono _ _
      | exact countermandlaw07_alive.mono _
      | exact LeO.none _
      | refine LeO.ite ?_ ?_
      | refine LeO.bind ?_ (fun _ => ?_)
theorem countermandlaw07_CodeShifts.mono : ∀ a0 a1 a2 k, LeO (countermandlaw07_CodeShifts.f k a0 a1 a2) (countermandlaw07_CodeShifts.f (k + 1) a0 a1 a2) := by
  intro a0 a1 a2 k
  obtain ⟨ih0, ih1⟩ := countermandlaw07_CodeShifts.mono_l k
  unfold countermandlaw07_CodeShifts.f
  repeat' first
      | (with_reducible exact ih0 _ _ _ _)
      | (with_reducible exact ih1 _ _ _ _ _)
      | (with_reducible exact code_Blocks.mono _ _)
      | (with_reducible exact code_Check.mono _ _)
      | (with_reducible exact countermandlaw07_alive.mono _)
      | (with_reducible exact LeO.refl _)
      | (with_reducible exact LeO.none _)
      | (with_reducible refine LeO.ite ?_ ?_)
      | (with_reducible refine LeO.bind ?_ (fun _ => ?_))
      | exact ih0 _ _ _ _
      | exact ih1 _ _ _ _ _
      | exact code_Blocks.mono _ _
      | exact code_Check.mono _ _
      | exact countermandlaw07_alive.mono _
      | exact LeO.none _
      | refine LeO.ite ?_ ?_
      | refine LeO.bind ?_ (fun _ => ?_)
set_option maxHeartbeats 8000000 in
set_option maxRecDepth 100000 in
theorem countermandlaw07_CodeShifts.calls (k : Nat) (A0 : Option Addr) (c0 : Nat) (l0 : List (S71)) (a1 : Int) (a2 : Int) (r : Bool) (w : World) (hr0 : Kd.C k71 w A0 l0.length l0) (hc0 : l0.length ≤ c0) (h : countermandlaw07_CodeShifts.f k l0 a1 a2 = some r) (hrT : r = true) :
    Calls Try.prog 11 #[.slice A0 l0.length c0, .int .i64 a1, .int .i64 a2] w fun e w' => e = .returned (.bool r) ∧ Below w.heap.size w w' := by
  have hu71 := Try.underlying71
  have HR0 := Aside0.mk hr0
  have HC0 := Aside0.mk hc0
  clear hr0 hc0
  have HB := Aside0.mk (Below.refl w.heap.size w)
  have H : ((countermandlaw07_alive.f k).bind fun t168 => (if t168 = true then ((code_Check.f k l0).bind fun bt169 => (if bt169.2 = 0 then (if (l0.length : Int) > 47 then (countermandlaw07_CodeShifts.j0 k l0 a1 a2 true) else (if a1 < 0 then (countermandlaw07_CodeShifts.j0 k l0 a1 a2 true) else (countermandlaw07_CodeShifts.j0 k l0 a1 a2 (decide (a1 > 3))))) else (countermandlaw07_CodeShifts.j0 k l0 a1 a2 true))) else (some false))) = some r := h
  clear h
  replace H := Option.bind_eq_some_iff.mp H
  obtain ⟨t168, A40, H⟩ := H
  replace H : (if t168 = true then ((code_Check.f k l0).bind fun bt169 => (if bt169.2 = 0 then (if (l0.length : Int) > 47 then (countermandlaw07_CodeShifts.j0 k l0 a1 a2 true) else (if a1 < 0 then (countermandlaw07_CodeShifts.j0 k l0 a1 a2 true) else (countermandlaw07_CodeShifts.j0 k l0 a1 a2 (decide (a1 > 3))))) else (countermandlaw07_CodeShifts.j0 k l0 a1 a2 true))) else (some false)) = some r := H
  have A4 := Aside0.mk A40
  clear A40
  by_cases c5 : t168 = true
  · subst c5
    have H1 : ((code_Check.f k l0).bind fun bt169 => (if bt169.2 = 0 then (if (l0.length : Int) > 47 then (countermandlaw07_CodeShifts.j0 k l0 a1 a2 true) else (if a1 < 0 then (countermandlaw07_CodeShifts.j0 k l0 a1 a2 true) else (countermandlaw07_CodeShifts.j0 k l0 a1 a2 (decide (a1 > 3))))) else (countermandlaw07_CodeShifts.j0 k l0 a1 a2 true))) = some r := by rw [if_pos rfl] at H; exact H
    clear H
    have H := H1
    clear H1
    replace H := Option.bind_eq_some_iff.mp H
    obtain ⟨⟨t169, t170⟩, A60, H⟩ := H
    replace H : (if t170 = 0 then (if (l0.length : Int) > 47 then (countermandlaw07_CodeShifts.j0 k l0 a1 a2 true) else (if a1 < 0 then (countermandlaw07_CodeShifts.j0 k l0 a1 a2 true) else (countermandlaw07_CodeShifts.j0 k l0 a1 a2 (decide (a1 > 3))))) else (countermandlaw07_CodeShifts.j0 k l0 a1 a2 true)) = some r := H
    have A6 := Aside0.mk A60
    clear A60
    have HC7 := Aside0.mk H
    clear H
    go_enter Try.func11, Try.ntmps11
    go_upto_region 4 with (first | ((with_reducible refine gate_callee (f := 29) rfl ?_); refine goesL_ (some 14) rfl rfl Try.func29 (by kernel_rfl) rfl #[] rfl (by (try simp only [List.map_toArray, List.map_cons, List.map_nil]); first | done | rfl | (simp only [List.length_drop, List.length_take]; rfl)) ?_; (with_reducible refine (countermandlaw07_alive.calls k  true _ A4.out).mono ?_); rintro e w8 ⟨rfl, hb⟩; refine ⟨_, rfl, ?_⟩; have n0_ := Aside0.mk (below_step (by repeat (first | (with_reducible first | exact HB.out | apply below_alloc | apply pw_below_drewN | apply below_drew1) | exact HB.out)) hb); clear HB; have HB := n0_; clear n0_; (try clear hb); (try clear hb2); (try clear hk); (try clear hi)) | ((with_reducible refine gate_callee (f := 30) rfl ?_); refine goesL_ (some 18) rfl rfl Try.func30 (by kernel_rfl) rfl #[.slice A0 l0.length c0] rfl (by (try simp only [List.map_toArray, List.map_cons, List.map_nil]); first | done | rfl | (simp only [List.length_drop, List.length_take]; rfl)) ?_; (with_reducible refine (code_Check.calls k _ _ l0 t169 t170 _ ?side1 ?side2 A6.out).mono ?_); (case side1 => repeat (first | exact (Kd.C_below HR0.out HB.out) | (with_reducible refine Kd.C_alloc ?_ _) | (with_reducible refine Kd.C_drewN ?_ _) | (with_reducible refine Kd.C_drew ?_))); (case side2 => exact HC0.out); rintro e w9 ⟨rfl, hb⟩; refine ⟨_, rfl, ?_⟩; have n0_ := Aside0.mk (below_step (by repeat (first | (with_reducible first | exact HB.out | apply below_alloc | apply pw_below_drewN | apply below_drew1) | exact HB.out)) hb); clear HB; have HB := n0_; clear n0_; (try clear hb); (try clear hb2); (try clear hk); (try clear hi)))
    (try simp only [Act.put, List.setIfInBounds_toArray, List.set_cons_zero, List.set_cons_succ])
    go_cut [35] (fun v35 wc => ∃ (kq : Nat) (x35_6 : Bool), v35 = .bool x35_6 ∧ Aside0 (countermandlaw07_CodeShifts.j0 kq l0 a1 a2 x35_6 = some r) ∧ Aside0 (kq ≤ k) ∧ Aside0 (Below w.heap.size w wc))
    case first =>
      have H := HC7.out
      clear HC7
      by_cases c10 : t170 = 0
      · rw [if_pos c10] at H
        have c10b0 : (t170 == 0) = true := beq_iff_eq.mpr c10
        have c10b1 : (t170 != 0) = false := bne_eq_false_iff_eq.mpr c10
        clear c10
        (first | rw [c10b0] | (simp only [i64_w, i32_w]; rw [c10b0]) | skip)
        by_cases c11 : (l0.length : Int) > 47
        · rw [if_pos c11] at H
          have c11b0 : decide (47 < (l0.length : Int)) = true := decide_eq_true c11
          have c11b1 : decide (47 < l0.length) = true := decide_eq_true (by omega)
          clear c11
          have H' := Aside0.mk H
          clear H
          go_wp2
          go_meet
          case rel => exact ⟨_, (true), (by first | rfl | (simp; done) | (simp [*]; done)), H', ⟨by first | omega | exact Nat.le_refl _⟩, ⟨by repeat (first | (with_reducible first | exact HB.out | apply below_alloc | apply pw_below_drewN | apply below_drew1) | exact HB.out)⟩⟩
        · rw [if_neg c11] at H
          have c11b0 : decide (47 < (l0.length : Int)) = false := decide_eq_false c11
          have c11b1 : decide (47 < l0.length) = false := decide_eq_false (by omega)
          clear c11
          by_cases c12 : a1 < 0
          · rw [if_pos c12] at H
            have c12b0 : decide (a1 < 0) = true := decide_eq_true c12
            clear c12
            have H' := Aside0.mk H
            clear H
            go_wp2
            go_meet
            case rel => exact ⟨_, (true), (by first | rfl | (simp; done) | (simp [*]; done)), H', ⟨by first | omega | exact Nat.le_refl _⟩, ⟨by repeat (first | (with_reducible first | exact HB.out | apply below_alloc | apply pw_below_drewN | apply below_drew1) | exact HB.out)⟩⟩
          · rw [if_neg c12] at H
            have c12b0 : decide (a1 < 0) = false := decide_eq_false c12
            clear c12
            have H' := Aside0.mk H
            clear H
            go_wp2
            go_meet
            case rel => exact ⟨_, (decide (a1 > 3)), (by first | rfl | (simp; done) | (simp [*]; done)), H', ⟨by first | omega | exact Nat.le_refl _⟩, ⟨by repeat (first | (with_reducible first | exact HB.out | apply below_alloc | apply pw_below_drewN | apply below_drew1) | exact HB.out)⟩⟩
      · rw [if_neg c10] at H
        have c10b0 : (t170 == 0) = false := beq_eq_false_iff_ne.mpr c10
        have c10b1 : (t170 != 0) = true := bne_iff_ne.mpr c10
        (first | rw [c10b0] | (simp only [i64_w, i32_w]; rw [c10b0]) | skip)
        have H' := Aside0.mk H
        clear H
        go_wp2
        go_meet
        case rel => exact ⟨_, (true), (by first | rfl | (simp; done) | (simp [*]; done)), H', ⟨by first | omega | exact Nat.le_refl _⟩, ⟨by repeat (first | (with_reducible first | exact HB.out | apply below_alloc | apply pw_below_drewN | apply below_drew1) | exact HB.out)⟩⟩
    case rest =>
      clear HC7
      try clear c1
      try clear c2
      try clear p2
      try clear c3
      try clear c5
      try clear c10
      try clear c10b0
      try clear c10b1
      try clear c11
      try clear c11b0
      try clear c11b1
      try clear c12
      try clear c12b0
      obtain ⟨kq, x35_6, rfl, HA, HJ6, HB⟩ := hcut
      cases kq with
      | zero => exact absurd HA.out (by simp [countermandlaw07_CodeShifts.j0])
      | succ kj6 =>
        have H := HA.out
        clear HA
        simp only [countermandlaw07_CodeShifts.j0] at H
        by_cases c13 : x35_6 = true
        · subst c13
          have H1 : (some true) = some r := by rw [if_pos rfl] at H; exact H
          clear H
          have H := H1
          clear H1
          obtain rfl := Option.some.inj H
          clear hrT
          go_wp2
          go_ret
          exact ⟨by first | rfl | (simp [errW_none, errW_some] <;> rfl) | (simp [*, errW_none, errW_some] <;> rfl), by repeat (first | (with_reducible first | exact HB.out | apply below_alloc | apply pw_below_drewN | apply below_drew1) | exact HB.out)⟩
        · replace c13 := Bool.eq_false_iff.mpr c13
          subst c13
          have H1 : (countermandlaw07_CodeShifts.l0 kj6 l0 (([(⟨1, a1, a2, 0⟩ : S71)] : List (S71))) l0 (l0.length : Int) 0) = some r := by rw [if_neg (show ¬ (false = true) by decide)] at H; exact H
          clear H
          have H := H1
          clear H1
          obtain ⟨y171, hy171⟩ : ∃ y_ : List (S71), y_ = (([(⟨1, a1, a2, 0⟩ : S71)] : List (S71))) := ⟨_, rfl⟩
          replace H : (countermandlaw07_CodeShifts.l0 kj6 l0 y171 l0 (l0.length : Int) 0) = some r := by first | (rw [hy171]; with_reducible exact H) | (have H2_ := (Option.bind_some _ _).symm.trans H; rw [hy171]; with_reducible exact H2_) | (have H2_ := (Option.bind_some _ _).symm.trans H; with_reducible exact H2_) | with_reducible exact H | (rw [hy171]; exact H) | exact H
          have Ny171 := Aside0.mk hy171
          clear hy171
          have H' := Aside0.mk H
          clear H
          go_wp2_with (first | ((with_reducible refine gate_dst (N := 39) rfl ?_); (try (refine gate_guard (by rfl) ?_; dsimp only)); refine Kd.R_lit k71 _ 71 ?hg (N := 39) ?hd (xs := ([(⟨1, a1, a2, 0⟩ : S71)] : List (S71))) (inner := [.int .i64 1, .int .i64 a1, .int .i64 a2, .int .i64 0]) (ok := fun _ => True) (okp := fun _ => True) ?hr ?hp (fun _ hk => hk) trivial (Below.refl _ _) (Nat.le_refl _) (by simp) ?_; (case hd => rfl); (case hg => rfl); (case hr => first | (go_simp; done) | (go_simp; rfl)); (case hp => exact (Reps.c4 (show Kd.M k71 _ _ _ (⟨1, a1, a2, 0⟩ : S71) [.int .i64 1, .int .i64 a1, .int .i64 a2, .int .i64 0] from (k71_mkM _ _ _ (⟨1, a1, a2, 0⟩ : S71) )) (Reps.none _ _))); intro v172 w14 ho15 hb hg_ hnew_; clear hg_ hnew_; (first | rw [← Ny171.out] at ho15 | (simp only [Int.reduceToNat] at ho15; rw [← Ny171.out] at ho15)); have n0_ := Aside0.mk (Kd.R_lower ho15 (below_size (by repeat (first | (with_reducible first | exact HB.out | apply below_alloc | apply pw_below_drewN | apply below_drew1) | exact HB.out)))); have n1_ := Aside0.mk (below_step (by repeat (first | (with_reducible first | exact HB.out | apply below_alloc | apply pw_below_drewN | apply below_drew1) | exact HB.out)) hb); clear HB; have HO173 := n0_; have HB := n1_; clear n0_ n1_; clear hb ho15))
          go_loopg [9, 42] kj6 (fun kq v9 v42 w' => ∃ (x9_2 : List (S71)) (x42_2 : Int), v42 = .int .i64 x42_2 ∧ Aside0 (countermandlaw07_CodeShifts.l0 kq l0 x9_2 l0 (l0.length : Int) x42_2 = some r) ∧ Aside0 (kq ≤ kj6) ∧ Aside0 (Kd.R k71 71 w' w.heap.size (fun _ => True) v9 x9_2) ∧ Aside0 (Below w.heap.size w w'))
          case atStart => exact ⟨(y171), (0), (by first | rfl | (simp; done) | (simp [*]; done)), H', ⟨Nat.le_refl _⟩, ⟨by (with_reducible repeat (first | apply Kd.R_alloc | apply Kd.R_drewN | apply Kd.R_drew)); exact HO173.out⟩, ⟨by repeat (first | (with_reducible first | exact HB.out | apply below_alloc | apply pw_below_drewN | apply below_drew1) | exact HB.out)⟩⟩
          case round =>
            clear H'
            try clear c1
            try clear c2
            try clear p2
            try clear c3
            try clear c4
            try clear c5
            try clear c10
            try clear c10b0
            try clear c10b1
            try clear c11
            try clear c11b0
            try clear c11b1
            try clear c12
            try clear c12b0
            try clear c13
            try clear p2
            obtain ⟨x9_2, x42_2, rfl, HA, HK2, HO_9, HB⟩ := hrel
            cases gk with
            | zero => exact absurd HA.out (by simp [countermandlaw07_CodeShifts.l0])
            | succ k2 =>
              have H := HA.out
              clear HA
              simp only [countermandlaw07_CodeShifts.l0] at H
              by_cases c16 : x42_2 < (l0.length : Int)
              · rw [if_pos c16] at H
                have c16b0 : decide (x42_2 < (l0.length : Int)) = true := decide_eq_true c16
                clear c16
                by_cases c17 : 0 ≤ x42_2
                · rw [if_pos c17] at H
                  have c17b0 : decide (0 ≤ x42_2) = true := decide_eq_true c17
                  clear c17
                  by_cases c18 : x42_2 < (l0.length : Int)
                  · rw [if_pos c18] at H
                    have c18b0 : decide (x42_2 < (l0.length : Int)) = true := decide_eq_true c18
                    clear c18
                    by_cases c19 : ((rd_T71 l0 x42_2).f0) = 3
                    · rw [if_pos c19] at H
                      have c19b0 : (((rd_T71 l0 x42_2).f0) == 3) = true := beq_iff_eq.mpr c19
                      have c19b1 : (((rd_T71 l0 x42_2).f0) != 3) = false := bne_eq_false_iff_eq.mpr c19
                      clear c19
                      by_cases c20 : x9_2.length < 4398046511104
                      · rw [if_pos c20] at H
                        have LMc20 := Aside0.mk c20
                        clear c20
                        obtain ⟨y176, hy176⟩ : ∃ y_ : List (S71), y_ = (x9_2 ++ [(⟨(rd_T71 l0 x42_2).f0, wrap64 (((rd_T71 l0 x42_2).f1) + 1), (rd_T71 l0 x42_2).f2, (rd_T71 l0 x42_2).f3⟩ : S71)]) := ⟨_, rfl⟩
                        replace H : (countermandlaw07_CodeShifts.l0 k2 l0 y176 l0 (l0.length : Int) (wrap64 (x42_2 + 1))) = some r := by first | (rw [hy176]; with_reducible exact H) | (have H2_ := (Option.bind_some _ _).symm.trans H; rw [hy176]; with_reducible exact H2_) | (have H2_ := (Option.bind_some _ _).symm.trans H; with_reducible exact H2_) | with_reducible exact H | (rw [hy176]; exact H) | exact H
                        have Ny176 := Aside0.mk hy176
                        clear hy176
                        have H' := Aside0.mk H
                        clear H
                        have p174 : 0 ≤ (x42_2 : Int) := of_decide_eq_true (by first | (with_reducible assumption) | assumption)
                        have q174 : x42_2 < (l0.length : Int) := of_decide_eq_true (by first | (with_reducible assumption) | assumption)
                        obtain ⟨ad174, e174, hx174_0, hx174_1, hx174_2, hx174_3⟩ := at_T71 HR0.out x42_2 p174 q174
                        cases e174
                        replace hx174_0 := (HB.out.cell (World.block_lt_of_cell? w _ hx174_0)).trans hx174_0
                        replace hx174_1 := (HB.out.cell (World.block_lt_of_cell? w _ hx174_1)).trans hx174_1
                        replace hx174_2 := (HB.out.cell (World.block_lt_of_cell? w _ hx174_2)).trans hx174_2
                        replace hx174_3 := (HB.out.cell (World.block_lt_of_cell? w _ hx174_3)).trans hx174_3
                        replace p174 := eq_true p174
                        replace q174 := eq_true q174
                        go_upto_region 12 with (first | ((with_reducible refine gate_dst (N := 11) rfl ?_); (try (refine gate_guard (by rfl) ?_; dsimp only)); refine box_event ?hg (N := 11) ?hd (cs := #[.int .i64 0, .int .i64 0, .int .i64 0, .int .i64 0]) (t := 71) ?hr ?_; (case hd => rfl); (case hg => rfl); (case hr => first | (go_simp; done) | (go_simp; rfl)); intro gb175 hg w21 hbox hb; have n0_ := Aside0.mk (Kd.R_below (Kd.R_elderB (by (with_reducible repeat (first | apply Kd.R_alloc | apply Kd.R_drewN | apply Kd.R_drew)); exact HO_9.out) gb175 (Nat.le_of_eq hg.symm)) hb); have n1_ := Aside0.mk (below_step (by repeat (first | (with_reducible first | exact HB.out | apply below_alloc | apply pw_below_drewN | apply below_drew1) | exact HB.out)) hb); have n2_ := Aside0.mk (hbox); have n3_ := Aside0.mk ((by rw [hg]; exact (below_size (by repeat (first | (with_reducible first | exact HB.out | apply below_alloc | apply pw_below_drewN | apply below_drew1) | exact HB.out))) : w.heap.size ≤ gb175)); have n4_ := Aside0.mk ((by rw [hg]; exact (below_size (by repeat (first | (with_reducible first | exact HB.out | apply below_alloc | apply pw_below_drewN | apply below_drew1) | exact HB.out))) : w.heap.size ≤ gb175)); clear HO_9; clear HB; have HO_9 := n0_; have HB := n1_; have BK175 := n2_; have GW175 := n3_; have GE175 := n4_; clear n0_ n1_ n2_ n3_ n4_; clear hb hbox hg; have hcz22_0 : w21.cell? ⟨gb175, 0, none⟩ = some (.int .i64 0) := (blk_cell BK175.out 0).trans rfl; have hcz22_1 : w21.cell? ⟨gb175, 1, none⟩ = some (.int .i64 0) := (blk_cell BK175.out 1).trans rfl; have hcz22_2 : w21.cell? ⟨gb175, 2, none⟩ = some (.int .i64 0) := (blk_cell BK175.out 2).trans rfl; have hcz22_3 : w21.cell? ⟨gb175, 3, none⟩ = some (.int .i64 0) := (blk_cell BK175.out 3).trans rfl; have hfz22_0 := blk_frozen BK175.out 0; have hfz22_1 := blk_frozen BK175.out 1; have hfz22_2 := blk_frozen BK175.out 2; have hfz22_3 := blk_frozen BK175.out 3))
                        obtain ⟨W_, hW_⟩ : ∃ W_, W_ = (((((w21.setCell ⟨gb175, 0, none⟩ (.int .i64 ((rd_T71 l0 x42_2).f0))).setCell ⟨gb175, 1, none⟩ (.int .i64 ((rd_T71 l0 x42_2).f1))).setCell ⟨gb175, 2, none⟩ (.int .i64 ((rd_T71 l0 x42_2).f2))).setCell ⟨gb175, 3, none⟩ (.int .i64 ((rd_T71 l0 x42_2).f3))).setCell ⟨gb175, 1, none⟩ (.int .i64 (wrap64 (((rd_T71 l0 x42_2).f1) + 1)))) := ⟨_, rfl⟩
                        rw [← hW_]
                        have nb_ := Aside0.mk (show W_.heap[gb175]? = some (.cells #[.int .i64 ((rd_T71 l0 x42_2).f0), .int .i64 (wrap64 (((rd_T71 l0 x42_2).f1) + 1)), .int .i64 ((rd_T71 l0 x42_2).f2), .int .i64 ((rd_T71 l0 x42_2).f3)] 71 (0, 0)) from by rw [hW_]; (with_reducible repeat (first | refine blk_drewN ?_ _ | refine blk_drew ?_ | refine blk_alloc ?_ _)); refine blk_put (cs := #[.int .i64 ((rd_T71 l0 x42_2).f0), .int .i64 ((rd_T71 l0 x42_2).f1), .int .i64 ((rd_T71 l0 x42_2).f2), .int .i64 ((rd_T71 l0 x42_2).f3)]) ?_ 1 _ rfl; (with_reducible repeat (first | refine blk_drewN ?_ _ | refine blk_drew ?_ | refine blk_alloc ?_ _)); refine blk_put (cs := #[.int .i64 ((rd_T71 l0 x42_2).f0), .int .i64 ((rd_T71 l0 x42_2).f1), .int .i64 ((rd_T71 l0 x42_2).f2), .int .i64 0]) ?_ 3 _ rfl; (with_reducible repeat (first | refine blk_drewN ?_ _ | refine blk_drew ?_ | refine blk_alloc ?_ _)); refine blk_put (cs := #[.int .i64 ((rd_T71 l0 x42_2).f0), .int .i64 ((rd_T71 l0 x42_2).f1), .int .i64 0, .int .i64 0]) ?_ 2 _ rfl; (with_reducible repeat (first | refine blk_drewN ?_ _ | refine blk_drew ?_ | refine blk_alloc ?_ _)); refine blk_put (cs := #[.int .i64 ((rd_T71 l0 x42_2).f0), .int .i64 0, .int .i64 0, .int .i64 0]) ?_ 1 _ rfl; (with_reducible repeat (first | refine blk_drewN ?_ _ | refine blk_drew ?_ | refine blk_alloc ?_ _)); refine blk_put (cs := #[.int .i64 0, .int .i64 0, .int .i64 0, .int .i64 0]) ?_ 0 _ rfl; (with_reducible repeat (first | refine blk_drewN ?_ _ | refine blk_drew ?_ | refine blk_alloc ?_ _)); exact BK175.out)
                        have nh_ := Aside0.mk (Kd.R_far (p := ⟨gb175, 1, none⟩) (Kd.R_far (p := ⟨gb175, 3, none⟩) (Kd.R_far (p := ⟨gb175, 2, none⟩) (Kd.R_far (p := ⟨gb175, 1, none⟩) (Kd.R_far (p := ⟨gb175, 0, none⟩) (Kd.R_mono HO_9.out (fun k_ hk => (⟨hk, hk.2⟩ : _ ∧ k_ ≠ gb175))) (fun _ hk => hk.2) (.int .i64 ((rd_T71 l0 x42_2).f0))) (fun _ hk => hk.2) (.int .i64 ((rd_T71 l0 x42_2).f1))) (fun _ hk => hk.2) (.int .i64 ((rd_T71 l0 x42_2).f2))) (fun _ hk => hk.2) (.int .i64 ((rd_T71 l0 x42_2).f3))) (fun _ hk => hk.2) (.int .i64 (wrap64 (((rd_T71 l0 x42_2).f1) + 1))))
                        have nB_ := Aside0.mk (show Below w.heap.size w W_ from by rw [hW_]; repeat (first | (with_reducible first | exact HB.out | apply below_alloc | apply pw_below_drewN | apply below_drew1 | refine below_set ?_ GE175.out) | exact HB.out))
                        rw [← hW_] at nh_
                        clear BK175 HO_9 HB hW_
                        have BK175 := nb_
                        have HO_9 := nh_
                        have HB := nB_
                        have g0_ := (blk_cell BK175.out 0).trans rfl
                        have g1_ := (blk_cell BK175.out 1).trans rfl
                        have g2_ := (blk_cell BK175.out 2).trans rfl
                        have g3_ := (blk_cell BK175.out 3).trans rfl
                        clear nb_ nh_ nB_
                        go_wp2_with (first | ((with_reducible refine gate_builtin (b := .append) (xs := #[.tmp 58, .tmp 60]) rfl ?_); (try (refine gate_guard (by rfl) ?_; dsimp only)); at_builtin; refine Kd.R_append k71 (w0 := w) w.heap.size rfl (.tmp 58) (.tmp 60) 63 71 (.agg #[(.int .i64 0), (.int .i64 0), (.int .i64 0), (.int .i64 0)]) 32 rfl Try.underlying63 info71 rfl (by decide) (by omega) u9 x9_2 (⟨(rd_T71 l0 x42_2).f0, wrap64 (((rd_T71 l0 x42_2).f1) + 1), (rd_T71 l0 x42_2).f2, (rd_T71 l0 x42_2).f3⟩ : S71) [.int .i64 ((rd_T71 l0 x42_2).f0), .int .i64 (wrap64 (((rd_T71 l0 x42_2).f1) + 1)), .int .i64 ((rd_T71 l0 x42_2).f2), .int .i64 ((rd_T71 l0 x42_2).f3)] (fun k_ => k_ ≠ gb175) (fun _ => False) rfl (by first | (go_simp; done) | (go_simp; rfl)) ?aP (fun _ hk => hk.elim) ?aF ?aO ?aB ?aS ?aL ?_; (case aP => exact k71_mkM _ _ _ (⟨(rd_T71 l0 x42_2).f0, wrap64 (((rd_T71 l0 x42_2).f1) + 1), (rd_T71 l0 x42_2).f2, (rd_T71 l0 x42_2).f3⟩ : S71)); (case aB => exact (by repeat (first | (with_reducible first | exact HB.out | apply below_alloc | apply pw_below_drewN | apply below_drew1 | refine below_set ?_ GE175.out) | exact HB.out))); (case aF => exact (fun k_ hk => Kd.freshB (g := gb175) (o := .cells #[.int .i64 ((rd_T71 l0 x42_2).f0), .int .i64 (wrap64 (((rd_T71 l0 x42_2).f1) + 1)), .int .i64 ((rd_T71 l0 x42_2).f2), .int .i64 ((rd_T71 l0 x42_2).f3)] 71 (0, 0)) (by (with_reducible repeat (first | refine blk_drewN ?_ _ | refine blk_drew ?_ | refine blk_alloc ?_ _)); exact BK175.out) k_ hk)); (case aO => exact (by (with_reducible repeat (first | apply Kd.R_alloc | apply Kd.R_drewN | apply Kd.R_drew)); exact Kd.R_mono HO_9.out (fun _ hk => hk.1.2))); (case aS => exact (below_size (by repeat (first | (with_reducible first | exact HB.out | apply below_alloc | apply pw_below_drewN | apply below_drew1 | refine below_set ?_ GE175.out) | exact HB.out)))); (case aL => have := LMc20.out; omega); intro v177 w23 ho hb hg hat; rw [← Ny176.out] at ho; have n0_ := Aside0.mk (blk_grown (g := gb175) (o := .cells #[.int .i64 ((rd_T71 l0 x42_2).f0), .int .i64 (wrap64 (((rd_T71 l0 x42_2).f1) + 1)), .int .i64 ((rd_T71 l0 x42_2).f2), .int .i64 ((rd_T71 l0 x42_2).f3)] 71 (0, 0)) (by (with_reducible repeat (first | refine blk_drewN ?_ _ | refine blk_drew ?_ | refine blk_alloc ?_ _)); exact BK175.out) hg (Kd.R_away HO_9.out (fun _ hk => hk.2))); have n1_ := Aside0.mk (hb); have n2_ := Aside0.mk (ho); clear BK175; clear HB; clear HO_9; have BK175 := n0_; have HB := n1_; have HO178 := n2_; clear n0_ n1_ n2_; clear ho hb hg hat))
                        go_roundg k2
                        case measure => have := HJ6.out; have := HK2.out; omega
                        case rel => exact ⟨(y176), (wrap64 (x42_2 + 1)), (by first | rfl | (simp; done) | (simp [*]; done)), H', ⟨by have := HJ6.out; have := HK2.out; omega⟩, ⟨by (with_reducible repeat (first | apply Kd.R_alloc | apply Kd.R_drewN | apply Kd.R_drew)); exact Kd.R_mono HO178.out (fun _ hk => trivial)⟩, ⟨by repeat (first | (with_reducible first | exact HB.out | apply below_alloc | apply pw_below_drewN | apply below_drew1 | refine below_set ?_ GE175.out) | exact HB.out)⟩⟩
                      · rw [if_neg c20] at H
                        exact absurd H (by simp)
                    · rw [if_neg c19] at H
                      have c19b0 : (((rd_T71 l0 x42_2).f0) == 3) = false := beq_eq_false_iff_ne.mpr c19
                      have c19b1 : (((rd_T71 l0 x42_2).f0) != 3) = true := bne_iff_ne.mpr c19
                      by_cases c24 : ((rd_T71 l0 x42_2).f0) = 20
                      · rw [if_pos c24] at H
                        have c24b0 : (((rd_T71 l0 x42_2).f0) == 20) = true := beq_iff_eq.mpr c24
                        have c24b1 : (((rd_T71 l0 x42_2).f0) != 20) = false := bne_eq_false_iff_eq.mpr c24
                        clear c24
                        by_cases c25 : x9_2.length < 4398046511104
                        · rw [if_pos c25] at H
                          have LMc25 := Aside0.mk c25
                          clear c25
                          obtain ⟨y179, hy179⟩ : ∃ y_ : List (S71), y_ = (x9_2 ++ [(⟨(rd_T71 l0 x42_2).f0, wrap64 (((rd_T71 l0 x42_2).f1) + 1), (rd_T71 l0 x42_2).f2, (rd_T71 l0 x42_2).f3⟩ : S71)]) := ⟨_, rfl⟩
                          replace H : (countermandlaw07_CodeShifts.l0 k2 l0 y179 l0 (l0.length : Int) (wrap64 (x42_2 + 1))) = some r := by first | (rw [hy179]; with_reducible exact H) | (have H2_ := (Option.bind_some _ _).symm.trans H; rw [hy179]; with_reducible exact H2_) | (have H2_ := (Option.bind_some _ _).symm.trans H; with_reducible exact H2_) | with_reducible exact H | (rw [hy179]; exact H) | exact H
                          have Ny179 := Aside0.mk hy179
                          clear hy179
                          have H' := Aside0.mk H
                          clear H
                          have p174 : 0 ≤ (x42_2 : Int) := of_decide_eq_true (by first | (with_reducible assumption) | assumption)
                          have q174 : x42_2 < (l0.length : Int) := of_decide_eq_true (by first | (with_reducible assumption) | assumption)
                          obtain ⟨ad174, e174, hx174_0, hx174_1, hx174_2, hx174_3⟩ := at_T71 HR0.out x42_2 p174 q174
                          cases e174
                          replace hx174_0 := (HB.out.cell (World.block_lt_of_cell? w _ hx174_0)).trans hx174_0
                          replace hx174_1 := (HB.out.cell (World.block_lt_of_cell? w _ hx174_1)).trans hx174_1
                          replace hx174_2 := (HB.out.cell (World.block_lt_of_cell? w _ hx174_2)).trans hx174_2
                          replace hx174_3 := (HB.out.cell (World.block_lt_of_cell? w _ hx174_3)).trans hx174_3
                          replace p174 := eq_true p174
                          replace q174 := eq_true q174
                          go_upto_region 12 with (first | ((with_reducible refine gate_dst (N := 11) rfl ?_); (try (refine gate_guard (by rfl) ?_; dsimp only)); refine box_event ?hg (N := 11) ?hd (cs := #[.int .i64 0, .int .i64 0, .int .i64 0, .int .i64 0]) (t := 71) ?hr ?_; (case hd => rfl); (case hg => rfl); (case hr => first | (go_simp; done) | (go_simp; rfl)); intro gb175 hg w26 hbox hb; have n0_ := Aside0.mk (Kd.R_below (Kd.R_elderB (by (with_reducible repeat (first | apply Kd.R_alloc | apply Kd.R_drewN | apply Kd.R_drew)); exact HO_9.out) gb175 (Nat.le_of_eq hg.symm)) hb); have n1_ := Aside0.mk (below_step (by repeat (first | (with_reducible first | exact HB.out | apply below_alloc | apply pw_below_drewN | apply below_drew1) | exact HB.out)) hb); have n2_ := Aside0.mk (hbox); have n3_ := Aside0.mk ((by rw [hg]; exact (below_size (by repeat (first | (with_reducible first | exact HB.out | apply below_alloc | apply pw_below_drewN | apply below_drew1) | exact HB.out))) : w.heap.size ≤ gb175)); have n4_ := Aside0.mk ((by rw [hg]; exact (below_size (by repeat (first | (with_reducible first | exact HB.out | apply below_alloc | apply pw_below_drewN | apply below_drew1) | exact HB.out))) : w.heap.size ≤ gb175)); clear HO_9; clear HB; have HO_9 := n0_; have HB := n1_; have BK175 := n2_; have GW175 := n3_; have GE175 := n4_; clear n0_ n1_ n2_ n3_ n4_; clear hb hbox hg; have hcz27_0 : w26.cell? ⟨gb175, 0, none⟩ = some (.int .i64 0) := (blk_cell BK175.out 0).trans rfl; have hcz27_1 : w26.cell? ⟨gb175, 1, none⟩ = some (.int .i64 0) := (blk_cell BK175.out 1).trans rfl; have hcz27_2 : w26.cell? ⟨gb175, 2, none⟩ = some (.int .i64 0) := (blk_cell BK175.out 2).trans rfl; have hcz27_3 : w26.cell? ⟨gb175, 3, none⟩ = some (.int .i64 0) := (blk_cell BK175.out 3).trans rfl; have hfz27_0 := blk_frozen BK175.out 0; have hfz27_1 := blk_frozen BK175.out 1; have hfz27_2 := blk_frozen BK175.out 2; have hfz27_3 := blk_frozen BK175.out 3))
                          obtain ⟨W_, hW_⟩ : ∃ W_, W_ = (((((w26.setCell ⟨gb175, 0, none⟩ (.int .i64 ((rd_T71 l0 x42_2).f0))).setCell ⟨gb175, 1, none⟩ (.int .i64 ((rd_T71 l0 x42_2).f1))).setCell ⟨gb175, 2, none⟩ (.int .i64 ((rd_T71 l0 x42_2).f2))).setCell ⟨gb175, 3, none⟩ (.int .i64 ((rd_T71 l0 x42_2).f3))).setCell ⟨gb175, 1, none⟩ (.int .i64 (wrap64 (((rd_T71 l0 x42_2).f1) + 1)))) := ⟨_, rfl⟩
                          rw [← hW_]
                          have nb_ := Aside0.mk (show W_.heap[gb175]? = some (.cells #[.int .i64 ((rd_T71 l0 x42_2).f0), .int .i64 (wrap64 (((rd_T71 l0 x42_2).f1) + 1)), .int .i64 ((rd_T71 l0 x42_2).f2), .int .i64 ((rd_T71 l0 x42_2).f3)] 71 (0, 0)) from by rw [hW_]; (with_reducible repeat (first | refine blk_drewN ?_ _ | refine blk_drew ?_ | refine blk_alloc ?_ _)); refine blk_put (cs := #[.int .i64 ((rd_T71 l0 x42_2).f0), .int .i64 ((rd_T71 l0 x42_2).f1), .int .i64 ((rd_T71 l0 x42_2).f2), .int .i64 ((rd_T71 l0 x42_2).f3)]) ?_ 1 _ rfl; (with_reducible repeat (first | refine blk_drewN ?_ _ | refine blk_drew ?_ | refine blk_alloc ?_ _)); refine blk_put (cs := #[.int .i64 ((rd_T71 l0 x42_2).f0), .int .i64 ((rd_T71 l0 x42_2).f1), .int .i64 ((rd_T71 l0 x42_2).f2), .int .i64 0]) ?_ 3 _ rfl; (with_reducible repeat (first | refine blk_drewN ?_ _ | refine blk_drew ?_ | refine blk_alloc ?_ _)); refine blk_put (cs := #[.int .i64 ((rd_T71 l0 x42_2).f0), .int .i64 ((rd_T71 l0 x42_2).f1), .int .i64 0, .int .i64 0]) ?_ 2 _ rfl; (with_reducible repeat (first | refine blk_drewN ?_ _ | refine blk_drew ?_ | refine blk_alloc ?_ _)); refine blk_put (cs := #[.int .i64 ((rd_T71 l0 x42_2).f0), .int .i64 0, .int .i64 0, .int .i64 0]) ?_ 1 _ rfl; (with_reducible repeat (first | refine blk_drewN ?_ _ | refine blk_drew ?_ | refine blk_alloc ?_ _)); refine blk_put (cs := #[.int .i64 0, .int .i64 0, .int .i64 0, .int .i64 0]) ?_ 0 _ rfl; (with_reducible repeat (first | refine blk_drewN ?_ _ | refine blk_drew ?_ | refine blk_alloc ?_ _)); exact BK175.out)
                          have nh_ := Aside0.mk (Kd.R_far (p := ⟨gb175, 1, none⟩) (Kd.R_far (p := ⟨gb175, 3, none⟩) (Kd.R_far (p := ⟨gb175, 2, none⟩) (Kd.R_far (p := ⟨gb175, 1, none⟩) (Kd.R_far (p := ⟨gb175, 0, none⟩) (Kd.R_mono HO_9.out (fun k_ hk => (⟨hk, hk.2⟩ : _ ∧ k_ ≠ gb175))) (fun _ hk => hk.2) (.int .i64 ((rd_T71 l0 x42_2).f0))) (fun _ hk => hk.2) (.int .i64 ((rd_T71 l0 x42_2).f1))) (fun _ hk => hk.2) (.int .i64 ((rd_T71 l0 x42_2).f2))) (fun _ hk => hk.2) (.int .i64 ((rd_T71 l0 x42_2).f3))) (fun _ hk => hk.2) (.int .i64 (wrap64 (((rd_T71 l0 x42_2).f1) + 1))))
                          have nB_ := Aside0.mk (show Below w.heap.size w W_ from by rw [hW_]; repeat (first | (with_reducible first | exact HB.out | apply below_alloc | apply pw_below_drewN | apply below_drew1 | refine below_set ?_ GE175.out) | exact HB.out))
                          rw [← hW_] at nh_
                          clear BK175 HO_9 HB hW_
                          have BK175 := nb_
                          have HO_9 := nh_
                          have HB := nB_
                          have g0_ := (blk_cell BK175.out 0).trans rfl
                          have g1_ := (blk_cell BK175.out 1).trans rfl
                          have g2_ := (blk_cell BK175.out 2).trans rfl
                          have g3_ := (blk_cell BK175.out 3).trans rfl
                          clear nb_ nh_ nB_
                          go_wp2_with (first | ((with_reducible refine gate_builtin (b := .append) (xs := #[.tmp 58, .tmp 60]) rfl ?_); (try (refine gate_guard (by rfl) ?_; dsimp only)); at_builtin; refine Kd.R_append k71 (w0 := w) w.heap.size rfl (.tmp 58) (.tmp 60) 63 71 (.agg #[(.int .i64 0), (.int .i64 0), (.int .i64 0), (.int .i64 0)]) 32 rfl Try.underlying63 info71 rfl (by decide) (by omega) u9 x9_2 (⟨(rd_T71 l0 x42_2).f0, wrap64 (((rd_T71 l0 x42_2).f1) + 1), (rd_T71 l0 x42_2).f2, (rd_T71 l0 x42_2).f3⟩ : S71) [.int .i64 ((rd_T71 l0 x42_2).f0), .int .i64 (wrap64 (((rd_T71 l0 x42_2).f1) + 1)), .int .i64 ((rd_T71 l0 x42_2).f2), .int .i64 ((rd_T71 l0 x42_2).f3)] (fun k_ => k_ ≠ gb175) (fun _ => False) rfl (by first | (go_simp; done) | (go_simp; rfl)) ?aP (fun _ hk => hk.elim) ?aF ?aO ?aB ?aS ?aL ?_; (case aP => exact k71_mkM _ _ _ (⟨(rd_T71 l0 x42_2).f0, wrap64 (((rd_T71 l0 x42_2).f1) + 1), (rd_T71 l0 x42_2).f2, (rd_T71 l0 x42_2).f3⟩ : S71)); (case aB => exact (by repeat (first | (with_reducible first | exact HB.out | apply below_alloc | apply pw_below_drewN | apply below_drew1 | refine below_set ?_ GE175.out) | exact HB.out))); (case aF => exact (fun k_ hk => Kd.freshB (g := gb175) (o := .cells #[.int .i64 ((rd_T71 l0 x42_2).f0), .int .i64 (wrap64 (((rd_T71 l0 x42_2).f1) + 1)), .int .i64 ((rd_T71 l0 x42_2).f2), .int .i64 ((rd_T71 l0 x42_2).f3)] 71 (0, 0)) (by (with_reducible repeat (first | refine blk_drewN ?_ _ | refine blk_drew ?_ | refine blk_alloc ?_ _)); exact BK175.out) k_ hk)); (case aO => exact (by (with_reducible repeat (first | apply Kd.R_alloc | apply Kd.R_drewN | apply Kd.R_drew)); exact Kd.R_mono HO_9.out (fun _ hk => hk.1.2))); (case aS => exact (below_size (by repeat (first | (with_reducible first | exact HB.out | apply below_alloc | apply pw_below_drewN | apply below_drew1 | refine below_set ?_ GE175.out) | exact HB.out)))); (case aL => have := LMc25.out; omega); intro v180 w28 ho hb hg hat; rw [← Ny179.out] at ho; have n0_ := Aside0.mk (blk_grown (g := gb175) (o := .cells #[.int .i64 ((rd_T71 l0 x42_2).f0), .int .i64 (wrap64 (((rd_T71 l0 x42_2).f1) + 1)), .int .i64 ((rd_T71 l0 x42_2).f2), .int .i64 ((rd_T71 l0 x42_2).f3)] 71 (0, 0)) (by (with_reducible repeat (first | refine blk_drewN ?_ _ | refine blk_drew ?_ | refine blk_alloc ?_ _)); exact BK175.out) hg (Kd.R_away HO_9.out (fun _ hk => hk.2))); have n1_ := Aside0.mk (hb); have n2_ := Aside0.mk (ho); clear BK175; clear HB; clear HO_9; have BK175 := n0_; have HB := n1_; have HO181 := n2_; clear n0_ n1_ n2_; clear ho hb hg hat))
                          go_roundg k2
                          case measure => have := HJ6.out; have := HK2.out; omega
                          case rel => exact ⟨(y179), (wrap64 (x42_2 + 1)), (by first | rfl | (simp; done) | (simp [*]; done)), H', ⟨by have := HJ6.out; have := HK2.out; omega⟩, ⟨by (with_reducible repeat (first | apply Kd.R_alloc | apply Kd.R_drewN | apply Kd.R_drew)); exact Kd.R_mono HO181.out (fun _ hk => trivial)⟩, ⟨by repeat (first | (with_reducible first | exact HB.out | apply below_alloc | apply pw_below_drewN | apply below_drew1 | refine below_set ?_ GE175.out) | exact HB.out)⟩⟩
                        · rw [if_neg c25] at H
                          exact absurd H (by simp)
                      · rw [if_neg c24] at H
                        have c24b0 : (((rd_T71 l0 x42_2).f0) == 20) = false := beq_eq_false_iff_ne.mpr c24
                        have c24b1 : (((rd_T71 l0 x42_2).f0) != 20) = true := bne_iff_ne.mpr c24
                        by_cases c29 : x9_2.length < 4398046511104
                        · rw [if_pos c29] at H
                          have LMc29 := Aside0.mk c29
                          clear c29
                          obtain ⟨y182, hy182⟩ : ∃ y_ : List (S71), y_ = (x9_2 ++ [(⟨(rd_T71 l0 x42_2).f0, (rd_T71 l0 x42_2).f1, (rd_T71 l0 x42_2).f2, (rd_T71 l0 x42_2).f3⟩ : S71)]) := ⟨_, rfl⟩
                          replace H : (countermandlaw07_CodeShifts.l0 k2 l0 y182 l0 (l0.length : Int) (wrap64 (x42_2 + 1))) = some r := by first | (rw [hy182]; with_reducible exact H) | (have H2_ := (Option.bind_some _ _).symm.trans H; rw [hy182]; with_reducible exact H2_) | (have H2_ := (Option.bind_some _ _).symm.trans H; with_reducible exact H2_) | with_reducible exact H | (rw [hy182]; exact H) | exact H
                          have Ny182 := Aside0.mk hy182
                          clear hy182
                          have H' := Aside0.mk H
                          clear H
                          have p174 : 0 ≤ (x42_2 : Int) := of_decide_eq_true (by first | (with_reducible assumption) | assumption)
                          have q174 : x42_2 < (l0.length : Int) := of_decide_eq_true (by first | (with_reducible assumption) | assumption)
                          obtain ⟨ad174, e174, hx174_0, hx174_1, hx174_2, hx174_3⟩ := at_T71 HR0.out x42_2 p174 q174
                          cases e174
                          replace hx174_0 := (HB.out.cell (World.block_lt_of_cell? w _ hx174_0)).trans hx174_0
                          replace hx174_1 := (HB.out.cell (World.block_lt_of_cell? w _ hx174_1)).trans hx174_1
                          replace hx174_2 := (HB.out.cell (World.block_lt_of_cell? w _ hx174_2)).trans hx174_2
                          replace hx174_3 := (HB.out.cell (World.block_lt_of_cell? w _ hx174_3)).trans hx174_3
                          replace p174 := eq_true p174
                          replace q174 := eq_true q174
                          go_upto_region 12 with (first | ((with_reducible refine gate_dst (N := 11) rfl ?_); (try (refine gate_guard (by rfl) ?_; dsimp only)); refine box_event ?hg (N := 11) ?hd (cs := #[.int .i64 0, .int .i64 0, .int .i64 0, .int .i64 0]) (t := 71) ?hr ?_; (case hd => rfl); (case hg => rfl); (case hr => first | (go_simp; done) | (go_simp; rfl)); intro gb175 hg w30 hbox hb; have n0_ := Aside0.mk (Kd.R_below (Kd.R_elderB (by (with_reducible repeat (first | apply Kd.R_alloc | apply Kd.R_drewN | apply Kd.R_drew)); exact HO_9.out) gb175 (Nat.le_of_eq hg.symm)) hb); have n1_ := Aside0.mk (below_step (by repeat (first | (with_reducible first | exact HB.out | apply below_alloc | apply pw_below_drewN | apply below_drew1) | exact HB.out)) hb); have n2_ := Aside0.mk (hbox); have n3_ := Aside0.mk ((by rw [hg]; exact (below_size (by repeat (first | (with_reducible first | exact HB.out | apply below_alloc | apply pw_below_drewN | apply below_drew1) | exact HB.out))) : w.heap.size ≤ gb175)); have n4_ := Aside0.mk ((by rw [hg]; exact (below_size (by repeat (first | (with_reducible first | exact HB.out | apply below_alloc | apply pw_below_drewN | apply below_drew1) | exact HB.out))) : w.heap.size ≤ gb175)); clear HO_9; clear HB; have HO_9 := n0_; have HB := n1_; have BK175 := n2_; have GW175 := n3_; have GE175 := n4_; clear n0_ n1_ n2_ n3_ n4_; clear hb hbox hg; have hcz31_0 : w30.cell? ⟨gb175, 0, none⟩ = some (.int .i64 0) := (blk_cell BK175.out 0).trans rfl; have hcz31_1 : w30.cell? ⟨gb175, 1, none⟩ = some (.int .i64 0) := (blk_cell BK175.out 1).trans rfl; have hcz31_2 : w30.cell? ⟨gb175, 2, none⟩ = some (.int .i64 0) := (blk_cell BK175.out 2).trans rfl; have hcz31_3 : w30.cell? ⟨gb175, 3, none⟩ = some (.int .i64 0) := (blk_cell BK175.out 3).trans rfl; have hfz31_0 := blk_frozen BK175.out 0; have hfz31_1 := blk_frozen BK175.out 1; have hfz31_2 := blk_frozen BK175.out 2; have hfz31_3 := blk_frozen BK175.out 3))
                          obtain ⟨W_, hW_⟩ : ∃ W_, W_ = ((((w30.setCell ⟨gb175, 0, none⟩ (.int .i64 ((rd_T71 l0 x42_2).f0))).setCell ⟨gb175, 1, none⟩ (.int .i64 ((rd_T71 l0 x42_2).f1))).setCell ⟨gb175, 2, none⟩ (.int .i64 ((rd_T71 l0 x42_2).f2))).setCell ⟨gb175, 3, none⟩ (.int .i64 ((rd_T71 l0 x42_2).f3))) := ⟨_, rfl⟩
                          rw [← hW_]
                          have nb_ := Aside0.mk (show W_.heap[gb175]? = some (.cells #[.int .i64 ((rd_T71 l0 x42_2).f0), .int .i64 ((rd_T71 l0 x42_2).f1), .int .i64 ((rd_T71 l0 x42_2).f2), .int .i64 ((rd_T71 l0 x42_2).f3)] 71 (0, 0)) from by rw [hW_]; (with_reducible repeat (first | refine blk_drewN ?_ _ | refine blk_drew ?_ | refine blk_alloc ?_ _)); refine blk_put (cs := #[.int .i64 ((rd_T71 l0 x42_2).f0), .int .i64 ((rd_T71 l0 x42_2).f1), .int .i64 ((rd_T71 l0 x42_2).f2), .int .i64 0]) ?_ 3 _ rfl; (with_reducible repeat (first | refine blk_drewN ?_ _ | refine blk_drew ?_ | refine blk_alloc ?_ _)); refine blk_put (cs := #[.int .i64 ((rd_T71 l0 x42_2).f0), .int .i64 ((rd_T71 l0 x42_2).f1), .int .i64 0, .int .i64 0]) ?_ 2 _ rfl; (with_reducible repeat (first | refine blk_drewN ?_ _ | refine blk_drew ?_ | refine blk_alloc ?_ _)); refine blk_put (cs := #[.int .i64 ((rd_T71 l0 x42_2).f0), .int .i64 0, .int .i64 0, .int .i64 0]) ?_ 1 _ rfl; (with_reducible repeat (first | refine blk_drewN ?_ _ | refine blk_drew ?_ | refine blk_alloc ?_ _)); refine blk_put (cs := #[.int .i64 0, .int .i64 0, .int .i64 0, .int .i64 0]) ?_ 0 _ rfl; (with_reducible repeat (first | refine blk_drewN ?_ _ | refine blk_drew ?_ | refine blk_alloc ?_ _)); exact BK175.out)
                          have nh_ := Aside0.mk (Kd.R_far (p := ⟨gb175, 3, none⟩) (Kd.R_far (p := ⟨gb175, 2, none⟩) (Kd.R_far (p := ⟨gb175, 1, none⟩) (Kd.R_far (p := ⟨gb175, 0, none⟩) (Kd.R_mono HO_9.out (fun k_ hk => (⟨hk, hk.2⟩ : _ ∧ k_ ≠ gb175))) (fun _ hk => hk.2) (.int .i64 ((rd_T71 l0 x42_2).f0))) (fun _ hk => hk.2) (.int .i64 ((rd_T71 l0 x42_2).f1))) (fun _ hk => hk.2) (.int .i64 ((rd_T71 l0 x42_2).f2))) (fun _ hk => hk.2) (.int .i64 ((rd_T71 l0 x42_2).f3)))
                          have nB_ := Aside0.mk (show Below w.heap.size w W_ from by rw [hW_]; repeat (first | (with_reducible first | exact HB.out | apply below_alloc | apply pw_below_drewN | apply below_drew1 | refine below_set ?_ GE175.out) | exact HB.out))
                          rw [← hW_] at nh_
                          clear BK175 HO_9 HB hW_
                          have BK175 := nb_
                          have HO_9 := nh_
                          have HB := nB_
                          have g0_ := (blk_cell BK175.out 0).trans rfl
                          have g1_ := (blk_cell BK175.out 1).trans rfl
                          have g2_ := (blk_cell BK175.out 2).trans rfl
                          have g3_ := (blk_cell BK175.out 3).trans rfl
                          clear nb_ nh_ nB_
                          go_wp2_with (first | ((with_reducible refine gate_builtin (b := .append) (xs := #[.tmp 58, .tmp 60]) rfl ?_); (try (refine gate_guard (by rfl) ?_; dsimp only)); at_builtin; refine Kd.R_append k71 (w0 := w) w.heap.size rfl (.tmp 58) (.tmp 60) 63 71 (.agg #[(.int .i64 0), (.int .i64 0), (.int .i64 0), (.int .i64 0)]) 32 rfl Try.underlying63 info71 rfl (by decide) (by omega) u9 x9_2 (⟨(rd_T71 l0 x42_2).f0, (rd_T71 l0 x42_2).f1, (rd_T71 l0 x42_2).f2, (rd_T71 l0 x42_2).f3⟩ : S71) [.int .i64 ((rd_T71 l0 x42_2).f0), .int .i64 ((rd_T71 l0 x42_2).f1), .int .i64 ((rd_T71 l0 x42_2).f2), .int .i64 ((rd_T71 l0 x42_2).f3)] (fun k_ => k_ ≠ gb175) (fun _ => False) rfl (by first | (go_simp; done) | (go_simp; rfl)) ?aP (fun _ hk => hk.elim) ?aF ?aO ?aB ?aS ?aL ?_; (case aP => exact k71_mkM _ _ _ (⟨(rd_T71 l0 x42_2).f0, (rd_T71 l0 x42_2).f1, (rd_T71 l0 x42_2).f2, (rd_T71 l0 x42_2).f3⟩ : S71)); (case aB => exact (by repeat (first | (with_reducible first | exact HB.out | apply below_alloc | apply pw_below_drewN | apply below_drew1 | refine below_set ?_ GE175.out) | exact HB.out))); (case aF => exact (fun k_ hk => Kd.freshB (g := gb175) (o := .cells #[.int .i64 ((rd_T71 l0 x42_2).f0), .int .i64 ((rd_T71 l0 x42_2).f1), .int .i64 ((rd_T71 l0 x42_2).f2), .int .i64 ((rd_T71 l0 x42_2).f3)] 71 (0, 0)) (by (with_reducible repeat (first | refine blk_drewN ?_ _ | refine blk_drew ?_ | refine blk_alloc ?_ _)); exact BK175.out) k_ hk)); (case aO => exact (by (with_reducible repeat (first | apply Kd.R_alloc | apply Kd.R_drewN | apply Kd.R_drew)); exact Kd.R_mono HO_9.out (fun _ hk => hk.1.2))); (case aS => exact (below_size (by repeat (first | (with_reducible first | exact HB.out | apply below_alloc | apply pw_below_drewN | apply below_drew1 | refine below_set ?_ GE175.out) | exact HB.out)))); (case aL => have := LMc29.out; omega); intro v183 w32 ho hb hg hat; rw [← Ny182.out] at ho; have n0_ := Aside0.mk (blk_grown (g := gb175) (o := .cells #[.int .i64 ((rd_T71 l0 x42_2).f0), .int .i64 ((rd_T71 l0 x42_2).f1), .int .i64 ((rd_T71 l0 x42_2).f2), .int .i64 ((rd_T71 l0 x42_2).f3)] 71 (0, 0)) (by (with_reducible repeat (first | refine blk_drewN ?_ _ | refine blk_drew ?_ | refine blk_alloc ?_ _)); exact BK175.out) hg (Kd.R_away HO_9.out (fun _ hk => hk.2))); have n1_ := Aside0.mk (hb); have n2_ := Aside0.mk (ho); clear BK175; clear HB; clear HO_9; have BK175 := n0_; have HB := n1_; have HO184 := n2_; clear n0_ n1_ n2_; clear ho hb hg hat))
                          go_roundg k2
                          case measure => have := HJ6.out; have := HK2.out; omega
                          case rel => exact ⟨(y182), (wrap64 (x42_2 + 1)), (by first | rfl | (simp; done) | (simp [*]; done)), H', ⟨by have := HJ6.out; have := HK2.out; omega⟩, ⟨by (with_reducible repeat (first | apply Kd.R_alloc | apply Kd.R_drewN | apply Kd.R_drew)); exact Kd.R_mono HO184.out (fun _ hk => trivial)⟩, ⟨by repeat (first | (with_reducible first | exact HB.out | apply below_alloc | apply pw_below_drewN | apply below_drew1 | refine below_set ?_ GE175.out) | exact HB.out)⟩⟩
                        · rw [if_neg c29] at H
                          exact absurd H (by simp)
                  · rw [if_neg c18] at H
                    exact absurd H (by simp)
                · rw [if_neg c17] at H
                  exact absurd H (by simp)
              · rw [if_neg c16] at H
                have c16b0 : decide (x42_2 < (l0.length : Int)) = false := decide_eq_false c16
                clear c16
                replace H := Option.bind_eq_some_iff.mp H
                obtain ⟨⟨t185, t186⟩, A330, H⟩ := H
                replace H : (if t186 = 0 then ((code_Blocks.f k2 x9_2).bind fun t187 => ((code_Blocks.f k2 l0).bind fun t188 => (some (t187 == t188)))) else (some false)) = some r := H
                have A33 := Aside0.mk A330
                clear A330
                by_cases c34 : t186 = 0
                · rw [if_pos c34] at H
                  have c34b0 : (t186 == 0) = true := beq_iff_eq.mpr c34
                  have c34b1 : (t186 != 0) = false := bne_eq_false_iff_eq.mpr c34
                  clear c34
                  replace H := Option.bind_eq_some_iff.mp H
                  obtain ⟨t187, A350, H⟩ := H
                  replace H : ((code_Blocks.f k2 l0).bind fun t188 => (some (t187 == t188))) = some r := H
                  have A35 := Aside0.mk A350
                  clear A350
                  replace H := Option.bind_eq_some_iff.mp H
                  obtain ⟨t188, A360, H⟩ := H
                  replace H : (some (t187 == t188)) = some r := H
                  have A36 := Aside0.mk A360
                  clear A360
                  obtain rfl := Option.some.inj H
                  clear hrT
                  obtain ⟨Ao37, co37, eo37⟩ := Kd.R_slice HO_9.out
                  subst eo37
                  go_wp2_with (first | ((with_reducible refine gate_callee (f := 30) rfl ?_); refine goesL_ (some 65) rfl rfl Try.func30 (by kernel_rfl) rfl #[.slice Ao37 x9_2.length co37] rfl (by (try simp only [List.map_toArray, List.map_cons, List.map_nil]); first | done | rfl | (simp only [List.length_drop, List.length_take]; rfl)) ?_; (with_reducible refine (code_Check.calls k2 _ _ x9_2 t185 t186 _ ?side1 ?side2 A33.out).mono ?_); (case side1 => repeat (first | exact (Kd.R_reads' HO_9.out).2.2 | (with_reducible refine Kd.C_alloc ?_ _) | (with_reducible refine Kd.C_drewN ?_ _) | (with_reducible refine Kd.C_drew ?_))); (case side2 => exact (Kd.R_reads' HO_9.out).2.1); rintro e w38 ⟨rfl, hb⟩; refine ⟨_, rfl, ?_⟩; have n0_ := Aside0.mk (Kd.R_below (by (with_reducible repeat (first | apply Kd.R_alloc | apply Kd.R_drewN | apply Kd.R_drew)); exact HO_9.out) hb); have n1_ := Aside0.mk (below_step (by repeat (first | (with_reducible first | exact HB.out | apply below_alloc | apply pw_below_drewN | apply below_drew1) | exact HB.out)) hb); clear HO_9; clear HB; have HO_9 := n0_; have HB := n1_; clear n0_ n1_; (try clear hb); (try clear hb2); (try clear hk); (try clear hi)) | (go_at_call 32; (with_reducible refine (code_Blocks.calls k2 _ _ x9_2 t187 _ ?side1 ?side2 A35.out).mono ?_); (case side1 => repeat (first | exact (Kd.R_reads' HO_9.out).2.2 | (with_reducible refine Kd.C_alloc ?_ _) | (with_reducible refine Kd.C_drewN ?_ _) | (with_reducible refine Kd.C_drew ?_))); (case side2 => exact (Kd.R_reads' HO_9.out).2.1); rintro e w39 ⟨rfl, hb⟩; have n0_ := Aside0.mk (Kd.R_below (by (with_reducible repeat (first | apply Kd.R_alloc | apply Kd.R_drewN | apply Kd.R_drew)); exact HO_9.out) hb); have n1_ := Aside0.mk (below_step (by repeat (first | (with_reducible first | exact HB.out | apply below_alloc | apply pw_below_drewN | apply below_drew1) | exact HB.out)) hb); clear HO_9; clear HB; have HO_9 := n0_; have HB := n1_; clear n0_ n1_; (try clear hb); (try clear hb2); (try clear hk); (try clear hi)) | (go_at_call 32; (with_reducible refine (code_Blocks.calls k2 _ _ l0 t188 _ ?side1 ?side2 A36.out).mono ?_); (case side1 => repeat (first | exact (Kd.C_below HR0.out HB.out) | (with_reducible refine Kd.C_alloc ?_ _) | (with_reducible refine Kd.C_drewN ?_ _) | (with_reducible refine Kd.C_drew ?_))); (case side2 => exact HC0.out); rintro e w40 ⟨rfl, hb⟩; have n0_ := Aside0.mk (Kd.R_below (by (with_reducible repeat (first | apply Kd.R_alloc | apply Kd.R_drewN | apply Kd.R_drew)); exact HO_9.out) hb); have n1_ := Aside0.mk (below_step (by repeat (first | (with_reducible first | exact HB.out | apply below_alloc | apply pw_below_drewN | apply below_drew1) | exact HB.out)) hb); clear HO_9; clear HB; have HO_9 := n0_; have HB := n1_; clear n0_ n1_; (try clear hb); (try clear hb2); (try clear hk); (try clear hi)))
                  go_ret
                  exact ⟨by first | rfl | (simp [errW_none, errW_some] <;> rfl) | (simp [*, errW_none, errW_some] <;> rfl), by repeat (first | (with_reducible first | exact HB.out | apply below_alloc | apply pw_below_drewN | apply below_drew1) | exact HB.out)⟩
                · rw [if_neg c34] at H
                  have c34b0 : (t186 == 0) = false := beq_eq_false_iff_ne.mpr c34
                  have c34b1 : (t186 != 0) = true := bne_iff_ne.mpr c34
                  obtain rfl := Option.some.inj H
                  cases hrT
  · replace c5 := Bool.eq_false_iff.mpr c5
    subst c5
    have H1 : (some false) = some r := by rw [if_neg (show ¬ (false = true) by decide)] at H; exact H
    clear H
    have H := H1
    clear H1
    obtain rfl := Option.some.inj H
    cases hrT

/-- THE ONE PURE STATEMENT of countermandlaw07_CodeShifts: yours. -/
def countermandlaw07_CodeShifts.Pure : Prop := ∀ (l0 : List (S71)) (a1 : Int) (a2 : Int), l0.length ≤ maxLen → (∀ x ∈ l0, (Lit.int .i64 x.f0).wf = true ∧ (Lit.int .i64 x.f1).wf = true ∧ (Lit.int .i64 x.f2).wf = true ∧ (Lit.int .i64 x.f3).wf = true) → (Lit.int .i64 a1).wf = true → (Lit.int .i64 a2).wf = true → ∃ k, countermandlaw07_CodeShifts.f k l0 a1 a2 = some true
theorem countermandlaw07_CodeShifts.walk (P : countermandlaw07_CodeShifts.Pure) (a0 : Option Addr) (len0 cap0 : Nat) (z0 : List (S71)) (a1 : Int) (a2 : Int) (w : World) (w0 : z0.length = len0 ∧ Kd.C k71 w a0 z0.length z0 ∧ z0.length ≤ cap0 ∧ z0.length ≤ maxLen ∧ (∀ x ∈ z0, (Lit.int .i64 x.f0).wf = true ∧ (Lit.int .i64 x.f1).wf = true ∧ (Lit.int .i64 x.f2).wf = true ∧ (Lit.int .i64 x.f3).wf = true)) (w1 : (Lit.int .i64 a1).wf = true) (w2 : (Lit.int .i64 a2).wf = true) :
    Calls Try.prog 11 #[.slice a0 len0 cap0, .int .i64 a1, .int .i64 a2] w fun e w' => e = .returned (.bool true) ∧ Below w.heap.size w w' := by
  obtain ⟨rfl, hr0, hc0, hm0, hg0⟩ := w0
  obtain ⟨k, h⟩ := P z0 a1 a2 hm0 hg0 w1 w2
  refine (countermandlaw07_CodeShifts.calls k _ _ z0 a1 a2 true w hr0 hc0 h rfl).mono ?_
  rintro e w' ⟨rfl, hd⟩
  exact ⟨rfl, hd⟩

end Go.Proofs.Ytfoefgckjaafnaa.PCodeShifts
