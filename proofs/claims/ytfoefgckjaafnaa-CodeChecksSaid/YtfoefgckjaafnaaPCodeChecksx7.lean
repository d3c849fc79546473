/- Written by a program of this session, which began as the kit's print and is turned in wip/printer: the plain form of each function, and that the Go code comes to it. -/
import Derived.Test.YtfoefgckjaafnaaPCodeChecksx0
import Derived.Test.YtfoefgckjaafnaaPCodeChecksx6
namespace Go.Proofs.Ytfoefgckjaafnaa.PCodeChecks
open Go.RowKit Go.Proofs.YtfoefgckjaafnaaW.PrintWords Go.Proofs.YtfoefgckjaafnaaW.PrintLast Go.Proofs.YtfoefgckjaafnaaW.PrintMore
attribute [local go_sem] max2_int min2_int max_two min_two max_three min_three max_four min_four   -- for this text's walks alone
set_option linter.unusedVariables false
set_option linter.unusedSimpArgs false

/-! ### code_Blocks: function 32 -/
def code_Blocks.l0 : Nat → Int → List (S71) → Int → Int → Option (Int)
  | 0, _, _, _, _ => none
  | k + 1, x3, x6, x7, x8 => if x8 < x7 then (if 0 ≤ x8 then (if x8 < (x6.length : Int) then (if ((rd_T71 x6 x8).f0) = 4 then (code_Blocks.l0 k (wrap64 (x3 + 1)) x6 x7 (wrap64 (x8 + 1))) else (code_Blocks.l0 k x3 x6 x7 (wrap64 (x8 + 1)))) else (none)) else (none)) else (some x3)
def code_Blocks.f (k : Nat) (l0 : List (S71)) : Option (Int) := code_Blocks.l0 k 0 l0 (l0.length : Int) 0
theorem code_Blocks.mono_l : ∀ k, (∀ y0 y1 y2 y3, LeO (code_Blocks.l0 k y0 y1 y2 y3) (code_Blocks.l0 (k + 1) y0 y1 y2 y3))
  | 0 => fun _ _ _ _ r h => by simp [code_Blocks.l0] at h
  | k + 1 => by
    have ih0 := code_Blocks.mono_l k
    · intro y0 y1 y2 y3
      unfold code_Blocks.l0
      repeat' first
      | (with_reducible exact ih0 _ _ _ _)
      | (with_reducible exact LeO.refl _)
      | (with_reducible exact LeO.none _)
      | (with_reducible refine LeO.ite ?_ ?_)
      | (with_reducible refine LeO.bind ?_ (fun _ => ?_))
      | exact ih0 _ _ _ _
      | exact LeO.none _
      | refine LeO.ite ?_ ?_
      | refine LeO.bind ?_ (fun _ => ?_)
theorem code_Blocks.mono : ∀ a0 k, LeO (code_Blocks.f k a0) (code_Blocks.f (k + 1) a0) := by
  intro a0 k
  have ih0 := code_Blocks.mono_l k
  unfold code_Blocks.f
  repeat' first
      | (with_reducible exact ih0 _ _ _ _)
      | (with_reducible exact LeO.refl _)
      | (with_reducible exact LeO.none _)
      | (with_reducible refine LeO.ite ?_ ?_)
      | (with_reducible refine LeO.bind ?_ (fun _ => ?_))
      | exact ih0 _ _ _ _
      | exact LeO.none _
      | refine LeO.ite ?_ ?_
      | refine LeO.bind ?_ (fun _ => ?_)
set_option maxHeartbeats 8000000 in
set_option maxRecDepth 100000 in
theorem code_Blocks.calls (k : Nat) (A0 : Option Addr) (c0 : Nat) (l0 : List (S71)) (r : Int) (w : World) (hr0 : Kd.C k71 w A0 l0.length l0) (hc0 : l0.length ≤ c0) (h : code_Blocks.f k l0 = some r) :
    Calls Try.prog 32 #[.slice A0 l0.length c0] w fun e w' => e = .returned (.int .i64 r) ∧ Below w.heap.size w w' := by
  have hu71 := Try.underlying71
  have HR0 := Aside0.mk hr0
  have HC0 := Aside0.mk hc0
  clear hr0 hc0
  have HB := Aside0.mk (Below.refl w.heap.size w)
  have H : (code_Blocks.l0 k 0 l0 (l0.length : Int) 0) = some r := h
  clear h
  have H' := Aside0.mk H
  clear H
  go_enter Try.func32, Try.ntmps32
  go_wp2
  go_loopg [3, 8] k (fun kq v3 v8 w' => ∃ (x3_1 : Int) (x8_1 : Int), v3 = .int .i64 x3_1 ∧ v8 = .int .i64 x8_1 ∧ Aside0 (code_Blocks.l0 kq x3_1 l0 (l0.length : Int) x8_1 = some r) ∧ Aside0 (kq ≤ k) ∧ Aside0 (Below w.heap.size w w'))
  case atStart => exact ⟨(0), (0), (by first | rfl | (simp; done) | (simp [*]; done)), (by first | rfl | (simp; done) | (simp [*]; done)), H', ⟨Nat.le_refl _⟩, ⟨by repeat (first | (with_reducible first | exact HB.out | apply below_alloc | apply pw_below_drewN | apply below_drew1) | exact HB.out)⟩⟩
  case round =>
    clear H'
    obtain ⟨x3_1, x8_1, rfl, rfl, HA, HK1, HB⟩ := hrel
    cases gk with
    | zero => exact absurd HA.out (by simp [code_Blocks.l0])
    | succ k1 =>
      have H := HA.out
      clear HA
      simp only [code_Blocks.l0] at H
      by_cases c2 : x8_1 < (l0.length : Int)
      · rw [if_pos c2] at H
        have c2b0 : decide (x8_1 < (l0.length : Int)) = true := decide_eq_true c2
        clear c2
        by_cases c3 : 0 ≤ x8_1
        · rw [if_pos c3] at H
          have c3b0 : decide (0 ≤ x8_1) = true := decide_eq_true c3
          clear c3
          by_cases c4 : x8_1 < (l0.length : Int)
          · rw [if_pos c4] at H
            have c4b0 : decide (x8_1 < (l0.length : Int)) = true := decide_eq_true c4
            clear c4
            by_cases c5 : ((rd_T71 l0 x8_1).f0) = 4
            · rw [if_pos c5] at H
              have c5b0 : (((rd_T71 l0 x8_1).f0) == 4) = true := beq_iff_eq.mpr c5
              have c5b1 : (((rd_T71 l0 x8_1).f0) != 4) = false := bne_eq_false_iff_eq.mpr c5
              clear c5
              have H' := Aside0.mk H
              clear H
              have p152 : 0 ≤ (x8_1 : Int) := of_decide_eq_true (by first | (with_reducible assumption) | assumption)
              have q152 : x8_1 < (l0.length : Int) := of_decide_eq_true (by first | (with_reducible assumption) | assumption)
              obtain ⟨ad152, e152, hx152_0, hx152_1, hx152_2, hx152_3⟩ := at_T71 HR0.out x8_1 p152 q152
              cases e152
              replace hx152_0 := (HB.out.cell (World.block_lt_of_cell? w _ hx152_0)).trans hx152_0
              replace hx152_1 := (HB.out.cell (World.block_lt_of_cell? w _ hx152_1)).trans hx152_1
              replace hx152_2 := (HB.out.cell (World.block_lt_of_cell? w _ hx152_2)).trans hx152_2
              replace hx152_3 := (HB.out.cell (World.block_lt_of_cell? w _ hx152_3)).trans hx152_3
              replace p152 := eq_true p152
              replace q152 := eq_true q152
              go_wp2_with (first | ((with_reducible refine gate_dst (N := 5) rfl ?_); refine box_event ?hg (N := 5) ?hd (cs := #[.int .i64 0, .int .i64 0, .int .i64 0, .int .i64 0]) (t := 71) ?hr ?_; (case hd => rfl); (case hg => rfl); (case hr => first | (go_simp; done) | (go_simp; rfl)); intro gb153 hg w6 hbox hb; have n0_ := Aside0.mk (below_step (by repeat (first | (with_reducible first | exact HB.out | apply below_alloc | apply pw_below_drewN | apply below_drew1) | exact HB.out)) hb); have n1_ := Aside0.mk (hbox); have n2_ := Aside0.mk ((by rw [hg]; exact (below_size (by repeat (first | (with_reducible first | exact HB.out | apply below_alloc | apply pw_below_drewN | apply below_drew1) | exact HB.out))) : w.heap.size ≤ gb153)); have n3_ := Aside0.mk ((by rw [hg]; exact (below_size (by repeat (first | (with_reducible first | exact HB.out | apply below_alloc | apply pw_below_drewN | apply below_drew1) | exact HB.out))) : w.heap.size ≤ gb153)); clear HB; have HB := n0_; have BK153 := n1_; have GW153 := n2_; have GE153 := n3_; clear n0_ n1_ n2_ n3_; clear hb hbox hg; have hcz7_0 : w6.cell? ⟨gb153, 0, none⟩ = some (.int .i64 0) := (blk_cell BK153.out 0).trans rfl; have hcz7_1 : w6.cell? ⟨gb153, 1, none⟩ = some (.int .i64 0) := (blk_cell BK153.out 1).trans rfl; have hcz7_2 : w6.cell? ⟨gb153, 2, none⟩ = some (.int .i64 0) := (blk_cell BK153.out 2).trans rfl; have hcz7_3 : w6.cell? ⟨gb153, 3, none⟩ = some (.int .i64 0) := (blk_cell BK153.out 3).trans rfl; have hfz7_0 := blk_frozen BK153.out 0; have hfz7_1 := blk_frozen BK153.out 1; have hfz7_2 := blk_frozen BK153.out 2; have hfz7_3 := blk_frozen BK153.out 3))
              go_roundg k1
              case measure => have := HK1.out; omega
              case rel => exact ⟨(wrap64 (x3_1 + 1)), (wrap64 (x8_1 + 1)), (by first | rfl | (simp; done) | (simp [*]; done)), (by first | rfl | (simp; done) | (simp [*]; done)), H', ⟨by have := HK1.out; omega⟩, ⟨by repeat (first | (with_reducible first | exact HB.out | apply below_alloc | apply pw_below_drewN | apply below_drew1 | refine below_set ?_ GE153.out) | exact HB.out)⟩⟩
            · rw [if_neg c5] at H
              have c5b0 : (((rd_T71 l0 x8_1).f0) == 4) = false := beq_eq_false_iff_ne.mpr c5
              have c5b1 : (((rd_T71 l0 x8_1).f0) != 4) = true := bne_iff_ne.mpr c5
              have H' := Aside0.mk H
              clear H
              have p152 : 0 ≤ (x8_1 : Int) := of_decide_eq_true (by first | (with_reducible assumption) | assumption)
              have q152 : x8_1 < (l0.length : Int) := of_decide_eq_true (by first | (with_reducible assumption) | assumption)
              obtain ⟨ad152, e152, hx152_0, hx152_1, hx152_2, hx152_3⟩ := at_T71 HR0.out x8_1 p152 q152
              cases e152
              replace hx152_0 := (HB.out.cell (World.block_lt_of_cell? w _ hx152_0)).trans hx152_0
              replace hx152_1 := (HB.out.cell (World.block_lt_of_cell? w _ hx152_1)).trans hx152_1
              replace hx152_2 := (HB.out.cell (World.block_lt_of_cell? w _ hx152_2)).trans hx152_2
              replace hx152_3 := (HB.out.cell (World.block_lt_of_cell? w _ hx152_3)).trans hx152_3
              replace p152 := eq_true p152
              replace q152 := eq_true q152
              go_wp2_with (first | ((with_reducible refine gate_dst (N := 5) rfl ?_); refine box_event ?hg (N := 5) ?hd (cs := #[.int .i64 0, .int .i64 0, .int .i64 0, .int .i64 0]) (t := 71) ?hr ?_; (case hd => rfl); (case hg => rfl); (case hr => first | (go_simp; done) | (go_simp; rfl)); intro gb153 hg w8 hbox hb; have n0_ := Aside0.mk (below_step (by repeat (first | (with_reducible first | exact HB.out | apply below_alloc | apply pw_below_drewN | apply below_drew1) | exact HB.out)) hb); have n1_ := Aside0.mk (hbox); have n2_ := Aside0.mk ((by rw [hg]; exact (below_size (by repeat (first | (with_reducible first | exact HB.out | apply below_alloc | apply pw_below_drewN | apply below_drew1) | exact HB.out))) : w.heap.size ≤ gb153)); have n3_ := Aside0.mk ((by rw [hg]; exact (below_size (by repeat (first | (with_reducible first | exact HB.out | apply below_alloc | apply pw_below_drewN | apply below_drew1) | exact HB.out))) : w.heap.size ≤ gb153)); clear HB; have HB := n0_; have BK153 := n1_; have GW153 := n2_; have GE153 := n3_; clear n0_ n1_ n2_ n3_; clear hb hbox hg; have hcz9_0 : w8.cell? ⟨gb153, 0, none⟩ = some (.int .i64 0) := (blk_cell BK153.out 0).trans rfl; have hcz9_1 : w8.cell? ⟨gb153, 1, none⟩ = some (.int .i64 0) := (blk_cell BK153.out 1).trans rfl; have hcz9_2 : w8.cell? ⟨gb153, 2, none⟩ = some (.int .i64 0) := (blk_cell BK153.out 2).trans rfl; have hcz9_3 : w8.cell? ⟨gb153, 3, none⟩ = some (.int .i64 0) := (blk_cell BK153.out 3).trans rfl; have hfz9_0 := blk_frozen BK153.out 0; have hfz9_1 := blk_frozen BK153.out 1; have hfz9_2 := blk_frozen BK153.out 2; have hfz9_3 := blk_frozen BK153.out 3))
              go_roundg k1
              case measure => have := HK1.out; omega
              case rel => exact ⟨(x3_1), (wrap64 (x8_1 + 1)), (by first | rfl | (simp; done) | (simp [*]; done)), (by first | rfl | (simp; done) | (simp [*]; done)), H', ⟨by have := HK1.out; omega⟩, ⟨by repeat (first | (with_reducible first | exact HB.out | apply below_alloc | apply pw_below_drewN | apply below_drew1 | refine below_set ?_ GE153.out) | exact HB.out)⟩⟩
          · rw [if_neg c4] at H
            exact absurd H (by simp)
        · rw [if_neg c3] at H
          exact absurd H (by simp)
      · rw [if_neg c2] at H
        have c2b0 : decide (x8_1 < (l0.length : Int)) = false := decide_eq_false c2
        clear c2
        obtain rfl := Option.some.inj H
        simp only [Option.some.injEq, Prod.mk.injEq] at H
        obtain ⟨rfl⟩ := H
        go_wp2
        go_ret
        exact ⟨by first | rfl | (simp [errW_none, errW_some] <;> rfl) | (simp [*, errW_none, errW_some] <;> rfl), by repeat (first | (with_reducible first | exact HB.out | apply below_alloc | apply pw_below_drewN | apply below_drew1) | exact HB.out)⟩

/-! ### countermandlaw07_alive: function 29 -/
def countermandlaw07_alive.f (k : Nat)  : Option (Bool) := (code_Check.f k (([(⟨4, 0, 0, 0⟩ : S71), (⟨5, 0, 0, 0⟩ : S71)] : List (S71)))).bind fun bt157 => ((code_Check.f k (([(⟨4, 0, 0, 0⟩ : S71)] : List (S71)))).bind fun bt162 => (if bt157.2 = 0 then (if bt162.2 = 11 then ((code_Blocks.f k (([(⟨4, 0, 0, 0⟩ : S71)] : List (S71)))).bind fun t167 => (some (t167 == 1))) else (some false)) else (some false)))
theorem countermandlaw07_alive.mono : ∀ k, LeO (countermandlaw07_alive.f k ) (countermandlaw07_alive.f (k + 1) ) := by
  intro  k
  unfold countermandlaw07_alive.f
  repeat' first
      | (with_reducible exact code_Blocks.mono _ _)
      | (with_reducible exact code_Check.mono _ _)
      | (with_reducible exact LeO.refl _)
      | (with_reducible exact LeO.none _)
      | (with_reducible refine LeO.ite ?_ ?_)
      | (with_reducible refine LeO.bind ?_ (fun _ => ?_))
      | exact code_Blocks.mono _ _
      | exact code_Check.mono _ _
      | exact LeO.none _
      | refine LeO.ite ?_ ?_
      | refine LeO.bind ?_ (fun _ => ?_)
set_option maxHeartbeats 8000000 in
set_option maxRecDepth 100000 in
theorem countermandlaw07_alive.calls (k : Nat)  (r : Bool) (w : World) (h : countermandlaw07_alive.f k  = some r) :
    Calls Try.prog 29 #[] w fun e w' => e = .returned (.bool r) ∧ Below w.heap.size w w' := by
  have hu71 := Try.underlying71
  have HB := Aside0.mk (Below.refl w.heap.size w)
  have H : ((code_Check.f k (([(⟨4, 0, 0, 0⟩ : S71), (⟨5, 0, 0, 0⟩ : S71)] : List (S71)))).bind fun bt157 => ((code_Check.f k (([(⟨4, 0, 0, 0⟩ : S71)] : List (S71)))).bind fun bt162 => (if bt157.2 = 0 then (if bt162.2 = 11 then ((code_Blocks.f k (([(⟨4, 0, 0, 0⟩ : S71)] : List (S71)))).bind fun t167 => (some (t167 == 1))) else (some false)) else (some false)))) = some r := h
  clear h
  obtain ⟨y154, hy154⟩ : ∃ y_ : List (S71), y_ = (([(⟨4, 0, 0, 0⟩ : S71), (⟨5, 0, 0, 0⟩ : S71)] : List (S71))) := ⟨_, rfl⟩
  replace H : ((code_Check.f k y154).bind fun bt157 => ((code_Check.f k (([(⟨4, 0, 0, 0⟩ : S71)] : List (S71)))).bind fun bt162 => (if bt157.2 = 0 then (if bt162.2 = 11 then ((code_Blocks.f k (([(⟨4, 0, 0, 0⟩ : S71)] : List (S71)))).bind fun t167 => (some (t167 == 1))) else (some false)) else (some false)))) = some r := by first | (rw [hy154]; with_reducible exact H) | (have H2_ := (Option.bind_some _ _).symm.trans H; rw [hy154]; with_reducible exact H2_) | (have H2_ := (Option.bind_some _ _).symm.trans H; with_reducible exact H2_) | with_reducible exact H | (rw [hy154]; exact H) | exact H
  have Ny154 := Aside0.mk hy154
  clear hy154
  replace H := Option.bind_eq_some_iff.mp H
  obtain ⟨⟨t157, t158⟩, A10, H⟩ := H
  replace H : ((code_Check.f k (([(⟨4, 0, 0, 0⟩ : S71)] : List (S71)))).bind fun bt162 => (if t158 = 0 then (if bt162.2 = 11 then ((code_Blocks.f k (([(⟨4, 0, 0, 0⟩ : S71)] : List (S71)))).bind fun t167 => (some (t167 == 1))) else (some false)) else (some false))) = some r := H
  have A1 := Aside0.mk A10
  clear A10
  obtain ⟨y159, hy159⟩ : ∃ y_ : List (S71), y_ = (([(⟨4, 0, 0, 0⟩ : S71)] : List (S71))) := ⟨_, rfl⟩
  replace H : ((code_Check.f k y159).bind fun bt162 => (if t158 = 0 then (if bt162.2 = 11 then ((code_Blocks.f k (([(⟨4, 0, 0, 0⟩ : S71)] : List (S71)))).bind fun t167 => (some (t167 == 1))) else (some false)) else (some false))) = some r := by first | (rw [hy159]; with_reducible exact H) | (have H2_ := (Option.bind_some _ _).symm.trans H; rw [hy159]; with_reducible exact H2_) | (have H2_ := (Option.bind_some _ _).symm.trans H; with_reducible exact H2_) | with_reducible exact H | (rw [hy159]; exact H) | exact H
  have Ny159 := Aside0.mk hy159
  clear hy159
  replace H := Option.bind_eq_some_iff.mp H
  obtain ⟨⟨t162, t163⟩, A20, H⟩ := H
  replace H : (if t158 = 0 then (if t163 = 11 then ((code_Blocks.f k (([(⟨4, 0, 0, 0⟩ : S71)] : List (S71)))).bind fun t167 => (some (t167 == 1))) else (some false)) else (some false)) = some r := H
  have A2 := Aside0.mk A20
  clear A20
  by_cases c3 : t158 = 0
  · rw [if_pos c3] at H
    have c3b0 : (t158 == 0) = true := beq_iff_eq.mpr c3
    have c3b1 : (t158 != 0) = false := bne_eq_false_iff_eq.mpr c3
    clear c3
    by_cases c4 : t163 = 11
    · rw [if_pos c4] at H
      have c4b0 : (t163 == 11) = true := beq_iff_eq.mpr c4
      have c4b1 : (t163 != 11) = false := bne_eq_false_iff_eq.mpr c4
      clear c4
      obtain ⟨y164, hy164⟩ : ∃ y_ : List (S71), y_ = (([(⟨4, 0, 0, 0⟩ : S71)] : List (S71))) := ⟨_, rfl⟩
      replace H : ((code_Blocks.f k y164).bind fun t167 => (some (t167 == 1))) = some r := by first | (rw [hy164]; with_reducible exact H) | (have H2_ := (Option.bind_some _ _).symm.trans H; rw [hy164]; with_reducible exact H2_) | (have H2_ := (Option.bind_some _ _).symm.trans H; with_reducible exact H2_) | with_reducible exact H | (rw [hy164]; exact H) | exact H
      have Ny164 := Aside0.mk hy164
      clear hy164
      replace H := Option.bind_eq_some_iff.mp H
      obtain ⟨t167, A50, H⟩ := H
      replace H : (some (t167 == 1)) = some r := H
      have A5 := Aside0.mk A50
      clear A50
      obtain rfl := Option.some.inj H
      simp only [Option.some.injEq, Prod.mk.injEq] at H
      obtain ⟨rfl⟩ := H
      go_enter Try.func29, Try.ntmps29
      go_wp2_with (first | ((with_reducible refine gate_dst (N := 8) rfl ?_); (try (refine gate_guard (by rfl) ?_; dsimp only)); refine Kd.R_lit k71 _ 71 ?hg (N := 8) ?hd (xs := ([(⟨4, 0, 0, 0⟩ : S71), (⟨5, 0, 0, 0⟩ : S71)] : List (S71))) (inner := [.int .i64 4, .int .i64 0, .int .i64 0, .int .i64 0, .int .i64 5, .int .i64 0, .int .i64 0, .int .i64 0]) (ok := fun _ => True) (okp := fun _ => True) ?hr ?hp (fun _ hk => hk) trivial (Below.refl _ _) (Nat.le_refl _) (by simp) ?_; (case hd => rfl); (case hg => rfl); (case hr => first | (go_simp; done) | (go_simp; rfl)); (case hp => exact (Reps.c4 (show Kd.M k71 _ _ _ (⟨4, 0, 0, 0⟩ : S71) [.int .i64 4, .int .i64 0, .int .i64 0, .int .i64 0] from (k71_mkM _ _ _ (⟨4, 0, 0, 0⟩ : S71) )) (Reps.c4 (show Kd.M k71 _ _ _ (⟨5, 0, 0, 0⟩ : S71) [.int .i64 5, .int .i64 0, .int .i64 0, .int .i64 0] from (k71_mkM _ _ _ (⟨5, 0, 0, 0⟩ : S71) )) (Reps.none _ _)))); intro v155 w6 ho7 hb hg_ hnew_; clear hg_ hnew_; (first | rw [← Ny154.out] at ho7 | (simp only [Int.reduceToNat] at ho7; rw [← Ny154.out] at ho7)); have n0_ := Aside0.mk (Kd.R_lower ho7 (below_size (by repeat (first | (with_reducible first | exact HB.out | apply below_alloc | apply pw_below_drewN | apply below_drew1) | exact HB.out)))); have n1_ := Aside0.mk (below_step (by repeat (first | (with_reducible first | exact HB.out | apply below_alloc | apply pw_below_drewN | apply below_drew1) | exact HB.out)) hb); clear HB; have HO156 := n0_; have HB := n1_; clear n0_ n1_; clear hb ho7; obtain ⟨Ao8, co8, eo8⟩ := Kd.R_slice HO156.out; subst eo8) | ((with_reducible refine gate_callee (f := 30) rfl ?_); refine goesL_ (some 9) rfl rfl Try.func30 (by kernel_rfl) rfl #[.slice Ao8 y154.length co8] rfl (by (try simp only [List.map_toArray, List.map_cons, List.map_nil]); first | done | rfl | (simp only [List.length_drop, List.length_take]; rfl)) ?_; (with_reducible refine (code_Check.calls k _ _ y154 t157 t158 _ ?side1 ?side2 A1.out).mono ?_); (case side1 => repeat (first | exact (Kd.R_reads' HO156.out).2.2 | (with_reducible refine Kd.C_alloc ?_ _) | (with_reducible refine Kd.C_drewN ?_ _) | (with_reducible refine Kd.C_drew ?_))); (case side2 => exact (Kd.R_reads' HO156.out).2.1); rintro e w9 ⟨rfl, hb⟩; refine ⟨_, rfl, ?_⟩; have n0_ := Aside0.mk (Kd.R_below (by (with_reducible repeat (first | apply Kd.R_alloc | apply Kd.R_drewN | apply Kd.R_drew)); exact HO156.out) hb); have n1_ := Aside0.mk (below_step (by repeat (first | (with_reducible first | exact HB.out | apply below_alloc | apply pw_below_drewN | apply below_drew1) | exact HB.out)) hb); clear HO156; clear HB; have HO156 := n0_; have HB := n1_; clear n0_ n1_; (try clear hb); (try clear hb2); (try clear hk); (try clear hi)) | ((with_reducible refine gate_dst (N := 14) rfl ?_); (try (refine gate_guard (by rfl) ?_; dsimp only)); refine Kd.R_lit k71 _ 71 ?hg (N := 14) ?hd (xs := ([(⟨4, 0, 0, 0⟩ : S71)] : List (S71))) (inner := [.int .i64 4, .int .i64 0, .int .i64 0, .int .i64 0]) (ok := fun _ => True) (okp := fun _ => True) ?hr ?hp (fun _ hk => hk) trivial (Below.refl _ _) (Nat.le_refl _) (by simp) ?_; (case hd => rfl); (case hg => rfl); (case hr => first | (go_simp; done) | (go_simp; rfl)); (case hp => exact (Reps.c4 (show Kd.M k71 _ _ _ (⟨4, 0, 0, 0⟩ : S71) [.int .i64 4, .int .i64 0, .int .i64 0, .int .i64 0] from (k71_mkM _ _ _ (⟨4, 0, 0, 0⟩ : S71) )) (Reps.none _ _))); intro v160 w10 ho11 hb hg_ hnew_; clear hg_ hnew_; (first | rw [← Ny159.out] at ho11 | (simp only [Int.reduceToNat] at ho11; rw [← Ny159.out] at ho11)); have n0_ := Aside0.mk (Kd.R_elder' (by (with_reducible repeat (first | apply Kd.R_alloc | apply Kd.R_drewN | apply Kd.R_drew)); exact HO156.out) (Kd.R_base ho11) hb); have n1_ := Aside0.mk (Kd.R_lower (Kd.R_new' ho11 (Kd.R_lt (by (with_reducible repeat (first | apply Kd.R_alloc | apply Kd.R_drewN | apply Kd.R_drew)); exact HO156.out))) (below_size (by repeat (first | (with_reducible first | exact HB.out | apply below_alloc | apply pw_below_drewN | apply below_drew1) | exact HB.out)))); have n2_ := Aside0.mk (below_step (by repeat (first | (with_reducible first | exact HB.out | apply below_alloc | apply pw_below_drewN | apply below_drew1) | exact HB.out)) hb); clear HO156; clear HB; have HO156 := n0_; have HO161 := n1_; have HB := n2_; clear n0_ n1_ n2_; clear hb ho11; obtain ⟨Ao12, co12, eo12⟩ := Kd.R_slice HO161.out; subst eo12) | ((with_reducible refine gate_callee (f := 30) rfl ?_); refine goesL_ (some 15) rfl rfl Try.func30 (by kernel_rfl) rfl #[.slice Ao12 y159.length co12] rfl (by (try simp only [List.map_toArray, List.map_cons, List.map_nil]); first | done | rfl | (simp only [List.length_drop, List.length_take]; rfl)) ?_; (with_reducible refine (code_Check.calls k _ _ y159 t162 t163 _ ?side1 ?side2 A2.out).mono ?_); (case side1 => repeat (first | exact (Kd.R_reads' HO161.out).2.2 | (with_reducible refine Kd.C_alloc ?_ _) | (with_reducible refine Kd.C_drewN ?_ _) | (with_reducible refine Kd.C_drew ?_))); (case side2 => exact (Kd.R_reads' HO161.out).2.1); rintro e w13 ⟨rfl, hb⟩; refine ⟨_, rfl, ?_⟩; have n0_ := Aside0.mk (Kd.R_below (by (with_reducible repeat (first | apply Kd.R_alloc | apply Kd.R_drewN | apply Kd.R_drew)); exact HO156.out) hb); have n1_ := Aside0.mk (Kd.R_below (by (with_reducible repeat (first | apply Kd.R_alloc | apply Kd.R_drewN | apply Kd.R_drew)); exact HO161.out) hb); have n2_ := Aside0.mk (below_step (by repeat (first | (with_reducible first | exact HB.out | apply below_alloc | apply pw_below_drewN | apply below_drew1) | exact HB.out)) hb); clear HO156; clear HO161; clear HB; have HO156 := n0_; have HO161 := n1_; have HB := n2_; clear n0_ n1_ n2_; (try clear hb); (try clear hb2); (try clear hk); (try clear hi)) | ((with_reducible refine gate_dst (N := 26) rfl ?_); (try (refine gate_guard (by rfl) ?_; dsimp only)); refine Kd.R_lit k71 _ 71 ?hg (N := 26) ?hd (xs := ([(⟨4, 0, 0, 0⟩ : S71)] : List (S71))) (inner := [.int .i64 4, .int .i64 0, .int .i64 0, .int .i64 0]) (ok := fun _ => True) (okp := fun _ => True) ?hr ?hp (fun _ hk => hk) trivial (Below.refl _ _) (Nat.le_refl _) (by simp) ?_; (case hd => rfl); (case hg => rfl); (case hr => first | (go_simp; done) | (go_simp; rfl)); (case hp => exact (Reps.c4 (show Kd.M k71 _ _ _ (⟨4, 0, 0, 0⟩ : S71) [.int .i64 4, .int .i64 0, .int .i64 0, .int .i64 0] from (k71_mkM _ _ _ (⟨4, 0, 0, 0⟩ : S71) )) (Reps.none _ _))); intro v165 w14 ho15 hb hg_ hnew_; clear hg_ hnew_; (first | rw [← Ny164.out] at ho15 | (simp only [Int.reduceToNat] at ho15; rw [← Ny164.out] at ho15)); have n0_ := Aside0.mk (Kd.R_elder' (by (with_reducible repeat (first | apply Kd.R_alloc | apply Kd.R_drewN | apply Kd.R_drew)); exact HO156.out) (Kd.R_base ho15) hb); have n1_ := Aside0.mk (Kd.R_elder' (by (with_reducible repeat (first | apply Kd.R_alloc | apply Kd.R_drewN | apply Kd.R_drew)); exact HO161.out) (Kd.R_base ho15) hb); have n2_ := Aside0.mk (Kd.R_lower (Kd.R_new' (Kd.R_new' ho15 (Kd.R_lt (by (with_reducible repeat (first | apply Kd.R_alloc | apply Kd.R_drewN | apply Kd.R_drew)); exact HO156.out))) (Kd.R_lt (by (with_reducible repeat (first | apply Kd.R_alloc | apply Kd.R_drewN | apply Kd.R_drew)); exact HO161.out))) (below_size (by repeat (first | (with_reducible first | exact HB.out | apply below_alloc | apply pw_below_drewN | apply below_drew1) | exact HB.out)))); have n3_ := Aside0.mk (below_step (by repeat (first | (with_reducible first | exact HB.out | apply below_alloc | apply pw_below_drewN | apply below_drew1) | exact HB.out)) hb); clear HO156; clear HO161; clear HB; have HO156 := n0_; have HO161 := n1_; have HO166 := n2_; have HB := n3_; clear n0_ n1_ n2_ n3_; clear hb ho15; obtain ⟨Ao16, co16, eo16⟩ := Kd.R_slice HO166.out; subst eo16) | (go_at_call 32; (with_reducible refine (code_Blocks.calls k _ _ y164 t167 _ ?side1 ?side2 A5.out).mono ?_); (case side1 => repeat (first | exact (Kd.R_reads' HO166.out).2.2 | (with_reducible refine Kd.C_alloc ?_ _) | (with_reducible refine Kd.C_drewN ?_ _) | (with_reducible refine Kd.C_drew ?_))); (case side2 => exact (Kd.R_reads' HO166.out).2.1); rintro e w17 ⟨rfl, hb⟩; have n0_ := Aside0.mk (Kd.R_below (by (with_reducible repeat (first | apply Kd.R_alloc | apply Kd.R_drewN | apply Kd.R_drew)); exact HO156.out) hb); have n1_ := Aside0.mk (Kd.R_below (by (with_reducible repeat (first | apply Kd.R_alloc | apply Kd.R_drewN | apply Kd.R_drew)); exact HO161.out) hb); have n2_ := Aside0.mk (Kd.R_below (by (with_reducible repeat (first | apply Kd.R_alloc | apply Kd.R_drewN | apply Kd.R_drew)); exact HO166.out) hb); have n3_ := Aside0.mk (below_step (by repeat (first | (with_reducible first | exact HB.out | apply below_alloc | apply pw_below_drewN | apply below_drew1) | exact HB.out)) hb); clear HO156; clear HO161; clear HO166; clear HB; have HO156 := n0_; have HO161 := n1_; have HO166 := n2_; have HB := n3_; clear n0_ n1_ n2_ n3_; (try clear hb); (try clear hb2); (try clear hk); (try clear hi)))
      go_ret
      exact ⟨by first | rfl | (simp [errW_none, errW_some] <;> rfl) | (simp [*, errW_none, errW_some] <;> rfl), by repeat (first | (with_reducible first | exact HB.out | apply below_alloc | apply pw_below_drewN | apply below_drew1) | exact HB.out)⟩
    · rw [if_neg c4] at H
      have c4b0 : (t163 == 11) = false := beq_eq_false_iff_ne.mpr c4
      have c4b1 : (t163 != 11) = true := bne_iff_ne.mpr c4
      obtain rfl := Option.some.inj H
      simp only [Option.some.injEq, Prod.mk.injEq] at H
      obtain ⟨rfl⟩ := H
      go_enter Try.func29, Try.ntmps29
      go_wp2_with (first | ((with_reducible refine gate_dst (N := 8) rfl ?_); (try (refine gate_guard (by rfl) ?_; dsimp only)); refine Kd.R_lit k71 _ 71 ?hg (N := 8) ?hd (xs := ([(⟨4, 0, 0, 0⟩ : S71), (⟨5, 0, 0, 0⟩ : S71)] : List (S71))) (inner := [.int .i64 4, .int .i64 0, .int .i64 0, .int .i64 0, .int .i64 5, .int .i64 0, .int .i64 0, .int .i64 0]) (ok := fun _ => True) (okp := fun _ => True) ?hr ?hp (fun _ hk => hk) trivial (Below.refl _ _) (Nat.le_refl _) (by simp) ?_; (case hd => rfl); (case hg => rfl); (case hr => first | (go_simp; done) | (go_simp; rfl)); (case hp => exact (Reps.c4 (show Kd.M k71 _ _ _ (⟨4, 0, 0, 0⟩ : S71) [.int .i64 4, .int .i64 0, .int .i64 0, .int .i64 0] from (k71_mkM _ _ _ (⟨4, 0, 0, 0⟩ : S71) )) (Reps.c4 (show Kd.M k71 _ _ _ (⟨5, 0, 0, 0⟩ : S71) [.int .i64 5, .int .i64 0, .int .i64 0, .int .i64 0] from (k71_mkM _ _ _ (⟨5, 0, 0, 0⟩ : S71) )) (Reps.none _ _)))); intro v155 w18 ho19 hb hg_ hnew_; clear hg_ hnew_; (first | rw [← Ny154.out] at ho19 | (simp only [Int.reduceToNat] at ho19; rw [← Ny154.out] at ho19)); have n0_ := Aside0.mk (Kd.R_lower ho19 (below_size (by repeat (first | (with_reducible first | exact HB.out | apply below_alloc | apply pw_below_drewN | apply below_drew1) | exact HB.out)))); have n1_ := Aside0.mk (below_step (by repeat (first | (with_reducible first | exact HB.out | apply below_alloc | apply pw_below_drewN | apply below_drew1) | exact HB.out)) hb); clear HB; have HO156 := n0_; have HB := n1_; clear n0_ n1_; clear hb ho19; obtain ⟨Ao20, co20, eo20⟩ := Kd.R_slice HO156.out; subst eo20) | ((with_reducible refine gate_callee (f := 30) rfl ?_); refine goesL_ (some 9) rfl rfl Try.func30 (by kernel_rfl) rfl #[.slice Ao20 y154.length co20] rfl (by (try simp only [List.map_toArray, List.map_cons, List.map_nil]); first | done | rfl | (simp only [List.length_drop, List.length_take]; rfl)) ?_; (with_reducible refine (code_Check.calls k _ _ y154 t157 t158 _ ?side1 ?side2 A1.out).mono ?_); (case side1 => repeat (first | exact (Kd.R_reads' HO156.out).2.2 | (with_reducible refine Kd.C_alloc ?_ _) | (with_reducible refine Kd.C_drewN ?_ _) | (with_reducible refine Kd.C_drew ?_))); (case side2 => exact (Kd.R_reads' HO156.out).2.1); rintro e w21 ⟨rfl, hb⟩; refine ⟨_, rfl, ?_⟩; have n0_ := Aside0.mk (Kd.R_below (by (with_reducible repeat (first | apply Kd.R_alloc | apply Kd.R_drewN | apply Kd.R_drew)); exact HO156.out) hb); have n1_ := Aside0.mk (below_step (by repeat (first | (with_reducible first | exact HB.out | apply below_alloc | apply pw_below_drewN | apply below_drew1) | exact HB.out)) hb); clear HO156; clear HB; have HO156 := n0_; have HB := n1_; clear n0_ n1_; (try clear hb); (try clear hb2); (try clear hk); (try clear hi)) | ((with_reducible refine gate_dst (N := 14) rfl ?_); (try (refine gate_guard (by rfl) ?_; dsimp only)); refine Kd.R_lit k71 _ 71 ?hg (N := 14) ?hd (xs := ([(⟨4, 0, 0, 0⟩ : S71)] : List (S71))) (inner := [.int .i64 4, .int .i64 0, .int .i64 0, .int .i64 0]) (ok := fun _ => True) (okp := fun _ => True) ?hr ?hp (fun _ hk => hk) trivial (Below.refl _ _) (Nat.le_refl _) (by simp) ?_; (case hd => rfl); (case hg => rfl); (case hr => first | (go_simp; done) | (go_simp; rfl)); (case hp => exact (Reps.c4 (show Kd.M k71 _ _ _ (⟨4, 0, 0, 0⟩ : S71) [.int .i64 4, .int .i64 0, .int .i64 0, .int .i64 0] from (k71_mkM _ _ _ (⟨4, 0, 0, 0⟩ : S71) )) (Reps.none _ _))); intro v160 w22 ho23 hb hg_ hnew_; clear hg_ hnew_; (first | rw [← Ny159.out] at ho23 | (simp only [Int.reduceToNat] at ho23; rw [← Ny159.out] at ho23)); have n0_ := Aside0.mk (Kd.R_elder' (by (with_reducible repeat (first | apply Kd.R_alloc | apply Kd.R_drewN | apply Kd.R_drew)); exact HO156.out) (Kd.R_base ho23) hb); have n1_ := Aside0.mk (Kd.R_lower (Kd.R_new' ho23 (Kd.R_lt (by (with_reducible repeat (first | apply Kd.R_alloc | apply Kd.R_drewN | apply Kd.R_drew)); exact HO156.out))) (below_size (by repeat (first | (with_reducible first | exact HB.out | apply below_alloc | apply pw_below_drewN | apply below_drew1) | exact HB.out)))); have n2_ := Aside0.mk (below_step (by repeat (first | (with_reducible first | exact HB.out | apply below_alloc | apply pw_below_drewN | apply below_drew1) | exact HB.out)) hb); clear HO156; clear HB; have HO156 := n0_; have HO161 := n1_; have HB := n2_; clear n0_ n1_ n2_; clear hb ho23; obtain ⟨Ao24, co24, eo24⟩ := Kd.R_slice HO161.out; subst eo24) | ((with_reducible refine gate_callee (f := 30) rfl ?_); refine goesL_ (some 15) rfl rfl Try.func30 (by kernel_rfl) rfl #[.slice Ao24 y159.length co24] rfl (by (try simp only [List.map_toArray, List.map_cons, List.map_nil]); first | done | rfl | (simp only [List.length_drop, List.length_take]; rfl)) ?_; (with_reducible refine (code_Check.calls k _ _ y159 t162 t163 _ ?side1 ?side2 A2.out).mono ?_); (case side1 => repeat (first | exact (Kd.R_reads' HO161.out).2.2 | (with_reducible refine Kd.C_alloc ?_ _) | (with_reducible refine Kd.C_drewN ?_ _) | (with_reducible refine Kd.C_drew ?_))); (case side2 => exact (Kd.R_reads' HO161.out).2.1); rintro e w25 ⟨rfl, hb⟩; refine ⟨_, rfl, ?_⟩; have n0_ := Aside0.mk (Kd.R_below (by (with_reducible repeat (first | apply Kd.R_alloc | apply Kd.R_drewN | apply Kd.R_drew)); exact HO156.out) hb); have n1_ := Aside0.mk (Kd.R_below (by (with_reducible repeat (first | apply Kd.R_alloc | apply Kd.R_drewN | apply Kd.R_drew)); exact HO161.out) hb); have n2_ := Aside0.mk (below_step (by repeat (first | (with_reducible first | exact HB.out | apply below_alloc | apply pw_below_drewN | apply below_drew1) | exact HB.out)) hb); clear HO156; clear HO161; clear HB; have HO156 := n0_; have HO161 := n1_; have HB := n2_; clear n0_ n1_ n2_; (try clear hb); (try clear hb2); (try clear hk); (try clear hi)))
      go_ret
      exact ⟨by first | rfl | (simp [errW_none, errW_some] <;> rfl) | (simp [*, errW_none, errW_some] <;> rfl), by repeat (first | (with_reducible first | exact HB.out | apply below_alloc | apply pw_below_drewN | apply below_drew1) | exact HB.out)⟩
  · rw [if_neg c3] at H
    have c3b0 : (t158 == 0) = false := beq_eq_false_iff_ne.mpr c3
    have c3b1 : (t158 != 0) = true := bne_iff_ne.mpr c3
    obtain rfl := Option.some.inj H
    simp only [Option.some.injEq, Prod.mk.injEq] at H
    obtain ⟨rfl⟩ := H
    go_enter Try.func29, Try.ntmps29
    go_wp2_with (first | ((with_reducible refine gate_dst (N := 8) rfl ?_); (try (refine gate_guard (by rfl) ?_; dsimp only)); refine Kd.R_lit k71 _ 71 ?hg (N := 8) ?hd (xs := ([(⟨4, 0, 0, 0⟩ : S71), (⟨5, 0, 0, 0⟩ : S71)] : List (S71))) (inner := [.int .i64 4, .int .i64 0, .int .i64 0, .int .i64 0, .int .i64 5, .int .i64 0, .int .i64 0, .int .i64 0]) (ok := fun _ => True) (okp := fun _ => True) ?hr ?hp (fun _ hk => hk) trivial (Below.refl _ _) (Nat.le_refl _) (by simp) ?_; (case hd => rfl); (case hg => rfl); (case hr => first | (go_simp; done) | (go_simp; rfl)); (case hp => exact (Reps.c4 (show Kd.M k71 _ _ _ (⟨4, 0, 0, 0⟩ : S71) [.int .i64 4, .int .i64 0, .int .i64 0, .int .i64 0] from (k71_mkM _ _ _ (⟨4, 0, 0, 0⟩ : S71) )) (Reps.c4 (show Kd.M k71 _ _ _ (⟨5, 0, 0, 0⟩ : S71) [.int .i64 5, .int .i64 0, .int .i64 0, .int .i64 0] from (k71_mkM _ _ _ (⟨5, 0, 0, 0⟩ : S71) )) (Reps.none _ _)))); intro v155 w26 ho27 hb hg_ hnew_; clear hg_ hnew_; (first | rw [← Ny154.out] at ho27 | (simp only [Int.reduceToNat] at ho27; rw [← Ny154.out] at ho27)); have n0_ := Aside0.mk (Kd.R_lower ho27 (below_size (by repeat (first | (with_reducible first | exact HB.out | apply below_alloc | apply pw_below_drewN | apply below_drew1) | exact HB.out)))); have n1_ := Aside0.mk (below_step (by repeat (first | (with_reducible first | exact HB.out | apply below_alloc | apply pw_below_drewN | apply below_drew1) | exact HB.out)) hb); clear HB; have HO156 := n0_; have HB := n1_; clear n0_ n1_; clear hb ho27; obtain ⟨Ao28, co28, eo28⟩ := Kd.R_slice HO156.out; subst eo28) | ((with_reducible refine gate_callee (f := 30) rfl ?_); refine goesL_ (some 9) rfl rfl Try.func30 (by kernel_rfl) rfl #[.slice Ao28 y154.length co28] rfl (by (try simp only [List.map_toArray, List.map_cons, List.map_nil]); first | done | rfl | (simp only [List.length_drop, List.length_take]; rfl)) ?_; (with_reducible refine (code_Check.calls k _ _ y154 t157 t158 _ ?side1 ?side2 A1.out).mono ?_); (case side1 => repeat (first | exact (Kd.R_reads' HO156.out).2.2 | (with_reducible refine Kd.C_alloc ?_ _) | (with_reducible refine Kd.C_drewN ?_ _) | (with_reducible refine Kd.C_drew ?_))); (case side2 => exact (Kd.R_reads' HO156.out).2.1); rintro e w29 ⟨rfl, hb⟩; refine ⟨_, rfl, ?_⟩; have n0_ := Aside0.mk (Kd.R_below (by (with_reducible repeat (first | apply Kd.R_alloc | apply Kd.R_drewN | apply Kd.R_drew)); exact HO156.out) hb); have n1_ := Aside0.mk (below_step (by repeat (first | (with_reducible first | exact HB.out | apply below_alloc | apply pw_below_drewN | apply below_drew1) | exact HB.out)) hb); clear HO156; clear HB; have HO156 := n0_; have HB := n1_; clear n0_ n1_; (try clear hb); (try clear hb2); (try clear hk); (try clear hi)) | ((with_reducible refine gate_dst (N := 14) rfl ?_); (try (refine gate_guard (by rfl) ?_; dsimp only)); refine Kd.R_lit k71 _ 71 ?hg (N := 14) ?hd (xs := ([(⟨4, 0, 0, 0⟩ : S71)] : List (S71))) (inner := [.int .i64 4, .int .i64 0, .int .i64 0, .int .i64 0]) (ok := fun _ => True) (okp := fun _ => True) ?hr ?hp (fun _ hk => hk) trivial (Below.refl _ _) (Nat.le_refl _) (by simp) ?_; (case hd => rfl); (case hg => rfl); (case hr => first | (go_simp; done) | (go_simp; rfl)); (case hp => exact (Reps.c4 (show Kd.M k71 _ _ _ (⟨4, 0, 0, 0⟩ : S71) [.int .i64 4, .int .i64 0, .int .i64 0, .int .i64 0] from (k71_mkM _ _ _ (⟨4, 0, 0, 0⟩ : S71) )) (Reps.none _ _))); intro v160 w30 ho31 hb hg_ hnew_; clear hg_ hnew_; (first | rw [← Ny159.out] at ho31 | (simp only [Int.reduceToNat] at ho31; rw [← Ny159.out] at ho31)); have n0_ := Aside0.mk (Kd.R_elder' (by (with_reducible repeat (first | apply Kd.R_alloc | apply Kd.R_drewN | apply Kd.R_drew)); exact HO156.out) (Kd.R_base ho31) hb); have n1_ := Aside0.mk (Kd.R_lower (Kd.R_new' ho31 (Kd.R_lt (by (with_reducible repeat (first | apply Kd.R_alloc | apply Kd.R_drewN | apply Kd.R_drew)); exact HO156.out))) (below_size (by repeat (first | (with_reducible first | exact HB.out | apply below_alloc | apply pw_below_drewN | apply below_drew1) | exact HB.out)))); have n2_ := Aside0.mk (below_step (by repeat (first | (with_reducible first | exact HB.out | apply below_alloc | apply pw_below_drewN | apply below_drew1) | exact HB.out)) hb); clear HO156; clear HB; have HO156 := n0_; have HO161 := n1_; have HB := n2_; clear n0_ n1_ n2_; clear hb ho31; obtain ⟨Ao32, co32, eo32⟩ := Kd.R_slice HO161.out; subst eo32) | ((with_reducible refine gate_callee (f := 30) rfl ?_); refine goesL_ (some 15) rfl rfl Try.func30 (by kernel_rfl) rfl #[.slice Ao32 y159.length co32] rfl (by (try simp only [List.map_toArray, List.map_cons, List.map_nil]); first | done | rfl | (simp only [List.length_drop, List.length_take]; rfl)) ?_; (with_reducible refine (code_Check.calls k _ _ y159 t162 t163 _ ?side1 ?side2 A2.out).mono ?_); (case side1 => repeat (first | exact (Kd.R_reads' HO161.out).2.2 | (with_reducible refine Kd.C_alloc ?_ _) | (with_reducible refine Kd.C_drewN ?_ _) | (with_reducible refine Kd.C_drew ?_))); (case side2 => exact (Kd.R_reads' HO161.out).2.1); rintro e w33 ⟨rfl, hb⟩; refine ⟨_, rfl, ?_⟩; have n0_ := Aside0.mk (Kd.R_below (by (with_reducible repeat (first | apply Kd.R_alloc | apply Kd.R_drewN | apply Kd.R_drew)); exact HO156.out) hb); have n1_ := Aside0.mk (Kd.R_below (by (with_reducible repeat (first | apply Kd.R_alloc | apply Kd.R_drewN | apply Kd.R_drew)); exact HO161.out) hb); have n2_ := Aside0.mk (below_step (by repeat (first | (with_reducible first | exact HB.out | apply below_alloc | apply pw_below_drewN | apply below_drew1) | exact HB.out)) hb); clear HO156; clear HO161; clear HB; have HO156 := n0_; have HO161 := n1_; have HB := n2_; clear n0_ n1_ n2_; (try clear hb); (try clear hb2); (try clear hk); (try clear hi)))
    go_ret
    exact ⟨by first | rfl | (simp [errW_none, errW_some] <;> rfl) | (simp [*, errW_none, errW_some] <;> rfl), by repeat (first | (with_reducible first | exact HB.out | apply below_alloc | apply pw_below_drewN | apply below_drew1) | exact HB.out)⟩

/-! ### countermandref07_Shaped: function 33 -/
mutual
def countermandref07_Shaped.l0 : Nat → Int → List (S71) → Int → Int → Option (Bool)
  | 0, _, _, _, _ => none
  | k + 1, x3, x6, x7, x8 => if x8 < x7 then (if 0 ≤ x8 then (if x8 < (x6.length : Int) then (if ((rd_T71 x6 x8).f0) = 4 then (countermandref07_Shaped.j1 k (wrap64 (x3 + 1)) x6 x7 x8 ((rd_T71 x6 x8).f0) ((rd_T71 x6 x8).f1) ((rd_T71 x6 x8).f2) ((rd_T71 x6 x8).f3)) else (countermandref07_Shaped.j1 k x3 x6 x7 x8 ((rd_T71 x6 x8).f0) ((rd_T71 x6 x8).f1) ((rd_T71 x6 x8).f2) ((rd_T71 x6 x8).f3))) else (none)) else (none)) else (some (x3 == 0))
def countermandref07_Shaped.j1 : Nat → Int → List (S71) → Int → Int → Int → Int → Int → Int → Option (Bool)
  | 0, _, _, _, _, _, _, _, _ => none
  | k + 1, x3, x6, x7, x8, x170000, x170001, x170002, x170003 => if x170000 = 5 then (if (wrap64 (x3 - 1)) < 0 then (some false) else (if (wrap64 (x3 - 1)) > 1 then (some false) else (countermandref07_Shaped.l0 k (wrap64 (x3 - 1)) x6 x7 (wrap64 (x8 + 1))))) else (if x3 < 0 then (some false) else (if x3 > 1 then (some false) else (countermandref07_Shaped.l0 k x3 x6 x7 (wrap64 (x8 + 1)))))
end
def countermandref07_Shaped.f (k : Nat) (l0 : List (S71)) : Option (Bool) := countermandref07_Shaped.l0 k 0 l0 (l0.length : Int) 0
theorem countermandref07_Shaped.mono_l : ∀ k, (∀ y0 y1 y2 y3, LeO (countermandref07_Shaped.l0 k y0 y1 y2 y3) (countermandref07_Shaped.l0 (k + 1) y0 y1 y2 y3)) ∧ (∀ y0 y1 y2 y3 y4 y5 y6 y7, LeO (countermandref07_Shaped.j1 k y0 y1 y2 y3 y4 y5 y6 y7) (countermandref07_Shaped.j1 (k + 1) y0 y1 y2 y3 y4 y5 y6 y7))
  | 0 => ⟨fun _ _ _ _ r h => by simp [countermandref07_Shaped.l0] at h, fun _ _ _ _ _ _ _ _ r h => by simp [countermandref07_Shaped.j1] at h⟩
  | k + 1 => by
    obtain ⟨ih0, ih1⟩ := countermandref07_Shaped.mono_l k
    refine ⟨?_, ?_⟩
    · intro y0 y1 y2 y3
      unfold countermandref07_Shaped.l0
      repeat' first
      | (with_reducible exact ih0 _ _ _ _)
      | (with_reducible exact ih1 _ _ _ _ _ _ _ _)
      | (with_reducible exact LeO.refl _)
      | (with_reducible exact LeO.none _)
      | (with_reducible refine LeO.ite ?_ ?_)
      | (with_reducible refine LeO.bind ?_ (fun _ => ?_))
      | exact ih0 _ _ _ _
      | exact ih1 _ _ _ _ _ _ _ _
      | exact LeO.none _
      | refine LeO.ite ?_ ?_
      | refine LeO.bind ?_ (fun _ => ?_)
    · intro y0 y1 y2 y3 y4 y5 y6 y7
      unfold countermandref07_Shaped.j1
      repeat' first
      | (with_reducible exact ih0 _ _ _ _)
      | (with_reducible exact ih1 _ _ _ _ _ _ _ _)
      | (with_reducible exact LeO.refl _)
      | (with_reducible exact LeO.none _)
      | (with_reducible refine LeO.ite ?_ ?_)
      | (with_reducible refine LeO.bind ?_ (fun _ => ?_))
      | exact ih0 _ _ _ _
      | exact ih1 _ _ _ _ _ _ _ _
      | exact LeO.none _
      | refine LeO.ite ?_ ?_
      | refine LeO.bind ?_ (fun _ => ?_)
theorem countermandref07_Shaped.mono : ∀ a0 k, LeO (countermandref07_Shaped.f k a0) (countermandref07_Shaped.f (k + 1) a0) := by
  intro a0 k
  obtain ⟨ih0, ih1⟩ := countermandref07_Shaped.mono_l k
  unfold countermandref07_Shaped.f
  repeat' first
      | (with_reducible exact ih0 _ _ _ _)
      | (with_reducible exact ih1 _ _ _ _ _ _ _ _)
      | (with_reducible exact LeO.refl _)
      | (with_reducible exact LeO.none _)
      | (with_reducible refine LeO.ite ?_ ?_)
      | (with_reducible refine LeO.bind ?_ (fun _ => ?_))
      | exact ih0 _ _ _ _
      | exact ih1 _ _ _ _ _ _ _ _
      | exact LeO.none _
      | refine LeO.ite ?_ ?_
      | refine LeO.bind ?_ (fun _ => ?_)
set_option maxHeartbeats 8000000 in
set_option maxRecDepth 100000 in
theorem countermandref07_Shaped.calls (k : Nat) (A0 : Option Addr) (c0 : Nat) (l0 : List (S71)) (r : Bool) (w : World) (hr0 : Kd.C k71 w A0 l0.length l0) (hc0 : l0.length ≤ c0) (h : countermandref07_Shaped.f k l0 = some r) :
    Calls Try.prog 33 #[.slice A0 l0.length c0] w fun e w' => e = .returned (.bool r) ∧ Below w.heap.size w w' := by
  have hu71 := Try.underlying71
  have HR0 := Aside0.mk hr0
  have HC0 := Aside0.mk hc0
  clear hr0 hc0
  have HB := Aside0.mk (Below.refl w.heap.size w)
  have H : (countermandref07_Shaped.l0 k 0 l0 (l0.length : Int) 0) = some r := h
  clear h
  have H' := Aside0.mk H
  clear H
  go_enter Try.func33, Try.ntmps33
  go_wp2
  go_loopg [3, 8] k (fun kq v3 v8 w' => ∃ (x3_1 : Int) (x8_1 : Int), v3 = .int .i64 x3_1 ∧ v8 = .int .i64 x8_1 ∧ Aside0 (countermandref07_Shaped.l0 kq x3_1 l0 (l0.length : Int) x8_1 = some r) ∧ Aside0 (kq ≤ k) ∧ Aside0 (Below w.heap.size w w'))
  case atStart => exact ⟨(0), (0), (by first | rfl | (simp; done) | (simp [*]; done)), (by first | rfl | (simp; done) | (simp [*]; done)), H', ⟨Nat.le_refl _⟩, ⟨by repeat (first | (with_reducible first | exact HB.out | apply below_alloc | apply pw_below_drewN | apply below_drew1) | exact HB.out)⟩⟩
  case round =>
    clear H'
    obtain ⟨x3_1, x8_1, rfl, rfl, HA, HK1, HB⟩ := hrel
    cases gk with
    | zero => exact absurd HA.out (by simp [countermandref07_Shaped.l0])
    | succ k1 =>
      have H := HA.out
      clear HA
      simp only [countermandref07_Shaped.l0] at H
      by_cases c2 : x8_1 < (l0.length : Int)
      · rw [if_pos c2] at H
        have c2b0 : decide (x8_1 < (l0.length : Int)) = true := decide_eq_true c2
        clear c2
        by_cases c3 : 0 ≤ x8_1
        · rw [if_pos c3] at H
          have c3b0 : decide (0 ≤ x8_1) = true := decide_eq_true c3
          clear c3
          by_cases c4 : x8_1 < (l0.length : Int)
          · rw [if_pos c4] at H
            have c4b0 : decide (x8_1 < (l0.length : Int)) = true := decide_eq_true c4
            clear c4
            have HC5 := Aside0.mk H
            clear H
            have p168 : 0 ≤ (x8_1 : Int) := of_decide_eq_true (by first | (with_reducible assumption) | assumption)
            have q168 : x8_1 < (l0.length : Int) := of_decide_eq_true (by first | (with_reducible assumption) | assumption)
            obtain ⟨ad168, e168, hx168_0, hx168_1, hx168_2, hx168_3⟩ := at_T71 HR0.out x8_1 p168 q168
            cases e168
            replace hx168_0 := (HB.out.cell (World.block_lt_of_cell? w _ hx168_0)).trans hx168_0
            replace hx168_1 := (HB.out.cell (World.block_lt_of_cell? w _ hx168_1)).trans hx168_1
            replace hx168_2 := (HB.out.cell (World.block_lt_of_cell? w _ hx168_2)).trans hx168_2
            replace hx168_3 := (HB.out.cell (World.block_lt_of_cell? w _ hx168_3)).trans hx168_3
            replace p168 := eq_true p168
            replace q168 := eq_true q168
            go_upto_if 14 with (first | ((with_reducible refine gate_dst (N := 5) rfl ?_); refine box_event ?hg (N := 5) ?hd (cs := #[.int .i64 0, .int .i64 0, .int .i64 0, .int .i64 0]) (t := 71) ?hr ?_; (case hd => rfl); (case hg => rfl); (case hr => first | (go_simp; done) | (go_simp; rfl)); intro gb169 hg w6 hbox hb; have n0_ := Aside0.mk (below_step (by repeat (first | (with_reducible first | exact HB.out | apply below_alloc | apply pw_below_drewN | apply below_drew1) | exact HB.out)) hb); have n1_ := Aside0.mk (hbox); have n2_ := Aside0.mk ((by rw [hg]; exact (below_size (by repeat (first | (with_reducible first | exact HB.out | apply below_alloc | apply pw_below_drewN | apply below_drew1) | exact HB.out))) : w.heap.size ≤ gb169)); have n3_ := Aside0.mk ((by rw [hg]; exact (below_size (by repeat (first | (with_reducible first | exact HB.out | apply below_alloc | apply pw_below_drewN | apply below_drew1) | exact HB.out))) : w.heap.size ≤ gb169)); clear HB; have HB := n0_; have BK169 := n1_; have GW169 := n2_; have GE169 := n3_; clear n0_ n1_ n2_ n3_; clear hb hbox hg; have hcz7_0 : w6.cell? ⟨gb169, 0, none⟩ = some (.int .i64 0) := (blk_cell BK169.out 0).trans rfl; have hcz7_1 : w6.cell? ⟨gb169, 1, none⟩ = some (.int .i64 0) := (blk_cell BK169.out 1).trans rfl; have hcz7_2 : w6.cell? ⟨gb169, 2, none⟩ = some (.int .i64 0) := (blk_cell BK169.out 2).trans rfl; have hcz7_3 : w6.cell? ⟨gb169, 3, none⟩ = some (.int .i64 0) := (blk_cell BK169.out 3).trans rfl; have hfz7_0 := blk_frozen BK169.out 0; have hfz7_1 := blk_frozen BK169.out 1; have hfz7_2 := blk_frozen BK169.out 2; have hfz7_3 := blk_frozen BK169.out 3))
            (try simp only [Act.put, List.setIfInBounds_toArray, List.set_cons_zero, List.set_cons_succ])
            go_cut [3] (fun v3 wc => ∃ (kq : Nat) (x3_4 : Int), v3 = .int .i64 x3_4 ∧ Aside0 (countermandref07_Shaped.j1 kq x3_4 l0 (l0.length : Int) x8_1 ((rd_T71 l0 x8_1).f0) ((rd_T71 l0 x8_1).f1) ((rd_T71 l0 x8_1).f2) ((rd_T71 l0 x8_1).f3) = some r) ∧ Aside0 (kq ≤ k1) ∧ Aside0 (wc.heap[gb169]? = some (.cells #[.int .i64 ((rd_T71 l0 x8_1).f0), .int .i64 ((rd_T71 l0 x8_1).f1), .int .i64 ((rd_T71 l0 x8_1).f2), .int .i64 ((rd_T71 l0 x8_1).f3)] 71 (0, 0))) ∧ Aside0 (Below w.heap.size w wc))
            case first =>
              have H := HC5.out
              clear HC5
              by_cases c8 : ((rd_T71 l0 x8_1).f0) = 4
              · rw [if_pos c8] at H
                have c8b0 : (((rd_T71 l0 x8_1).f0) == 4) = true := beq_iff_eq.mpr c8
                have c8b1 : (((rd_T71 l0 x8_1).f0) != 4) = false := bne_eq_false_iff_eq.mpr c8
                clear c8
                (first | rw [c8b0] | (simp only [i64_w, i32_w]; rw [c8b0]) | skip)
                have H' := Aside0.mk H
                clear H
                go_wp2
                go_meet
                case rel => exact ⟨_, (wrap64 (x3_1 + 1)), (by first | rfl | (simp; done) | (simp [*]; done)), H', ⟨by have := HK1.out; first | omega | exact Nat.le_refl _⟩, ⟨by (with_reducible repeat (first | refine blk_drewN ?_ _ | refine blk_drew ?_ | refine blk_alloc ?_ _)); refine blk_put (cs := #[.int .i64 ((rd_T71 l0 x8_1).f0), .int .i64 ((rd_T71 l0 x8_1).f1), .int .i64 ((rd_T71 l0 x8_1).f2), .int .i64 0]) ?_ 3 _ rfl; (with_reducible repeat (first | refine blk_drewN ?_ _ | refine blk_drew ?_ | refine blk_alloc ?_ _)); refine blk_put (cs := #[.int .i64 ((rd_T71 l0 x8_1).f0), .int .i64 ((rd_T71 l0 x8_1).f1), .int .i64 0, .int .i64 0]) ?_ 2 _ rfl; (with_reducible repeat (first | refine blk_drewN ?_ _ | refine blk_drew ?_ | refine blk_alloc ?_ _)); refine blk_put (cs := #[.int .i64 ((rd_T71 l0 x8_1).f0), .int .i64 0, .int .i64 0, .int .i64 0]) ?_ 1 _ rfl; (with_reducible repeat (first | refine blk_drewN ?_ _ | refine blk_drew ?_ | refine blk_alloc ?_ _)); refine blk_put (cs := #[.int .i64 0, .int .i64 0, .int .i64 0, .int .i64 0]) ?_ 0 _ rfl; (with_reducible repeat (first | refine blk_drewN ?_ _ | refine blk_drew ?_ | refine blk_alloc ?_ _)); exact BK169.out⟩, ⟨by repeat (first | (with_reducible first | exact HB.out | apply below_alloc | apply pw_below_drewN | apply below_drew1 | refine below_set ?_ GE169.out) | exact HB.out)⟩⟩
              · rw [if_neg c8] at H
                have c8b0 : (((rd_T71 l0 x8_1).f0) == 4) = false := beq_eq_false_iff_ne.mpr c8
                have c8b1 : (((rd_T71 l0 x8_1).f0) != 4) = true := bne_iff_ne.mpr c8
                (first | rw [c8b0] | (simp only [i64_w, i32_w]; rw [c8b0]) | skip)
                have H' := Aside0.mk H
                clear H
                go_wp2
                go_meet
                case rel => exact ⟨_, (x3_1), (by first | rfl | (simp; done) | (simp [*]; done)), H', ⟨by have := HK1.out; first | omega | exact Nat.le_refl _⟩, ⟨by (with_reducible repeat (first | refine blk_drewN ?_ _ | refine blk_drew ?_ | refine blk_alloc ?_ _)); refine blk_put (cs := #[.int .i64 ((rd_T71 l0 x8_1).f0), .int .i64 ((rd_T71 l0 x8_1).f1), .int .i64 ((rd_T71 l0 x8_1).f2), .int .i64 0]) ?_ 3 _ rfl; (with_reducible repeat (first | refine blk_drewN ?_ _ | refine blk_drew ?_ | refine blk_alloc ?_ _)); refine blk_put (cs := #[.int .i64 ((rd_T71 l0 x8_1).f0), .int .i64 ((rd_T71 l0 x8_1).f1), .int .i64 0, .int .i64 0]) ?_ 2 _ rfl; (with_reducible repeat (first | refine blk_drewN ?_ _ | refine blk_drew ?_ | refine blk_alloc ?_ _)); refine blk_put (cs := #[.int .i64 ((rd_T71 l0 x8_1).f0), .int .i64 0, .int .i64 0, .int .i64 0]) ?_ 1 _ rfl; (with_reducible repeat (first | refine blk_drewN ?_ _ | refine blk_drew ?_ | refine blk_alloc ?_ _)); refine blk_put (cs := #[.int .i64 0, .int .i64 0, .int .i64 0, .int .i64 0]) ?_ 0 _ rfl; (with_reducible repeat (first | refine blk_drewN ?_ _ | refine blk_drew ?_ | refine blk_alloc ?_ _)); exact BK169.out⟩, ⟨by repeat (first | (with_reducible first | exact HB.out | apply below_alloc | apply pw_below_drewN | apply below_drew1 | refine below_set ?_ GE169.out) | exact HB.out)⟩⟩
            case rest =>
              clear HC5
              try clear p1
              try clear q1
              try clear hx1
              try clear c2
              try clear c2b0
              try clear p2
              try clear c3
              try clear c3b0
              try clear c4
              try clear c4b0
              try clear p6
              try clear c8
              try clear c8b0
              try clear c8b1
              try clear hcz7_0
              try clear hcz7_1
              try clear hcz7_2
              try clear hcz7_3
              try clear hfz7_0
              try clear hfz7_1
              try clear hfz7_2
              try clear hfz7_3
              try clear hx168_0
              try clear hx168_1
              try clear hx168_2
              try clear hx168_3
              try clear p168
              try clear q168
              obtain ⟨kq, x3_4, rfl, HA, HJ4, BK169, HB⟩ := hcut
              cases kq with
              | zero => exact absurd HA.out (by simp [countermandref07_Shaped.j1])
              | succ kj4 =>
                have H := HA.out
                clear HA
                simp only [countermandref07_Shaped.j1] at H
                by_cases c9 : ((rd_T71 l0 x8_1).f0) = 5
                · rw [if_pos c9] at H
                  have c9b0 : (((rd_T71 l0 x8_1).f0) == 5) = true := beq_iff_eq.mpr c9
                  have c9b1 : (((rd_T71 l0 x8_1).f0) != 5) = false := bne_eq_false_iff_eq.mpr c9
                  clear c9
                  by_cases c10 : (wrap64 (x3_4 - 1)) < 0
                  · rw [if_pos c10] at H
                    have c10b0 : decide ((wrap64 (x3_4 - 1)) < 0) = true := decide_eq_true c10
                    clear c10
                    obtain rfl := Option.some.inj H
                    simp only [Option.some.injEq, Prod.mk.injEq] at H
                    obtain ⟨rfl⟩ := H
                    have hcz11_0 : wc.cell? ⟨gb169, 0, none⟩ = some (.int .i64 ((rd_T71 l0 x8_1).f0)) := (blk_cell BK169.out 0).trans rfl
                    have hcz11_1 : wc.cell? ⟨gb169, 1, none⟩ = some (.int .i64 ((rd_T71 l0 x8_1).f1)) := (blk_cell BK169.out 1).trans rfl
                    have hcz11_2 : wc.cell? ⟨gb169, 2, none⟩ = some (.int .i64 ((rd_T71 l0 x8_1).f2)) := (blk_cell BK169.out 2).trans rfl
                    have hcz11_3 : wc.cell? ⟨gb169, 3, none⟩ = some (.int .i64 ((rd_T71 l0 x8_1).f3)) := (blk_cell BK169.out 3).trans rfl
                    have hfz11_0 := blk_frozen BK169.out 0
                    have hfz11_1 := blk_frozen BK169.out 1
                    have hfz11_2 := blk_frozen BK169.out 2
                    have hfz11_3 := blk_frozen BK169.out 3
                    go_wp2
                    go_ret
                    exact ⟨by first | rfl | (simp [errW_none, errW_some] <;> rfl) | (simp [*, errW_none, errW_some] <;> rfl), by repeat (first | (with_reducible first | exact HB.out | apply below_alloc | apply pw_below_drewN | apply below_drew1 | refine below_set ?_ GE169.out) | exact HB.out)⟩
                  · rw [if_neg c10] at H
                    have c10b0 : decide ((wrap64 (x3_4 - 1)) < 0) = false := decide_eq_false c10
                    clear c10
                    by_cases c12 : (wrap64 (x3_4 - 1)) > 1
                    · rw [if_pos c12] at H
                      have c12b0 : decide (1 < (wrap64 (x3_4 - 1))) = true := decide_eq_true c12
                      clear c12
                      obtain rfl := Option.some.inj H
                      simp only [Option.some.injEq, Prod.mk.injEq] at H
                      obtain ⟨rfl⟩ := H
                      have hcz13_0 : wc.cell? ⟨gb169, 0, none⟩ = some (.int .i64 ((rd_T71 l0 x8_1).f0)) := (blk_cell BK169.out 0).trans rfl
                      have hcz13_1 : wc.cell? ⟨gb169, 1, none⟩ = some (.int .i64 ((rd_T71 l0 x8_1).f1)) := (blk_cell BK169.out 1).trans rfl
                      have hcz13_2 : wc.cell? ⟨gb169, 2, none⟩ = some (.int .i64 ((rd_T71 l0 x8_1).f2)) := (blk_cell BK169.out 2).trans rfl
                      have hcz13_3 : wc.cell? ⟨gb169, 3, none⟩ = some (.int .i64 ((rd_T71 l0 x8_1).f3)) := (blk_cell BK169.out 3).trans rfl
                      have hfz13_0 := blk_frozen BK169.out 0
                      have hfz13_1 := blk_frozen BK169.out 1
                      have hfz13_2 := blk_frozen BK169.out 2
                      have hfz13_3 := blk_frozen BK169.out 3
                      go_wp2
                      go_ret
                      exact ⟨by first | rfl | (simp [errW_none, errW_some] <;> rfl) | (simp [*, errW_none, errW_some] <;> rfl), by repeat (first | (with_reducible first | exact HB.out | apply below_alloc | apply pw_below_drewN | apply below_drew1 | refine below_set ?_ GE169.out) | exact HB.out)⟩
                    · rw [if_neg c12] at H
                      have c12b0 : decide (1 < (wrap64 (x3_4 - 1))) = false := decide_eq_false c12
                      clear c12
                      have H' := Aside0.mk H
                      clear H
                      have hcz14_0 : wc.cell? ⟨gb169, 0, none⟩ = some (.int .i64 ((rd_T71 l0 x8_1).f0)) := (blk_cell BK169.out 0).trans rfl
                      have hcz14_1 : wc.cell? ⟨gb169, 1, none⟩ = some (.int .i64 ((rd_T71 l0 x8_1).f1)) := (blk_cell BK169.out 1).trans rfl
                      have hcz14_2 : wc.cell? ⟨gb169, 2, none⟩ = some (.int .i64 ((rd_T71 l0 x8_1).f2)) := (blk_cell BK169.out 2).trans rfl
                      have hcz14_3 : wc.cell? ⟨gb169, 3, none⟩ = some (.int .i64 ((rd_T71 l0 x8_1).f3)) := (blk_cell BK169.out 3).trans rfl
                      have hfz14_0 := blk_frozen BK169.out 0
                      have hfz14_1 := blk_frozen BK169.out 1
                      have hfz14_2 := blk_frozen BK169.out 2
                      have hfz14_3 := blk_frozen BK169.out 3
                      go_wp2
                      go_roundg kj4
                      case measure => have := HK1.out; have := HJ4.out; omega
                      case rel => exact ⟨(wrap64 (x3_4 - 1)), (wrap64 (x8_1 + 1)), (by first | rfl | (simp; done) | (simp [*]; done)), (by first | rfl | (simp; done) | (simp [*]; done)), H', ⟨by have := HK1.out; have := HJ4.out; omega⟩, ⟨by repeat (first | (with_reducible first | exact HB.out | apply below_alloc | apply pw_below_drewN | apply below_drew1 | refine below_set ?_ GE169.out) | exact HB.out)⟩⟩
                · rw [if_neg c9] at H
                  have c9b0 : (((rd_T71 l0 x8_1).f0) == 5) = false := beq_eq_false_iff_ne.mpr c9
                  have c9b1 : (((rd_T71 l0 x8_1).f0) != 5) = true := bne_iff_ne.mpr c9
                  by_cases c15 : x3_4 < 0
                  · rw [if_pos c15] at H
                    have c15b0 : decide (x3_4 < 0) = true := decide_eq_true c15
                    clear c15
                    obtain rfl := Option.some.inj H
                    simp only [Option.some.injEq, Prod.mk.injEq] at H
                    obtain ⟨rfl⟩ := H
                    have hcz16_0 : wc.cell? ⟨gb169, 0, none⟩ = some (.int .i64 ((rd_T71 l0 x8_1).f0)) := (blk_cell BK169.out 0).trans rfl
                    have hcz16_1 : wc.cell? ⟨gb169, 1, none⟩ = some (.int .i64 ((rd_T71 l0 x8_1).f1)) := (blk_cell BK169.out 1).trans rfl
                    have hcz16_2 : wc.cell? ⟨gb169, 2, none⟩ = some (.int .i64 ((rd_T71 l0 x8_1).f2)) := (blk_cell BK169.out 2).trans rfl
                    have hcz16_3 : wc.cell? ⟨gb169, 3, none⟩ = some (.int .i64 ((rd_T71 l0 x8_1).f3)) := (blk_cell BK169.out 3).trans rfl
                    have hfz16_0 := blk_frozen BK169.out 0
                    have hfz16_1 := blk_frozen BK169.out 1
                    have hfz16_2 := blk_frozen BK169.out 2
                    have hfz16_3 := blk_frozen BK169.out 3
                    go_wp2
                    go_ret
                    exact ⟨by first | rfl | (simp [errW_none, errW_some] <;> rfl) | (simp [*, errW_none, errW_some] <;> rfl), by repeat (first | (with_reducible first | exact HB.out | apply below_alloc | apply pw_below_drewN | apply below_drew1 | refine below_set ?_ GE169.out) | exact HB.out)⟩
                  · rw [if_neg c15] at H
                    have c15b0 : decide (x3_4 < 0) = false := decide_eq_false c15
                    clear c15
                    by_cases c17 : x3_4 > 1
                    · rw [if_pos c17] at H
                      have c17b0 : decide (1 < x3_4) = true := decide_eq_true c17
                      clear c17
                      obtain rfl := Option.some.inj H
                      simp only [Option.some.injEq, Prod.mk.injEq] at H
                      obtain ⟨rfl⟩ := H
                      have hcz18_0 : wc.cell? ⟨gb169, 0, none⟩ = some (.int .i64 ((rd_T71 l0 x8_1).f0)) := (blk_cell BK169.out 0).trans rfl
                      have hcz18_1 : wc.cell? ⟨gb169, 1, none⟩ = some (.int .i64 ((rd_T71 l0 x8_1).f1)) := (blk_cell BK169.out 1).trans rfl
                      have hcz18_2 : wc.cell? ⟨gb169, 2, none⟩ = some (.int .i64 ((rd_T71 l0 x8_1).f2)) := (blk_cell BK169.out 2).trans rfl
                      have hcz18_3 : wc.cell? ⟨gb169, 3, none⟩ = some (.int .i64 ((rd_T71 l0 x8_1).f3)) := (blk_cell BK169.out 3).trans rfl
                      have hfz18_0 := blk_frozen BK169.out 0
                      have hfz18_1 := blk_frozen BK169.out 1
                      have hfz18_2 := blk_frozen BK169.out 2
                      have hfz18_3 := blk_frozen BK169.out 3
                      go_wp2
                      go_ret
                      exact ⟨by first | rfl | (simp [errW_none, errW_some] <;> rfl) | (simp [*, errW_none, errW_some] <;> rfl), by repeat (first | (with_reducible first | exact HB.out | apply below_alloc | apply pw_below_drewN | apply below_drew1 | refine below_set ?_ GE169.out) | exact HB.out)⟩
                    · rw [if_neg c17] at H
                      have c17b0 : decide (1 < x3_4) = false := decide_eq_false c17
                      clear c17
                      have H' := Aside0.mk H
                      clear H
                      have hcz19_0 : wc.cell? ⟨gb169, 0, none⟩ = some (.int .i64 ((rd_T71 l0 x8_1).f0)) := (blk_cell BK169.out 0).trans rfl
                      have hcz19_1 : wc.cell? ⟨gb169, 1, none⟩ = some (.int .i64 ((rd_T71 l0 x8_1).f1)) := (blk_cell BK169.out 1).trans rfl
                      have hcz19_2 : wc.cell? ⟨gb169, 2, none⟩ = some (.int .i64 ((rd_T71 l0 x8_1).f2)) := (blk_cell BK169.out 2).trans rfl
                      have hcz19_3 : wc.cell? ⟨gb169, 3, none⟩ = some (.int .i64 ((rd_T71 l0 x8_1).f3)) := (blk_cell BK169.out 3).trans rfl
                      have hfz19_0 := blk_frozen BK169.out 0
                      have hfz19_1 := blk_frozen BK169.out 1
                      have hfz19_2 := blk_frozen BK169.out 2
                      have hfz19_3 := blk_frozen BK169.out 3
                      go_wp2
                      go_roundg kj4
                      case measure => have := HK1.out; have := HJ4.out; omega
                      case rel => exact ⟨(x3_4), (wrap64 (x8_1 + 1)), (by first | rfl | (simp; done) | (simp [*]; done)), (by first | rfl | (simp; done) | (simp [*]; done)), H', ⟨by have := HK1.out; have := HJ4.out; omega⟩, ⟨by repeat (first | (with_reducible first | exact HB.out | apply below_alloc | apply pw_below_drewN | apply below_drew1 | refine below_set ?_ GE169.out) | exact HB.out)⟩⟩
          · rw [if_neg c4] at H
            exact absurd H (by simp)
        · rw [if_neg c3] at H
          exact absurd H (by simp)
      · rw [if_neg c2] at H
        have c2b0 : decide (x8_1 < (l0.length : Int)) = false := decide_eq_false c2
        clear c2
        obtain rfl := Option.some.inj H
        simp only [Option.some.injEq, Prod.mk.injEq] at H
        obtain ⟨rfl⟩ := H
        go_wp2
        go_ret
        exact ⟨by first | rfl | (simp [errW_none, errW_some] <;> rfl) | (simp [*, errW_none, errW_some] <;> rfl), by repeat (first | (with_reducible first | exact HB.out | apply below_alloc | apply pw_below_drewN | apply below_drew1) | exact HB.out)⟩

end Go.Proofs.Ytfoefgckjaafnaa.PCodeChecks
