/- Written by a program of this session, which began as the kit's print and is turned in wip/printer: the plain form of each function, and that the Go code comes to it. -/
import Derived.Test.YtfoefgckjaafnaaPCodeOnx0
import Derived.Test.YtfoefgckjaafnaaPCodeOnx6
import Derived.Test.YtfoefgckjaafnaaPCodeOnx7
namespace Go.Proofs.Ytfoefgckjaafnaa.PCodeOn
open Go.RowKit Go.Proofs.YtfoefgckjaafnaaW.PrintWords Go.Proofs.YtfoefgckjaafnaaW.PrintLast Go.Proofs.YtfoefgckjaafnaaW.PrintMore
attribute [local go_sem] max2_int min2_int max_two min_two max_three min_three max_four min_four   -- for this text's walks alone
set_option linter.unusedVariables false
set_option linter.unusedSimpArgs false

/-! ### countermandlaw07_CodeOn: function 8 -/
mutual
def countermandlaw07_CodeOn.l0 : Nat → List (S71) → List (S71) → Int → Int → Option (Bool)
  | 0, _, _, _, _ => none
  | k + 1, x0, x19, x20, x21 => if x21 < x20 then (if 0 ≤ x21 then (if x21 < (x19.length : Int) then (if ((rd_T71 x19 x21).f0) = 3 then (countermandlaw07_CodeOn.j1 k x0 x21 x19 x20 x21 false ((rd_T71 x19 x21).f0) ((rd_T71 x19 x21).f1) ((rd_T71 x19 x21).f2) ((rd_T71 x19 x21).f3)) else (countermandlaw07_CodeOn.j1 k x0 x21 x19 x20 x21 (((rd_T71 x19 x21).f0) != 20) ((rd_T71 x19 x21).f0) ((rd_T71 x19 x21).f1) ((rd_T71 x19 x21).f2) ((rd_T71 x19 x21).f3))) else (none)) else (none)) else (some true)
def countermandlaw07_CodeOn.j1 : Nat → List (S71) → Int → List (S71) → Int → Int → Bool → Int → Int → Int → Int → Option (Bool)
  | 0, _, _, _, _, _, _, _, _, _, _ => none
  | k + 1, x0, x5, x19, x20, x21, x33, x173000, x173001, x173002, x173003 => if x33 = true then (countermandlaw07_CodeOn.l0 k x0 x19 x20 (wrap64 (x21 + 1))) else (if x173001 ≤ x5 then (countermandlaw07_CodeOn.j2 k x0 x5 x19 x20 x21 true x173000 x173001 x173002 x173003) else (countermandlaw07_CodeOn.j2 k x0 x5 x19 x20 x21 (decide (x173001 > (x0.length : Int))) x173000 x173001 x173002 x173003))
def countermandlaw07_CodeOn.j2 : Nat → List (S71) → Int → List (S71) → Int → Int → Bool → Int → Int → Int → Int → Option (Bool)
  | 0, _, _, _, _, _, _, _, _, _, _ => none
  | k + 1, x0, x5, x19, x20, x21, x44, x173000, x173001, x173002, x173003 => if x44 = true then (some false) else (countermandlaw07_CodeOn.l1 k x0 0 0 x5 x19 x20 x21 x173000 x173001 x173002 x173003)
def countermandlaw07_CodeOn.l1 : Nat → List (S71) → Int → Int → Int → List (S71) → Int → Int → Int → Int → Int → Int → Option (Bool)
  | 0, _, _, _, _, _, _, _, _, _, _, _ => none
  | k + 1, x0, x7, x8, x9, x19, x20, x21, x173000, x173001, x173002, x173003 => if x9 < x173001 then (if 0 ≤ x9 then (if x9 < (x0.length : Int) then (if ((rd_T71 x0 x9).f0) = 4 then (if ((rd_T71 x0 x9).f0) = 5 then (countermandlaw07_CodeOn.l1 k x0 (wrap64 (x7 + 1)) (wrap64 (x8 + 1)) (wrap64 (x9 + 1)) x19 x20 x21 x173000 x173001 x173002 x173003) else (countermandlaw07_CodeOn.l1 k x0 (wrap64 (x7 + 1)) x8 (wrap64 (x9 + 1)) x19 x20 x21 x173000 x173001 x173002 x173003)) else (if ((rd_T71 x0 x9).f0) = 5 then (countermandlaw07_CodeOn.l1 k x0 x7 (wrap64 (x8 + 1)) (wrap64 (x9 + 1)) x19 x20 x21 x173000 x173001 x173002 x173003) else (countermandlaw07_CodeOn.l1 k x0 x7 x8 (wrap64 (x9 + 1)) x19 x20 x21 x173000 x173001 x173002 x173003))) else (none)) else (none)) else (if x7 = x8 then (countermandlaw07_CodeOn.l0 k x0 x19 x20 (wrap64 (x21 + 1))) else (some false))
end
def countermandlaw07_CodeOn.f (k : Nat) (l0 : List (S71)) : Option (Bool) := (countermandlaw07_alive.f k).bind fun t168 => (if t168 = true then ((code_Check.f k l0).bind fun bt169 => (if bt169.2 = 0 then (countermandlaw07_CodeOn.l0 k l0 l0 (l0.length : Int) 0) else (some true))) else (some false))
theorem countermandlaw07_CodeOn.mono_l : ∀ k, (∀ y0 y1 y2 y3, LeO (countermandlaw07_CodeOn.l0 k y0 y1 y2 y3) (countermandlaw07_CodeOn.l0 (k + 1) y0 y1 y2 y3)) ∧ (∀ y0 y1 y2 y3 y4 y5 y6 y7 y8 y9, LeO (countermandlaw07_CodeOn.j1 k y0 y1 y2 y3 y4 y5 y6 y7 y8 y9) (countermandlaw07_CodeOn.j1 (k + 1) y0 y1 y2 y3 y4 y5 y6 y7 y8 y9)) ∧ (∀ y0 y1 y2 y3 y4 y5 y6 y7 y8 y9, LeO (countermandlaw07_CodeOn.j2 k y0 y1 y2 y3 y4 y5 y6 y7 y8 y9) (countermandlaw07_CodeOn.j2 (k + 1) y0 y1 y2 y3 y4 y5 y6 y7 y8 y9)) ∧ (∀ y0 y1 y2 y3 y4 y5 y6 y7 y8 y9 y10, LeO (countermandlaw07_CodeOn.l1 k y0 y1 y2 y3 y4 y5 y6 y7 y8 y9 y10) (countermandlaw07_CodeOn.l1 (k + 1) y0 y1 y2 y3 y4 y5 y6 y7 y8 y9 y10))
  | 0 => ⟨fun _ _ _ _ r h => by simp [countermandlaw07_CodeOn.l0] at h, fun _ _ _ _ _ _ _ _ _ _ r h => by simp [countermandlaw07_CodeOn.j1] at h, fun _ _ _ _ _ _ _ _ _ _ r h => by simp [countermandlaw07_CodeOn.j2] at h, fun _ _ _ _ _ _ _ _ _ _ _ r h => by simp [countermandlaw07_CodeOn.l1] at h⟩
  | k + 1 => by
    obtain ⟨ih0, ih1, ih2, ih3⟩ := countermandlaw07_CodeOn.mono_l k
    refine ⟨?_, ?_, ?_, ?_⟩
    · intro y0 y1 y2 y3
      unfold countermandlaw07_CodeOn.l0
      repeat' first
      | (with_reducible exact ih0 _ _ _ _)
      | (with_reducible exact ih1 _ _ _ _ _ _ _ _ _ _)
      | (with_reducible exact ih2 _ _ _ _ _ _ _ _ _ _)
      | (with_reducible exact ih3 _ _ _ _ _ _ _ _ _ _ _)
      | (with_reducible exact code_Check.mono _ _)
      | (with_reducible exact countermandlaw07_alive.mono _)
      | (with_reducible exact LeO.refl _)
      | (with_reducible exact LeO.none _)
      | (with_reducible refine LeO.ite ?_ ?_)
      | (with_reducible refine LeO.bind ?_ (fun _ => ?_))
      | exact ih0 _ _ _ _
      | exact ih1 _ _ _ _ _ _ _ _ _ _
      | exact ih2 _ _ _ _ _ _ _ _ _ _
      | exact ih3 _ _ _ _ _ _ _ _ _ _ _
      | exact code_Check.mono _ _
      | exact countermandlaw07_alive.mono _
      | exact LeO.none _
      | refine LeO.ite ?_ ?_
      | refine LeO.bind ?_ (fun _ => ?_)
    · intro y0 y1 y2 y3 y4 y5 y6 y7 y8 y9
      unfold countermandlaw07_CodeOn.j1
      repeat' first
      | (with_reducible exact ih0 _ _ _ _)
      | (with_reducible exact ih1 _ _ _ _ _ _ _ _ _ _)
      | (with_reducible exact ih2 _ _ _ _ _ _ _ _ _ _)
      | (with_reducible exact ih3 _ _ _ _ _ _ _ _ _ _ _)
      | (with_reducible exact code_Check.mono _ _)
      | (with_reducible exact countermandlaw07_alive.mono _)
      | (with_reducible exact LeO.refl _)
      | (with_reducible exact LeO.none _)
      | (with_reducible refine LeO.ite ?_ ?_)
      | (with_reducible refine LeO.bind ?_ (fun _ => ?_))
      | exact ih0 _ _ _ _
      | exact ih1 _ _ _ _ _ _ _ _ _ _
      | exact ih2 _ _ _ _ _ _ _ _ _ _
      | exact ih3 _ _ _ _ _ _ _ _ _ _ _
      | exact code_Check.mono _ _
      | exact countermandlaw07_alive.mono _
      | exact LeO.none _
      | refine LeO.ite ?_ ?_
      | refine LeO.bind ?_ (fun _ => ?_)
    · intro y0 y1 y2 y3 y4 y5 y6 y7 y8 y9
      unfold countermandlaw07_CodeOn.j2
      repeat' first
      | (with_reducible exact ih0 _ _ _ _)
      | (with_reducible exact ih1 _ _ _ _ _ _ _ _ _ _)
      | (with_reducible exact ih2 _ _ _ _ _ _ _ _ _ _)
      | (with_reducible exact ih3 _ _ _ _ _ _ _ _ _ _ _)
      | (with_reducible exact code_Check.mono _ _)
      | (with_reducible exact countermandlaw07_alive.mono _)
      | (with_reducible exact LeO.refl _)
      | (with_reducible exact LeO.none _)
      | (with_reducible refine LeO.ite ?_ ?_)
      | (with_reducible refine LeO.bind ?_ (fun _ => ?_))
      | exact ih0 _ _ _ _
      | exact ih1 _ _ _ _ _ _ _ _ _ _
      | exact ih2 _ _ _ _ _ _ _ _ _ _
      | exact ih3 _ _ _ _ _ _ _ _ _ _ _
      | exact code_Check.mono _ _
      | exact countermandlaw07_alive.mono _
      | exact LeO.none _
      | refine LeO.ite ?_ ?_
      | refine LeO.bind ?_ (fun _ => ?_)
    · intro y0 y1 y2 y3 y4 y5 y6 y7 y8 y9 y10
      unfold countermandlaw07_CodeOn.l1
      repeat' first
      | (with_reducible exact ih0 _ _ _ _)
      | (with_reducible exact ih1 _ _ _ _ _ _ _ _ _ _)
      | (with_reducible exact ih2 _ _ _ _ _ _ _ _ _ _)
      | (with_reducible exact ih3 _ _ _ _ _ _ _ _ _ _ _)
      | (with_reducible exact code_Check.mono _ _)
      | (with_reducible exact countermandlaw07_alive.mono _)
      | (with_reducible exact LeO.refl _)
      | (with_reducible exact LeO.none _)
      | (with_reducible refine LeO.ite ?_ ?_)
      | (with_reducible refine LeO.bind ?_ (fun _ => ?_))
      | exact ih0 _ _ _ _
      | exact ih1 _ _ _ _ _ _ _ _ _ _
      | exact ih2 _ _ _ _ _ _ _ _ _ _
      | exact ih3 _ _ _ _ _ _ _ _ _ _ _
      | exact code_Check.mono _ _
      | exact countermandlaw07_alive.mono _
      | exact LeO.none _
      | refine LeO.ite ?_ ?_
      | refine LeO.bind ?_ (fun _ => ?_)
theorem countermandlaw07_CodeOn.mono : ∀ a0 k, LeO (countermandlaw07_CodeOn.f k a0) (countermandlaw07_CodeOn.f (k + 1) a0) := by
  intro a0 k
  obtain ⟨ih0, ih1, ih2, ih3⟩ := countermandlaw07_CodeOn.mono_l k
  unfold countermandlaw07_CodeOn.f
  repeat' first
      | (with_reducible exact ih0 _ _ _ _)
      | (with_reducible exact ih1 _ _ _ _ _ _ _ _ _ _)
      | (with_reducible exact ih2 _ _ _ _ _ _ _ _ _ _)
      | (with_reducible exact ih3 _ _ _ _ _ _ _ _ _ _ _)
      | (with_reducible exact code_Check.mono _ _)
      | (with_reducible exact countermandlaw07_alive.mono _)
      | (with_reducible exact LeO.refl _)
      | (with_reducible exact LeO.none _)
      | (with_reducible refine LeO.ite ?_ ?_)
      | (with_reducible refine LeO.bind ?_ (fun _ => ?_))
      | exact ih0 _ _ _ _
      | exact ih1 _ _ _ _ _ _ _ _ _ _
      | exact ih2 _ _ _ _ _ _ _ _ _ _
      | exact ih3 _ _ _ _ _ _ _ _ _ _ _
      | exact code_Check.mono _ _
      | exact countermandlaw07_alive.mono _
      | exact LeO.none _
      | refine LeO.ite ?_ ?_
      | refine LeO.bind ?_ (fun _ => ?_)
set_option maxHeartbeats 8000000 in
set_option maxRecDepth 100000 in
theorem countermandlaw07_CodeOn.calls (k : Nat) (A0 : Option Addr) (c0 : Nat) (l0 : List (S71)) (r : Bool) (w : World) (hr0 : Kd.C k71 w A0 l0.length l0) (hc0 : l0.length ≤ c0) (h : countermandlaw07_CodeOn.f k l0 = some r) :
    Calls Try.prog 8 #[.slice A0 l0.length c0] w fun e w' => e = .returned (.bool r) ∧ Below w.heap.size w w' := by
  have hu71 := Try.underlying71
  have HR0 := Aside0.mk hr0
  have HC0 := Aside0.mk hc0
  clear hr0 hc0
  have HB := Aside0.mk (Below.refl w.heap.size w)
  have H : ((countermandlaw07_alive.f k).bind fun t168 => (if t168 = true then ((code_Check.f k l0).bind fun bt169 => (if bt169.2 = 0 then (countermandlaw07_CodeOn.l0 k l0 l0 (l0.length : Int) 0) else (some true))) else (some false))) = some r := h
  clear h
  replace H := Option.bind_eq_some_iff.mp H
  obtain ⟨t168, A20, H⟩ := H
  replace H : (if t168 = true then ((code_Check.f k l0).bind fun bt169 => (if bt169.2 = 0 then (countermandlaw07_CodeOn.l0 k l0 l0 (l0.length : Int) 0) else (some true))) else (some false)) = some r := H
  have A2 := Aside0.mk A20
  clear A20
  by_cases c3 : t168 = true
  · subst c3
    have H1 : ((code_Check.f k l0).bind fun bt169 => (if bt169.2 = 0 then (countermandlaw07_CodeOn.l0 k l0 l0 (l0.length : Int) 0) else (some true))) = some r := by rw [if_pos rfl] at H; exact H
    clear H
    have H := H1
    clear H1
    replace H := Option.bind_eq_some_iff.mp H
    obtain ⟨⟨t169, t170⟩, A40, H⟩ := H
    replace H : (if t170 = 0 then (countermandlaw07_CodeOn.l0 k l0 l0 (l0.length : Int) 0) else (some true)) = some r := H
    have A4 := Aside0.mk A40
    clear A40
    by_cases c5 : t170 = 0
    · rw [if_pos c5] at H
      have c5b0 : (t170 == 0) = true := beq_iff_eq.mpr c5
      have c5b1 : (t170 != 0) = false := bne_eq_false_iff_eq.mpr c5
      clear c5
      have H' := Aside0.mk H
      clear H
      go_enter Try.func8, Try.ntmps8
      go_wp2_with (first | ((with_reducible refine gate_callee (f := 29) rfl ?_); refine goesL_ (some 10) rfl rfl Try.func29 (by kernel_rfl) rfl #[] rfl (by (try simp only [List.map_toArray, List.map_cons, List.map_nil]); first | done | rfl | (simp only [List.length_drop, List.length_take]; rfl)) ?_; (with_reducible refine (countermandlaw07_alive.calls k  true _ A2.out).mono ?_); rintro e w6 ⟨rfl, hb⟩; refine ⟨_, rfl, ?_⟩; have n0_ := Aside0.mk (below_step (by repeat (first | (with_reducible first | exact HB.out | apply below_alloc | apply pw_below_drewN | apply below_drew1) | exact HB.out)) hb); clear HB; have HB := n0_; clear n0_; (try clear hb); (try clear hb2); (try clear hk); (try clear hi)) | ((with_reducible refine gate_callee (f := 30) rfl ?_); refine goesL_ (some 14) rfl rfl Try.func30 (by kernel_rfl) rfl #[.slice A0 l0.length c0] rfl (by (try simp only [List.map_toArray, List.map_cons, List.map_nil]); first | done | rfl | (simp only [List.length_drop, List.length_take]; rfl)) ?_; (with_reducible refine (code_Check.calls k _ _ l0 t169 t170 _ ?side1 ?side2 A4.out).mono ?_); (case side1 => repeat (first | exact (Kd.C_below HR0.out HB.out) | (with_reducible refine Kd.C_alloc ?_ _) | (with_reducible refine Kd.C_drewN ?_ _) | (with_reducible refine Kd.C_drew ?_))); (case side2 => exact HC0.out); rintro e w7 ⟨rfl, hb⟩; refine ⟨_, rfl, ?_⟩; have n0_ := Aside0.mk (below_step (by repeat (first | (with_reducible first | exact HB.out | apply below_alloc | apply pw_below_drewN | apply below_drew1) | exact HB.out)) hb); clear HB; have HB := n0_; clear n0_; (try clear hb); (try clear hb2); (try clear hk); (try clear hi)))
      go_loopg [21] k (fun kq v21 w' => ∃ (x21_1 : Int), v21 = .int .i64 x21_1 ∧ Aside0 (countermandlaw07_CodeOn.l0 kq l0 l0 (l0.length : Int) x21_1 = some r) ∧ Aside0 (kq ≤ k) ∧ Aside0 (Below w.heap.size w w'))
      case atStart => exact ⟨(0), (by first | rfl | (simp; done) | (simp [*]; done)), H', ⟨Nat.le_refl _⟩, ⟨by repeat (first | (with_reducible first | exact HB.out | apply below_alloc | apply pw_below_drewN | apply below_drew1) | exact HB.out)⟩⟩
      case round =>
        clear H'
        try clear c2
        try clear p2
        try clear c3
        try clear c5
        try clear c5b0
        try clear c5b1
        obtain ⟨x21_1, rfl, HA, HK1, HB⟩ := hrel
        cases gk with
        | zero => exact absurd HA.out (by simp [countermandlaw07_CodeOn.l0])
        | succ k1 =>
          have H := HA.out
          clear HA
          simp only [countermandlaw07_CodeOn.l0] at H
          by_cases c8 : x21_1 < (l0.length : Int)
          · rw [if_pos c8] at H
            have c8b0 : decide (x21_1 < (l0.length : Int)) = true := decide_eq_true c8
            clear c8
            by_cases c9 : 0 ≤ x21_1
            · rw [if_pos c9] at H
              have c9b0 : decide (0 ≤ x21_1) = true := decide_eq_true c9
              clear c9
              by_cases c10 : x21_1 < (l0.length : Int)
              · rw [if_pos c10] at H
                have c10b0 : decide (x21_1 < (l0.length : Int)) = true := decide_eq_true c10
                clear c10
                have HC11 := Aside0.mk H
                clear H
                have p171 : 0 ≤ (x21_1 : Int) := of_decide_eq_true (by first | (with_reducible assumption) | assumption)
                have q171 : x21_1 < (l0.length : Int) := of_decide_eq_true (by first | (with_reducible assumption) | assumption)
                obtain ⟨ad171, e171, hx171_0, hx171_1, hx171_2, hx171_3⟩ := at_T71 HR0.out x21_1 p171 q171
                cases e171
                replace hx171_0 := (HB.out.cell (World.block_lt_of_cell? w _ hx171_0)).trans hx171_0
                replace hx171_1 := (HB.out.cell (World.block_lt_of_cell? w _ hx171_1)).trans hx171_1
                replace hx171_2 := (HB.out.cell (World.block_lt_of_cell? w _ hx171_2)).trans hx171_2
                replace hx171_3 := (HB.out.cell (World.block_lt_of_cell? w _ hx171_3)).trans hx171_3
                replace p171 := eq_true p171
                replace q171 := eq_true q171
                go_upto_region 9 with (first | ((with_reducible refine gate_dst (N := 6) rfl ?_); (try (refine gate_guard (by rfl) ?_; dsimp only)); refine box_event ?hg (N := 6) ?hd (cs := #[.int .i64 0, .int .i64 0, .int .i64 0, .int .i64 0]) (t := 71) ?hr ?_; (case hd => rfl); (case hg => rfl); (case hr => first | (go_simp; done) | (go_simp; rfl)); intro gb172 hg w12 hbox hb; have n0_ := Aside0.mk (below_step (by repeat (first | (with_reducible first | exact HB.out | apply below_alloc | apply pw_below_drewN | apply below_drew1) | exact HB.out)) hb); have n1_ := Aside0.mk (hbox); have n2_ := Aside0.mk ((by rw [hg]; exact (below_size (by repeat (first | (with_reducible first | exact HB.out | apply below_alloc | apply pw_below_drewN | apply below_drew1) | exact HB.out))) : w.heap.size ≤ gb172)); have n3_ := Aside0.mk ((by rw [hg]; exact (below_size (by repeat (first | (with_reducible first | exact HB.out | apply below_alloc | apply pw_below_drewN | apply below_drew1) | exact HB.out))) : w.heap.size ≤ gb172)); clear HB; have HB := n0_; have BK172 := n1_; have GW172 := n2_; have GE172 := n3_; clear n0_ n1_ n2_ n3_; clear hb hbox hg; have hcz13_0 : w12.cell? ⟨gb172, 0, none⟩ = some (.int .i64 0) := (blk_cell BK172.out 0).trans rfl; have hcz13_1 : w12.cell? ⟨gb172, 1, none⟩ = some (.int .i64 0) := (blk_cell BK172.out 1).trans rfl; have hcz13_2 : w12.cell? ⟨gb172, 2, none⟩ = some (.int .i64 0) := (blk_cell BK172.out 2).trans rfl; have hcz13_3 : w12.cell? ⟨gb172, 3, none⟩ = some (.int .i64 0) := (blk_cell BK172.out 3).trans rfl; have hfz13_0 := blk_frozen BK172.out 0; have hfz13_1 := blk_frozen BK172.out 1; have hfz13_2 := blk_frozen BK172.out 2; have hfz13_3 := blk_frozen BK172.out 3))
                (try simp only [Act.put, List.setIfInBounds_toArray, List.set_cons_zero, List.set_cons_succ])
                go_cut [33] (fun v33 wc => ∃ (kq : Nat) (x33_10 : Bool), v33 = .bool x33_10 ∧ Aside0 (countermandlaw07_CodeOn.j1 kq l0 x21_1 l0 (l0.length : Int) x21_1 x33_10 ((rd_T71 l0 x21_1).f0) ((rd_T71 l0 x21_1).f1) ((rd_T71 l0 x21_1).f2) ((rd_T71 l0 x21_1).f3) = some r) ∧ Aside0 (kq ≤ k1) ∧ Aside0 (wc.heap[gb172]? = some (.cells #[.int .i64 ((rd_T71 l0 x21_1).f0), .int .i64 ((rd_T71 l0 x21_1).f1), .int .i64 ((rd_T71 l0 x21_1).f2), .int .i64 ((rd_T71 l0 x21_1).f3)] 71 (0, 0))) ∧ Aside0 (Below w.heap.size w wc))
                case first =>
                  have H := HC11.out
                  clear HC11
                  by_cases c14 : ((rd_T71 l0 x21_1).f0) = 3
                  · rw [if_pos c14] at H
                    have c14b0 : (((rd_T71 l0 x21_1).f0) == 3) = true := beq_iff_eq.mpr c14
                    have c14b1 : (((rd_T71 l0 x21_1).f0) != 3) = false := bne_eq_false_iff_eq.mpr c14
                    clear c14
                    (first | rw [c14b0] | (simp only [i64_w, i32_w]; rw [c14b0]) | skip)
                    have H' := Aside0.mk H
                    clear H
                    have hcz15_0 : w12.cell? ⟨gb172, 0, none⟩ = some (.int .i64 0) := (blk_cell BK172.out 0).trans rfl
                    have hcz15_1 : w12.cell? ⟨gb172, 1, none⟩ = some (.int .i64 0) := (blk_cell BK172.out 1).trans rfl
                    have hcz15_2 : w12.cell? ⟨gb172, 2, none⟩ = some (.int .i64 0) := (blk_cell BK172.out 2).trans rfl
                    have hcz15_3 : w12.cell? ⟨gb172, 3, none⟩ = some (.int .i64 0) := (blk_cell BK172.out 3).trans rfl
                    have hfz15_0 := blk_frozen BK172.out 0
                    have hfz15_1 := blk_frozen BK172.out 1
                    have hfz15_2 := blk_frozen BK172.out 2
                    have hfz15_3 := blk_frozen BK172.out 3
                    go_wp2
                    go_meet
                    case rel => exact ⟨_, (false), (by first | rfl | (simp; done) | (simp [*]; done)), H', ⟨by have := HK1.out; first | omega | exact Nat.le_refl _⟩, ⟨by (with_reducible repeat (first | refine blk_drewN ?_ _ | refine blk_drew ?_ | refine blk_alloc ?_ _)); refine blk_put (cs := #[.int .i64 ((rd_T71 l0 x21_1).f0), .int .i64 ((rd_T71 l0 x21_1).f1), .int .i64 ((rd_T71 l0 x21_1).f2), .int .i64 0]) ?_ 3 _ rfl; (with_reducible repeat (first | refine blk_drewN ?_ _ | refine blk_drew ?_ | refine blk_alloc ?_ _)); refine blk_put (cs := #[.int .i64 ((rd_T71 l0 x21_1).f0), .int .i64 ((rd_T71 l0 x21_1).f1), .int .i64 0, .int .i64 0]) ?_ 2 _ rfl; (with_reducible repeat (first | refine blk_drewN ?_ _ | refine blk_drew ?_ | refine blk_alloc ?_ _)); refine blk_put (cs := #[.int .i64 ((rd_T71 l0 x21_1).f0), .int .i64 0, .int .i64 0, .int .i64 0]) ?_ 1 _ rfl; (with_reducible repeat (first | refine blk_drewN ?_ _ | refine blk_drew ?_ | refine blk_alloc ?_ _)); refine blk_put (cs := #[.int .i64 0, .int .i64 0, .int .i64 0, .int .i64 0]) ?_ 0 _ rfl; (with_reducible repeat (first | refine blk_drewN ?_ _ | refine blk_drew ?_ | refine blk_alloc ?_ _)); exact BK172.out⟩, ⟨by repeat (first | (with_reducible first | exact HB.out | apply below_alloc | apply pw_below_drewN | apply below_drew1 | refine below_set ?_ GE172.out) | exact HB.out)⟩⟩
                  · rw [if_neg c14] at H
                    have c14b0 : (((rd_T71 l0 x21_1).f0) == 3) = false := beq_eq_false_iff_ne.mpr c14
                    have c14b1 : (((rd_T71 l0 x21_1).f0) != 3) = true := bne_iff_ne.mpr c14
                    (first | rw [c14b0] | (simp only [i64_w, i32_w]; rw [c14b0]) | skip)
                    have H' := Aside0.mk H
                    clear H
                    have hcz16_0 : w12.cell? ⟨gb172, 0, none⟩ = some (.int .i64 0) := (blk_cell BK172.out 0).trans rfl
                    have hcz16_1 : w12.cell? ⟨gb172, 1, none⟩ = some (.int .i64 0) := (blk_cell BK172.out 1).trans rfl
                    have hcz16_2 : w12.cell? ⟨gb172, 2, none⟩ = some (.int .i64 0) := (blk_cell BK172.out 2).trans rfl
                    have hcz16_3 : w12.cell? ⟨gb172, 3, none⟩ = some (.int .i64 0) := (blk_cell BK172.out 3).trans rfl
                    have hfz16_0 := blk_frozen BK172.out 0
                    have hfz16_1 := blk_frozen BK172.out 1
                    have hfz16_2 := blk_frozen BK172.out 2
                    have hfz16_3 := blk_frozen BK172.out 3
                    go_wp2
                    go_meet
                    case rel => exact ⟨_, ((((rd_T71 l0 x21_1).f0) != 20)), (by first | rfl | (simp; done) | (simp [*]; done)), H', ⟨by have := HK1.out; first | omega | exact Nat.le_refl _⟩, ⟨by (with_reducible repeat (first | refine blk_drewN ?_ _ | refine blk_drew ?_ | refine blk_alloc ?_ _)); refine blk_put (cs := #[.int .i64 ((rd_T71 l0 x21_1).f0), .int .i64 ((rd_T71 l0 x21_1).f1), .int .i64 ((rd_T71 l0 x21_1).f2), .int .i64 0]) ?_ 3 _ rfl; (with_reducible repeat (first | refine blk_drewN ?_ _ | refine blk_drew ?_ | refine blk_alloc ?_ _)); refine blk_put (cs := #[.int .i64 ((rd_T71 l0 x21_1).f0), .int .i64 ((rd_T71 l0 x21_1).f1), .int .i64 0, .int .i64 0]) ?_ 2 _ rfl; (with_reducible repeat (first | refine blk_drewN ?_ _ | refine blk_drew ?_ | refine blk_alloc ?_ _)); refine blk_put (cs := #[.int .i64 ((rd_T71 l0 x21_1).f0), .int .i64 0, .int .i64 0, .int .i64 0]) ?_ 1 _ rfl; (with_reducible repeat (first | refine blk_drewN ?_ _ | refine blk_drew ?_ | refine blk_alloc ?_ _)); refine blk_put (cs := #[.int .i64 0, .int .i64 0, .int .i64 0, .int .i64 0]) ?_ 0 _ rfl; (with_reducible repeat (first | refine blk_drewN ?_ _ | refine blk_drew ?_ | refine blk_alloc ?_ _)); exact BK172.out⟩, ⟨by repeat (first | (with_reducible first | exact HB.out | apply below_alloc | apply pw_below_drewN | apply below_drew1 | refine below_set ?_ GE172.out) | exact HB.out)⟩⟩
                case rest =>
                  clear HC11
                  try clear c1
                  try clear p1
                  try clear q1
                  try clear hx1
                  try clear c2
                  try clear p2
                  try clear c3
                  try clear c5
                  try clear c5b0
                  try clear c5b1
                  try clear c8
                  try clear c8b0
                  try clear c9
                  try clear c9b0
                  try clear c10
                  try clear c10b0
                  try clear c14
                  try clear c14b0
                  try clear c14b1
                  try clear hcz13_0
                  try clear hcz13_1
                  try clear hcz13_2
                  try clear hcz13_3
                  try clear hcz15_0
                  try clear hcz15_1
                  try clear hcz15_2
                  try clear hcz15_3
                  try clear hcz16_0
                  try clear hcz16_1
                  try clear hcz16_2
                  try clear hcz16_3
                  try clear hfz13_0
                  try clear hfz13_1
                  try clear hfz13_2
                  try clear hfz13_3
                  try clear hfz15_0
                  try clear hfz15_1
                  try clear hfz15_2
                  try clear hfz15_3
                  try clear hfz16_0
                  try clear hfz16_1
                  try clear hfz16_2
                  try clear hfz16_3
                  try clear hx171_0
                  try clear hx171_1
                  try clear hx171_2
                  try clear hx171_3
                  try clear p171
                  try clear p2
                  try clear q171
                  obtain ⟨kq, x33_10, rfl, HA, HJ10, BK172, HB⟩ := hcut
                  cases kq with
                  | zero => exact absurd HA.out (by simp [countermandlaw07_CodeOn.j1])
                  | succ kj10 =>
                    have H := HA.out
                    clear HA
                    simp only [countermandlaw07_CodeOn.j1] at H
                    by_cases c17 : x33_10 = true
                    · subst c17
                      have H1 : (countermandlaw07_CodeOn.l0 kj10 l0 l0 (l0.length : Int) (wrap64 (x21_1 + 1))) = some r := by rw [if_pos rfl] at H; exact H
                      clear H
                      have H := H1
                      clear H1
                      have H' := Aside0.mk H
                      clear H
                      go_wp2
                      go_roundg kj10
                      case measure => have := HK1.out; have := HJ10.out; omega
                      case rel => exact ⟨(wrap64 (x21_1 + 1)), (by first | rfl | (simp; done) | (simp [*]; done)), H', ⟨by have := HK1.out; have := HJ10.out; omega⟩, ⟨by repeat (first | (with_reducible first | exact HB.out | apply below_alloc | apply pw_below_drewN | apply below_drew1 | refine below_set ?_ GE172.out) | exact HB.out)⟩⟩
                    · replace c17 := Bool.eq_false_iff.mpr c17
                      subst c17
                      have H1 : (if ((rd_T71 l0 x21_1).f1) ≤ x21_1 then (countermandlaw07_CodeOn.j2 kj10 l0 x21_1 l0 (l0.length : Int) x21_1 true ((rd_T71 l0 x21_1).f0) ((rd_T71 l0 x21_1).f1) ((rd_T71 l0 x21_1).f2) ((rd_T71 l0 x21_1).f3)) else (countermandlaw07_CodeOn.j2 kj10 l0 x21_1 l0 (l0.length : Int) x21_1 (decide (((rd_T71 l0 x21_1).f1) > (l0.length : Int))) ((rd_T71 l0 x21_1).f0) ((rd_T71 l0 x21_1).f1) ((rd_T71 l0 x21_1).f2) ((rd_T71 l0 x21_1).f3))) = some r := by rw [if_neg (show ¬ (false = true) by decide)] at H; exact H
                      clear H
                      have H := H1
                      clear H1
                      have HC18 := Aside0.mk H
                      clear H
                      go_upto_region 10 with (fail)
                      go_cut [44] (fun v44 wc => ∃ (kq : Nat) (x44_17 : Bool), v44 = .bool x44_17 ∧ Aside0 (countermandlaw07_CodeOn.j2 kq l0 x21_1 l0 (l0.length : Int) x21_1 x44_17 ((rd_T71 l0 x21_1).f0) ((rd_T71 l0 x21_1).f1) ((rd_T71 l0 x21_1).f2) ((rd_T71 l0 x21_1).f3) = some r) ∧ Aside0 (kq ≤ kj10) ∧ Aside0 (wc.heap[gb172]? = some (.cells #[.int .i64 ((rd_T71 l0 x21_1).f0), .int .i64 ((rd_T71 l0 x21_1).f1), .int .i64 ((rd_T71 l0 x21_1).f2), .int .i64 ((rd_T71 l0 x21_1).f3)] 71 (0, 0))) ∧ Aside0 (Below w.heap.size w wc))
                      case first =>
                        have H := HC18.out
                        clear HC18
                        by_cases c19 : ((rd_T71 l0 x21_1).f1) ≤ x21_1
                        · rw [if_pos c19] at H
                          have c19b0 : decide (((rd_T71 l0 x21_1).f1) ≤ x21_1) = true := decide_eq_true c19
                          clear c19
                          (first | rw [c19b0] | (simp only [i64_w, i32_w]; rw [c19b0]) | skip)
                          have H' := Aside0.mk H
                          clear H
                          have hcz20_0 : wc.cell? ⟨gb172, 0, none⟩ = some (.int .i64 ((rd_T71 l0 x21_1).f0)) := (blk_cell BK172.out 0).trans rfl
                          have hcz20_1 : wc.cell? ⟨gb172, 1, none⟩ = some (.int .i64 ((rd_T71 l0 x21_1).f1)) := (blk_cell BK172.out 1).trans rfl
                          have hcz20_2 : wc.cell? ⟨gb172, 2, none⟩ = some (.int .i64 ((rd_T71 l0 x21_1).f2)) := (blk_cell BK172.out 2).trans rfl
                          have hcz20_3 : wc.cell? ⟨gb172, 3, none⟩ = some (.int .i64 ((rd_T71 l0 x21_1).f3)) := (blk_cell BK172.out 3).trans rfl
                          have hfz20_0 := blk_frozen BK172.out 0
                          have hfz20_1 := blk_frozen BK172.out 1
                          have hfz20_2 := blk_frozen BK172.out 2
                          have hfz20_3 := blk_frozen BK172.out 3
                          go_wp2
                          go_meet
                          case rel => exact ⟨_, (true), (by first | rfl | (simp; done) | (simp [*]; done)), H', ⟨by have := HK1.out; have := HJ10.out; first | omega | exact Nat.le_refl _⟩, ⟨by (with_reducible repeat (first | refine blk_drewN ?_ _ | refine blk_drew ?_ | refine blk_alloc ?_ _)); exact BK172.out⟩, ⟨by repeat (first | (with_reducible first | exact HB.out | apply below_alloc | apply pw_below_drewN | apply below_drew1 | refine below_set ?_ GE172.out) | exact HB.out)⟩⟩
                        · rw [if_neg c19] at H
                          have c19b0 : decide (((rd_T71 l0 x21_1).f1) ≤ x21_1) = false := decide_eq_false c19
                          clear c19
                          (first | rw [c19b0] | (simp only [i64_w, i32_w]; rw [c19b0]) | skip)
                          have H' := Aside0.mk H
                          clear H
                          have hcz21_0 : wc.cell? ⟨gb172, 0, none⟩ = some (.int .i64 ((rd_T71 l0 x21_1).f0)) := (blk_cell BK172.out 0).trans rfl
                          have hcz21_1 : wc.cell? ⟨gb172, 1, none⟩ = some (.int .i64 ((rd_T71 l0 x21_1).f1)) := (blk_cell BK172.out 1).trans rfl
                          have hcz21_2 : wc.cell? ⟨gb172, 2, none⟩ = some (.int .i64 ((rd_T71 l0 x21_1).f2)) := (blk_cell BK172.out 2).trans rfl
                          have hcz21_3 : wc.cell? ⟨gb172, 3, none⟩ = some (.int .i64 ((rd_T71 l0 x21_1).f3)) := (blk_cell BK172.out 3).trans rfl
                          have hfz21_0 := blk_frozen BK172.out 0
                          have hfz21_1 := blk_frozen BK172.out 1
                          have hfz21_2 := blk_frozen BK172.out 2
                          have hfz21_3 := blk_frozen BK172.out 3
                          go_wp2
                          go_meet
                          case rel => exact ⟨_, (decide (((rd_T71 l0 x21_1).f1) > (l0.length : Int))), (by first | rfl | (simp; done) | (simp [*]; done)), H', ⟨by have := HK1.out; have := HJ10.out; first | omega | exact Nat.le_refl _⟩, ⟨by (with_reducible repeat (first | refine blk_drewN ?_ _ | refine blk_drew ?_ | refine blk_alloc ?_ _)); exact BK172.out⟩, ⟨by repeat (first | (with_reducible first | exact HB.out | apply below_alloc | apply pw_below_drewN | apply below_drew1 | refine below_set ?_ GE172.out) | exact HB.out)⟩⟩
                      case rest =>
                        clear HC18
                        try clear c1
                        try clear p1
                        try clear q1
                        try clear hx1
                        try clear c2
                        try clear p2
                        try clear c3
                        try clear c5
                        try clear c5b0
                        try clear c5b1
                        try clear p6
                        try clear c8
                        try clear c8b0
                        try clear c9
                        try clear c9b0
                        try clear c10
                        try clear c10b0
                        try clear c14
                        try clear c14b0
                        try clear c14b1
                        try clear c17
                        try clear p17
                        try clear q17
                        try clear hx17
                        try clear c19
                        try clear c19b0
                        try clear hcz13_0
                        try clear hcz13_1
                        try clear hcz13_2
                        try clear hcz13_3
                        try clear hcz15_0
                        try clear hcz15_1
                        try clear hcz15_2
                        try clear hcz15_3
                        try clear hcz16_0
                        try clear hcz16_1
                        try clear hcz16_2
                        try clear hcz16_3
                        try clear hcz20_0
                        try clear hcz20_1
                        try clear hcz20_2
                        try clear hcz20_3
                        try clear hcz21_0
                        try clear hcz21_1
                        try clear hcz21_2
                        try clear hcz21_3
                        try clear hfz13_0
                        try clear hfz13_1
                        try clear hfz13_2
                        try clear hfz13_3
                        try clear hfz15_0
                        try clear hfz15_1
                        try clear hfz15_2
                        try clear hfz15_3
                        try clear hfz16_0
                        try clear hfz16_1
                        try clear hfz16_2
                        try clear hfz16_3
                        try clear hfz20_0
                        try clear hfz20_1
                        try clear hfz20_2
                        try clear hfz20_3
                        try clear hfz21_0
                        try clear hfz21_1
                        try clear hfz21_2
                        try clear hfz21_3
                        try clear hx171_0
                        try clear hx171_1
                        try clear hx171_2
                        try clear hx171_3
                        try clear p1
                        try clear p171
                        try clear p2
                        try clear q1
                        try clear q171
                        obtain ⟨kq, x44_17, rfl, HA, HJ17, BK172, HB⟩ := hcut
                        cases kq with
                        | zero => exact absurd HA.out (by simp [countermandlaw07_CodeOn.j2])
                        | succ kj17 =>
                          have H := HA.out
                          clear HA
                          simp only [countermandlaw07_CodeOn.j2] at H
                          by_cases c22 : x44_17 = true
                          · subst c22
                            have H1 : (some false) = some r := by rw [if_pos rfl] at H; exact H
                            clear H
                            have H := H1
                            clear H1
                            obtain rfl := Option.some.inj H
                            go_wp2
                            go_ret
                            exact ⟨by first | rfl | (simp [errW_none, errW_some] <;> rfl) | (simp [*, errW_none, errW_some] <;> rfl), by repeat (first | (with_reducible first | exact HB.out | apply below_alloc | apply pw_below_drewN | apply below_drew1 | refine below_set ?_ GE172.out) | exact HB.out)⟩
                          · replace c22 := Bool.eq_false_iff.mpr c22
                            subst c22
                            have H1 : (countermandlaw07_CodeOn.l1 kj17 l0 0 0 x21_1 l0 (l0.length : Int) x21_1 ((rd_T71 l0 x21_1).f0) ((rd_T71 l0 x21_1).f1) ((rd_T71 l0 x21_1).f2) ((rd_T71 l0 x21_1).f3)) = some r := by rw [if_neg (show ¬ (false = true) by decide)] at H; exact H
                            clear H
                            have H := H1
                            clear H1
                            have H' := Aside0.mk H
                            clear H
                            go_wp2
                            go_loopg [7, 8, 9] kj17 (fun kq v7 v8 v9 w' => ∃ (x7_4 : Int) (x8_4 : Int) (x9_4 : Int), v7 = .int .i64 x7_4 ∧ v8 = .int .i64 x8_4 ∧ v9 = .int .i64 x9_4 ∧ Aside0 (countermandlaw07_CodeOn.l1 kq l0 x7_4 x8_4 x9_4 l0 (l0.length : Int) x21_1 ((rd_T71 l0 x21_1).f0) ((rd_T71 l0 x21_1).f1) ((rd_T71 l0 x21_1).f2) ((rd_T71 l0 x21_1).f3) = some r) ∧ Aside0 (kq ≤ kj17) ∧ Aside0 (w'.heap[gb172]? = some (.cells #[.int .i64 ((rd_T71 l0 x21_1).f0), .int .i64 ((rd_T71 l0 x21_1).f1), .int .i64 ((rd_T71 l0 x21_1).f2), .int .i64 ((rd_T71 l0 x21_1).f3)] 71 (0, 0))) ∧ Aside0 (Below w.heap.size w w'))
                            case atStart => exact ⟨(0), (0), (x21_1), (by first | rfl | (simp; done) | (simp [*]; done)), (by first | rfl | (simp; done) | (simp [*]; done)), (by first | rfl | (simp; done) | (simp [*]; done)), H', ⟨Nat.le_refl _⟩, ⟨by (with_reducible repeat (first | refine blk_drewN ?_ _ | refine blk_drew ?_ | refine blk_alloc ?_ _)); exact BK172.out⟩, ⟨by repeat (first | (with_reducible first | exact HB.out | apply below_alloc | apply pw_below_drewN | apply below_drew1 | refine below_set ?_ GE172.out) | exact HB.out)⟩⟩
                            case round =>
                              clear H'
                              try clear c1
                              try clear p1
                              try clear q1
                              try clear hx1
                              try clear c2
                              try clear p2
                              try clear c3
                              try clear c5
                              try clear c5b0
                              try clear c5b1
                              try clear p6
                              try clear c8
                              try clear c8b0
                              try clear c9
                              try clear c9b0
                              try clear c10
                              try clear c10b0
                              try clear c14
                              try clear c14b0
                              try clear c14b1
                              try clear c17
                              try clear p17
                              try clear q17
                              try clear hx17
                              try clear c19
                              try clear c19b0
                              try clear c22
                              try clear hcz13_0
                              try clear hcz13_1
                              try clear hcz13_2
                              try clear hcz13_3
                              try clear hcz15_0
                              try clear hcz15_1
                              try clear hcz15_2
                              try clear hcz15_3
                              try clear hcz16_0
                              try clear hcz16_1
                              try clear hcz16_2
                              try clear hcz16_3
                              try clear hcz20_0
                              try clear hcz20_1
                              try clear hcz20_2
                              try clear hcz20_3
                              try clear hcz21_0
                              try clear hcz21_1
                              try clear hcz21_2
                              try clear hcz21_3
                              try clear hfz13_0
                              try clear hfz13_1
                              try clear hfz13_2
                              try clear hfz13_3
                              try clear hfz15_0
                              try clear hfz15_1
                              try clear hfz15_2
                              try clear hfz15_3
                              try clear hfz16_0
                              try clear hfz16_1
                              try clear hfz16_2
                              try clear hfz16_3
                              try clear hfz20_0
                              try clear hfz20_1
                              try clear hfz20_2
                              try clear hfz20_3
                              try clear hfz21_0
                              try clear hfz21_1
                              try clear hfz21_2
                              try clear hfz21_3
                              try clear hx171_0
                              try clear hx171_1
                              try clear hx171_2
                              try clear hx171_3
                              try clear p1
                              try clear p17
                              try clear p171
                              try clear p2
                              try clear p6
                              try clear q1
                              try clear q17
                              try clear q171
                              obtain ⟨x7_4, x8_4, x9_4, rfl, rfl, rfl, HA, HK4, BK172, HB⟩ := hrel
                              cases gk with
                              | zero => exact absurd HA.out (by simp [countermandlaw07_CodeOn.l1])
                              | succ k4 =>
                                have H := HA.out
                                clear HA
                                simp only [countermandlaw07_CodeOn.l1] at H
                                by_cases c23 : x9_4 < ((rd_T71 l0 x21_1).f1)
                                · rw [if_pos c23] at H
                                  have c23b0 : decide (x9_4 < ((rd_T71 l0 x21_1).f1)) = true := decide_eq_true c23
                                  clear c23
                                  by_cases c24 : 0 ≤ x9_4
                                  · rw [if_pos c24] at H
                                    have c24b0 : decide (0 ≤ x9_4) = true := decide_eq_true c24
                                    clear c24
                                    by_cases c25 : x9_4 < (l0.length : Int)
                                    · rw [if_pos c25] at H
                                      have c25b0 : decide (x9_4 < (l0.length : Int)) = true := decide_eq_true c25
                                      clear c25
                                      by_cases c26 : ((rd_T71 l0 x9_4).f0) = 4
                                      · rw [if_pos c26] at H
                                        have c26b0 : (((rd_T71 l0 x9_4).f0) == 4) = true := beq_iff_eq.mpr c26
                                        have c26b1 : (((rd_T71 l0 x9_4).f0) != 4) = false := bne_eq_false_iff_eq.mpr c26
                                        clear c26
                                        by_cases c27 : ((rd_T71 l0 x9_4).f0) = 5
                                        · rw [if_pos c27] at H
                                          have c27b0 : (((rd_T71 l0 x9_4).f0) == 5) = true := beq_iff_eq.mpr c27
                                          have c27b1 : (((rd_T71 l0 x9_4).f0) != 5) = false := bne_eq_false_iff_eq.mpr c27
                                          clear c27
                                          have H' := Aside0.mk H
                                          clear H
                                          have hcz28_0 : wr.cell? ⟨gb172, 0, none⟩ = some (.int .i64 ((rd_T71 l0 x21_1).f0)) := (blk_cell BK172.out 0).trans rfl
                                          have hcz28_1 : wr.cell? ⟨gb172, 1, none⟩ = some (.int .i64 ((rd_T71 l0 x21_1).f1)) := (blk_cell BK172.out 1).trans rfl
                                          have hcz28_2 : wr.cell? ⟨gb172, 2, none⟩ = some (.int .i64 ((rd_T71 l0 x21_1).f2)) := (blk_cell BK172.out 2).trans rfl
                                          have hcz28_3 : wr.cell? ⟨gb172, 3, none⟩ = some (.int .i64 ((rd_T71 l0 x21_1).f3)) := (blk_cell BK172.out 3).trans rfl
                                          have hfz28_0 := blk_frozen BK172.out 0
                                          have hfz28_1 := blk_frozen BK172.out 1
                                          have hfz28_2 := blk_frozen BK172.out 2
                                          have hfz28_3 := blk_frozen BK172.out 3
                                          have p173 : 0 ≤ (x9_4 : Int) := of_decide_eq_true (by first | (with_reducible assumption) | assumption)
                                          have q173 : x9_4 < (l0.length : Int) := of_decide_eq_true (by first | (with_reducible assumption) | assumption)
                                          obtain ⟨ad173, e173, hx173_0, hx173_1, hx173_2, hx173_3⟩ := at_T71 HR0.out x9_4 p173 q173
                                          obtain rfl : ad171 = ad173 := (by injection e173)
                                          replace hx173_0 := (HB.out.cell (World.block_lt_of_cell? w _ hx173_0)).trans hx173_0
                                          replace hx173_1 := (HB.out.cell (World.block_lt_of_cell? w _ hx173_1)).trans hx173_1
                                          replace hx173_2 := (HB.out.cell (World.block_lt_of_cell? w _ hx173_2)).trans hx173_2
                                          replace hx173_3 := (HB.out.cell (World.block_lt_of_cell? w _ hx173_3)).trans hx173_3
                                          replace p173 := eq_true p173
                                          replace q173 := eq_true q173
                                          have p174 : 0 ≤ (x9_4 : Int) := of_decide_eq_true (by first | (with_reducible assumption) | assumption)
                                          have q174 : x9_4 < (l0.length : Int) := of_decide_eq_true (by first | (with_reducible assumption) | assumption)
                                          obtain ⟨ad174, e174, hx174_0, hx174_1, hx174_2, hx174_3⟩ := at_T71 HR0.out x9_4 p174 q174
                                          obtain rfl : ad171 = ad174 := (by injection e174)
                                          replace hx174_0 := (HB.out.cell (World.block_lt_of_cell? w _ hx174_0)).trans hx174_0
                                          replace hx174_1 := (HB.out.cell (World.block_lt_of_cell? w _ hx174_1)).trans hx174_1
                                          replace hx174_2 := (HB.out.cell (World.block_lt_of_cell? w _ hx174_2)).trans hx174_2
                                          replace hx174_3 := (HB.out.cell (World.block_lt_of_cell? w _ hx174_3)).trans hx174_3
                                          replace p174 := eq_true p174
                                          replace q174 := eq_true q174
                                          go_wp2
                                          go_roundg k4
                                          case measure => have := HK1.out; have := HJ10.out; have := HJ17.out; have := HK4.out; omega
                                          case rel => exact ⟨(wrap64 (x7_4 + 1)), (wrap64 (x8_4 + 1)), (wrap64 (x9_4 + 1)), (by first | rfl | (simp; done) | (simp [*]; done)), (by first | rfl | (simp; done) | (simp [*]; done)), (by first | rfl | (simp; done) | (simp [*]; done)), H', ⟨by have := HK1.out; have := HJ10.out; have := HJ17.out; have := HK4.out; omega⟩, ⟨by (with_reducible repeat (first | refine blk_drewN ?_ _ | refine blk_drew ?_ | refine blk_alloc ?_ _)); exact BK172.out⟩, ⟨by repeat (first | (with_reducible first | exact HB.out | apply below_alloc | apply pw_below_drewN | apply below_drew1 | refine below_set ?_ GE172.out) | exact HB.out)⟩⟩
                                        · rw [if_neg c27] at H
                                          have c27b0 : (((rd_T71 l0 x9_4).f0) == 5) = false := beq_eq_false_iff_ne.mpr c27
                                          have c27b1 : (((rd_T71 l0 x9_4).f0) != 5) = true := bne_iff_ne.mpr c27
                                          have H' := Aside0.mk H
                                          clear H
                                          have hcz29_0 : wr.cell? ⟨gb172, 0, none⟩ = some (.int .i64 ((rd_T71 l0 x21_1).f0)) := (blk_cell BK172.out 0).trans rfl
                                          have hcz29_1 : wr.cell? ⟨gb172, 1, none⟩ = some (.int .i64 ((rd_T71 l0 x21_1).f1)) := (blk_cell BK172.out 1).trans rfl
                                          have hcz29_2 : wr.cell? ⟨gb172, 2, none⟩ = some (.int .i64 ((rd_T71 l0 x21_1).f2)) := (blk_cell BK172.out 2).trans rfl
                                          have hcz29_3 : wr.cell? ⟨gb172, 3, none⟩ = some (.int .i64 ((rd_T71 l0 x21_1).f3)) := (blk_cell BK172.out 3).trans rfl
                                          have hfz29_0 := blk_frozen BK172.out 0
                                          have hfz29_1 := blk_frozen BK172.out 1
                                          have hfz29_2 := blk_frozen BK172.out 2
                                          have hfz29_3 := blk_frozen BK172.out 3
                                          have p173 : 0 ≤ (x9_4 : Int) := of_decide_eq_true (by first | (with_reducible assumption) | assumption)
                                          have q173 : x9_4 < (l0.length : Int) := of_decide_eq_true (by first | (with_reducible assumption) | assumption)
                                          obtain ⟨ad173, e173, hx173_0, hx173_1, hx173_2, hx173_3⟩ := at_T71 HR0.out x9_4 p173 q173
                                          obtain rfl : ad171 = ad173 := (by injection e173)
                                          replace hx173_0 := (HB.out.cell (World.block_lt_of_cell? w _ hx173_0)).trans hx173_0
                                          replace hx173_1 := (HB.out.cell (World.block_lt_of_cell? w _ hx173_1)).trans hx173_1
                                          replace hx173_2 := (HB.out.cell (World.block_lt_of_cell? w _ hx173_2)).trans hx173_2
                                          replace hx173_3 := (HB.out.cell (World.block_lt_of_cell? w _ hx173_3)).trans hx173_3
                                          replace p173 := eq_true p173
                                          replace q173 := eq_true q173
                                          have p174 : 0 ≤ (x9_4 : Int) := of_decide_eq_true (by first | (with_reducible assumption) | assumption)
                                          have q174 : x9_4 < (l0.length : Int) := of_decide_eq_true (by first | (with_reducible assumption) | assumption)
                                          obtain ⟨ad174, e174, hx174_0, hx174_1, hx174_2, hx174_3⟩ := at_T71 HR0.out x9_4 p174 q174
                                          obtain rfl : ad171 = ad174 := (by injection e174)
                                          replace hx174_0 := (HB.out.cell (World.block_lt_of_cell? w _ hx174_0)).trans hx174_0
                                          replace hx174_1 := (HB.out.cell (World.block_lt_of_cell? w _ hx174_1)).trans hx174_1
                                          replace hx174_2 := (HB.out.cell (World.block_lt_of_cell? w _ hx174_2)).trans hx174_2
                                          replace hx174_3 := (HB.out.cell (World.block_lt_of_cell? w _ hx174_3)).trans hx174_3
                                          replace p174 := eq_true p174
                                          replace q174 := eq_true q174
                                          go_wp2
                                          go_roundg k4
                                          case measure => have := HK1.out; have := HJ10.out; have := HJ17.out; have := HK4.out; omega
                                          case rel => exact ⟨(wrap64 (x7_4 + 1)), (x8_4), (wrap64 (x9_4 + 1)), (by first | rfl | (simp; done) | (simp [*]; done)), (by first | rfl | (simp; done) | (simp [*]; done)), (by first | rfl | (simp; done) | (simp [*]; done)), H', ⟨by have := HK1.out; have := HJ10.out; have := HJ17.out; have := HK4.out; omega⟩, ⟨by (with_reducible repeat (first | refine blk_drewN ?_ _ | refine blk_drew ?_ | refine blk_alloc ?_ _)); exact BK172.out⟩, ⟨by repeat (first | (with_reducible first | exact HB.out | apply below_alloc | apply pw_below_drewN | apply below_drew1 | refine below_set ?_ GE172.out) | exact HB.out)⟩⟩
                                      · rw [if_neg c26] at H
                                        have c26b0 : (((rd_T71 l0 x9_4).f0) == 4) = false := beq_eq_false_iff_ne.mpr c26
                                        have c26b1 : (((rd_T71 l0 x9_4).f0) != 4) = true := bne_iff_ne.mpr c26
                                        by_cases c30 : ((rd_T71 l0 x9_4).f0) = 5
                                        · rw [if_pos c30] at H
                                          have c30b0 : (((rd_T71 l0 x9_4).f0) == 5) = true := beq_iff_eq.mpr c30
                                          have c30b1 : (((rd_T71 l0 x9_4).f0) != 5) = false := bne_eq_false_iff_eq.mpr c30
                                          clear c30
                                          have H' := Aside0.mk H
                                          clear H
                                          have hcz31_0 : wr.cell? ⟨gb172, 0, none⟩ = some (.int .i64 ((rd_T71 l0 x21_1).f0)) := (blk_cell BK172.out 0).trans rfl
                                          have hcz31_1 : wr.cell? ⟨gb172, 1, none⟩ = some (.int .i64 ((rd_T71 l0 x21_1).f1)) := (blk_cell BK172.out 1).trans rfl
                                          have hcz31_2 : wr.cell? ⟨gb172, 2, none⟩ = some (.int .i64 ((rd_T71 l0 x21_1).f2)) := (blk_cell BK172.out 2).trans rfl
                                          have hcz31_3 : wr.cell? ⟨gb172, 3, none⟩ = some (.int .i64 ((rd_T71 l0 x21_1).f3)) := (blk_cell BK172.out 3).trans rfl
                                          have hfz31_0 := blk_frozen BK172.out 0
                                          have hfz31_1 := blk_frozen BK172.out 1
                                          have hfz31_2 := blk_frozen BK172.out 2
                                          have hfz31_3 := blk_frozen BK172.out 3
                                          have p173 : 0 ≤ (x9_4 : Int) := of_decide_eq_true (by first | (with_reducible assumption) | assumption)
                                          have q173 : x9_4 < (l0.length : Int) := of_decide_eq_true (by first | (with_reducible assumption) | assumption)
                                          obtain ⟨ad173, e173, hx173_0, hx173_1, hx173_2, hx173_3⟩ := at_T71 HR0.out x9_4 p173 q173
                                          obtain rfl : ad171 = ad173 := (by injection e173)
                                          replace hx173_0 := (HB.out.cell (World.block_lt_of_cell? w _ hx173_0)).trans hx173_0
                                          replace hx173_1 := (HB.out.cell (World.block_lt_of_cell? w _ hx173_1)).trans hx173_1
                                          replace hx173_2 := (HB.out.cell (World.block_lt_of_cell? w _ hx173_2)).trans hx173_2
                                          replace hx173_3 := (HB.out.cell (World.block_lt_of_cell? w _ hx173_3)).trans hx173_3
                                          replace p173 := eq_true p173
                                          replace q173 := eq_true q173
                                          have p175 : 0 ≤ (x9_4 : Int) := of_decide_eq_true (by first | (with_reducible assumption) | assumption)
                                          have q175 : x9_4 < (l0.length : Int) := of_decide_eq_true (by first | (with_reducible assumption) | assumption)
                                          obtain ⟨ad175, e175, hx175_0, hx175_1, hx175_2, hx175_3⟩ := at_T71 HR0.out x9_4 p175 q175
                                          obtain rfl : ad171 = ad175 := (by injection e175)
                                          replace hx175_0 := (HB.out.cell (World.block_lt_of_cell? w _ hx175_0)).trans hx175_0
                                          replace hx175_1 := (HB.out.cell (World.block_lt_of_cell? w _ hx175_1)).trans hx175_1
                                          replace hx175_2 := (HB.out.cell (World.block_lt_of_cell? w _ hx175_2)).trans hx175_2
                                          replace hx175_3 := (HB.out.cell (World.block_lt_of_cell? w _ hx175_3)).trans hx175_3
                                          replace p175 := eq_true p175
                                          replace q175 := eq_true q175
                                          go_wp2
                                          go_roundg k4
                                          case measure => have := HK1.out; have := HJ10.out; have := HJ17.out; have := HK4.out; omega
                                          case rel => exact ⟨(x7_4), (wrap64 (x8_4 + 1)), (wrap64 (x9_4 + 1)), (by first | rfl | (simp; done) | (simp [*]; done)), (by first | rfl | (simp; done) | (simp [*]; done)), (by first | rfl | (simp; done) | (simp [*]; done)), H', ⟨by have := HK1.out; have := HJ10.out; have := HJ17.out; have := HK4.out; omega⟩, ⟨by (with_reducible repeat (first | refine blk_drewN ?_ _ | refine blk_drew ?_ | refine blk_alloc ?_ _)); exact BK172.out⟩, ⟨by repeat (first | (with_reducible first | exact HB.out | apply below_alloc | apply pw_below_drewN | apply below_drew1 | refine below_set ?_ GE172.out) | exact HB.out)⟩⟩
                                        · rw [if_neg c30] at H
                                          have c30b0 : (((rd_T71 l0 x9_4).f0) == 5) = false := beq_eq_false_iff_ne.mpr c30
                                          have c30b1 : (((rd_T71 l0 x9_4).f0) != 5) = true := bne_iff_ne.mpr c30
                                          have H' := Aside0.mk H
                                          clear H
                                          have hcz32_0 : wr.cell? ⟨gb172, 0, none⟩ = some (.int .i64 ((rd_T71 l0 x21_1).f0)) := (blk_cell BK172.out 0).trans rfl
                                          have hcz32_1 : wr.cell? ⟨gb172, 1, none⟩ = some (.int .i64 ((rd_T71 l0 x21_1).f1)) := (blk_cell BK172.out 1).trans rfl
                                          have hcz32_2 : wr.cell? ⟨gb172, 2, none⟩ = some (.int .i64 ((rd_T71 l0 x21_1).f2)) := (blk_cell BK172.out 2).trans rfl
                                          have hcz32_3 : wr.cell? ⟨gb172, 3, none⟩ = some (.int .i64 ((rd_T71 l0 x21_1).f3)) := (blk_cell BK172.out 3).trans rfl
                                          have hfz32_0 := blk_frozen BK172.out 0
                                          have hfz32_1 := blk_frozen BK172.out 1
                                          have hfz32_2 := blk_frozen BK172.out 2
                                          have hfz32_3 := blk_frozen BK172.out 3
                                          have p173 : 0 ≤ (x9_4 : Int) := of_decide_eq_true (by first | (with_reducible assumption) | assumption)
                                          have q173 : x9_4 < (l0.length : Int) := of_decide_eq_true (by first | (with_reducible assumption) | assumption)
                                          obtain ⟨ad173, e173, hx173_0, hx173_1, hx173_2, hx173_3⟩ := at_T71 HR0.out x9_4 p173 q173
                                          obtain rfl : ad171 = ad173 := (by injection e173)
                                          replace hx173_0 := (HB.out.cell (World.block_lt_of_cell? w _ hx173_0)).trans hx173_0
                                          replace hx173_1 := (HB.out.cell (World.block_lt_of_cell? w _ hx173_1)).trans hx173_1
                                          replace hx173_2 := (HB.out.cell (World.block_lt_of_cell? w _ hx173_2)).trans hx173_2
                                          replace hx173_3 := (HB.out.cell (World.block_lt_of_cell? w _ hx173_3)).trans hx173_3
                                          replace p173 := eq_true p173
                                          replace q173 := eq_true q173
                                          have p175 : 0 ≤ (x9_4 : Int) := of_decide_eq_true (by first | (with_reducible assumption) | assumption)
                                          have q175 : x9_4 < (l0.length : Int) := of_decide_eq_true (by first | (with_reducible assumption) | assumption)
                                          obtain ⟨ad175, e175, hx175_0, hx175_1, hx175_2, hx175_3⟩ := at_T71 HR0.out x9_4 p175 q175
                                          obtain rfl : ad171 = ad175 := (by injection e175)
                                          replace hx175_0 := (HB.out.cell (World.block_lt_of_cell? w _ hx175_0)).trans hx175_0
                                          replace hx175_1 := (HB.out.cell (World.block_lt_of_cell? w _ hx175_1)).trans hx175_1
                                          replace hx175_2 := (HB.out.cell (World.block_lt_of_cell? w _ hx175_2)).trans hx175_2
                                          replace hx175_3 := (HB.out.cell (World.block_lt_of_cell? w _ hx175_3)).trans hx175_3
                                          replace p175 := eq_true p175
                                          replace q175 := eq_true q175
                                          go_wp2
                                          go_roundg k4
                                          case measure => have := HK1.out; have := HJ10.out; have := HJ17.out; have := HK4.out; omega
                                          case rel => exact ⟨(x7_4), (x8_4), (wrap64 (x9_4 + 1)), (by first | rfl | (simp; done) | (simp [*]; done)), (by first | rfl | (simp; done) | (simp [*]; done)), (by first | rfl | (simp; done) | (simp [*]; done)), H', ⟨by have := HK1.out; have := HJ10.out; have := HJ17.out; have := HK4.out; omega⟩, ⟨by (with_reducible repeat (first | refine blk_drewN ?_ _ | refine blk_drew ?_ | refine blk_alloc ?_ _)); exact BK172.out⟩, ⟨by repeat (first | (with_reducible first | exact HB.out | apply below_alloc | apply pw_below_drewN | apply below_drew1 | refine below_set ?_ GE172.out) | exact HB.out)⟩⟩
                                    · rw [if_neg c25] at H
                                      exact absurd H (by simp)
                                  · rw [if_neg c24] at H
                                    exact absurd H (by simp)
                                · rw [if_neg c23] at H
                                  have c23b0 : decide (x9_4 < ((rd_T71 l0 x21_1).f1)) = false := decide_eq_false c23
                                  clear c23
                                  by_cases c33 : x7_4 = x8_4
                                  · rw [if_pos c33] at H
                                    have c33b0 : (x7_4 == x8_4) = true := beq_iff_eq.mpr c33
                                    have c33b1 : (x7_4 != x8_4) = false := bne_eq_false_iff_eq.mpr c33
                                    clear c33
                                    have H' := Aside0.mk H
                                    clear H
                                    have hcz34_0 : wr.cell? ⟨gb172, 0, none⟩ = some (.int .i64 ((rd_T71 l0 x21_1).f0)) := (blk_cell BK172.out 0).trans rfl
                                    have hcz34_1 : wr.cell? ⟨gb172, 1, none⟩ = some (.int .i64 ((rd_T71 l0 x21_1).f1)) := (blk_cell BK172.out 1).trans rfl
                                    have hcz34_2 : wr.cell? ⟨gb172, 2, none⟩ = some (.int .i64 ((rd_T71 l0 x21_1).f2)) := (blk_cell BK172.out 2).trans rfl
                                    have hcz34_3 : wr.cell? ⟨gb172, 3, none⟩ = some (.int .i64 ((rd_T71 l0 x21_1).f3)) := (blk_cell BK172.out 3).trans rfl
                                    have hfz34_0 := blk_frozen BK172.out 0
                                    have hfz34_1 := blk_frozen BK172.out 1
                                    have hfz34_2 := blk_frozen BK172.out 2
                                    have hfz34_3 := blk_frozen BK172.out 3
                                    go_wp2
                                    go_roundg k4
                                    case measure => have := HK1.out; have := HJ10.out; have := HJ17.out; have := HK4.out; omega
                                    case rel => exact ⟨(wrap64 (x21_1 + 1)), (by first | rfl | (simp; done) | (simp [*]; done)), H', ⟨by have := HK1.out; have := HJ10.out; have := HJ17.out; have := HK4.out; omega⟩, ⟨by repeat (first | (with_reducible first | exact HB.out | apply below_alloc | apply pw_below_drewN | apply below_drew1 | refine below_set ?_ GE172.out) | exact HB.out)⟩⟩
                                  · rw [if_neg c33] at H
                                    have c33b0 : (x7_4 == x8_4) = false := beq_eq_false_iff_ne.mpr c33
                                    have c33b1 : (x7_4 != x8_4) = true := bne_iff_ne.mpr c33
                                    obtain rfl := Option.some.inj H
                                    have hcz35_0 : wr.cell? ⟨gb172, 0, none⟩ = some (.int .i64 ((rd_T71 l0 x21_1).f0)) := (blk_cell BK172.out 0).trans rfl
                                    have hcz35_1 : wr.cell? ⟨gb172, 1, none⟩ = some (.int .i64 ((rd_T71 l0 x21_1).f1)) := (blk_cell BK172.out 1).trans rfl
                                    have hcz35_2 : wr.cell? ⟨gb172, 2, none⟩ = some (.int .i64 ((rd_T71 l0 x21_1).f2)) := (blk_cell BK172.out 2).trans rfl
                                    have hcz35_3 : wr.cell? ⟨gb172, 3, none⟩ = some (.int .i64 ((rd_T71 l0 x21_1).f3)) := (blk_cell BK172.out 3).trans rfl
                                    have hfz35_0 := blk_frozen BK172.out 0
                                    have hfz35_1 := blk_frozen BK172.out 1
                                    have hfz35_2 := blk_frozen BK172.out 2
                                    have hfz35_3 := blk_frozen BK172.out 3
                                    go_wp2
                                    go_ret
                                    exact ⟨by first | rfl | (simp [errW_none, errW_some] <;> rfl) | (simp [*, errW_none, errW_some] <;> rfl), by repeat (first | (with_reducible first | exact HB.out | apply below_alloc | apply pw_below_drewN | apply below_drew1 | refine below_set ?_ GE172.out) | exact HB.out)⟩
              · rw [if_neg c10] at H
                exact absurd H (by simp)
            · rw [if_neg c9] at H
              exact absurd H (by simp)
          · rw [if_neg c8] at H
            have c8b0 : decide (x21_1 < (l0.length : Int)) = false := decide_eq_false c8
            clear c8
            obtain rfl := Option.some.inj H
            go_wp2
            go_ret
            exact ⟨by first | rfl | (simp [errW_none, errW_some] <;> rfl) | (simp [*, errW_none, errW_some] <;> rfl), by repeat (first | (with_reducible first | exact HB.out | apply below_alloc | apply pw_below_drewN | apply below_drew1) | exact HB.out)⟩
    · rw [if_neg c5] at H
      have c5b0 : (t170 == 0) = false := beq_eq_false_iff_ne.mpr c5
      have c5b1 : (t170 != 0) = true := bne_iff_ne.mpr c5
      obtain rfl := Option.some.inj H
      go_enter Try.func8, Try.ntmps8
      go_wp2_with (first | ((with_reducible refine gate_callee (f := 29) rfl ?_); refine goesL_ (some 10) rfl rfl Try.func29 (by kernel_rfl) rfl #[] rfl (by (try simp only [List.map_toArray, List.map_cons, List.map_nil]); first | done | rfl | (simp only [List.length_drop, List.length_take]; rfl)) ?_; (with_reducible refine (countermandlaw07_alive.calls k  true _ A2.out).mono ?_); rintro e w36 ⟨rfl, hb⟩; refine ⟨_, rfl, ?_⟩; have n0_ := Aside0.mk (below_step (by repeat (first | (with_reducible first | exact HB.out | apply below_alloc | apply pw_below_drewN | apply below_drew1) | exact HB.out)) hb); clear HB; have HB := n0_; clear n0_; (try clear hb); (try clear hb2); (try clear hk); (try clear hi)) | ((with_reducible refine gate_callee (f := 30) rfl ?_); refine goesL_ (some 14) rfl rfl Try.func30 (by kernel_rfl) rfl #[.slice A0 l0.length c0] rfl (by (try simp only [List.map_toArray, List.map_cons, List.map_nil]); first | done | rfl | (simp only [List.length_drop, List.length_take]; rfl)) ?_; (with_reducible refine (code_Check.calls k _ _ l0 t169 t170 _ ?side1 ?side2 A4.out).mono ?_); (case side1 => repeat (first | exact (Kd.C_below HR0.out HB.out) | (with_reducible refine Kd.C_alloc ?_ _) | (with_reducible refine Kd.C_drewN ?_ _) | (with_reducible refine Kd.C_drew ?_))); (case side2 => exact HC0.out); rintro e w37 ⟨rfl, hb⟩; refine ⟨_, rfl, ?_⟩; have n0_ := Aside0.mk (below_step (by repeat (first | (with_reducible first | exact HB.out | apply below_alloc | apply pw_below_drewN | apply below_drew1) | exact HB.out)) hb); clear HB; have HB := n0_; clear n0_; (try clear hb); (try clear hb2); (try clear hk); (try clear hi)))
      go_ret
      exact ⟨by first | rfl | (simp [errW_none, errW_some] <;> rfl) | (simp [*, errW_none, errW_some] <;> rfl), by repeat (first | (with_reducible first | exact HB.out | apply below_alloc | apply pw_below_drewN | apply below_drew1) | exact HB.out)⟩
  · replace c3 := Bool.eq_false_iff.mpr c3
    subst c3
    have H1 : (some false) = some r := by rw [if_neg (show ¬ (false = true) by decide)] at H; exact H
    clear H
    have H := H1
    clear H1
    obtain rfl := Option.some.inj H
    go_enter Try.func8, Try.ntmps8
    go_wp2_with (first | ((with_reducible refine gate_callee (f := 29) rfl ?_); refine goesL_ (some 10) rfl rfl Try.func29 (by kernel_rfl) rfl #[] rfl (by (try simp only [List.map_toArray, List.map_cons, List.map_nil]); first | done | rfl | (simp only [List.length_drop, List.length_take]; rfl)) ?_; (with_reducible refine (countermandlaw07_alive.calls k  false _ A2.out).mono ?_); rintro e w38 ⟨rfl, hb⟩; refine ⟨_, rfl, ?_⟩; have n0_ := Aside0.mk (below_step (by repeat (first | (with_reducible first | exact HB.out | apply below_alloc | apply pw_below_drewN | apply below_drew1) | exact HB.out)) hb); clear HB; have HB := n0_; clear n0_; (try clear hb); (try clear hb2); (try clear hk); (try clear hi)))
    go_ret
    exact ⟨by first | rfl | (simp [errW_none, errW_some] <;> rfl) | (simp [*, errW_none, errW_some] <;> rfl), by repeat (first | (with_reducible first | exact HB.out | apply below_alloc | apply pw_below_drewN | apply below_drew1) | exact HB.out)⟩

/-- THE ONE PURE STATEMENT of countermandlaw07_CodeOn: yours. -/
def countermandlaw07_CodeOn.Pure : Prop := ∀ (l0 : List (S71)), l0.length ≤ maxLen → (∀ x ∈ l0, (Lit.int .i64 x.f0).wf = true ∧ (Lit.int .i64 x.f1).wf = true ∧ (Lit.int .i64 x.f2).wf = true ∧ (Lit.int .i64 x.f3).wf = true) → ∃ k, countermandlaw07_CodeOn.f k l0 = some true
theorem countermandlaw07_CodeOn.walk (P : countermandlaw07_CodeOn.Pure) (a0 : Option Addr) (len0 cap0 : Nat) (z0 : List (S71)) (w : World) (w0 : z0.length = len0 ∧ Kd.C k71 w a0 z0.length z0 ∧ z0.length ≤ cap0 ∧ z0.length ≤ maxLen ∧ (∀ x ∈ z0, (Lit.int .i64 x.f0).wf = true ∧ (Lit.int .i64 x.f1).wf = true ∧ (Lit.int .i64 x.f2).wf = true ∧ (Lit.int .i64 x.f3).wf = true)) :
    Calls Try.prog 8 #[.slice a0 len0 cap0] w fun e w' => e = .returned (.bool true) ∧ Below w.heap.size w w' := by
  obtain ⟨rfl, hr0, hc0, hm0, hg0⟩ := w0
  obtain ⟨k, h⟩ := P z0 hm0 hg0
  refine (countermandlaw07_CodeOn.calls k _ _ z0 true w hr0 hc0 h).mono ?_
  rintro e w' ⟨rfl, hd⟩
  exact ⟨rfl, hd⟩

end Go.Proofs.Ytfoefgckjaafnaa.PCodeOn
