/- Written by a program of this session, which began as the kit's print and is turned in wip/printer: the plain form of each function, and that the Go code comes to it. -/
import Derived.Test.YtfimbmdbaaiemaaPFileWritesx0
import Derived.Test.YtfimbmdbaaiemaaPFileWritesx1
namespace Go.Proofs.Ytfimbmdbaaiemaa.PFileWrites
open Go.RowKit Go.Proofs.YtfimbmdbaaiemaaW.PrintWords Go.Proofs.YtfimbmdbaaiemaaW.PrintLast Go.Proofs.YtfimbmdbaaiemaaW.PrintMore
attribute [local go_sem] max2_int min2_int max_two min_two max_three min_three max_four min_four   -- for this text's walks alone
set_option linter.unusedVariables false
set_option linter.unusedSimpArgs false

/-! ### countermandlaw09_FileWrites: function 3 -/
mutual
def countermandlaw09_FileWrites.j0 : Nat → ByteArray → List Int → Bool → Option (Bool)
  | 0, _, _, _ => none
  | k + 1, x0, x1, x19 => if x19 = true then (some true) else (if 0 ≤ (x0.size : Int) then (if ((x0.size : Int) : Int).toNat ≤ 281474976710656 then (countermandlaw09_FileWrites.l0 k x0 (List.replicate ((x0.size : Int) : Int).toNat false) x1 (x1.length : Int) 0 false (⟨#[]⟩ : ByteArray)) else (none)) else (none))
def countermandlaw09_FileWrites.l0 : Nat → ByteArray → List Bool → List Int → Int → Int → Bool → ByteArray → Option (Bool)
  | 0, _, _, _, _, _, _, _ => none
  | k + 1, x0, x6, x24, x25, x26, x112000, x112001 => if x26 < x25 then (if 0 ≤ x26 then (if x26 < (x24.length : Int) then (if (rd x24 x26) ≥ 0 then (if (rd x24 x26) < (x0.size : Int) then (if 0 ≤ (rd x24 x26) then ((file_Put.f x112000 x112001 (rd x24 x26) (bt x0 (rd x24 x26))).bind fun bt116 => (if (rd x24 x26) < (x6.length : Int) then (countermandlaw09_FileWrites.l0 k x0 (x6.set ((rd x24 x26) : Int).toNat true) x24 x25 (wrap64 (x26 + 1)) bt116.1 bt116.2) else (none))) else (none)) else (countermandlaw09_FileWrites.l0 k x0 x6 x24 x25 (wrap64 (x26 + 1)) x112000 x112001)) else (countermandlaw09_FileWrites.l0 k x0 x6 x24 x25 (wrap64 (x26 + 1)) x112000 x112001)) else (none)) else (none)) else (countermandlaw09_FileWrites.l1 k x0 x6 (x6.length : Int) 0 x112000 x112001)
def countermandlaw09_FileWrites.l1 : Nat → ByteArray → List Bool → Int → Int → Bool → ByteArray → Option (Bool)
  | 0, _, _, _, _, _, _ => none
  | k + 1, x0, x6, x49, x50, x112000, x112001 => if x50 < x49 then (if 0 ≤ x50 then (if x50 < (x6.length : Int) then (if rdOf false x6 x50 = true then (countermandlaw09_FileWrites.l1 k x0 x6 x49 (wrap64 (x50 + 1)) x112000 x112001) else (if x50 < (x0.size : Int) then ((file_Put.f x112000 x112001 x50 (bt x0 x50)).bind fun bt120 => (countermandlaw09_FileWrites.l1 k x0 x6 x49 (wrap64 (x50 + 1)) bt120.1 bt120.2)) else (none))) else (none)) else (none)) else (if x112001.toList = x0.toList then (if x112000 = true then (if x0.toList = ([] : List UInt8) then (some false) else (some true)) else (if x0.toList = ([] : List UInt8) then (some true) else (some false))) else (some false))
end
def countermandlaw09_FileWrites.f (k : Nat) (a0 : ByteArray) (l1 : List Int) : Option (Bool) := (countermandlaw09_alive.f).bind fun t110 => (if t110 = true then (if (a0.size : Int) > 32 then (countermandlaw09_FileWrites.j0 k a0 l1 true) else (countermandlaw09_FileWrites.j0 k a0 l1 (decide ((l1.length : Int) > 100)))) else (some false))
theorem countermandlaw09_FileWrites.mono_l : ∀ k, (∀ y0 y1 y2, LeO (countermandlaw09_FileWrites.j0 k y0 y1 y2) (countermandlaw09_FileWrites.j0 (k + 1) y0 y1 y2)) ∧ (∀ y0 y1 y2 y3 y4 y5 y6, LeO (countermandlaw09_FileWrites.l0 k y0 y1 y2 y3 y4 y5 y6) (countermandlaw09_FileWrites.l0 (k + 1) y0 y1 y2 y3 y4 y5 y6)) ∧ (∀ y0 y1 y2 y3 y4 y5, LeO (countermandlaw09_FileWrites.l1 k y0 y1 y2 y3 y4 y5) (countermandlaw09_FileWrites.l1 (k + 1) y0 y1 y2 y3 y4 y5))
  | 0 => ⟨fun _ _ _ r h => by simp [countermandlaw09_FileWrites.j0] at h, fun _ _ _ _ _ _ _ r h => by simp [countermandlaw09_FileWrites.l0] at h, fun _ _ _ _ _ _ r h => by simp [countermandlaw09_FileWrites.l1] at h⟩
  | k + 1 => by
    obtain ⟨ih0, ih1, ih2⟩ := countermandlaw09_FileWrites.mono_l k
    refine ⟨?_, ?_, ?_⟩
    · intro y0 y1 y2
      unfold countermandlaw09_FileWrites.j0
      repeat' first
      | (with_reducible exact ih0 _ _ _)
      | (with_reducible exact ih1 _ _ _ _ _ _ _)
      | (with_reducible exact ih2 _ _ _ _ _ _)
      | (with_reducible exact LeO.refl _)
      | (with_reducible exact LeO.none _)
      | (with_reducible refine LeO.ite ?_ ?_)
      | (with_reducible refine LeO.bind ?_ (fun _ => ?_))
      | exact ih0 _ _ _
      | exact ih1 _ _ _ _ _ _ _
      | exact ih2 _ _ _ _ _ _
      | exact LeO.none _
      | refine LeO.ite ?_ ?_
      | refine LeO.bind ?_ (fun _ => ?_)
    · intro y0 y1 y2 y3 y4 y5 y6
      unfold countermandlaw09_FileWrites.l0
      repeat' first
      | (with_reducible exact ih0 _ _ _)
      | (with_reducible exact ih1 _ _ _ _ _ _ _)
      | (with_reducible exact ih2 _ _ _ _ _ _)
      | (with_reducible exact LeO.refl _)
      | (with_reducible exact LeO.none _)
      | (with_reducible refine LeO.ite ?_ ?_)
      | (with_reducible refine LeO.bind ?_ (fun _ => ?_))
      | exact ih0 _ _ _
      | exact ih1 _ _ _ _ _ _ _
      | exact ih2 _ _ _ _ _ _
      | exact LeO.none _
      | refine LeO.ite ?_ ?_
      | refine LeO.bind ?_ (fun _ => ?_)
    · intro y0 y1 y2 y3 y4 y5
      unfold countermandlaw09_FileWrites.l1
      repeat' first
      | (with_reducible exact ih0 _ _ _)
      | (with_reducible exact ih1 _ _ _ _ _ _ _)
      | (with_reducible exact ih2 _ _ _ _ _ _)
      | (with_reducible exact LeO.refl _)
      | (with_reducible exact LeO.none _)
      | (with_reducible refine LeO.ite ?_ ?_)
      | (with_reducible refine LeO.bind ?_ (fun _ => ?_))
      | exact ih0 _ _ _
      | exact ih1 _ _ _ _ _ _ _
      | exact ih2 _ _ _ _ _ _
      | exact LeO.none _
      | refine LeO.ite ?_ ?_
      | refine LeO.bind ?_ (fun _ => ?_)
theorem countermandlaw09_FileWrites.mono : ∀ a0 a1 k, LeO (countermandlaw09_FileWrites.f k a0 a1) (countermandlaw09_FileWrites.f (k + 1) a0 a1) := by
  intro a0 a1 k
  obtain ⟨ih0, ih1, ih2⟩ := countermandlaw09_FileWrites.mono_l k
  unfold countermandlaw09_FileWrites.f
  repeat' first
      | (with_reducible exact ih0 _ _ _)
      | (with_reducible exact ih1 _ _ _ _ _ _ _)
      | (with_reducible exact ih2 _ _ _ _ _ _)
      | (with_reducible exact LeO.refl _)
      | (with_reducible exact LeO.none _)
      | (with_reducible refine LeO.ite ?_ ?_)
      | (with_reducible refine LeO.bind ?_ (fun _ => ?_))
      | exact ih0 _ _ _
      | exact ih1 _ _ _ _ _ _ _
      | exact ih2 _ _ _ _ _ _
      | exact LeO.none _
      | refine LeO.ite ?_ ?_
      | refine LeO.bind ?_ (fun _ => ?_)
set_option maxHeartbeats 8000000 in
set_option maxRecDepth 100000 in
theorem countermandlaw09_FileWrites.calls (k : Nat) (a0 : ByteArray) (A1 : Option Addr) (c1 : Nat) (l1 : List Int) (r : Bool) (w : World) (hr1 : Kd.C (Kd.int .i64) w A1 l1.length l1) (hc1 : l1.length ≤ c1) (h : countermandlaw09_FileWrites.f k a0 l1 = some r) :
    Calls Try.prog 3 #[.string a0, .slice A1 l1.length c1] w fun e w' => e = .returned (.bool r) ∧ Below w.heap.size w w' := by
  have hu25 := Try.underlying25
  have HR1 := Aside0.mk hr1
  have HC1 := Aside0.mk hc1
  clear hr1 hc1
  have HB := Aside0.mk (Below.refl w.heap.size w)
  have H : ((countermandlaw09_alive.f).bind fun t110 => (if t110 = true then (if (a0.size : Int) > 32 then (countermandlaw09_FileWrites.j0 k a0 l1 true) else (countermandlaw09_FileWrites.j0 k a0 l1 (decide ((l1.length : Int) > 100)))) else (some false))) = some r := h
  clear h
  replace H := Option.bind_eq_some_iff.mp H
  obtain ⟨t110, A30, H⟩ := H
  replace H : (if t110 = true then (if (a0.size : Int) > 32 then (countermandlaw09_FileWrites.j0 k a0 l1 true) else (countermandlaw09_FileWrites.j0 k a0 l1 (decide ((l1.length : Int) > 100)))) else (some false)) = some r := H
  have A3 := Aside0.mk A30
  clear A30
  by_cases c4 : t110 = true
  · subst c4
    have H1 : (if (a0.size : Int) > 32 then (countermandlaw09_FileWrites.j0 k a0 l1 true) else (countermandlaw09_FileWrites.j0 k a0 l1 (decide ((l1.length : Int) > 100)))) = some r := by rw [if_pos rfl] at H; exact H
    clear H
    have H := H1
    clear H1
    have HC5 := Aside0.mk H
    clear H
    go_enter Try.func3, Try.ntmps3
    go_upto_region 3 with (first | ((with_reducible refine gate_callee (f := 13) rfl ?_); refine goesL_ (some 10) rfl rfl Try.func13 (by kernel_rfl) rfl #[] rfl (by (try simp only [List.map_toArray, List.map_cons, List.map_nil]); first | done | rfl | (simp only [List.length_drop, List.length_take]; rfl)) ?_; (with_reducible refine (countermandlaw09_alive.calls  true _ A3.out).mono ?_); rintro e w6 ⟨rfl, hb⟩; refine ⟨_, rfl, ?_⟩; have n0_ := Aside0.mk (below_step (by repeat (first | (with_reducible first | exact HB.out | apply below_alloc | apply pw_below_drewN | apply below_drew1) | exact HB.out)) hb); clear HB; have HB := n0_; clear n0_; (try clear hb); (try clear hb2); (try clear hk); (try clear hi)))
    (try simp only [Act.put, List.setIfInBounds_toArray, List.set_cons_zero, List.set_cons_succ])
    go_cut [19] (fun v19 wc => ∃ (kq : Nat) (x19_4 : Bool), v19 = .bool x19_4 ∧ Aside0 (countermandlaw09_FileWrites.j0 kq a0 l1 x19_4 = some r) ∧ Aside0 (kq ≤ k) ∧ Aside0 (Below w.heap.size w wc))
    case first =>
      have H := HC5.out
      clear HC5
      by_cases c7 : (a0.size : Int) > 32
      · rw [if_pos c7] at H
        have c7b0 : decide (32 < (a0.size : Int)) = true := decide_eq_true c7
        have c7b1 : decide (32 < a0.size) = true := decide_eq_true (by omega)
        clear c7
        (first | rw [c7b0] | (simp only [i64_w, i32_w]; rw [c7b0]) | skip)
        have H' := Aside0.mk H
        clear H
        go_wp2
        go_meet
        case rel => exact ⟨_, (true), (by first | rfl | (simp; done) | (simp [*]; done)), H', ⟨by first | omega | exact Nat.le_refl _⟩, ⟨by repeat (first | (with_reducible first | exact HB.out | apply below_alloc | apply pw_below_drewN | apply below_drew1) | exact HB.out)⟩⟩
      · rw [if_neg c7] at H
        have c7b0 : decide (32 < (a0.size : Int)) = false := decide_eq_false c7
        have c7b1 : decide (32 < a0.size) = false := decide_eq_false (by omega)
        clear c7
        (first | rw [c7b0] | (simp only [i64_w, i32_w]; rw [c7b0]) | skip)
        have H' := Aside0.mk H
        clear H
        go_wp2
        go_meet
        case rel => exact ⟨_, (decide ((l1.length : Int) > 100)), (by first | rfl | (simp; done) | (simp [*]; done)), H', ⟨by first | omega | exact Nat.le_refl _⟩, ⟨by repeat (first | (with_reducible first | exact HB.out | apply below_alloc | apply pw_below_drewN | apply below_drew1) | exact HB.out)⟩⟩
    case rest =>
      clear HC5
      try clear c1
      try clear p2
      try clear c3
      try clear c4
      try clear c7
      try clear c7b0
      try clear c7b1
      obtain ⟨kq, x19_4, rfl, HA, HJ4, HB⟩ := hcut
      cases kq with
      | zero => exact absurd HA.out (by simp [countermandlaw09_FileWrites.j0])
      | succ kj4 =>
        have H := HA.out
        clear HA
        simp only [countermandlaw09_FileWrites.j0] at H
        by_cases c8 : x19_4 = true
        · subst c8
          have H1 : (some true) = some r := by rw [if_pos rfl] at H; exact H
          clear H
          have H := H1
          clear H1
          obtain rfl := Option.some.inj H
          go_wp2
          go_ret
          exact ⟨by first | rfl | (simp [errW_none, errW_some] <;> rfl) | (simp [*, errW_none, errW_some] <;> rfl), by repeat (first | (with_reducible first | exact HB.out | apply below_alloc | apply pw_below_drewN | apply below_drew1) | exact HB.out)⟩
        · replace c8 := Bool.eq_false_iff.mpr c8
          subst c8
          have H1 : (if 0 ≤ (a0.size : Int) then (if ((a0.size : Int) : Int).toNat ≤ 281474976710656 then (countermandlaw09_FileWrites.l0 kj4 a0 (List.replicate ((a0.size : Int) : Int).toNat false) l1 (l1.length : Int) 0 false (⟨#[]⟩ : ByteArray)) else (none)) else (none)) = some r := by rw [if_neg (show ¬ (false = true) by decide)] at H; exact H
          clear H
          have H := H1
          clear H1
          by_cases c9 : 0 ≤ (a0.size : Int)
          · rw [if_pos c9] at H
            have c9b0 := eq_true c9
            have c9b1 : decide (0 ≤ (a0.size : Int)) = true := decide_eq_true c9
            clear c9
            by_cases c10 : ((a0.size : Int) : Int).toNat ≤ 281474976710656
            · rw [if_pos c10] at H
              have c10b0 := eq_true c10
              have c10b1 : decide (((a0.size : Int) : Int).toNat ≤ 281474976710656) = true := decide_eq_true c10
              clear c10
              obtain ⟨y112, hy112⟩ : ∃ y_ : List Bool, y_ = (List.replicate ((a0.size : Int) : Int).toNat false) := ⟨_, rfl⟩
              replace H : (countermandlaw09_FileWrites.l0 kj4 a0 y112 l1 (l1.length : Int) 0 false (⟨#[]⟩ : ByteArray)) = some r := by first | (rw [hy112]; with_reducible exact H) | (have H2_ := (Option.bind_some _ _).symm.trans H; rw [hy112]; with_reducible exact H2_) | (have H2_ := (Option.bind_some _ _).symm.trans H; with_reducible exact H2_) | with_reducible exact H | (rw [hy112]; exact H) | exact H
              have Ny112 := Aside0.mk hy112
              clear hy112
              have H' := Aside0.mk H
              clear H
              go_wp2_with (first | ((with_reducible refine gate_dst (N := 5) rfl ?_); (try (refine gate_guard (by rfl) ?_; dsimp only)); refine box_event ?hg (N := 5) ?hd (cs := #[.bool false, .string (⟨#[]⟩ : ByteArray)]) (t := 25) ?hr ?_; (case hd => rfl); (case hg => rfl); (case hr => first | (go_simp; done) | (go_simp; rfl)); intro gb111 hg w11 hbox hb; have n0_ := Aside0.mk (below_step (by repeat (first | (with_reducible first | exact HB.out | apply below_alloc | apply pw_below_drewN | apply below_drew1) | exact HB.out)) hb); have n1_ := Aside0.mk (hbox); have n2_ := Aside0.mk ((by rw [hg]; exact (below_size (by repeat (first | (with_reducible first | exact HB.out | apply below_alloc | apply pw_below_drewN | apply below_drew1) | exact HB.out))) : w.heap.size ≤ gb111)); have n3_ := Aside0.mk ((by rw [hg]; exact (below_size (by repeat (first | (with_reducible first | exact HB.out | apply below_alloc | apply pw_below_drewN | apply below_drew1) | exact HB.out))) : w.heap.size ≤ gb111)); clear HB; have HB := n0_; have BK111 := n1_; have GW111 := n2_; have GE111 := n3_; clear n0_ n1_ n2_ n3_; clear hb hbox hg; have hcz12_0 : w11.cell? ⟨gb111, 0, none⟩ = some (.bool false) := (blk_cell BK111.out 0).trans rfl; have hcz12_1 : w11.cell? ⟨gb111, 1, none⟩ = some (.string (⟨#[]⟩ : ByteArray)) := (blk_cell BK111.out 1).trans rfl; have hfz12_0 := blk_frozen BK111.out 0; have hfz12_1 := blk_frozen BK111.out 1) | ((with_reducible refine gate_dst (N := 23) rfl ?_); (try (refine gate_guard (by rfl) ?_; dsimp only)); refine Kd.R_make Kd.bool _ 4 rfl (N := 23) rfl 26 _ _ rfl (a0.size : Int) rfl rfl Try.underlying26 (.bool false) 1 info4 rfl (by decide) (by omega) false (ok := fun _ => True) (okp := fun _ => True) rfl (fun _ hk => hk) trivial (of_decide_eq_true (by first | (with_reducible assumption) | assumption)) (Nat.le_trans (Nat.mul_le_mul_right _ (of_decide_eq_true (by first | (with_reducible assumption) | assumption) : (a0.size : Int).toNat ≤ 281474976710656)) (by omega)) (Below.refl _ _) (Nat.le_refl _) ?_; intro v113 w13 ho14 hb hg_ hnew_; clear hg_ hnew_; (first | rw [← Ny112.out] at ho14 | (simp only [Int.reduceToNat] at ho14; rw [← Ny112.out] at ho14)); have n0_ := Aside0.mk (Kd.R_lower ho14 (below_size (by repeat (first | (with_reducible first | exact HB.out | apply below_alloc | apply pw_below_drewN | apply below_drew1 | refine below_set ?_ GE111.out) | exact HB.out)))); have n1_ := Aside0.mk (blk_below (g := gb111) (o := .cells #[.bool false, .string (⟨#[]⟩ : ByteArray)] 25 (0, 0)) (by (with_reducible repeat (first | refine blk_drewN ?_ _ | refine blk_drew ?_ | refine blk_alloc ?_ _)); refine blk_put (cs := #[.bool false, .string (⟨#[]⟩ : ByteArray)]) ?_ 1 _ rfl; (with_reducible repeat (first | refine blk_drewN ?_ _ | refine blk_drew ?_ | refine blk_alloc ?_ _)); refine blk_put (cs := #[.bool false, .string (⟨#[]⟩ : ByteArray)]) ?_ 0 _ rfl; (with_reducible repeat (first | refine blk_drewN ?_ _ | refine blk_drew ?_ | refine blk_alloc ?_ _)); exact BK111.out) hb); have n2_ := Aside0.mk (below_step (by repeat (first | (with_reducible first | exact HB.out | apply below_alloc | apply pw_below_drewN | apply below_drew1 | refine below_set ?_ GE111.out) | exact HB.out)) hb); clear BK111; clear HB; have HO114 := n0_; have BK111 := n1_; have HB := n2_; clear n0_ n1_ n2_; clear hb ho14))
              go_loopg [26] kj4 (fun kq v26 w' => ∃ (x6_2 : List Bool) (x26_2 : Int) (x112000_2 : Bool) (x112001_2 : ByteArray), v26 = .int .i64 x26_2 ∧ Aside0 (countermandlaw09_FileWrites.l0 kq a0 x6_2 l1 (l1.length : Int) x26_2 x112000_2 x112001_2 = some r) ∧ Aside0 (kq ≤ kj4) ∧ Aside0 (Kd.R Kd.bool 4 w' w.heap.size (fun _ => True) v113 x6_2) ∧ Aside0 (w'.heap[gb111]? = some (.cells #[.bool x112000_2, .string x112001_2] 25 (0, 0))) ∧ Aside0 (Below w.heap.size w w'))
              case atStart => exact ⟨(y112), (0), (false), ((⟨#[]⟩ : ByteArray)), (by first | rfl | (simp; done) | (simp [*]; done)), H', ⟨Nat.le_refl _⟩, ⟨by (with_reducible repeat (first | apply Kd.R_alloc | apply Kd.R_drewN | apply Kd.R_drew)); exact HO114.out⟩, ⟨by (with_reducible repeat (first | refine blk_drewN ?_ _ | refine blk_drew ?_ | refine blk_alloc ?_ _)); exact BK111.out⟩, ⟨by repeat (first | (with_reducible first | exact HB.out | apply below_alloc | apply pw_below_drewN | apply below_drew1 | refine below_set ?_ GE111.out) | exact HB.out)⟩⟩
              case round =>
                clear H'
                try clear c1
                try clear p2
                try clear c3
                try clear c4
                try clear c7
                try clear c7b0
                try clear c7b1
                try clear c8
                try clear c9
                try clear c9b0
                try clear c9b1
                try clear c10
                try clear c10b0
                try clear c10b1
                try clear c13
                try clear hcz12_0
                try clear hcz12_1
                try clear hfz12_0
                try clear hfz12_1
                try clear p2
                obtain ⟨x6_2, x26_2, x112000_2, x112001_2, rfl, HA, HK2, HO_6, BK111, HB⟩ := hrel
                cases gk with
                | zero => exact absurd HA.out (by simp [countermandlaw09_FileWrites.l0])
                | succ k2 =>
                  have H := HA.out
                  clear HA
                  simp only [countermandlaw09_FileWrites.l0] at H
                  by_cases c15 : x26_2 < (l1.length : Int)
                  · rw [if_pos c15] at H
                    have c15b0 : decide (x26_2 < (l1.length : Int)) = true := decide_eq_true c15
                    clear c15
                    by_cases c16 : 0 ≤ x26_2
                    · rw [if_pos c16] at H
                      have c16b0 : decide (0 ≤ x26_2) = true := decide_eq_true c16
                      clear c16
                      by_cases c17 : x26_2 < (l1.length : Int)
                      · rw [if_pos c17] at H
                        have c17b0 : decide (x26_2 < (l1.length : Int)) = true := decide_eq_true c17
                        clear c17
                        by_cases c18 : (rd l1 x26_2) ≥ 0
                        · rw [if_pos c18] at H
                          have c18b0 : decide (0 ≤ (rd l1 x26_2)) = true := decide_eq_true c18
                          clear c18
                          by_cases c19 : (rd l1 x26_2) < (a0.size : Int)
                          · rw [if_pos c19] at H
                            have c19b0 : decide ((rd l1 x26_2) < (a0.size : Int)) = true := decide_eq_true c19
                            clear c19
                            by_cases c20 : 0 ≤ (rd l1 x26_2)
                            · rw [if_pos c20] at H
                              have c20b0 : decide (0 ≤ (rd l1 x26_2)) = true := decide_eq_true c20
                              clear c20
                              replace H := Option.bind_eq_some_iff.mp H
                              obtain ⟨⟨t116, t117⟩, A220, H⟩ := H
                              replace H : (if (rd l1 x26_2) < (x6_2.length : Int) then (countermandlaw09_FileWrites.l0 k2 a0 (x6_2.set ((rd l1 x26_2) : Int).toNat true) l1 (l1.length : Int) (wrap64 (x26_2 + 1)) t116 t117) else (none)) = some r := H
                              have A22 := Aside0.mk A220
                              clear A220
                              by_cases c23 : (rd l1 x26_2) < (x6_2.length : Int)
                              · rw [if_pos c23] at H
                                have c23b0 : decide ((rd l1 x26_2) < (x6_2.length : Int)) = true := decide_eq_true c23
                                clear c23
                                obtain ⟨y118, hy118⟩ : ∃ y_ : List Bool, y_ = (x6_2.set ((rd l1 x26_2) : Int).toNat true) := ⟨_, rfl⟩
                                replace H : (countermandlaw09_FileWrites.l0 k2 a0 y118 l1 (l1.length : Int) (wrap64 (x26_2 + 1)) t116 t117) = some r := by first | (rw [hy118]; with_reducible exact H) | (have H2_ := (Option.bind_some _ _).symm.trans H; rw [hy118]; with_reducible exact H2_) | (have H2_ := (Option.bind_some _ _).symm.trans H; with_reducible exact H2_) | with_reducible exact H | (rw [hy118]; exact H) | exact H
                                have Ny118 := Aside0.mk hy118
                                clear hy118
                                have H' := Aside0.mk H
                                clear H
                                have p115 : 0 ≤ (x26_2 : Int) := of_decide_eq_true (by first | (with_reducible assumption) | assumption)
                                have q115 : x26_2 < (l1.length : Int) := of_decide_eq_true (by first | (with_reducible assumption) | assumption)
                                obtain ⟨ad115, e115, hx115_0⟩ := Kd.at_int HR1.out x26_2 p115 q115
                                cases e115
                                replace hx115_0 := (HB.out.cell (World.block_lt_of_cell? w _ hx115_0)).trans hx115_0
                                replace p115 := eq_true p115
                                replace q115 := eq_true q115
                                try go_wp2
                                have n0_ := Aside0.mk (Kd.R_drew HO_6.out)
                                have n1_ := Aside0.mk (blk_drew BK111.out)
                                have n2_ := Aside0.mk (below_drew1 HB.out)
                                clear HO_6
                                clear BK111
                                clear HB
                                have HO_6 := n0_
                                have BK111 := n1_
                                have HB := n2_
                                clear n0_ n1_ n2_
                                have p21 : 0 ≤ ((rd l1 x26_2) : Int) := of_decide_eq_true (by first | (with_reducible assumption) | assumption)
                                have q21 : (rd l1 x26_2) < (a0.size : Int) := of_decide_eq_true (by first | (with_reducible assumption) | assumption)
                                have hx21 := bt_at a0 (rd l1 x26_2)
                                replace p21 := eq_true p21
                                replace q21 := eq_true q21
                                refine start_ (n := 7) (S := fun w' => w'.cell? ⟨gb111, 0, none⟩ = some (.bool x112000_2) ∧ w'.cell? ⟨gb111, 1, none⟩ = some (.string x112001_2)) (ds := [6]) #[false, false, false, false, false, false, false] (by kernel_rfl) rfl rfl ⟨(blk_cell BK111.out 0).trans rfl, (blk_cell BK111.out 1).trans rfl⟩ (fun hHeld => ?_)
                                generalize wr.drew = w25 at HO_6 BK111 HB hHeld ⊢
                                refine pure_ (i := 1) (N := some 39) (v := ?_) (a' := ?_) #[false, true, false, false, false, false, false] rfl rfl (by kernel_rfl) (fun _ _ _ h => h) (Or.inl ⟨by rfl, ?_⟩) ?_ ?_
                                rotate_left
                                · intro w'
                                  go_simp
                                  with_reducible rfl
                                rotate_left
                                · simp only [Act.put, List.setIfInBounds_toArray, List.set_cons_zero, List.set_cons_succ, i64_w, i32_w]
                                  rfl
                                refine pure_ (i := 2) (N := some 40) (v := ?_) (a' := ?_) #[false, true, true, false, false, false, false] rfl rfl (by kernel_rfl) (fun _ _ _ h => h) (Or.inl ⟨by rfl, ?_⟩) ?_ ?_
                                rotate_left
                                · intro w'
                                  go_simp
                                  with_reducible rfl
                                rotate_left
                                · simp only [Act.put, List.setIfInBounds_toArray, List.set_cons_zero, List.set_cons_succ, i64_w, i32_w]
                                  rfl
                                refine pure_ (i := 3) (N := some 41) (v := ?_) (a' := ?_) #[false, true, true, true, false, false, false] rfl rfl (by kernel_rfl) (fun _ _ _ h => h) (Or.inl ⟨by rfl, ?_⟩) ?_ ?_
                                rotate_left
                                · intro w'
                                  go_simp
                                  with_reducible rfl
                                rotate_left
                                · simp only [Act.put, List.setIfInBounds_toArray, List.set_cons_zero, List.set_cons_succ, i64_w, i32_w]
                                  rfl
                                refine take_ (i := 0) (N := some 38) (v := ?_) (a' := ?_) #[true, true, true, true, false, false, false] rfl rfl (by kernel_rfl) (fun _ _ _ h => h) (Or.inl ⟨by rfl, ?_⟩) hHeld ?_ ?_
                                rotate_left
                                · rintro w' ⟨s0, s1⟩
                                  go_simp
                                  with_reducible rfl
                                rotate_left
                                · simp only [Act.put, List.setIfInBounds_toArray, List.set_cons_zero, List.set_cons_succ, i64_w, i32_w]
                                  rfl
                                refine take_ (i := 4) (N := some 42) (v := ?_) (a' := ?_) #[true, true, true, true, true, false, false] rfl rfl (by kernel_rfl) (fun _ _ _ h => h) (Or.inl ⟨by rfl, ?_⟩) hHeld ?_ ?_
                                rotate_left
                                · rintro w' ⟨s0, s1⟩
                                  go_simp
                                  with_reducible rfl
                                rotate_left
                                · simp only [Act.put, List.setIfInBounds_toArray, List.set_cons_zero, List.set_cons_succ, i64_w, i32_w]
                                  rfl
                                refine one_ (i := 5) (N := some 43) #[true, true, true, true, true, true, false] rfl rfl (by kernel_rfl) (by decide) (fun K hK => ?_)
                                refine goes_ Try.func14 (by kernel_rfl) rfl #[.agg #[.bool x112000_2, .string x112001_2], .int .i64 (rd l1 x26_2), .int .u8 (bt a0 (rd l1 x26_2))] (by rfl) rfl rfl (by (try simp only [List.map_toArray, List.map_cons, List.map_nil]); first | done | rfl | (simp only [List.length_drop, List.length_take]; rfl)) ?_
                                with_reducible refine (file_Put.calls x112000_2 x112001_2 (rd l1 x26_2) (bt a0 (rd l1 x26_2)) t116 t117 _ A22.out).mono ?_
                                rintro e w26 ⟨rfl, hb⟩
                                refine ⟨_, rfl, ?_⟩
                                have n0_ := Aside0.mk (Kd.R_below (by (with_reducible repeat (first | apply Kd.R_alloc | apply Kd.R_drewN | apply Kd.R_drew)); exact HO_6.out) hb)
                                have n1_ := Aside0.mk (blk_below (g := gb111) (o := .cells #[.bool x112000_2, .string x112001_2] 25 (0, 0)) (by (with_reducible repeat (first | refine blk_drewN ?_ _ | refine blk_drew ?_ | refine blk_alloc ?_ _)); exact BK111.out) hb)
                                have n2_ := Aside0.mk (below_step (by repeat (first | (with_reducible first | exact HB.out | apply below_alloc | apply pw_below_drewN | apply below_drew1 | refine below_set ?_ GE111.out) | exact HB.out)) hb)
                                clear HO_6
                                clear BK111
                                clear HB
                                have HO_6 := n0_
                                have BK111 := n1_
                                have HB := n2_
                                clear n0_ n1_ n2_
                                (try clear hb)
                                (try clear hb2)
                                (try clear hk)
                                (try clear hi)
                                refine hK.out _ _ ⟨(blk_cell BK111.out 0).trans rfl, (blk_cell BK111.out 1).trans rfl⟩ (fun hHeld => ?_)
                                clear hK K
                                refine norm_ (a' := ?_) ?_ ?_
                                rotate_left
                                · show Act.put _ (some 43) _ = _
                                  simp only [Act.put, List.setIfInBounds_toArray, List.set_cons_zero, List.set_cons_succ, i64_w, i32_w]
                                  rfl
                                refine last_ (i := 6) (N := none) #[true, true, true, true, true, true, true] rfl rfl (by kernel_rfl) (by decide) (fun K hK => ?_)
                                have hs27 : w26.cell? ⟨gb111, 0, none⟩ = some (.bool x112000_2) := (blk_cell BK111.out 0).trans rfl
                                have hfs27 := blk_frozen BK111.out 0
                                have hs28 : w26.cell? ⟨gb111, 1, none⟩ = some (.string x112001_2) := (blk_cell BK111.out 1).trans rfl
                                have hfs28 := blk_frozen BK111.out 1
                                refine skip_ (w1 := ?_) (by rfl) rfl ?_ ?_
                                rotate_left
                                · go_simp
                                  rfl
                                refine hK.out _ _ ?_
                                clear hK K
                                refine done_ (by kernel_rfl) ?_
                                have n0_ : Aside0 (Kd.R Kd.bool 4 ((w26.setCell ⟨gb111, 0, none⟩ (.bool t116)).setCell ⟨gb111, 1, none⟩ (.string t117)) w.heap.size (fun _ => True) v113 x6_2) := ⟨by (with_reducible repeat (first | apply Kd.R_alloc | apply Kd.R_drewN | apply Kd.R_drew)); exact Kd.R_mono (Kd.R_far (p := ⟨gb111, 1, none⟩) (Kd.R_far (p := ⟨gb111, 0, none⟩) (Kd.R_types HO_6.out BK111.out (by decide)) (fun _ hk => hk.2) (.bool t116)) (fun _ hk => hk.2) (.string t117)) (fun _ hk => trivial)⟩
                                have n1_ : Aside0 (((w26.setCell ⟨gb111, 0, none⟩ (.bool t116)).setCell ⟨gb111, 1, none⟩ (.string t117)).heap[gb111]? = some (.cells #[.bool t116, .string t117] 25 (0, 0))) := ⟨by (with_reducible repeat (first | refine blk_drewN ?_ _ | refine blk_drew ?_ | refine blk_alloc ?_ _)); refine blk_put (cs := #[.bool t116, .string x112001_2]) ?_ 1 _ rfl; (with_reducible repeat (first | refine blk_drewN ?_ _ | refine blk_drew ?_ | refine blk_alloc ?_ _)); refine blk_put (cs := #[.bool x112000_2, .string x112001_2]) ?_ 0 _ rfl; (with_reducible repeat (first | refine blk_drewN ?_ _ | refine blk_drew ?_ | refine blk_alloc ?_ _)); exact BK111.out⟩
                                have n2_ : Aside0 (Below w.heap.size w ((w26.setCell ⟨gb111, 0, none⟩ (.bool t116)).setCell ⟨gb111, 1, none⟩ (.string t117))) := ⟨by repeat (first | (with_reducible first | exact HB.out | apply below_alloc | apply pw_below_drewN | apply below_drew1 | refine below_set ?_ GE111.out) | exact HB.out)⟩
                                (try clear HO_6)
                                (try clear BK111)
                                (try clear HB)
                                generalize ((w26.setCell ⟨gb111, 0, none⟩ (.bool t116)).setCell ⟨gb111, 1, none⟩ (.string t117)) = w29 at n0_ n1_ n2_ ⊢
                                have HO_6 := n0_
                                have BK111 := n1_
                                have HB := n2_
                                clear n0_ n1_ n2_
                                have p24 : 0 ≤ ((rd l1 x26_2) : Int) := of_decide_eq_true (by first | (with_reducible assumption) | assumption)
                                have q24 : ((rd l1 x26_2) : Int) < ((x6_2.length : Int) : Int) := of_decide_eq_true (by first | (with_reducible assumption) | assumption)
                                obtain ⟨go24, co24, eo24, gb24, gl24, cl24, HG24⟩ := Kd.R_form HO_6.out (by omega)
                                (first | cases eo24 | (injection eo24 with ea_ en_ ec_; (first | subst ea_ | (injection ea_ with ea_; subst ea_)); subst ec_; clear en_))
                                have GB24 := Aside0.mk gb24
                                have GG24 := Aside0.mk HG24
                                clear gb24 gl24 HG24
                                obtain ⟨hx24_0, hf24_0⟩ := Kd.R_celln false HO_6.out ((rd l1 x26_2) : Int) p24 q24
                                replace p24 := eq_true p24
                                replace q24 := eq_true q24
                                obtain ⟨hy30_, hz30_⟩ := Kd.R_celln false HO_6.out ((rd l1 x26_2) : Int) (of_decide_eq_true (by first | (with_reducible assumption) | assumption)) (of_decide_eq_true (by first | (with_reducible assumption) | assumption))
                                have HP30 := Kd.R_putg HO_6.out ((rd l1 x26_2) : Int) true
                                try go_wp2_with (first | ((with_reducible refine gate_store (t := 4) (p := 46) rfl ?_); refine store_event (t := 4) (p := 46) (v := ?vo_w31) (w1 := (w29.setCell ⟨go24, ((rd l1 x26_2) : Int).toNat, none⟩ (.bool true))) ?hg ?ho ?hn ?hr ?_; (case ho => rfl); (case hg => rfl); (case hn => rfl); (case hr => first | (go_simp; done) | (go_simp; rfl)); intro w31 hw; have hg : w29.grownBy w31 (some go24) := (by rw [hw]; exact HP30.2); have hp_ : Kd.R Kd.bool 4 w31 w.heap.size (fun _ => True) (.slice (some ⟨go24, 0, none⟩) x6_2.length co24) y118 := (by rw [hw, Ny118.out]; exact HP30.1); clear HP30; have n0_ := Aside0.mk (hp_); have n1_ := Aside0.mk (blk_grown (g := gb111) (o := .cells #[.bool t116, .string t117] 25 (0, 0)) (by (with_reducible repeat (first | refine blk_drewN ?_ _ | refine blk_drew ?_ | refine blk_alloc ?_ _)); exact BK111.out) hg (Kd.R_ne HO_6.out BK111.out (by decide))); have n2_ := Aside0.mk ((by rw [hw]; exact below_set (HB.out) GB24.out : Below w.heap.size w w31)); clear HO_6; clear BK111; clear HB; have HO_6 := n0_; have BK111 := n1_; have HB := n2_; clear n0_ n1_ n2_; clear hg hw hp_))
                                go_roundg k2
                                case measure => have := HJ4.out; have := HK2.out; omega
                                case rel => exact ⟨(y118), (wrap64 (x26_2 + 1)), (t116), (t117), (by first | rfl | (simp; done) | (simp [*]; done)), H', ⟨by have := HJ4.out; have := HK2.out; omega⟩, ⟨by (with_reducible repeat (first | apply Kd.R_alloc | apply Kd.R_drewN | apply Kd.R_drew)); exact HO_6.out⟩, ⟨by (with_reducible repeat (first | refine blk_drewN ?_ _ | refine blk_drew ?_ | refine blk_alloc ?_ _)); exact BK111.out⟩, ⟨by repeat (first | (with_reducible first | exact HB.out | apply below_alloc | apply pw_below_drewN | apply below_drew1 | refine below_set ?_ GE111.out) | exact HB.out)⟩⟩
                              · rw [if_neg c23] at H
                                exact absurd H (by simp)
                            · rw [if_neg c20] at H
                              exact absurd H (by simp)
                          · rw [if_neg c19] at H
                            have c19b0 : decide ((rd l1 x26_2) < (a0.size : Int)) = false := decide_eq_false c19
                            clear c19
                            have H' := Aside0.mk H
                            clear H
                            have p115 : 0 ≤ (x26_2 : Int) := of_decide_eq_true (by first | (with_reducible assumption) | assumption)
                            have q115 : x26_2 < (l1.length : Int) := of_decide_eq_true (by first | (with_reducible assumption) | assumption)
                            obtain ⟨ad115, e115, hx115_0⟩ := Kd.at_int HR1.out x26_2 p115 q115
                            cases e115
                            replace hx115_0 := (HB.out.cell (World.block_lt_of_cell? w _ hx115_0)).trans hx115_0
                            replace p115 := eq_true p115
                            replace q115 := eq_true q115
                            go_wp2
                            go_roundg k2
                            case measure => have := HJ4.out; have := HK2.out; omega
                            case rel => exact ⟨(x6_2), (wrap64 (x26_2 + 1)), (x112000_2), (x112001_2), (by first | rfl | (simp; done) | (simp [*]; done)), H', ⟨by have := HJ4.out; have := HK2.out; omega⟩, ⟨by (with_reducible repeat (first | apply Kd.R_alloc | apply Kd.R_drewN | apply Kd.R_drew)); exact HO_6.out⟩, ⟨by (with_reducible repeat (first | refine blk_drewN ?_ _ | refine blk_drew ?_ | refine blk_alloc ?_ _)); exact BK111.out⟩, ⟨by repeat (first | (with_reducible first | exact HB.out | apply below_alloc | apply pw_below_drewN | apply below_drew1 | refine below_set ?_ GE111.out) | exact HB.out)⟩⟩
                        · rw [if_neg c18] at H
                          have c18b0 : decide (0 ≤ (rd l1 x26_2)) = false := decide_eq_false c18
                          clear c18
                          have H' := Aside0.mk H
                          clear H
                          have p115 : 0 ≤ (x26_2 : Int) := of_decide_eq_true (by first | (with_reducible assumption) | assumption)
                          have q115 : x26_2 < (l1.length : Int) := of_decide_eq_true (by first | (with_reducible assumption) | assumption)
                          obtain ⟨ad115, e115, hx115_0⟩ := Kd.at_int HR1.out x26_2 p115 q115
                          cases e115
                          replace hx115_0 := (HB.out.cell (World.block_lt_of_cell? w _ hx115_0)).trans hx115_0
                          replace p115 := eq_true p115
                          replace q115 := eq_true q115
                          go_wp2
                          go_roundg k2
                          case measure => have := HJ4.out; have := HK2.out; omega
                          case rel => exact ⟨(x6_2), (wrap64 (x26_2 + 1)), (x112000_2), (x112001_2), (by first | rfl | (simp; done) | (simp [*]; done)), H', ⟨by have := HJ4.out; have := HK2.out; omega⟩, ⟨by (with_reducible repeat (first | apply Kd.R_alloc | apply Kd.R_drewN | apply Kd.R_drew)); exact HO_6.out⟩, ⟨by (with_reducible repeat (first | refine blk_drewN ?_ _ | refine blk_drew ?_ | refine blk_alloc ?_ _)); exact BK111.out⟩, ⟨by repeat (first | (with_reducible first | exact HB.out | apply below_alloc | apply pw_below_drewN | apply below_drew1 | refine below_set ?_ GE111.out) | exact HB.out)⟩⟩
                      · rw [if_neg c17] at H
                        exact absurd H (by simp)
                    · rw [if_neg c16] at H
                      exact absurd H (by simp)
                  · rw [if_neg c15] at H
                    have c15b0 : decide (x26_2 < (l1.length : Int)) = false := decide_eq_false c15
                    clear c15
                    have H' := Aside0.mk H
                    clear H
                    obtain ⟨Ao32, co32, eo32⟩ := Kd.R_slice HO_6.out
                    subst eo32
                    go_wp2
                    go_loopg [50] k2 (fun kq v50 w' => ∃ (x50_3 : Int) (x112000_3 : Bool) (x112001_3 : ByteArray), v50 = .int .i64 x50_3 ∧ Aside0 (countermandlaw09_FileWrites.l1 kq a0 x6_2 (x6_2.length : Int) x50_3 x112000_3 x112001_3 = some r) ∧ Aside0 (kq ≤ k2) ∧ Aside0 (Kd.R Kd.bool 4 w' w.heap.size (fun _ => True) (.slice Ao32 x6_2.length co32) x6_2) ∧ Aside0 (w'.heap[gb111]? = some (.cells #[.bool x112000_3, .string x112001_3] 25 (0, 0))) ∧ Aside0 (Below w.heap.size w w'))
                    case atStart => exact ⟨(0), (x112000_2), (x112001_2), (by first | rfl | (simp; done) | (simp [*]; done)), H', ⟨Nat.le_refl _⟩, ⟨by (with_reducible repeat (first | apply Kd.R_alloc | apply Kd.R_drewN | apply Kd.R_drew)); exact HO_6.out⟩, ⟨by (with_reducible repeat (first | refine blk_drewN ?_ _ | refine blk_drew ?_ | refine blk_alloc ?_ _)); exact BK111.out⟩, ⟨by repeat (first | (with_reducible first | exact HB.out | apply below_alloc | apply pw_below_drewN | apply below_drew1 | refine below_set ?_ GE111.out) | exact HB.out)⟩⟩
                    case round =>
                      clear H'
                      try clear c1
                      try clear p1
                      try clear q1
                      try clear hx1
                      try clear c2
                      try clear p2
                      try clear q2
                      try clear hx2
                      try clear hf2
                      try clear c3
                      try clear c4
                      try clear p6
                      try clear c7
                      try clear c7b0
                      try clear c7b1
                      try clear c8
                      try clear c9
                      try clear c9b0
                      try clear c9b1
                      try clear c10
                      try clear c10b0
                      try clear c10b1
                      try clear p11
                      try clear q11
                      try clear hx11
                      try clear c13
                      try clear c14
                      try clear c15
                      try clear c15b0
                      try clear c16
                      try clear c16b0
                      try clear c17
                      try clear c17b0
                      try clear c18
                      try clear c18b0
                      try clear c19
                      try clear c19b0
                      try clear c20
                      try clear c20b0
                      try clear p21
                      try clear q21
                      try clear hx21
                      try clear c23
                      try clear c23b0
                      try clear p24
                      try clear q24
                      try clear hx24
                      try clear hf24
                      try clear hcz12_0
                      try clear hcz12_1
                      try clear hfz12_0
                      try clear hfz12_1
                      try clear hx115_0
                      try clear hx24_0
                      try clear p115
                      try clear p2
                      try clear p21
                      try clear p24
                      try clear q115
                      try clear q21
                      try clear q24
                      obtain ⟨x50_3, x112000_3, x112001_3, rfl, HA, HK3, HO_6, BK111, HB⟩ := hrel
                      cases gk with
                      | zero => exact absurd HA.out (by simp [countermandlaw09_FileWrites.l1])
                      | succ k3 =>
                        have H := HA.out
                        clear HA
                        simp only [countermandlaw09_FileWrites.l1] at H
                        by_cases c33 : x50_3 < (x6_2.length : Int)
                        · rw [if_pos c33] at H
                          have c33b0 : decide (x50_3 < (x6_2.length : Int)) = true := decide_eq_true c33
                          clear c33
                          by_cases c34 : 0 ≤ x50_3
                          · rw [if_pos c34] at H
                            have c34b0 : decide (0 ≤ x50_3) = true := decide_eq_true c34
                            clear c34
                            by_cases c35 : x50_3 < (x6_2.length : Int)
                            · rw [if_pos c35] at H
                              have c35b0 : decide (x50_3 < (x6_2.length : Int)) = true := decide_eq_true c35
                              clear c35
                              obtain ⟨bq36, hbq36⟩ : ∃ b_ : Bool, b_ = (rdOf false x6_2 x50_3) := ⟨_, rfl⟩
                              replace H : (if bq36 = true then (countermandlaw09_FileWrites.l1 k3 a0 x6_2 (x6_2.length : Int) (wrap64 (x50_3 + 1)) x112000_3 x112001_3) else (if x50_3 < (a0.size : Int) then ((file_Put.f x112000_3 x112001_3 x50_3 (bt a0 x50_3)).bind fun bt120 => (countermandlaw09_FileWrites.l1 k3 a0 x6_2 (x6_2.length : Int) (wrap64 (x50_3 + 1)) bt120.1 bt120.2)) else (none))) = some r := by rw [← hbq36] at H; exact H
                              have Nbq36 := Aside0.mk hbq36
                              clear hbq36
                              by_cases c37 : bq36 = true
                              · subst c37
                                have H1 : (countermandlaw09_FileWrites.l1 k3 a0 x6_2 (x6_2.length : Int) (wrap64 (x50_3 + 1)) x112000_3 x112001_3) = some r := by rw [if_pos rfl] at H; exact H
                                clear H
                                have H := H1
                                clear H1
                                have H' := Aside0.mk H
                                clear H
                                have p119 : 0 ≤ (x50_3 : Int) := of_decide_eq_true (by first | (with_reducible assumption) | assumption)
                                have q119 : x50_3 < (x6_2.length : Int) := of_decide_eq_true (by first | (with_reducible assumption) | assumption)
                                try (obtain ⟨Ao119, co119, eo119⟩ := Kd.R_slice HO_6.out; subst eo119)
                                obtain ⟨ad119, e119, hx119_0⟩ := Kd.at_bool (Kd.R_reads' HO_6.out).2.2 x50_3 p119 q119
                                (try rw [← Nbq36.out] at hx119_0)
                                cases e119
                                replace p119 := eq_true p119
                                replace q119 := eq_true q119
                                go_wp2
                                go_roundg k3
                                case measure => have := HJ4.out; have := HK2.out; have := HK3.out; omega
                                case rel => exact ⟨(wrap64 (x50_3 + 1)), (x112000_3), (x112001_3), (by first | rfl | (simp; done) | (simp [*]; done)), H', ⟨by have := HJ4.out; have := HK2.out; have := HK3.out; omega⟩, ⟨by (with_reducible repeat (first | apply Kd.R_alloc | apply Kd.R_drewN | apply Kd.R_drew)); exact HO_6.out⟩, ⟨by (with_reducible repeat (first | refine blk_drewN ?_ _ | refine blk_drew ?_ | refine blk_alloc ?_ _)); exact BK111.out⟩, ⟨by repeat (first | (with_reducible first | exact HB.out | apply below_alloc | apply pw_below_drewN | apply below_drew1 | refine below_set ?_ GE111.out) | exact HB.out)⟩⟩
                              · replace c37 := Bool.eq_false_iff.mpr c37
                                subst c37
                                have H1 : (if x50_3 < (a0.size : Int) then ((file_Put.f x112000_3 x112001_3 x50_3 (bt a0 x50_3)).bind fun bt120 => (countermandlaw09_FileWrites.l1 k3 a0 x6_2 (x6_2.length : Int) (wrap64 (x50_3 + 1)) bt120.1 bt120.2)) else (none)) = some r := by rw [if_neg (show ¬ (false = true) by decide)] at H; exact H
                                clear H
                                have H := H1
                                clear H1
                                by_cases c38 : x50_3 < (a0.size : Int)
                                · rw [if_pos c38] at H
                                  have c38b0 : decide (x50_3 < (a0.size : Int)) = true := decide_eq_true c38
                                  clear c38
                                  replace H := Option.bind_eq_some_iff.mp H
                                  obtain ⟨⟨t120, t121⟩, A400, H⟩ := H
                                  replace H : (countermandlaw09_FileWrites.l1 k3 a0 x6_2 (x6_2.length : Int) (wrap64 (x50_3 + 1)) t120 t121) = some r := H
                                  have A40 := Aside0.mk A400
                                  clear A400
                                  have H' := Aside0.mk H
                                  clear H
                                  have p119 : 0 ≤ (x50_3 : Int) := of_decide_eq_true (by first | (with_reducible assumption) | assumption)
                                  have q119 : x50_3 < (x6_2.length : Int) := of_decide_eq_true (by first | (with_reducible assumption) | assumption)
                                  try (obtain ⟨Ao119, co119, eo119⟩ := Kd.R_slice HO_6.out; subst eo119)
                                  obtain ⟨ad119, e119, hx119_0⟩ := Kd.at_bool (Kd.R_reads' HO_6.out).2.2 x50_3 p119 q119
                                  (try rw [← Nbq36.out] at hx119_0)
                                  cases e119
                                  replace p119 := eq_true p119
                                  replace q119 := eq_true q119
                                  try go_wp2
                                  have n0_ := Aside0.mk (Kd.R_drew HO_6.out)
                                  have n1_ := Aside0.mk (blk_drew BK111.out)
                                  have n2_ := Aside0.mk (below_drew1 HB.out)
                                  clear HO_6
                                  clear BK111
                                  clear HB
                                  have HO_6 := n0_
                                  have BK111 := n1_
                                  have HB := n2_
                                  clear n0_ n1_ n2_
                                  have p39 : 0 ≤ (x50_3 : Int) := of_decide_eq_true (by first | (with_reducible assumption) | assumption)
                                  have q39 : x50_3 < (a0.size : Int) := of_decide_eq_true (by first | (with_reducible assumption) | assumption)
                                  have hx39 := bt_at a0 x50_3
                                  replace p39 := eq_true p39
                                  replace q39 := eq_true q39
                                  refine start_ (n := 7) (S := fun w' => w'.cell? ⟨gb111, 0, none⟩ = some (.bool x112000_3) ∧ w'.cell? ⟨gb111, 1, none⟩ = some (.string x112001_3)) (ds := [6]) #[false, false, false, false, false, false, false] (by kernel_rfl) rfl rfl ⟨(blk_cell BK111.out 0).trans rfl, (blk_cell BK111.out 1).trans rfl⟩ (fun hHeld => ?_)
                                  generalize wr.drew = w41 at HO_6 BK111 HB hHeld ⊢
                                  refine pure_ (i := 1) (N := some 59) (v := ?_) (a' := ?_) #[false, true, false, false, false, false, false] rfl rfl (by kernel_rfl) (fun _ _ _ h => h) (Or.inl ⟨by rfl, ?_⟩) ?_ ?_
                                  rotate_left
                                  · intro w'
                                    go_simp
                                    with_reducible rfl
                                  rotate_left
                                  · simp only [Act.put, List.setIfInBounds_toArray, List.set_cons_zero, List.set_cons_succ, i64_w, i32_w]
                                    rfl
                                  refine pure_ (i := 2) (N := some 60) (v := ?_) (a' := ?_) #[false, true, true, false, false, false, false] rfl rfl (by kernel_rfl) (fun _ _ _ h => h) (Or.inl ⟨by rfl, ?_⟩) ?_ ?_
                                  rotate_left
                                  · intro w'
                                    go_simp
                                    with_reducible rfl
                                  rotate_left
                                  · simp only [Act.put, List.setIfInBounds_toArray, List.set_cons_zero, List.set_cons_succ, i64_w, i32_w]
                                    rfl
                                  refine pure_ (i := 3) (N := some 61) (v := ?_) (a' := ?_) #[false, true, true, true, false, false, false] rfl rfl (by kernel_rfl) (fun _ _ _ h => h) (Or.inl ⟨by rfl, ?_⟩) ?_ ?_
                                  rotate_left
                                  · intro w'
                                    go_simp
                                    with_reducible rfl
                                  rotate_left
                                  · simp only [Act.put, List.setIfInBounds_toArray, List.set_cons_zero, List.set_cons_succ, i64_w, i32_w]
                                    rfl
                                  refine take_ (i := 0) (N := some 58) (v := ?_) (a' := ?_) #[true, true, true, true, false, false, false] rfl rfl (by kernel_rfl) (fun _ _ _ h => h) (Or.inl ⟨by rfl, ?_⟩) hHeld ?_ ?_
                                  rotate_left
                                  · rintro w' ⟨s0, s1⟩
                                    go_simp
                                    with_reducible rfl
                                  rotate_left
                                  · simp only [Act.put, List.setIfInBounds_toArray, List.set_cons_zero, List.set_cons_succ, i64_w, i32_w]
                                    rfl
                                  refine take_ (i := 4) (N := some 62) (v := ?_) (a' := ?_) #[true, true, true, true, true, false, false] rfl rfl (by kernel_rfl) (fun _ _ _ h => h) (Or.inl ⟨by rfl, ?_⟩) hHeld ?_ ?_
                                  rotate_left
                                  · rintro w' ⟨s0, s1⟩
                                    go_simp
                                    with_reducible rfl
                                  rotate_left
                                  · simp only [Act.put, List.setIfInBounds_toArray, List.set_cons_zero, List.set_cons_succ, i64_w, i32_w]
                                    rfl
                                  refine one_ (i := 5) (N := some 63) #[true, true, true, true, true, true, false] rfl rfl (by kernel_rfl) (by decide) (fun K hK => ?_)
                                  refine goes_ Try.func14 (by kernel_rfl) rfl #[.agg #[.bool x112000_3, .string x112001_3], .int .i64 x50_3, .int .u8 (bt a0 x50_3)] (by rfl) rfl rfl (by (try simp only [List.map_toArray, List.map_cons, List.map_nil]); first | done | rfl | (simp only [List.length_drop, List.length_take]; rfl)) ?_
                                  with_reducible refine (file_Put.calls x112000_3 x112001_3 x50_3 (bt a0 x50_3) t120 t121 _ A40.out).mono ?_
                                  rintro e w42 ⟨rfl, hb⟩
                                  refine ⟨_, rfl, ?_⟩
                                  have n0_ := Aside0.mk (Kd.R_below (by (with_reducible repeat (first | apply Kd.R_alloc | apply Kd.R_drewN | apply Kd.R_drew)); exact HO_6.out) hb)
                                  have n1_ := Aside0.mk (blk_below (g := gb111) (o := .cells #[.bool x112000_3, .string x112001_3] 25 (0, 0)) (by (with_reducible repeat (first | refine blk_drewN ?_ _ | refine blk_drew ?_ | refine blk_alloc ?_ _)); exact BK111.out) hb)
                                  have n2_ := Aside0.mk (below_step (by repeat (first | (with_reducible first | exact HB.out | apply below_alloc | apply pw_below_drewN | apply below_drew1 | refine below_set ?_ GE111.out) | exact HB.out)) hb)
                                  clear HO_6
                                  clear BK111
                                  clear HB
                                  have HO_6 := n0_
                                  have BK111 := n1_
                                  have HB := n2_
                                  clear n0_ n1_ n2_
                                  (try clear hb)
                                  (try clear hb2)
                                  (try clear hk)
                                  (try clear hi)
                                  refine hK.out _ _ ⟨(blk_cell BK111.out 0).trans rfl, (blk_cell BK111.out 1).trans rfl⟩ (fun hHeld => ?_)
                                  clear hK K
                                  refine norm_ (a' := ?_) ?_ ?_
                                  rotate_left
                                  · show Act.put _ (some 63) _ = _
                                    simp only [Act.put, List.setIfInBounds_toArray, List.set_cons_zero, List.set_cons_succ, i64_w, i32_w]
                                    rfl
                                  refine last_ (i := 6) (N := none) #[true, true, true, true, true, true, true] rfl rfl (by kernel_rfl) (by decide) (fun K hK => ?_)
                                  have hs43 : w42.cell? ⟨gb111, 0, none⟩ = some (.bool x112000_3) := (blk_cell BK111.out 0).trans rfl
                                  have hfs43 := blk_frozen BK111.out 0
                                  have hs44 : w42.cell? ⟨gb111, 1, none⟩ = some (.string x112001_3) := (blk_cell BK111.out 1).trans rfl
                                  have hfs44 := blk_frozen BK111.out 1
                                  refine skip_ (w1 := ?_) (by rfl) rfl ?_ ?_
                                  rotate_left
                                  · go_simp
                                    rfl
                                  refine hK.out _ _ ?_
                                  clear hK K
                                  refine done_ (by kernel_rfl) ?_
                                  try go_wp2
                                  go_roundg k3
                                  case measure => have := HJ4.out; have := HK2.out; have := HK3.out; omega
                                  case rel => exact ⟨(wrap64 (x50_3 + 1)), (t120), (t121), (by first | rfl | (simp; done) | (simp [*]; done)), H', ⟨by have := HJ4.out; have := HK2.out; have := HK3.out; omega⟩, ⟨by (with_reducible repeat (first | apply Kd.R_alloc | apply Kd.R_drewN | apply Kd.R_drew)); exact Kd.R_mono (Kd.R_far (p := ⟨gb111, 1, none⟩) (Kd.R_far (p := ⟨gb111, 0, none⟩) (Kd.R_types HO_6.out BK111.out (by decide)) (fun _ hk => hk.2) (.bool t120)) (fun _ hk => hk.2) (.string t121)) (fun _ hk => trivial)⟩, ⟨by (with_reducible repeat (first | refine blk_drewN ?_ _ | refine blk_drew ?_ | refine blk_alloc ?_ _)); refine blk_put (cs := #[.bool t120, .string x112001_3]) ?_ 1 _ rfl; (with_reducible repeat (first | refine blk_drewN ?_ _ | refine blk_drew ?_ | refine blk_alloc ?_ _)); refine blk_put (cs := #[.bool x112000_3, .string x112001_3]) ?_ 0 _ rfl; (with_reducible repeat (first | refine blk_drewN ?_ _ | refine blk_drew ?_ | refine blk_alloc ?_ _)); exact BK111.out⟩, ⟨by repeat (first | (with_reducible first | exact HB.out | apply below_alloc | apply pw_below_drewN | apply below_drew1 | refine below_set ?_ GE111.out) | exact HB.out)⟩⟩
                                · rw [if_neg c38] at H
                                  exact absurd H (by simp)
                            · rw [if_neg c35] at H
                              exact absurd H (by simp)
                          · rw [if_neg c34] at H
                            exact absurd H (by simp)
                        · rw [if_neg c33] at H
                          have c33b0 : decide (x50_3 < (x6_2.length : Int)) = false := decide_eq_false c33
                          clear c33
                          by_cases c45 : x112001_3.toList = a0.toList
                          · rw [if_pos c45] at H
                            have c45b0 : (x112001_3.toList == a0.toList) = true := beq_iff_eq.mpr c45
                            have c45b1 : (x112001_3.toList != a0.toList) = false := bne_eq_false_iff_eq.mpr c45
                            clear c45
                            by_cases c46 : x112000_3 = true
                            · subst c46
                              have H1 : (if a0.toList = ([] : List UInt8) then (some false) else (some true)) = some r := by rw [if_pos rfl] at H; exact H
                              clear H
                              have H := H1
                              clear H1
                              by_cases c47 : a0.toList = ([] : List UInt8)
                              · rw [if_pos c47] at H
                                have c47b0 : (a0.toList == ([] : List UInt8)) = true := beq_iff_eq.mpr c47
                                have c47b1 : (a0.toList != ([] : List UInt8)) = false := bne_eq_false_iff_eq.mpr c47
                                clear c47
                                obtain rfl := Option.some.inj H
                                have hcz48_0 : wr.cell? ⟨gb111, 0, none⟩ = some (.bool true) := (blk_cell BK111.out 0).trans rfl
                                have hcz48_1 : wr.cell? ⟨gb111, 1, none⟩ = some (.string x112001_3) := (blk_cell BK111.out 1).trans rfl
                                have hfz48_0 := blk_frozen BK111.out 0
                                have hfz48_1 := blk_frozen BK111.out 1
                                go_wp2
                                go_ret
                                exact ⟨by first | rfl | (simp [errW_none, errW_some] <;> rfl) | (simp [*, errW_none, errW_some] <;> rfl), by repeat (first | (with_reducible first | exact HB.out | apply below_alloc | apply pw_below_drewN | apply below_drew1 | refine below_set ?_ GE111.out) | exact HB.out)⟩
                              · rw [if_neg c47] at H
                                have c47b0 : (a0.toList == ([] : List UInt8)) = false := beq_eq_false_iff_ne.mpr c47
                                have c47b1 : (a0.toList != ([] : List UInt8)) = true := bne_iff_ne.mpr c47
                                obtain rfl := Option.some.inj H
                                have hcz49_0 : wr.cell? ⟨gb111, 0, none⟩ = some (.bool true) := (blk_cell BK111.out 0).trans rfl
                                have hcz49_1 : wr.cell? ⟨gb111, 1, none⟩ = some (.string x112001_3) := (blk_cell BK111.out 1).trans rfl
                                have hfz49_0 := blk_frozen BK111.out 0
                                have hfz49_1 := blk_frozen BK111.out 1
                                go_wp2
                                go_ret
                                exact ⟨by first | rfl | (simp [errW_none, errW_some] <;> rfl) | (simp [*, errW_none, errW_some] <;> rfl), by repeat (first | (with_reducible first | exact HB.out | apply below_alloc | apply pw_below_drewN | apply below_drew1 | refine below_set ?_ GE111.out) | exact HB.out)⟩
                            · replace c46 := Bool.eq_false_iff.mpr c46
                              subst c46
                              have H1 : (if a0.toList = ([] : List UInt8) then (some true) else (some false)) = some r := by rw [if_neg (show ¬ (false = true) by decide)] at H; exact H
                              clear H
                              have H := H1
                              clear H1
                              by_cases c50 : a0.toList = ([] : List UInt8)
                              · rw [if_pos c50] at H
                                have c50b0 : (a0.toList == ([] : List UInt8)) = true := beq_iff_eq.mpr c50
                                have c50b1 : (a0.toList != ([] : List UInt8)) = false := bne_eq_false_iff_eq.mpr c50
                                clear c50
                                obtain rfl := Option.some.inj H
                                have hcz51_0 : wr.cell? ⟨gb111, 0, none⟩ = some (.bool false) := (blk_cell BK111.out 0).trans rfl
                                have hcz51_1 : wr.cell? ⟨gb111, 1, none⟩ = some (.string x112001_3) := (blk_cell BK111.out 1).trans rfl
                                have hfz51_0 := blk_frozen BK111.out 0
                                have hfz51_1 := blk_frozen BK111.out 1
                                go_wp2
                                go_ret
                                exact ⟨by first | rfl | (simp [errW_none, errW_some] <;> rfl) | (simp [*, errW_none, errW_some] <;> rfl), by repeat (first | (with_reducible first | exact HB.out | apply below_alloc | apply pw_below_drewN | apply below_drew1 | refine below_set ?_ GE111.out) | exact HB.out)⟩
                              · rw [if_neg c50] at H
                                have c50b0 : (a0.toList == ([] : List UInt8)) = false := beq_eq_false_iff_ne.mpr c50
                                have c50b1 : (a0.toList != ([] : List UInt8)) = true := bne_iff_ne.mpr c50
                                obtain rfl := Option.some.inj H
                                have hcz52_0 : wr.cell? ⟨gb111, 0, none⟩ = some (.bool false) := (blk_cell BK111.out 0).trans rfl
                                have hcz52_1 : wr.cell? ⟨gb111, 1, none⟩ = some (.string x112001_3) := (blk_cell BK111.out 1).trans rfl
                                have hfz52_0 := blk_frozen BK111.out 0
                                have hfz52_1 := blk_frozen BK111.out 1
                                go_wp2
                                go_ret
                                exact ⟨by first | rfl | (simp [errW_none, errW_some] <;> rfl) | (simp [*, errW_none, errW_some] <;> rfl), by repeat (first | (with_reducible first | exact HB.out | apply below_alloc | apply pw_below_drewN | apply below_drew1 | refine below_set ?_ GE111.out) | exact HB.out)⟩
                          · rw [if_neg c45] at H
                            have c45b0 : (x112001_3.toList == a0.toList) = false := beq_eq_false_iff_ne.mpr c45
                            have c45b1 : (x112001_3.toList != a0.toList) = true := bne_iff_ne.mpr c45
                            obtain rfl := Option.some.inj H
                            have hcz53_0 : wr.cell? ⟨gb111, 0, none⟩ = some (.bool x112000_3) := (blk_cell BK111.out 0).trans rfl
                            have hcz53_1 : wr.cell? ⟨gb111, 1, none⟩ = some (.string x112001_3) := (blk_cell BK111.out 1).trans rfl
                            have hfz53_0 := blk_frozen BK111.out 0
                            have hfz53_1 := blk_frozen BK111.out 1
                            go_wp2
                            go_ret
                            exact ⟨by first | rfl | (simp [errW_none, errW_some] <;> rfl) | (simp [*, errW_none, errW_some] <;> rfl), by repeat (first | (with_reducible first | exact HB.out | apply below_alloc | apply pw_below_drewN | apply below_drew1 | refine below_set ?_ GE111.out) | exact HB.out)⟩
            · rw [if_neg c10] at H
              exact absurd H (by simp)
          · rw [if_neg c9] at H
            exact absurd H (by simp)
  · replace c4 := Bool.eq_false_iff.mpr c4
    subst c4
    have H1 : (some false) = some r := by rw [if_neg (show ¬ (false = true) by decide)] at H; exact H
    clear H
    have H := H1
    clear H1
    obtain rfl := Option.some.inj H
    go_enter Try.func3, Try.ntmps3
    go_wp2_with (first | ((with_reducible refine gate_callee (f := 13) rfl ?_); refine goesL_ (some 10) rfl rfl Try.func13 (by kernel_rfl) rfl #[] rfl (by (try simp only [List.map_toArray, List.map_cons, List.map_nil]); first | done | rfl | (simp only [List.length_drop, List.length_take]; rfl)) ?_; (with_reducible refine (countermandlaw09_alive.calls  false _ A3.out).mono ?_); rintro e w54 ⟨rfl, hb⟩; refine ⟨_, rfl, ?_⟩; have n0_ := Aside0.mk (below_step (by repeat (first | (with_reducible first | exact HB.out | apply below_alloc | apply pw_below_drewN | apply below_drew1) | exact HB.out)) hb); clear HB; have HB := n0_; clear n0_; (try clear hb); (try clear hb2); (try clear hk); (try clear hi)))
    go_ret
    exact ⟨by first | rfl | (simp [errW_none, errW_some] <;> rfl) | (simp [*, errW_none, errW_some] <;> rfl), by repeat (first | (with_reducible first | exact HB.out | apply below_alloc | apply pw_below_drewN | apply below_drew1) | exact HB.out)⟩

/-- THE ONE PURE STATEMENT of countermandlaw09_FileWrites: yours. -/
def countermandlaw09_FileWrites.Pure : Prop := ∀ (a0 : ByteArray) (l1 : List Int), a0.size ≤ 140737488351232 → l1.length ≤ maxLen → l1.length * 8 ≤ 140737488351232 → (∀ x ∈ l1, (Lit.int .i64 x).wf = true) → ∃ k, countermandlaw09_FileWrites.f k a0 l1 = some true
theorem countermandlaw09_FileWrites.walk (P : countermandlaw09_FileWrites.Pure) (a0 : ByteArray) (a1 : Option Addr) (len1 cap1 : Nat) (z1 : List Int) (w : World) (w0 : a0.size ≤ 140737488351232) (w1 : (a1 = none ∧ len1 = 0 ∧ cap1 = 0 ∧ z1 = []) ∨ ∃ x, a1 = some x ∧ len1 ≤ cap1 ∧ cap1 ≤ maxLen ∧ z1.length = cap1 ∧ (∀ i, i < z1.length → w.cell? (x.add i) = some (.int .i64 (z1.getD i 0))) ∧ ∀ n ∈ z1, (Lit.int .i64 n).wf = true) (y1 : len1 * 8 ≤ 140737488351232) :
    Calls Try.prog 3 #[.string a0, .slice a1 len1 cap1] w fun e w' => e = .returned (.bool true) ∧ Below w.heap.size w w' := by
  obtain ⟨l1, rfl, hr1, hm1, hw1, hc1⟩ := ReadsInt.ofRowC w1
  obtain ⟨k, h⟩ := P a0 l1 w0 hm1 y1 hw1
  refine (countermandlaw09_FileWrites.calls k a0 _ _ l1 true w (Kd.C_of_reads (d := (0 : Int)) (h1 := fun _ => rfl) hr1) hc1 h).mono ?_
  rintro e w' ⟨rfl, hd⟩
  exact ⟨rfl, hd⟩

end Go.Proofs.Ytfimbmdbaaiemaa.PFileWrites
