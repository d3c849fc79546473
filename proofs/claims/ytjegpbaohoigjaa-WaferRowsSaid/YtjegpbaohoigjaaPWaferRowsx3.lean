/- Written by a program of this session, which began as the kit's print and is turned in wip/printer: the plain form of each function, and that the Go code comes to it. -/
import Derived.Test.YtjegpbaohoigjaaPWaferRowsx0
import Derived.Test.YtjegpbaohoigjaaPWaferRowsx1
import Derived.Test.YtjegpbaohoigjaaPWaferRowsx2
import Derived.BigRegion
import Derived.Deep.RegionLaw
import Derived.IntWalk
import Derived.LoopIn
import Derived.LoopNIn
import Derived.OwnWalkIn
import Derived.RangeFuncBound
import Derived.RangeFuncCalls
import Derived.RangeFuncLeaves
import Derived.RangeFuncNested
import Derived.Shelf.Abstract
import Derived.Shelf.RegionOpen
import Derived.TacticsInMore
import Derived.Test.YtjegpbaohoigjaaRecs
namespace Go.Proofs.Ytjegpbaohoigjaa.PWaferRows
open Go.RowKit Go.Proofs.YtjegpbaohoigjaaW.PrintWords Go.Proofs.YtjegpbaohoigjaaW.PrintLast Go.Proofs.YtjegpbaohoigjaaW.PrintMore
attribute [local go_sem] max2_int min2_int max_two min_two max_three min_three max_four min_four   -- for this text's walks alone
set_option linter.unusedVariables false
set_option linter.unusedSimpArgs false

/-! ### countermandlaw02_WaferRows: function 8 -/
--IMPORT Derived.BigRegion
--IMPORT Derived.IntWalk
--IMPORT Derived.RangeFuncNested
--IMPORT Derived.RangeFuncBound
--IMPORT Derived.RangeFuncCalls
--IMPORT Derived.RangeFuncLeaves
--IMPORT Derived.Deep.RegionLaw
--IMPORT Derived.Shelf.Abstract
--IMPORT Derived.Shelf.RegionOpen
--IMPORT Derived.OwnWalkIn
--IMPORT Derived.TacticsInMore
--IMPORT Derived.LoopNIn
--IMPORT Derived.LoopIn
--IMPORT Derived.Test.YtjegpbaohoigjaaRecs
--ROUNDS
open Go.Proofs.Ytjegpbaohoigjaa.Plain
/-! ### wafer_Open: function 14 -/
def wafer_Open.j0 : Nat → ByteArray → Int → Int → Bool → Option (ByteArray × Int)
  | 0, _, _, _, _ => none
  | k + 1, x0, x4, x5, x27 => if x27 = true then (some ((⟨#[]⟩ : ByteArray), 0)) else (if 0 ≤ (wrap64 (2 + x4)) then (if (wrap64 (2 + x4)) ≤ (x0.size : Int) then ((wafer_Sum.f k (x0.extract 0 ((wrap64 (2 + x4)) : Int).toNat)).bind fun t111 => ((wafer_foots.f t111).bind fun t112 => (if (wrap64 (2 + x4)) ≤ x5 then (if x5 ≤ (x0.size : Int) then (if t112.toList = (x0.extract ((wrap64 (2 + x4)) : Int).toNat (x5 : Int).toNat).toList then (if 2 ≤ (wrap64 (2 + x4)) then (some (x0.extract 2 ((wrap64 (2 + x4)) : Int).toNat, x5)) else (none)) else (some ((⟨#[]⟩ : ByteArray), 0))) else (none)) else (none)))) else (none)) else (none))
def wafer_Open.f (k : Nat) (a0 : ByteArray) : Option (ByteArray × Int) := if (a0.size : Int) < 2 then (some ((⟨#[]⟩ : ByteArray), 0)) else (if 0 < (a0.size : Int) then (if 1 < (a0.size : Int) then (if (Go.bits .or .i64 (wrap64 ((wrap64 (bt a0 0)) * 256)) (wrap64 (bt a0 1))) > 1024 then (wafer_Open.j0 k a0 (Go.bits .or .i64 (wrap64 ((wrap64 (bt a0 0)) * 256)) (wrap64 (bt a0 1))) (wrap64 ((wrap64 (2 + (Go.bits .or .i64 (wrap64 ((wrap64 (bt a0 0)) * 256)) (wrap64 (bt a0 1))))) + 4)) true) else (wafer_Open.j0 k a0 (Go.bits .or .i64 (wrap64 ((wrap64 (bt a0 0)) * 256)) (wrap64 (bt a0 1))) (wrap64 ((wrap64 (2 + (Go.bits .or .i64 (wrap64 ((wrap64 (bt a0 0)) * 256)) (wrap64 (bt a0 1))))) + 4)) (decide ((a0.size : Int) < (wrap64 ((wrap64 (2 + (Go.bits .or .i64 (wrap64 ((wrap64 (bt a0 0)) * 256)) (wrap64 (bt a0 1))))) + 4)))))) else (none)) else (none))
theorem wafer_Open.mono_l : ∀ k, (∀ y0 y1 y2 y3, LeO (wafer_Open.j0 k y0 y1 y2 y3) (wafer_Open.j0 (k + 1) y0 y1 y2 y3))
  | 0 => fun _ _ _ _ r h => by simp [wafer_Open.j0] at h
  | k + 1 => by
    have ih0 := wafer_Open.mono_l k
    · intro y0 y1 y2 y3
      unfold wafer_Open.j0
      repeat' first
      | (with_reducible exact ih0 _ _ _ _)
      | (with_reducible exact wafer_Sum.mono _ _)
      | (with_reducible exact LeO.refl _)
      | (with_reducible exact LeO.none _)
      | (with_reducible refine LeO.ite ?_ ?_)
      | (with_reducible refine LeO.bind ?_ (fun _ => ?_))
      | exact ih0 _ _ _ _
      | exact wafer_Sum.mono _ _
      | exact LeO.none _
      | refine LeO.ite ?_ ?_
      | refine LeO.bind ?_ (fun _ => ?_)
theorem wafer_Open.mono : ∀ a0 k, LeO (wafer_Open.f k a0) (wafer_Open.f (k + 1) a0) := by
  intro a0 k
  have ih0 := wafer_Open.mono_l k
  unfold wafer_Open.f
  repeat' first
      | (with_reducible exact ih0 _ _ _ _)
      | (with_reducible exact wafer_Sum.mono _ _)
      | (with_reducible exact LeO.refl _)
      | (with_reducible exact LeO.none _)
      | (with_reducible refine LeO.ite ?_ ?_)
      | (with_reducible refine LeO.bind ?_ (fun _ => ?_))
      | exact ih0 _ _ _ _
      | exact wafer_Sum.mono _ _
      | exact LeO.none _
      | refine LeO.ite ?_ ?_
      | refine LeO.bind ?_ (fun _ => ?_)
def wafer_Open.T3 : Bool × List (List Nat × List Nat) := (true, [([], []), ([0], [0]), ([1], [1]), ([2], [2]), ([], []), ([4], [4]), ([5], [5]), ([3, 6], [3, 6]), ([7, 0, 1, 2, 3, 4, 5, 6, 7], [7])])
def wafer_Open.B3 : List Nat := [0, 1, 3, 7, 0, 16, 48, 127, 255]
theorem wafer_Open.tab3 : rtab .any (opsOf Try.f14 3) = wafer_Open.T3 := by kernel_rfl
theorem wafer_Open.bits3 : waitsOk wafer_Open.T3.2 wafer_Open.B3 = true := by kernel_rfl
def wafer_Open.T7 : Bool × List (List Nat × List Nat) := (true, [([], []), ([], []), ([1], [1]), ([0, 2], [0, 2]), ([3], [3]), ([4, 4], [4]), ([], []), ([], []), ([7], [7]), ([], []), ([6, 8, 9], [6, 8, 9]), ([5, 10], [5, 10])])
def wafer_Open.B7 : List Nat := [0, 0, 2, 7, 15, 31, 0, 0, 128, 0, 960, 2047]
theorem wafer_Open.tab7 : rtab .any (opsOf Try.f14 7) = wafer_Open.T7 := by kernel_rfl
theorem wafer_Open.bits7 : waitsOk wafer_Open.T7.2 wafer_Open.B7 = true := by kernel_rfl
set_option maxHeartbeats 8000000 in
set_option maxRecDepth 100000 in
theorem wafer_Open.calls (k : Nat) (a0 : ByteArray) (r1 : ByteArray) (r2 : Int) (w : World) (h : wafer_Open.f k a0 = some (r1, r2)) :
    Calls Try.prog 14 #[.string a0] w fun e w' => e = .returned (.tuple #[.string r1, .int .i64 r2]) ∧ Below w.heap.size w w' := by
  have HB := Aside0.mk (Below.refl w.heap.size w)
  have H : (if (a0.size : Int) < 2 then (some ((⟨#[]⟩ : ByteArray), 0)) else (if 0 < (a0.size : Int) then (if 1 < (a0.size : Int) then (if (Go.bits .or .i64 (wrap64 ((wrap64 (bt a0 0)) * 256)) (wrap64 (bt a0 1))) > 1024 then (wafer_Open.j0 k a0 (Go.bits .or .i64 (wrap64 ((wrap64 (bt a0 0)) * 256)) (wrap64 (bt a0 1))) (wrap64 ((wrap64 (2 + (Go.bits .or .i64 (wrap64 ((wrap64 (bt a0 0)) * 256)) (wrap64 (bt a0 1))))) + 4)) true) else (wafer_Open.j0 k a0 (Go.bits .or .i64 (wrap64 ((wrap64 (bt a0 0)) * 256)) (wrap64 (bt a0 1))) (wrap64 ((wrap64 (2 + (Go.bits .or .i64 (wrap64 ((wrap64 (bt a0 0)) * 256)) (wrap64 (bt a0 1))))) + 4)) (decide ((a0.size : Int) < (wrap64 ((wrap64 (2 + (Go.bits .or .i64 (wrap64 ((wrap64 (bt a0 0)) * 256)) (wrap64 (bt a0 1))))) + 4)))))) else (none)) else (none))) = some (r1, r2) := h
  clear h
  by_cases c2 : (a0.size : Int) < 2
  · rw [if_pos c2] at H
    have c2b0 : decide ((a0.size : Int) < 2) = true := decide_eq_true c2
    have c2b1 : decide (a0.size < 2) = true := decide_eq_true (by omega)
    clear c2
    simp only [Option.some.injEq, Prod.mk.injEq] at H
    obtain ⟨rfl, rfl⟩ := H
    go_enter Try.func14, Try.ntmps14
    go_wp2
    go_ret2
    exact ⟨by first | rfl | (simp [errW_none, errW_some] <;> rfl) | (simp [*, errW_none, errW_some] <;> rfl), by repeat (first | (with_reducible first | exact HB.out | apply below_alloc | apply pw_below_drewN | apply below_drew1) | exact HB.out)⟩
  · rw [if_neg c2] at H
    have c2b0 : decide ((a0.size : Int) < 2) = false := decide_eq_false c2
    have c2b1 : decide (a0.size < 2) = false := decide_eq_false (by omega)
    clear c2
    by_cases c3 : 0 < (a0.size : Int)
    · rw [if_pos c3] at H
      have c3b0 : decide (0 < (a0.size : Int)) = true := decide_eq_true c3
      have c3b1 : decide (0 < a0.size) = true := decide_eq_true (by omega)
      clear c3
      by_cases c5 : 1 < (a0.size : Int)
      · rw [if_pos c5] at H
        have c5b0 : decide (1 < (a0.size : Int)) = true := decide_eq_true c5
        have c5b1 : decide (1 < a0.size) = true := decide_eq_true (by omega)
        clear c5
        have HC7 := Aside0.mk H
        clear H
        go_enter Try.func14, Try.ntmps14
        try go_wp2
        have n0_ := Aside0.mk (below_drew1 HB.out)
        clear HB
        have HB := n0_
        clear n0_
        have p4 : 0 ≤ (0 : Int) := (by omega)
        have q4 : 0 < a0.size := (by have : (0 : Int) < (a0.size : Int) := of_decide_eq_true (by first | (with_reducible assumption) | assumption); omega)
        have hx4 : ∀ h : 0 < a0.size, ((a0[0]'h).toNat : Int) = bt a0 0 := bt_at a0 0
        clear p4
        have qi4 : (0 < (a0.size : Int)) = True := eq_true (of_decide_eq_true (by first | (with_reducible assumption) | assumption))
        replace q4 := eq_true q4
        have p6 : 0 ≤ (1 : Int) := (by omega)
        have q6 : 1 < a0.size := (by have : (1 : Int) < (a0.size : Int) := of_decide_eq_true (by first | (with_reducible assumption) | assumption); omega)
        have hx6 : ∀ h : 1 < a0.size, ((a0[1]'h).toNat : Int) = bt a0 1 := bt_at a0 1
        clear p6
        have qi6 : (1 < (a0.size : Int)) = True := eq_true (of_decide_eq_true (by first | (with_reducible assumption) | assumption))
        replace q6 := eq_true q6
        refine start_ (n := 9) (S := fun w' => True) (ds := []) #[false, false, false, false, false, false, false, false, false] (by kernel_rfl) rfl rfl trivial (fun hHeld => ?_); refine with_tabW wafer_Open.tab3 wafer_Open.bits3 (fun HT_ HW_ => ?_)
        generalize w.drew = w8 at HB hHeld ⊢
        refine pure_ (i := 0) (N := some 9) (v := ?_) (a' := ?_) #[true, false, false, false, false, false, false, false, false] rfl rfl (any_of HT_.out (by kernel_rfl)) (fun _ _ _ h => h) (Or.inl ⟨by rfl, ?_⟩) ?_ ?_
        rotate_left
        · intro w'
          go_simp
          with_reducible rfl
        rotate_left
        · simp only [Act.put, List.setIfInBounds_toArray, List.set_cons_zero, List.set_cons_succ, i64_w, i32_w]
          rfl
        refine pure_ (i := 4) (N := some 13) (v := ?_) (a' := ?_) #[true, false, false, false, true, false, false, false, false] rfl rfl (any_of HT_.out (by kernel_rfl)) (fun _ _ _ h => h) (Or.inl ⟨by rfl, ?_⟩) ?_ ?_
        rotate_left
        · intro w'
          go_simp
          with_reducible rfl
        rotate_left
        · simp only [Act.put, List.setIfInBounds_toArray, List.set_cons_zero, List.set_cons_succ, i64_w, i32_w]
          rfl
        refine take_ (i := 1) (N := some 10) (v := ?_) (a' := ?_) #[true, true, false, false, true, false, false, false, false] rfl rfl (take_ofW HT_.out HW_.out (by kernel_rfl)) (fun _ _ _ h => h) (Or.inl ⟨by rfl, ?_⟩) hHeld ?_ ?_
        rotate_left
        · intro w' _
          go_simp
          with_reducible rfl
        rotate_left
        · simp only [Act.put, List.setIfInBounds_toArray, List.set_cons_zero, List.set_cons_succ, i64_w, i32_w]
          rfl
        refine pure_ (i := 2) (N := some 11) (v := ?_) (a' := ?_) #[true, true, true, false, true, false, false, false, false] rfl rfl (any_of HT_.out (by kernel_rfl)) (fun _ _ _ h => h) (Or.inl ⟨by rfl, ?_⟩) ?_ ?_
        rotate_left
        · intro w'
          go_simp
          with_reducible rfl
        rotate_left
        · simp only [Act.put, List.setIfInBounds_toArray, List.set_cons_zero, List.set_cons_succ, i64_w, i32_w]
          rfl
        refine pure_ (i := 3) (N := some 12) (v := ?_) (a' := ?_) #[true, true, true, true, true, false, false, false, false] rfl rfl (any_of HT_.out (by kernel_rfl)) (fun _ _ _ h => h) (Or.inl ⟨by rfl, ?_⟩) ?_ ?_
        rotate_left
        · intro w'
          go_simp
          with_reducible rfl
        rotate_left
        · simp only [Act.put, List.setIfInBounds_toArray, List.set_cons_zero, List.set_cons_succ, i64_w, i32_w]
          rfl
        refine take_ (i := 5) (N := some 14) (v := ?_) (a' := ?_) #[true, true, true, true, true, true, false, false, false] rfl rfl (take_ofW HT_.out HW_.out (by kernel_rfl)) (fun _ _ _ h => h) (Or.inl ⟨by rfl, ?_⟩) hHeld ?_ ?_
        rotate_left
        · intro w' _
          go_simp
          with_reducible rfl
        rotate_left
        · simp only [Act.put, List.setIfInBounds_toArray, List.set_cons_zero, List.set_cons_succ, i64_w, i32_w]
          rfl
        refine pure_ (i := 6) (N := some 15) (v := ?_) (a' := ?_) #[true, true, true, true, true, true, true, false, false] rfl rfl (any_of HT_.out (by kernel_rfl)) (fun _ _ _ h => h) (Or.inl ⟨by rfl, ?_⟩) ?_ ?_
        rotate_left
        · intro w'
          go_simp
          with_reducible rfl
        rotate_left
        · simp only [Act.put, List.setIfInBounds_toArray, List.set_cons_zero, List.set_cons_succ, i64_w, i32_w]
          rfl
        refine pure_ (i := 7) (N := some 16) (v := ?_) (a' := ?_) #[true, true, true, true, true, true, true, true, false] rfl rfl (any_of HT_.out (by kernel_rfl)) (fun _ _ _ h => h) (Or.inl ⟨by rfl, ?_⟩) ?_ ?_
        rotate_left
        · intro w'
          go_simp
          with_reducible rfl
        rotate_left
        · simp only [Act.put, List.setIfInBounds_toArray, List.set_cons_zero, List.set_cons_succ, i64_w, i32_w]
          rfl
        refine pure_ (i := 8) (N := some 4) (v := ?_) (a' := ?_) #[true, true, true, true, true, true, true, true, true] rfl rfl (any_of HT_.out (by kernel_rfl)) (fun _ _ _ h => h) (Or.inl ⟨by rfl, ?_⟩) ?_ ?_
        rotate_left
        · intro w'
          go_simp
          with_reducible rfl
        rotate_left
        · simp only [Act.put, List.setIfInBounds_toArray, List.set_cons_zero, List.set_cons_succ, i64_w, i32_w]
          rfl
        refine done_ (done_of HT_.out (by kernel_rfl)) ?_
        go_upto_region 5 with (fail)
        go_cut [27] (fun v27 wc => ∃ (kq : Nat) (x27_6 : Bool), v27 = .bool x27_6 ∧ Aside0 (wafer_Open.j0 kq a0 (Go.bits .or .i64 (wrap64 ((wrap64 (bt a0 0)) * 256)) (wrap64 (bt a0 1))) (wrap64 ((wrap64 (2 + (Go.bits .or .i64 (wrap64 ((wrap64 (bt a0 0)) * 256)) (wrap64 (bt a0 1))))) + 4)) x27_6 = some (r1, r2)) ∧ Aside0 (kq ≤ k) ∧ Aside0 (Below w.heap.size w wc))
        case first =>
          have H := HC7.out
          clear HC7
          by_cases c9 : (Go.bits .or .i64 (wrap64 ((wrap64 (bt a0 0)) * 256)) (wrap64 (bt a0 1))) > 1024
          · rw [if_pos c9] at H
            have c9b0 : decide (1024 < (Go.bits .or .i64 (wrap64 ((wrap64 (bt a0 0)) * 256)) (wrap64 (bt a0 1)))) = true := decide_eq_true c9
            clear c9
            (first | rw [c9b0] | (simp only [i64_w, i32_w]; rw [c9b0]) | skip)
            have H' := Aside0.mk H
            clear H
            go_wp2
            go_meet
            case rel => exact ⟨_, (true), (by first | rfl | (simp; done) | (simp [*]; done)), H', ⟨by first | omega | exact Nat.le_refl _⟩, ⟨by repeat (first | (with_reducible first | exact HB.out | apply below_alloc | apply pw_below_drewN | apply below_drew1) | exact HB.out)⟩⟩
          · rw [if_neg c9] at H
            have c9b0 : decide (1024 < (Go.bits .or .i64 (wrap64 ((wrap64 (bt a0 0)) * 256)) (wrap64 (bt a0 1)))) = false := decide_eq_false c9
            clear c9
            (first | rw [c9b0] | (simp only [i64_w, i32_w]; rw [c9b0]) | skip)
            have H' := Aside0.mk H
            clear H
            go_wp2
            go_meet
            case rel => exact ⟨_, (decide ((a0.size : Int) < (wrap64 ((wrap64 (2 + (Go.bits .or .i64 (wrap64 ((wrap64 (bt a0 0)) * 256)) (wrap64 (bt a0 1))))) + 4)))), (by first | rfl | (simp; done) | (simp [*]; done)), H', ⟨by first | omega | exact Nat.le_refl _⟩, ⟨by repeat (first | (with_reducible first | exact HB.out | apply below_alloc | apply pw_below_drewN | apply below_drew1) | exact HB.out)⟩⟩
        case rest =>
          clear HC7
          try clear c1
          try clear c2
          try clear c2b0
          try clear c2b1
          try clear p2
          try clear c3
          try clear c3b0
          try clear c3b1
          try clear p4
          try clear q4
          try clear hx4
          try clear qi4
          try clear c5
          try clear c5b0
          try clear c5b1
          try clear p6
          try clear q6
          try clear hx6
          try clear qi6
          try clear c9
          try clear c9b0
          try clear p4
          try clear p6
          try clear q4
          try clear q6
          obtain ⟨kq, x27_6, rfl, HA, HJ6, HB⟩ := hcut
          cases kq with
          | zero => exact absurd HA.out (by simp [wafer_Open.j0])
          | succ kj6 =>
            have H := HA.out
            clear HA
            simp only [wafer_Open.j0] at H
            by_cases c10 : x27_6 = true
            · subst c10
              have H1 : (some ((⟨#[]⟩ : ByteArray), 0)) = some (r1, r2) := by rw [if_pos rfl] at H; exact H
              clear H
              have H := H1
              clear H1
              simp only [Option.some.injEq, Prod.mk.injEq] at H
              obtain ⟨rfl, rfl⟩ := H
              go_wp2
              go_ret2
              exact ⟨by first | rfl | (simp [errW_none, errW_some] <;> rfl) | (simp [*, errW_none, errW_some] <;> rfl), by repeat (first | (with_reducible first | exact HB.out | apply below_alloc | apply pw_below_drewN | apply below_drew1) | exact HB.out)⟩
            · replace c10 := Bool.eq_false_iff.mpr c10
              subst c10
              have H1 : (if 0 ≤ (wrap64 (2 + (Go.bits .or .i64 (wrap64 ((wrap64 (bt a0 0)) * 256)) (wrap64 (bt a0 1))))) then (if (wrap64 (2 + (Go.bits .or .i64 (wrap64 ((wrap64 (bt a0 0)) * 256)) (wrap64 (bt a0 1))))) ≤ (a0.size : Int) then ((wafer_Sum.f kj6 (a0.extract 0 ((wrap64 (2 + (Go.bits .or .i64 (wrap64 ((wrap64 (bt a0 0)) * 256)) (wrap64 (bt a0 1))))) : Int).toNat)).bind fun t111 => ((wafer_foots.f t111).bind fun t112 => (if (wrap64 (2 + (Go.bits .or .i64 (wrap64 ((wrap64 (bt a0 0)) * 256)) (wrap64 (bt a0 1))))) ≤ (wrap64 ((wrap64 (2 + (Go.bits .or .i64 (wrap64 ((wrap64 (bt a0 0)) * 256)) (wrap64 (bt a0 1))))) + 4)) then (if (wrap64 ((wrap64 (2 + (Go.bits .or .i64 (wrap64 ((wrap64 (bt a0 0)) * 256)) (wrap64 (bt a0 1))))) + 4)) ≤ (a0.size : Int) then (if t112.toList = (a0.extract ((wrap64 (2 + (Go.bits .or .i64 (wrap64 ((wrap64 (bt a0 0)) * 256)) (wrap64 (bt a0 1))))) : Int).toNat ((wrap64 ((wrap64 (2 + (Go.bits .or .i64 (wrap64 ((wrap64 (bt a0 0)) * 256)) (wrap64 (bt a0 1))))) + 4)) : Int).toNat).toList then (if 2 ≤ (wrap64 (2 + (Go.bits .or .i64 (wrap64 ((wrap64 (bt a0 0)) * 256)) (wrap64 (bt a0 1))))) then (some (a0.extract 2 ((wrap64 (2 + (Go.bits .or .i64 (wrap64 ((wrap64 (bt a0 0)) * 256)) (wrap64 (bt a0 1))))) : Int).toNat, (wrap64 ((wrap64 (2 + (Go.bits .or .i64 (wrap64 ((wrap64 (bt a0 0)) * 256)) (wrap64 (bt a0 1))))) + 4)))) else (none)) else (some ((⟨#[]⟩ : ByteArray), 0))) else (none)) else (none)))) else (none)) else (none)) = some (r1, r2) := by rw [if_neg (show ¬ (false = true) by decide)] at H; exact H
              clear H
              have H := H1
              clear H1
              obtain ⟨ji11, hji11⟩ : ∃ j_ : Int, (wrap64 (2 + (Go.bits .or .i64 (wrap64 ((wrap64 (bt a0 0)) * 256)) (wrap64 (bt a0 1))))) = j_ := ⟨_, rfl⟩
              replace H : (if 0 ≤ (ji11) then (if (ji11) ≤ (a0.size : Int) then ((wafer_Sum.f kj6 (a0.extract 0 ((ji11) : Int).toNat)).bind fun t111 => ((wafer_foots.f t111).bind fun t112 => (if (ji11) ≤ (wrap64 ((ji11) + 4)) then (if (wrap64 ((ji11) + 4)) ≤ (a0.size : Int) then (if t112.toList = (a0.extract ((ji11) : Int).toNat ((wrap64 ((ji11) + 4)) : Int).toNat).toList then (if 2 ≤ (ji11) then (some (a0.extract 2 ((ji11) : Int).toNat, (wrap64 ((ji11) + 4)))) else (none)) else (some ((⟨#[]⟩ : ByteArray), 0))) else (none)) else (none)))) else (none)) else (none)) = some (r1, r2) := by first | (rw [hji11] at H; exact H) | (simp only [hji11] at H ⊢; exact H)
              have hji11w : (IntKind.i64.wrap (2 + (Go.bits .or .i64 (wrap64 ((wrap64 (bt a0 0)) * 256)) (wrap64 (bt a0 1))))) = ji11 := (i64_w _).trans hji11
              by_cases c12 : 0 ≤ (ji11)
              · rw [if_pos c12] at H
                have c12b0 := eq_true c12
                have c12b1 : decide (0 ≤ (ji11)) = true := decide_eq_true c12
                clear c12
                by_cases c13 : (ji11) ≤ (a0.size : Int)
                · rw [if_pos c13] at H
                  have c13b0 := eq_true c13
                  have c13b1 : decide ((ji11) ≤ (a0.size : Int)) = true := decide_eq_true c13
                  clear c13
                  replace H := Option.bind_eq_some_iff.mp H
                  obtain ⟨t111, A140, H⟩ := H
                  replace H : ((wafer_foots.f t111).bind fun t112 => (if (ji11) ≤ (wrap64 ((ji11) + 4)) then (if (wrap64 ((ji11) + 4)) ≤ (a0.size : Int) then (if t112.toList = (a0.extract ((ji11) : Int).toNat ((wrap64 ((ji11) + 4)) : Int).toNat).toList then (if 2 ≤ (ji11) then (some (a0.extract 2 ((ji11) : Int).toNat, (wrap64 ((ji11) + 4)))) else (none)) else (some ((⟨#[]⟩ : ByteArray), 0))) else (none)) else (none))) = some (r1, r2) := H
                  have A14 := Aside0.mk A140
                  clear A140
                  replace H := Option.bind_eq_some_iff.mp H
                  obtain ⟨t112, A150, H⟩ := H
                  replace H : (if (ji11) ≤ (wrap64 ((ji11) + 4)) then (if (wrap64 ((ji11) + 4)) ≤ (a0.size : Int) then (if t112.toList = (a0.extract ((ji11) : Int).toNat ((wrap64 ((ji11) + 4)) : Int).toNat).toList then (if 2 ≤ (ji11) then (some (a0.extract 2 ((ji11) : Int).toNat, (wrap64 ((ji11) + 4)))) else (none)) else (some ((⟨#[]⟩ : ByteArray), 0))) else (none)) else (none)) = some (r1, r2) := H
                  have A15 := Aside0.mk A150
                  clear A150
                  have c16b0 := eq_true (of_decide_eq_true (by first | (with_reducible assumption) | assumption) : 0 ≤ (ji11))
                  by_cases c17 : (ji11) ≤ (wrap64 ((ji11) + 4))
                  · rw [if_pos c17] at H
                    have c17b0 := eq_true c17
                    have c17b1 : decide ((ji11) ≤ (wrap64 ((ji11) + 4))) = true := decide_eq_true c17
                    by_cases c18 : (wrap64 ((ji11) + 4)) ≤ (a0.size : Int)
                    · rw [if_pos c18] at H
                      have c18b0 := eq_true c18
                      have c18b1 : decide ((wrap64 ((ji11) + 4)) ≤ (a0.size : Int)) = true := decide_eq_true c18
                      by_cases c19 : t112.toList = (a0.extract ((ji11) : Int).toNat ((wrap64 ((ji11) + 4)) : Int).toNat).toList
                      · rw [if_pos c19] at H
                        have c19b0 : (t112.toList == (a0.extract ((ji11) : Int).toNat ((wrap64 ((ji11) + 4)) : Int).toNat).toList) = true := beq_iff_eq.mpr c19
                        have c19b1 : (t112.toList != (a0.extract ((ji11) : Int).toNat ((wrap64 ((ji11) + 4)) : Int).toNat).toList) = false := bne_eq_false_iff_eq.mpr c19
                        clear c19
                        by_cases c20 : 2 ≤ (ji11)
                        · rw [if_pos c20] at H
                          have c20b0 := eq_true c20
                          have c20b1 : decide (2 ≤ (ji11)) = true := decide_eq_true c20
                          clear c20
                          have c21b0 := eq_true (of_decide_eq_true (by first | (with_reducible assumption) | assumption) : (ji11) ≤ (a0.size : Int))
                          simp only [Option.some.injEq, Prod.mk.injEq] at H
                          obtain ⟨rfl, rfl⟩ := H
                          try go_wp2
                          have n0_ := Aside0.mk (below_drew1 HB.out)
                          clear HB
                          have HB := n0_
                          clear n0_
                          refine start_ (n := 12) (S := fun w' => True) (ds := []) #[false, false, false, false, false, false, false, false, false, false, false, false] (by kernel_rfl) rfl rfl trivial (fun hHeld => ?_); refine with_tabW wafer_Open.tab7 wafer_Open.bits7 (fun HT_ HW_ => ?_)
                          generalize wc.drew = w22 at HB hHeld ⊢
                          refine pure_ (i := 0) (N := some 28) (v := ?_) (a' := ?_) #[true, false, false, false, false, false, false, false, false, false, false, false] rfl rfl (any_of HT_.out (by kernel_rfl)) (fun _ _ _ h => h) (Or.inl ⟨by rfl, ?_⟩) ?_ ?_
                          rotate_left
                          · intro w'
                            go_simp
                            with_reducible rfl
                          rotate_left
                          · simp only [Act.put, List.setIfInBounds_toArray, List.set_cons_zero, List.set_cons_succ, i64_w, i32_w]
                            rfl
                          refine pure_ (i := 1) (N := some 29) (v := ?_) (a' := ?_) #[true, true, false, false, false, false, false, false, false, false, false, false] rfl rfl (any_of HT_.out (by kernel_rfl)) (fun _ _ _ h => h) (Or.inl ⟨by rfl, ?_⟩) ?_ ?_
                          rotate_left
                          · intro w'
                            go_simp
                            with_reducible rfl
                          rotate_left
                          · simp only [Act.put, List.setIfInBounds_toArray, List.set_cons_zero, List.set_cons_succ, i64_w, i32_w]
                            rfl
                          refine pure_ (i := 2) (N := some 30) (v := ?_) (a' := ?_) #[true, true, true, false, false, false, false, false, false, false, false, false] rfl rfl (any_of HT_.out (by kernel_rfl)) (fun _ _ _ h => h) (Or.inl ⟨by rfl, ?_⟩) ?_ ?_
                          rotate_left
                          · intro w'
                            go_simp
                            with_reducible rfl
                          rotate_left
                          · simp only [Act.put, List.setIfInBounds_toArray, List.set_cons_zero, List.set_cons_succ, i64_w, i32_w]
                            rfl
                          refine pure_ (i := 3) (N := some 31) (v := ?_) (a' := ?_) #[true, true, true, true, false, false, false, false, false, false, false, false] rfl rfl (any_of HT_.out (by kernel_rfl)) (fun _ _ _ h => h) (Or.inl ⟨by rfl, ?_⟩) ?_ ?_
                          rotate_left
                          · intro w'
                            go_simp
                            with_reducible rfl
                          rotate_left
                          · simp only [Act.put, List.setIfInBounds_toArray, List.set_cons_zero, List.set_cons_succ, i64_w, i32_w]
                            rfl
                          refine pure_ (i := 6) (N := some 34) (v := ?_) (a' := ?_) #[true, true, true, true, false, false, true, false, false, false, false, false] rfl rfl (any_of HT_.out (by kernel_rfl)) (fun _ _ _ h => h) (Or.inl ⟨by rfl, ?_⟩) ?_ ?_
                          rotate_left
                          · intro w'
                            go_simp
                            with_reducible rfl
                          rotate_left
                          · simp only [Act.put, List.setIfInBounds_toArray, List.set_cons_zero, List.set_cons_succ, i64_w, i32_w]
                            rfl
                          refine pure_ (i := 7) (N := some 35) (v := ?_) (a' := ?_) #[true, true, true, true, false, false, true, true, false, false, false, false] rfl rfl (any_of HT_.out (by kernel_rfl)) (fun _ _ _ h => h) (Or.inl ⟨by rfl, ?_⟩) ?_ ?_
                          rotate_left
                          · intro w'
                            go_simp
                            with_reducible rfl
                          rotate_left
                          · simp only [Act.put, List.setIfInBounds_toArray, List.set_cons_zero, List.set_cons_succ, i64_w, i32_w]
                            rfl
                          refine pure_ (i := 8) (N := some 36) (v := ?_) (a' := ?_) #[true, true, true, true, false, false, true, true, true, false, false, false] rfl rfl (any_of HT_.out (by kernel_rfl)) (fun _ _ _ h => h) (Or.inl ⟨by rfl, ?_⟩) ?_ ?_
                          rotate_left
                          · intro w'
                            go_simp
                            with_reducible rfl
                          rotate_left
                          · simp only [Act.put, List.setIfInBounds_toArray, List.set_cons_zero, List.set_cons_succ, i64_w, i32_w]
                            rfl
                          refine pure_ (i := 9) (N := some 37) (v := ?_) (a' := ?_) #[true, true, true, true, false, false, true, true, true, true, false, false] rfl rfl (any_of HT_.out (by kernel_rfl)) (fun _ _ _ h => h) (Or.inl ⟨by rfl, ?_⟩) ?_ ?_
                          rotate_left
                          · intro w'
                            go_simp
                            with_reducible rfl
                          rotate_left
                          · simp only [Act.put, List.setIfInBounds_toArray, List.set_cons_zero, List.set_cons_succ, i64_w, i32_w]
                            rfl
                          refine pure_ (i := 10) (N := some 38) (v := ?_) (a' := ?_) #[true, true, true, true, false, false, true, true, true, true, true, false] rfl rfl (any_of HT_.out (by kernel_rfl)) (fun _ _ _ h => h) (Or.inl ⟨by rfl, ?_⟩) ?_ ?_
                          rotate_left
                          · intro w'
                            go_simp
                            with_reducible rfl
                          rotate_left
                          · simp only [Act.put, List.setIfInBounds_toArray, List.set_cons_zero, List.set_cons_succ, i64_w, i32_w]
                            rfl
                          refine one_ (i := 4) (N := some 32) #[true, true, true, true, true, false, true, true, true, true, true, false] rfl rfl (one_of HT_.out (by kernel_rfl)) (by decide) (fun K hK => ?_)
                          refine goes_ Try.func11 (by kernel_rfl) rfl #[.string (a0.extract 0 ((ji11) : Int).toNat)] (by rfl) rfl rfl (by (try simp only [List.map_toArray, List.map_cons, List.map_nil]); first | done | (simp only [hji11]; rfl) | rfl | (simp only [List.length_drop, List.length_take]; rfl)) ?_
                          with_reducible refine (wafer_Sum.calls kj6 (a0.extract 0 ((ji11) : Int).toNat) t111 _ A14.out).mono ?_
                          rintro e w' ⟨rfl, ⟨nd, rfl⟩⟩
                          refine ⟨_, rfl, ?_⟩
                          refine hK.out _ _ trivial (fun hHeld => ?_)
                          clear hK K
                          refine norm_ (a' := ?_) ?_ ?_
                          rotate_left
                          · show Act.put _ (some 32) _ = _
                            simp only [Act.put, List.setIfInBounds_toArray, List.set_cons_zero, List.set_cons_succ, i64_w, i32_w]
                            rfl
                          refine one_ (i := 5) (N := some 33) #[true, true, true, true, true, true, true, true, true, true, true, false] rfl rfl (one_of HT_.out (by kernel_rfl)) (by decide) (fun K hK => ?_)
                          refine goes_ Try.func22 (by kernel_rfl) rfl #[.int .u32 t111] (by rfl) rfl rfl (by (try simp only [List.map_toArray, List.map_cons, List.map_nil]); first | done | rfl | (simp only [List.length_drop, List.length_take]; rfl)) ?_
                          with_reducible refine (wafer_foots.calls t111 t112 _ A15.out).mono ?_
                          rintro e w23 ⟨rfl, hb⟩
                          refine ⟨_, rfl, ?_⟩
                          have n0_ := Aside0.mk (below_step (by repeat (first | (with_reducible first | exact HB.out | apply below_alloc | apply pw_below_drewN | apply below_drew1) | exact HB.out)) hb)
                          clear HB
                          have HB := n0_
                          clear n0_
                          (try clear hb)
                          (try clear hb2)
                          (try clear hk)
                          (try clear hi)
                          refine hK.out _ _ trivial (fun hHeld => ?_)
                          clear hK K
                          refine norm_ (a' := ?_) ?_ ?_
                          rotate_left
                          · show Act.put _ (some 33) _ = _
                            simp only [Act.put, List.setIfInBounds_toArray, List.set_cons_zero, List.set_cons_succ, i64_w, i32_w]
                            rfl
                          refine pure_ (i := 11) (N := some 39) (v := ?_) (a' := ?_) #[true, true, true, true, true, true, true, true, true, true, true, true] rfl rfl (any_of HT_.out (by kernel_rfl)) (fun _ _ _ h => h) (Or.inl ⟨by rfl, ?_⟩) ?_ ?_
                          rotate_left
                          · intro w'
                            go_simp
                            with_reducible rfl
                          rotate_left
                          · simp only [Act.put, List.setIfInBounds_toArray, List.set_cons_zero, List.set_cons_succ, i64_w, i32_w]
                            rfl
                          refine done_ (done_of HT_.out (by kernel_rfl)) ?_
                          try go_wp2
                          go_ret2
                          exact ⟨by first | rfl | (simp [errW_none, errW_some] <;> rfl) | (simp only [← hji11]; first | rfl | (simp [errW_none, errW_some] <;> rfl)) | (simp [*, errW_none, errW_some] <;> rfl), by repeat (first | (with_reducible first | exact HB.out | apply below_alloc | apply pw_below_drewN | apply below_drew1) | exact HB.out)⟩
                        · rw [if_neg c20] at H
                          exact absurd H (by simp)
                      · rw [if_neg c19] at H
                        have c19b0 : (t112.toList == (a0.extract ((ji11) : Int).toNat ((wrap64 ((ji11) + 4)) : Int).toNat).toList) = false := beq_eq_false_iff_ne.mpr c19
                        have c19b1 : (t112.toList != (a0.extract ((ji11) : Int).toNat ((wrap64 ((ji11) + 4)) : Int).toNat).toList) = true := bne_iff_ne.mpr c19
                        simp only [Option.some.injEq, Prod.mk.injEq] at H
                        obtain ⟨rfl, rfl⟩ := H
                        try go_wp2
                        have n0_ := Aside0.mk (below_drew1 HB.out)
                        clear HB
                        have HB := n0_
                        clear n0_
                        refine start_ (n := 12) (S := fun w' => True) (ds := []) #[false, false, false, false, false, false, false, false, false, false, false, false] (by kernel_rfl) rfl rfl trivial (fun hHeld => ?_); refine with_tabW wafer_Open.tab7 wafer_Open.bits7 (fun HT_ HW_ => ?_)
                        generalize wc.drew = w24 at HB hHeld ⊢
                        refine pure_ (i := 0) (N := some 28) (v := ?_) (a' := ?_) #[true, false, false, false, false, false, false, false, false, false, false, false] rfl rfl (any_of HT_.out (by kernel_rfl)) (fun _ _ _ h => h) (Or.inl ⟨by rfl, ?_⟩) ?_ ?_
                        rotate_left
                        · intro w'
                          go_simp
                          with_reducible rfl
                        rotate_left
                        · simp only [Act.put, List.setIfInBounds_toArray, List.set_cons_zero, List.set_cons_succ, i64_w, i32_w]
                          rfl
                        refine pure_ (i := 1) (N := some 29) (v := ?_) (a' := ?_) #[true, true, false, false, false, false, false, false, false, false, false, false] rfl rfl (any_of HT_.out (by kernel_rfl)) (fun _ _ _ h => h) (Or.inl ⟨by rfl, ?_⟩) ?_ ?_
                        rotate_left
                        · intro w'
                          go_simp
                          with_reducible rfl
                        rotate_left
                        · simp only [Act.put, List.setIfInBounds_toArray, List.set_cons_zero, List.set_cons_succ, i64_w, i32_w]
                          rfl
                        refine pure_ (i := 2) (N := some 30) (v := ?_) (a' := ?_) #[true, true, true, false, false, false, false, false, false, false, false, false] rfl rfl (any_of HT_.out (by kernel_rfl)) (fun _ _ _ h => h) (Or.inl ⟨by rfl, ?_⟩) ?_ ?_
                        rotate_left
                        · intro w'
                          go_simp
                          with_reducible rfl
                        rotate_left
                        · simp only [Act.put, List.setIfInBounds_toArray, List.set_cons_zero, List.set_cons_succ, i64_w, i32_w]
                          rfl
                        refine pure_ (i := 3) (N := some 31) (v := ?_) (a' := ?_) #[true, true, true, true, false, false, false, false, false, false, false, false] rfl rfl (any_of HT_.out (by kernel_rfl)) (fun _ _ _ h => h) (Or.inl ⟨by rfl, ?_⟩) ?_ ?_
                        rotate_left
                        · intro w'
                          go_simp
                          with_reducible rfl
                        rotate_left
                        · simp only [Act.put, List.setIfInBounds_toArray, List.set_cons_zero, List.set_cons_succ, i64_w, i32_w]
                          rfl
                        refine pure_ (i := 6) (N := some 34) (v := ?_) (a' := ?_) #[true, true, true, true, false, false, true, false, false, false, false, false] rfl rfl (any_of HT_.out (by kernel_rfl)) (fun _ _ _ h => h) (Or.inl ⟨by rfl, ?_⟩) ?_ ?_
                        rotate_left
                        · intro w'
                          go_simp
                          with_reducible rfl
                        rotate_left
                        · simp only [Act.put, List.setIfInBounds_toArray, List.set_cons_zero, List.set_cons_succ, i64_w, i32_w]
                          rfl
                        refine pure_ (i := 7) (N := some 35) (v := ?_) (a' := ?_) #[true, true, true, true, false, false, true, true, false, false, false, false] rfl rfl (any_of HT_.out (by kernel_rfl)) (fun _ _ _ h => h) (Or.inl ⟨by rfl, ?_⟩) ?_ ?_
                        rotate_left
                        · intro w'
                          go_simp
                          with_reducible rfl
                        rotate_left
                        · simp only [Act.put, List.setIfInBounds_toArray, List.set_cons_zero, List.set_cons_succ, i64_w, i32_w]
                          rfl
                        refine pure_ (i := 8) (N := some 36) (v := ?_) (a' := ?_) #[true, true, true, true, false, false, true, true, true, false, false, false] rfl rfl (any_of HT_.out (by kernel_rfl)) (fun _ _ _ h => h) (Or.inl ⟨by rfl, ?_⟩) ?_ ?_
                        rotate_left
                        · intro w'
                          go_simp
                          with_reducible rfl
                        rotate_left
                        · simp only [Act.put, List.setIfInBounds_toArray, List.set_cons_zero, List.set_cons_succ, i64_w, i32_w]
                          rfl
                        refine pure_ (i := 9) (N := some 37) (v := ?_) (a' := ?_) #[true, true, true, true, false, false, true, true, true, true, false, false] rfl rfl (any_of HT_.out (by kernel_rfl)) (fun _ _ _ h => h) (Or.inl ⟨by rfl, ?_⟩) ?_ ?_
                        rotate_left
                        · intro w'
                          go_simp
                          with_reducible rfl
                        rotate_left
                        · simp only [Act.put, List.setIfInBounds_toArray, List.set_cons_zero, List.set_cons_succ, i64_w, i32_w]
                          rfl
                        refine pure_ (i := 10) (N := some 38) (v := ?_) (a' := ?_) #[true, true, true, true, false, false, true, true, true, true, true, false] rfl rfl (any_of HT_.out (by kernel_rfl)) (fun _ _ _ h => h) (Or.inl ⟨by rfl, ?_⟩) ?_ ?_
                        rotate_left
                        · intro w'
                          go_simp
                          with_reducible rfl
                        rotate_left
                        · simp only [Act.put, List.setIfInBounds_toArray, List.set_cons_zero, List.set_cons_succ, i64_w, i32_w]
                          rfl
                        refine one_ (i := 4) (N := some 32) #[true, true, true, true, true, false, true, true, true, true, true, false] rfl rfl (one_of HT_.out (by kernel_rfl)) (by decide) (fun K hK => ?_)
                        refine goes_ Try.func11 (by kernel_rfl) rfl #[.string (a0.extract 0 ((ji11) : Int).toNat)] (by rfl) rfl rfl (by (try simp only [List.map_toArray, List.map_cons, List.map_nil]); first | done | (simp only [hji11]; rfl) | rfl | (simp only [List.length_drop, List.length_take]; rfl)) ?_
                        with_reducible refine (wafer_Sum.calls kj6 (a0.extract 0 ((ji11) : Int).toNat) t111 _ A14.out).mono ?_
                        rintro e w' ⟨rfl, ⟨nd, rfl⟩⟩
                        refine ⟨_, rfl, ?_⟩
                        refine hK.out _ _ trivial (fun hHeld => ?_)
                        clear hK K
                        refine norm_ (a' := ?_) ?_ ?_
                        rotate_left
                        · show Act.put _ (some 32) _ = _
                          simp only [Act.put, List.setIfInBounds_toArray, List.set_cons_zero, List.set_cons_succ, i64_w, i32_w]
                          rfl
                        refine one_ (i := 5) (N := some 33) #[true, true, true, true, true, true, true, true, true, true, true, false] rfl rfl (one_of HT_.out (by kernel_rfl)) (by decide) (fun K hK => ?_)
                        refine goes_ Try.func22 (by kernel_rfl) rfl #[.int .u32 t111] (by rfl) rfl rfl (by (try simp only [List.map_toArray, List.map_cons, List.map_nil]); first | done | rfl | (simp only [List.length_drop, List.length_take]; rfl)) ?_
                        with_reducible refine (wafer_foots.calls t111 t112 _ A15.out).mono ?_
                        rintro e w25 ⟨rfl, hb⟩
                        refine ⟨_, rfl, ?_⟩
                        have n0_ := Aside0.mk (below_step (by repeat (first | (with_reducible first | exact HB.out | apply below_alloc | apply pw_below_drewN | apply below_drew1) | exact HB.out)) hb)
                        clear HB
                        have HB := n0_
                        clear n0_
                        (try clear hb)
                        (try clear hb2)
                        (try clear hk)
                        (try clear hi)
                        refine hK.out _ _ trivial (fun hHeld => ?_)
                        clear hK K
                        refine norm_ (a' := ?_) ?_ ?_
                        rotate_left
                        · show Act.put _ (some 33) _ = _
                          simp only [Act.put, List.setIfInBounds_toArray, List.set_cons_zero, List.set_cons_succ, i64_w, i32_w]
                          rfl
                        refine pure_ (i := 11) (N := some 39) (v := ?_) (a' := ?_) #[true, true, true, true, true, true, true, true, true, true, true, true] rfl rfl (any_of HT_.out (by kernel_rfl)) (fun _ _ _ h => h) (Or.inl ⟨by rfl, ?_⟩) ?_ ?_
                        rotate_left
                        · intro w'
                          go_simp
                          with_reducible rfl
                        rotate_left
                        · simp only [Act.put, List.setIfInBounds_toArray, List.set_cons_zero, List.set_cons_succ, i64_w, i32_w]
                          rfl
                        refine done_ (done_of HT_.out (by kernel_rfl)) ?_
                        try go_wp2
                        go_ret2
                        exact ⟨by first | rfl | (simp [errW_none, errW_some] <;> rfl) | (simp only [← hji11]; first | rfl | (simp [errW_none, errW_some] <;> rfl)) | (simp [*, errW_none, errW_some] <;> rfl), by repeat (first | (with_reducible first | exact HB.out | apply below_alloc | apply pw_below_drewN | apply below_drew1) | exact HB.out)⟩
                    · rw [if_neg c18] at H
                      exact absurd H (by simp)
                  · rw [if_neg c17] at H
                    exact absurd H (by simp)
                · rw [if_neg c13] at H
                  exact absurd H (by simp)
              · rw [if_neg c12] at H
                exact absurd H (by simp)
      · rw [if_neg c5] at H
        exact absurd H (by simp)
    · rw [if_neg c3] at H
      exact absurd H (by simp)
def HOpen : Prop := ∀ s : ByteArray, s.size ≤ 100000 → ∃ k, wafer_Open.f k s = some (⟨(openL s.data.toList).1.toArray⟩, (((openL s.data.toList).2 : Nat) : Int))
set_option maxHeartbeats 1600000 in
set_option maxRecDepth 100000 in
theorem all_ok (b : ByteArray) (w : World) : Calls Try.prog 19 #[.string b] w fun e w' => e = .returned (.func (.func 25) #[] #[.pointer (some ⟨w.heap.size, 0, none⟩)]) ∧ w' = w.alloc (.cells #[.string b] 9) := by
  go_enter Try.func19, Try.ntmps19
  go_wp2
  go_ret
  exact ⟨rfl, rfl⟩
section
attribute [local go_sem] Oper.semAt_some
set_option maxHeartbeats 3200000 in
set_option maxRecDepth 100000 in
theorem all_stops (HO : HOpen) (n : Nat) (hn : 1 ≤ n) (Bs : Nat) (b : ByteArray) (hb : b.size ≤ 100000) (w : World) (hBs : w.cell? ⟨Bs, 0, none⟩ = some (.string b)) :
    SeqStopsK Fence.wide n Try.prog 25 #[.pointer (some ⟨Bs, 0, none⟩)] (fun x : Ld => #[Value.string x.1]) (fun _ _ => True) (fun ys => ys = recs b.data.toList) (fun pre => pre <+: recs b.data.toList) (recs b.data.toList).length w := fun lp J Jx W hW hJ hJx hY h0 => by
  have hu9 := Try.underlying9
  have hBl := World.block_lt_of_cell? w _ hBs
  have cB : W.cell? ⟨Bs, 0, none⟩ = some (.string b) := (hW.cell (p := ⟨Bs, 0, none⟩) hBl).trans hBs
  refine callsIn_of_wp Try.func25 rfl trivial ?_ rfl
  simp only [Try.ntmps25, List.size_toArray, List.length_cons, List.length_nil, Nat.reduceAdd, Nat.reduceSub, Array.replicate_succ, Array.replicate_zero, List.push_toArray, List.append_toArray, List.nil_append, List.cons_append]
  gi_wp2
  gi_loopw [3] (fun v wr => ∃ (pre : List Ld) (s : ByteArray), v = .string s ∧ s.size ≤ 100000 ∧ recs b.data.toList = pre ++ recs s.data.toList ∧ J pre wr)
    (fun v _ => match v with | .string s => s.size | _ => 0)
  case atStart => exact ⟨[], b, rfl, hb, rfl, h0⟩
  case round =>
    obtain ⟨pre, s, rfl, hs, hR, hJs⟩ := hrel
    obtain ⟨k, hk⟩ := HO s hs
    have hos := open_size s.data.toList
    rw [data_length] at hos
    have HX := Aside0.mk (And.intro (recs_zero (l := s.data.toList)) (And.intro (recs_next (l := s.data.toList)) (drop_bytes s (openL s.data.toList).2)))
    have HR := Aside0.mk hR
    have hld : (⟨(openL s.data.toList).1.toArray⟩ : ByteArray) = (ldL s.data.toList).1 := rfl
    have hls : (ldL s.data.toList).1.size = (openL s.data.toList).1.length := mkb_size _
    rw [hld] at hk
    rw [← hls] at hos
    clear hR hld hls
    generalize ldL s.data.toList = x at hk hos HX
    generalize (openL s.data.toList).2 = sz at hk hos HX
    have OPN := fun W => wafer_Open.calls k s x.1 (sz : Int) W hk
    clear hk
    by_cases h0 : sz = 0
    · have HE := Aside0.mk (show recs b.data.toList = pre from by rw [HR.out, HX.out.1 h0, List.append_nil])
      have z0 : ((sz : Int) == 0) = true := by simpa using h0
      clear h0 hos
      gi_wp2_with (first | (refine ⟨trivial, ?_⟩; gi_at_call 14; refine callsIn_wide.2 ?_; refine (OPN _).mono ?_; rintro e w7 ⟨rfl, hb7⟩) | (refine ⟨(fun f hf => absurd hf (by simp; done)), ?_⟩))
      refine bodyPost_ret (results_none rfl _ _ _) rfl ?_
      exact ⟨⟨_, rfl⟩, .inl ⟨pre, HE.out.symm, hJ _ _ _ none hJs (grown_of_below hb7 none) (fun r e => by cases e)⟩⟩
    · have z0 : ((sz : Int) == 0) = false := by simpa using h0
      have hsz : sz ≤ s.size := by omega
      have p0 : ((0 : Int) ≤ (sz : Int)) = True := eq_true (by omega)
      have p1 : ((sz : Int) ≤ (s.size : Int)) = True := eq_true (by omega)
      have HE := Aside0.mk (show recs b.data.toList = (pre ++ [x]) ++ recs (s.extract sz s.size).data.toList from by rw [HR.out, HX.out.2.1 h0, HX.out.2.2, List.append_assoc]; rfl)
      have hsx : (s.extract sz s.size).size ≤ s.size := by rw [ByteArray.size_extract]; omega
      have hsy : (s.extract sz s.size).size < s.size := by rw [ByteArray.size_extract]; omega
      clear h0
      gi_wp2_with (refine ⟨trivial, ?_⟩; gi_at_call 14; refine callsIn_wide.2 ?_; refine (OPN _).mono ?_; rintro e w7 ⟨rfl, hb7⟩; have hJ7 : J pre w7 := hJ _ _ _ none hJs (grown_of_below hb7 none) (fun r e => by cases e); obtain ⟨fn, tmps, assign, body, hy, hRy⟩ := hY pre x w7 hJ7 (by rw [HE.out, List.length_append, List.length_append, List.length_singleton]; omega); have hy' : (Instr.yield lp #[.string x.1]).run Try.prog w7 = .ok (.round lp fn tmps assign body) w7 := hy; clear hy)
      refine hRy.mono ?_
      rintro e W3 (⟨rfl, hJ3, hk3⟩ | ⟨rfl, hJx3⟩)
      · gi_wp2
        go_roundw
        case rel => exact ⟨pre ++ [x], s.extract sz s.size, rfl, by omega, HE.out, hJ3⟩
        case measure => exact hsy
      · gi_wp2
        refine bodyPost_ret (results_none rfl _ _ _) rfl ?_
        exact ⟨⟨_, rfl⟩, .inr ⟨pre ++ [x], ⟨_, HE.out.symm⟩, hJx3⟩⟩
end
theorem results_bool {fn : Func} {p : Tmp} (h : fn.results = #[.cell p 4]) (tmps : Array Value) (w : World) (g : Nat) (v : Value) (hp : tmps.getD p undef = .pointer (some ⟨g, 0, none⟩)) (hc : w.cell? ⟨g, 0, none⟩ = some v) : (results fn tmps).run Try.prog w = .ok v w := by
  have hu4 := Try.underlying4
  have hl : (loadVar 4 ⟨g, 0, none⟩).run Try.prog w = .ok v w := by go_simp
  have hp' : tmps[p]?.getD undef = .pointer (some ⟨g, 0, none⟩) := by simpa using hp
  simp [results, h, hp', asAddr, hl]
theorem keepsFrom_below {B : Nat} {W W' : World} (h : Below W.heap.size W W') : KeepsFrom B W W' := ⟨h.size, fun k o hk h0 ho => (h.block k (Array.getElem?_eq_some_iff.1 h0).1).trans h0⟩
theorem name_actIn {F : Fence} {n : Nat} {P : Program} {c : Code} {Q : Exit → Act → World → Prop} {a : Act} {w : World} (h : ∀ T, T = a.tmps → c.wpIn F n P Q a w) : c.wpIn F n P Q a w := h _ rfl
theorem below_dfr {W W' : World} (k : Below W.heap.size W W') {D : Nat} {ds : Option (List Deferred)} (hD : W.heap[D]? = some (.deferred ds)) : W'.heap[D]? = some (.deferred ds) :=
  (k.block D (Array.getElem?_eq_some_iff.1 hD).1).trans hD
section
attribute [local go_sem] Oper.semAt_some
set_option maxHeartbeats 3200000 in
set_option maxRecDepth 100000 in
theorem whole_ok (HO : HOpen) (b : ByteArray) (hb : b.size ≤ 100000) (w : World) :
    Calls Try.prog 21 #[.string b] w fun e w' => e = .returned (.int .i64 (whole (recs b.data.toList) : Int)) ∧ Below w.heap.size w w' := by
  have hu3 := Try.underlying3
  have hu9 := Try.underlying9
  refine (callsIn_wide (n := 9)).1 ?_
  refine callsIn_of_wp_marks Try.func21 rfl trivial ?_ rfl
  simp only [Try.ntmps21, List.size_toArray, List.length_cons, List.length_nil, Nat.reduceAdd, Nat.reduceSub, Array.replicate_succ, Array.replicate_zero, List.push_toArray, List.append_toArray, List.nil_append, List.cons_append]
  gi_wp2_with (refine ⟨trivial, ?_⟩; gi_at_call 19; refine callsIn_wide.2 ?_; refine (all_ok b _).mono ?_; rintro e w7 ⟨rfl, rfl⟩)
  have b1 := (Boxed.new w 3 (.int .i64 0)).alloc (.cells #[.string b] 9)
  have b2 := Boxed.new (w.alloc (.cells #[.int .i64 0] 3)) 9 (.string b)
  simp only [World.size_alloc] at b2
  have hB0 : Below w.heap.size w ((w.alloc (.cells #[.int .i64 0] 3)).alloc (.cells #[.string b] 9)) := below_alloc (below_alloc (Below.refl _ _) _) _
  have hsz : ((w.alloc (.cells #[.int .i64 0] 3)).alloc (.cells #[.string b] 9)).heap.size = w.heap.size + 2 := by simp
  generalize (w.alloc (.cells #[.int .i64 0] 3)).alloc (.cells #[.string b] 9) = W0 at b1 b2 hB0 hsz ⊢
  obtain ⟨N, hN⟩ : ∃ N, N = w.heap.size := ⟨_, rfl⟩
  rw [← hN] at b1 b2 hB0 hsz ⊢
  have HN := Aside0.mk hN
  clear hN
  have hrl : (recs b.data.toList).length ≤ 100000 := by have := recs_len b.data.toList; rw [data_length] at this; omega
  refine name_actIn (fun T hT => ?_)
  dsimp only at hT
  have HT := Aside0.mk hT
  clear hT
  refine wpIn_rangeFunc_ownH rfl (by decide) (gf := 25) (lb := #[.pointer (some ⟨N + 1, 0, none⟩)]) rfl trivial (enters_of Try.func25 (by kernel_rfl) rfl)
    (all_stops HO 8 (by decide) (N + 1) b hb W0 b2.cell) (fun _ _ => trivial) (fun _ _ _ _ _ _ _ _ => trivial) (Below.refl _ _) (fun _ => rfl)
    (fun pre W => Boxed W N 3 (.int .i64 (whole pre : Int)) ∧ (Below N w W ∧ W0.heap.size ≤ W.heap.size))
    (fun c pre W => False)
    (OwnFrom.and (Own.from (boxed_own N 3 (fun pre : List Ld => .int .i64 (whole pre : Int))) _) (OwnFrom.and (ownFrom_below (by rw [HN.out]; exact Nat.le_refl _) (by omega)) (fun _ X Y row hs hg hr => Nat.le_trans hs hg.size)))
    (fun c => ownFrom_pure _ (fun _ => False))
    ⟨b1, hB0, Nat.le_refl _⟩
    (fun x a' W => a' = ⟨(T.setIfInBounds 7 (.string x.1)).setIfInBounds 4 (.string x.1), []⟩)
    (fun x a' _ X Y row hs hg hr => hs)
    ?assign ?body ?done ?stop
  case assign =>
    rintro lp pre ⟨x, hx⟩ W K hI hK
    gi_wp2
    exact hK _ _ ⟨Nat.le_refl _, fun k o hk h0 ho => h0⟩ trivial hI (by rw [HT.out]; rfl)
  case stop =>
    rintro D c pre W hD hpre hF hK
    exact hF.elim
  case body =>
    rintro lp pre ⟨x, hx⟩ a' W hlp ⟨r, hr⟩ ⟨iK, iB, iS⟩ rfl hlt
    rw [HT.out]
    simp only [List.setIfInBounds_toArray, List.set_cons_zero, List.set_cons_succ]
    have c3 := iK.cell
    have f3 := iK.frozen
    have hw := whole_le pre
    have hwn : whole (pre ++ [⟨x, hx⟩]) = whole pre + (2 + x.size + 4) := by rw [whole_append]; simp [whole]; omega
    have HW := Aside0.mk hwn
    have hwb : whole pre ≤ 103000000 := by omega
    clear hwn hw
    generalize whole pre = n at c3 iK HW hwb
    gi_wp2
    refine ⟨(KeepsOthers.setCell _ _ _).from _, trivial, ?_, iB.setCell (p := ⟨N, 0, none⟩) (by simp) _, by simpa using iS⟩
    rw [HW.out, Int.natCast_add, Int.natCast_add, Int.natCast_add]
    exact Boxed.set _ iK
  case done =>
    rintro D zs W hD rfl ⟨iK, iB, iS⟩ hK
    have c3 := iK.cell
    gi_wp2
    refine ⟨by simp, .inl ⟨_, _, rfl, run_takeDeferred hK, ?_⟩⟩
    have hbe : Below N w (W.putObj D (.deferred none)) := iB.trans (belowK_b (w := w) (by rw [HN.out]; exact Nat.le_refl _) _ D _ (.deferred none) (by rw [← HN.out]; omega) hK rfl rfl)
    exact ⟨_, results_tmp rfl _ _ _, rfl, HN.out ▸ hbe⟩
end
/-- what a round that goes on keeps: all that was there, but one cell -/
def KeepK (n₀ gk : Nat) (A B : World) : Prop := A.heap.size ≤ B.heap.size ∧ ∀ b, b < n₀ → b ≠ gk → B.heap[b]? = A.heap[b]?
theorem KeepK.refl (n₀ gk : Nat) (A : World) : KeepK n₀ gk A A := ⟨Nat.le_refl _, fun _ _ _ => rfl⟩
theorem KeepK.trans {n₀ gk : Nat} {A B C : World} (h : KeepK n₀ gk A B) (k : KeepK n₀ gk B C) : KeepK n₀ gk A C := ⟨Nat.le_trans h.1 k.1, fun b h1 h2 => (k.2 b h1 h2).trans (h.2 b h1 h2)⟩
theorem KeepK.of {n₀ gk : Nat} {A B : World} (h : Below A.heap.size A B) (hn : n₀ ≤ A.heap.size) : KeepK n₀ gk A B := ⟨h.size, fun b h1 _ => h.block b (Nat.lt_of_lt_of_le h1 hn)⟩
theorem KeepK.book {n₀ gk : Nat} {w : World} (hn : n₀ ≤ w.heap.size) (W : World) (l : Nat) (o o' : Obj) (hl : w.heap.size ≤ l) (h : W.heap[l]? = some o) (h1 : o.isCells = false) (h2 : o.isWalk = false) : KeepK n₀ gk W (W.putObj l o') :=
  have k := belowK_b hn W l o o' hl h h1 h2
  ⟨k.size, fun b hb _ => k.block b hb⟩
theorem KeepK.set {n₀ gk : Nat} (A : World) (i : Nat) (v : Value) : KeepK n₀ gk A (A.setCell ⟨gk, i, none⟩ v) :=
  have k := KeepBut.set_ (KeepBut.refl A gk none) i v
  ⟨k.1, fun b _ h2 => by
    by_cases hb : b < A.heap.size
    · exact k.2 b hb h2 (by simp)
    · have h0 : A.heap.size ≤ b := by omega
      have h1 : (A.setCell ⟨gk, i, none⟩ v).heap.size ≤ b := by simpa using h0
      rw [Array.getElem?_eq_none h0, Array.getElem?_eq_none h1]⟩
theorem keepK_own {β : Type} {n gk : Nat} {W₀ : World} (hn : n ≤ W₀.heap.size) : OwnFrom n (fun (_ : β) W => KeepK n gk W₀ W) := fun _ X Y row hs hg hr =>
  hs.trans ⟨hg.size, fun b hb _ => hg.block b (Nat.lt_of_lt_of_le hb (Nat.le_trans hn hs.1)) (fun e => by have := (hr b e.symm).1; omega)⟩
theorem at_below {W W' : World} (k : Below W.heap.size W W') {p : Addr} {v : Value} (h : W.cell? p = some v) : W'.cell? p = some v := (k.cell (p := p) (World.block_lt_of_cell? _ _ h)).trans h
theorem ty_ne {W : World} {a b : Nat} {C C' : Array Value} {e e' : TypeId} (h : W.heap[a]? = some (.cells C e (0, 0))) (h' : W.heap[b]? = some (.cells C' e' (0, 0))) (hne : e ≠ e') : a ≠ b := fun q => by
  rw [q, h'] at h
  injection h with h
  injection h with _ h _
  exact hne h.symm
theorem R_exactS {e : TypeId} {w : World} {base : Nat} {ok : Nat → Prop} {v : Value} {xs : List ByteArray} (h : Kd.string.R e w base ok v xs) : Kd.string.R e w base (fun k => v.ownBlock = some k) v xs :=
  ⟨fun k hk => hk, h.2.imp_ (fun x cs hp => hp)⟩
/-- the law's own variables -/
structure St8 (w W : World) (g : Nat) (stop : Int) : Prop where
  c5 : W.heap[g]? = some (.cells #[.int .i64 stop] 3 (0, 0))
  cr : W.heap[g + 1]? = some (.cells #[.bool false] 4 (0, 0))
  bel : Below w.heap.size w W
  gl : w.heap.size ≤ g
theorem St8.below {w W W' : World} {g : Nat} {stop : Int} (h : St8 w W g stop) (k : Below W.heap.size W W') : St8 w W' g stop :=
  ⟨(k.block _ (blk_lt h.c5)).trans h.c5, (k.block _ (blk_lt h.cr)).trans h.cr, h.bel.trans (k.mono h.bel.size), h.gl⟩
structure St9 (w W : World) (g gv : Nat) (stop : Int) (v : Value) (want : List ByteArray) : Prop where
  s8 : St8 w W g stop
  cv : W.heap[gv]? = some (.cells #[v] 33 (0, 0))
  rw : Kd.string.R 9 W w.heap.size (fun k => v.ownBlock = some k) v want
theorem St9.below {w W W' : World} {g gv : Nat} {stop : Int} {v : Value} {want : List ByteArray} (h : St9 w W g gv stop v want) (k : Below W.heap.size W W') : St9 w W' g gv stop v want :=
  ⟨h.s8.below k, (k.block _ (blk_lt h.cv)).trans h.cv, Kd.R_below h.rw k⟩
theorem St9.keptK {w W W' : World} {g gv gk : Nat} {stop : Int} {v : Value} {want : List ByteArray} {C : Array Value} (h : St9 w W g gv stop v want) (hk : W.heap[gk]? = some (.cells C 3 (0, 0))) (hne : g ≠ gk) (k : KeepK W.heap.size gk W W') (hB : Below w.heap.size w W') : St9 w W' g gv stop v want := by
  have kb : ∀ {b : Nat} {o : Obj}, W.heap[b]? = some o → b ≠ gk → W'.heap[b]? = some o := fun h0 h1 => (k.2 _ (Array.getElem?_eq_some_iff.1 h0).1 h1).trans h0
  exact ⟨⟨kb h.s8.c5 hne, kb h.s8.cr (ty_ne h.s8.cr hk (by decide)), hB, h.s8.gl⟩, kb h.cv (ty_ne h.cv hk (by decide)), Kd.R_step h.rw (fun b hb hl => k.2 b hl (fun e => Kd.R_ne h.rw hk (by decide) (by rw [hb, e])))⟩
theorem ld_step {R pre : List Ld} {x : ByteArray} {hx : x.size ≤ 1024} (h : pre <+: R) (hk : pre.length < R.length) :
    (pre ++ [(⟨x, hx⟩ : Ld)]) <+: R ↔ x = rdOf ByteArray.empty (R.map (·.1)) (pre.length : Int) := by
  have h1 := List.prefix_iff_eq_take.1 h
  have hv : rdOf ByteArray.empty (R.map (·.1)) (pre.length : Int) = (R[pre.length]).1 := by
    unfold rdOf
    rw [Int.toNat_natCast, List.getD_eq_getElem?_getD, List.getElem?_map, List.getElem?_eq_getElem hk]
    rfl
  rw [List.prefix_iff_eq_take, List.length_append, List.length_singleton, hv, List.take_succ_eq_append_getElem hk, ← h1]
  constructor
  · intro q
    have q' := List.append_cancel_left q
    injection q' with q' _
    exact congrArg Subtype.val q'
  · intro q
    congr 1
    congr 1
    exact Subtype.ext q
theorem ld_long {R pre : List Ld} {x : Ld} (hk : R.length ≤ pre.length) : ¬ (pre ++ [x]) <+: R := fun h => by
  have := h.length_le
  simp at this
  omega
def countermandlaw02_WaferRows.Pure : Prop := (∃ k, countermandlaw02_alive.f k = some true) ∧ (∀ l0 : List ByteArray, ∃ k b, countermandlaw02_great.f k l0 = some b ∧ (b = false → l0.length ≤ 20)) ∧ (∀ l0 : List ByteArray, l0.length ≤ 20 → ∃ (k : Nat) (t : List UInt8), rowF k l0 = some t ∧ countermandref02_Row.f k l0 = some ⟨t.toArray⟩ ∧ t.length ≤ 20600) ∧ HOpen ∧ (∀ s : ByteArray, s.size ≤ 100000 → ∃ k, countermandref02_All.f k s = some ((recs s.data.toList).map (·.1))) ∧ (∀ x : Ld, ∃ k c, countermandref02_Close.f k x.1 = some c ∧ c.size = x.1.size + 6)
theorem ownFrom_or {β : Type} {B : Nat} {I I' : β → World → Prop} (h : OwnFrom B I) (h' : OwnFrom B I') : OwnFrom B (fun s W => I s W ∨ I' s W) := fun s W W' row hs hg hr => hs.imp (fun q => h s W W' row q hg hr) (fun q => h' s W W' row q hg hr)
theorem name_act {P : Program} {c : Code} {Q : Exit → Act → World → Prop} {a : Act} {w : World} (h : ∀ T, T = a.tmps → Code.wp P c Q a w) : Code.wp P c Q a w := h _ rfl
section
attribute [local go_sem] Oper.semAt_some
set_option maxHeartbeats 12800000 in
set_option maxRecDepth 100000 in
theorem rows_main (P : countermandlaw02_WaferRows.Pure) (A0 : Option Addr) (c0 : Nat) (l0 : List ByteArray) (more : ByteArray) (stop : Int) (w : World) (hr0 : Kd.C Kd.string w A0 l0.length l0) (hc0 : l0.length ≤ c0) :
    Calls Try.prog 8 #[.slice A0 l0.length c0, .string more, .int .i64 stop] w fun e w' => e = .returned (.bool true) ∧ Below w.heap.size w w' := by
  have hu33 := Try.underlying33
  have hu9 := Try.underlying9
  have hu3 := Try.underlying3
  have hu4 := Try.underlying4
  obtain ⟨⟨ka, ha⟩, hgr, hrow, HO, hall, hcl⟩ := P
  obtain ⟨kg, bg, hg, hgb⟩ := hgr l0
  have AL := countermandlaw02_alive.calls ka true
  have H := Aside0.mk (And.intro hr0 (And.intro hg (And.intro hgb (And.intro hrow (And.intro HO (And.intro hall hcl))))))
  clear hr0 hg hgb hgr hrow HO hall hcl
  refine (callsIn_wide (n := 9)).1 ?_
  refine callsIn_of_wp_marks Try.func8 rfl trivial ?_ rfl
  simp only [Try.ntmps8, List.size_toArray, List.length_cons, List.length_nil, Nat.reduceAdd, Nat.reduceSub, Array.replicate_succ, Array.replicate_zero, List.push_toArray, List.append_toArray, List.nil_append, List.cons_append]
  refine wpIn_wide.2 ?_
  have K0 := Aside0.mk (show St8 w ((w.alloc (.cells #[.int .i64 stop] 3)).alloc (.cells #[.bool false] 4)) w.heap.size stop from
    ⟨(Below.heap_alloc _ _ _ (by simp)).trans (heap_alloc_new w _), by have h := heap_alloc_new (w.alloc (.cells #[.int .i64 stop] 3)) (.cells #[.bool false] 4); rwa [World.size_alloc] at h, below_alloc (below_alloc (Below.refl _ _) _) _, Nat.le_refl _⟩)
  go_wp2_with (go_at_call 9; (with_reducible refine (AL _ ha).mono ?_); rintro e w1 ⟨rfl, hB1⟩)
  have K1 := Aside0.mk (K0.out.below hB1)
  generalize w.heap.size = g at K0 K1 ⊢
  clear K0 hB1 AL
  refine (countermandlaw02_great.calls kg A0 c0 l0 bg w1 (Kd.C_below H.out.1 K1.out.bel) hc0 H.out.2.1).mono ?_
  rintro e w2 ⟨rfl, ⟨n2, rfl⟩⟩
  have K2 := Aside0.mk (K1.out.below (pw_below_drewN (Below.refl _ _) n2))
  generalize w1.drewN n2 = w2 at K2 ⊢
  clear K1
  have r2 : w2.cell? ⟨g + 1, 0, none⟩ = some (.bool false) := (blk_cell K2.out.cr 0).trans rfl
  have f2 := blk_frozen K2.out.cr
  have hgl : w.heap.size ≤ g + 1 := by have := K2.out.gl; omega
  cases bg
  · have hl20 := H.out.2.2.1 rfl
    obtain ⟨kt, t, ht, hrt, htl⟩ := H.out.2.2.2.1 l0 hl20
    have HT := Aside0.mk (And.intro ht hrt)
    clear ht hrt
    by_cases hm : more.size > 2048
    · have p1 : decide ((2048 : Int) < (more.size : Int)) = true := decide_eq_true (by omega)
      go_wp2
      exact ⟨_, results_bool (by rfl) _ _ (g + 1) (.bool true) (by rfl) ((blk_cell (blk_set K2.out.cr 0 (.bool true)) 0).trans rfl), rfl, below_set K2.out.bel hgl⟩
    · have p1 : decide ((2048 : Int) < (more.size : Int)) = false := decide_eq_false (by omega)
      go_wp2_with (go_at_call 17; refine (wafer_Row.calls kt A0 c0 l0 t _ (Kd.C_below H.out.1 K2.out.bel) hc0 HT.out.1 (by omega) (by omega)).mono ?_; rintro e w3 ⟨rfl, hB3⟩; have K3 := Aside0.mk (K2.out.below hB3); have e0 : ((⟨t.toArray⟩ : ByteArray).size + more.size ≤ 9223372036854775807) = True := eq_true (by show t.toArray.size + _ ≤ _; simp; omega); have e1 : (9223372036854775807 < (⟨t.toArray⟩ : ByteArray).size + more.size) = False := eq_false (by show ¬ 9223372036854775807 < t.toArray.size + _; simp; omega))
      obtain ⟨b, hb⟩ : ∃ b, b = (⟨t.toArray⟩ : ByteArray) ++ more := ⟨_, rfl⟩
      have hbs : b.size ≤ 100000 := by rw [hb, ByteArray.size_append]; show t.toArray.size + _ ≤ _; simp; omega
      rw [← hb]
      clear hb e0 e1
      obtain ⟨kA, hA⟩ := H.out.2.2.2.2.2.1 b hbs
      have hrl : (recs b.data.toList).length ≤ 100000 := by have := recs_len b.data.toList; rw [data_length] at this; omega
      refine (countermandref02_All.calls kA b _ w3 hA).mono ?_
      rintro e w4 ⟨v0, rfl, hv0, hB4⟩
      have K4 := Aside0.mk (K3.out.below hB4)
      have RS := Aside0.mk (R_exactS (Kd.R_lower hv0 K3.out.bel.size))
      have hs := Kd.R_slice hv0
      rw [List.length_map] at hs
      obtain ⟨Av, cv, rfl⟩ := hs
      clear hv0 hA hB4 K3
      go_wp2_with (go_at_call 19; refine (all_ok b _).mono ?_; rintro e w7 ⟨rfl, rfl⟩)
      have hb1 := below_alloc (Below.refl w4.heap.size w4) (.cells #[.slice Av (recs b.data.toList).length cv] 33)
      have K5 := Aside0.mk (show St9 w (w4.alloc (.cells #[.slice Av (recs b.data.toList).length cv] 33)) g w4.heap.size stop (.slice Av (recs b.data.toList).length cv) ((recs b.data.toList).map (·.1)) from ⟨K4.out.below hb1, heap_alloc_new w4 _, Kd.R_below RS.out hb1⟩)
      have hs1 : (w4.alloc (.cells #[.slice Av (recs b.data.toList).length cv] 33)).heap.size = w4.heap.size + 1 := by simp
      clear hb1 RS K4
      generalize w4.alloc (.cells #[.slice Av (recs b.data.toList).length cv] 33) = W5 at K5 hs1 ⊢
      generalize w4.heap.size = gv at K5 hs1 ⊢
      have hb2 := below_alloc (Below.refl W5.heap.size W5) (.cells #[.int .i64 0] 3)
      have K6 := Aside0.mk (K5.out.below hb2)
      have hk6 := heap_alloc_new W5 (.cells #[.int .i64 0] 3)
      have hs2 : (W5.alloc (.cells #[.int .i64 0] 3)).heap.size = W5.heap.size + 1 := by simp
      have hg5 : g < W5.heap.size := blk_lt K5.out.s8.c5
      generalize W5.alloc (.cells #[.int .i64 0] 3) = W6 at K6 hk6 hs2 ⊢
      rw [hs1] at hk6 hs2 hg5
      have hb3 := below_alloc (Below.refl W6.heap.size W6) (.cells #[.string b] 9)
      have K7 := Aside0.mk (K6.out.below hb3)
      have hk7 := (hb3.block _ (blk_lt hk6)).trans hk6
      have hc7 := heap_alloc_new W6 (.cells #[.string b] 9)
      rw [hs2] at hc7
      generalize W6.alloc (.cells #[.string b] 9) = W0 at K7 hk7 hc7 ⊢
      have hne : g ≠ gv + 1 := by omega
      have hgk : w.heap.size ≤ gv + 1 := by have := K7.out.s8.gl; omega
      clear hb2 hb3 hk6 hs1 hs2 hg5 K5 K6 K2 r2 f2
      generalize gv + 1 = gk at hk7 hc7 hne hgk ⊢
      refine name_act (fun T hT => ?_)
      dsimp only at hT
      have HT2 := Aside0.mk hT
      clear hT
      refine (wpIn_wide (n := 9)).1 ?_
      refine wpIn_rangeFunc_ownH rfl (by decide) (gf := 25) (lb := #[.pointer (some ⟨gk + 1, 0, none⟩)]) rfl trivial (enters_of Try.func25 (by kernel_rfl) rfl)
        (all_stops H.out.2.2.2.2.1 8 (by decide) (gk + 1) b hbs W0 ((blk_cell hc7 0).trans rfl)) (fun _ _ => trivial) (fun _ _ _ _ _ _ _ _ => trivial) (Below.refl _ _) (fun _ => rfl)
        (fun pre W => Boxed W gk 3 (.int .i64 (pre.length : Int)) ∧ Below w.heap.size w W ∧ KeepK W0.heap.size gk W0 W ∧ pre <+: (recs b.data.toList))
        (fun c pre W => Below w.heap.size w W ∧ ((c = .ret ∧ Boxed W (g + 1) 4 (.bool false) ∧ ¬ pre <+: (recs b.data.toList)) ∨ (c = .exit 0 ∧ Boxed W gk 3 (.int .i64 (pre.length : Int)) ∧ KeepK W0.heap.size gk W0 W ∧ (pre.length : Int) = stop)))
        (OwnFrom.and (Own.from (boxed_own gk 3 (fun pre : List Ld => .int .i64 (pre.length : Int))) _) (OwnFrom.and (ownFrom_below (Nat.le_refl _) K7.out.s8.bel.size) (OwnFrom.and (keepK_own (Nat.le_refl _)) (ownFrom_pure _ (fun pre : List Ld => pre <+: (recs b.data.toList))))))
        (fun c => OwnFrom.and (ownFrom_below (Nat.le_refl _) K7.out.s8.bel.size) (ownFrom_or (OwnFrom.and (ownFrom_pure _ (fun _ : List Ld => c = .ret)) (OwnFrom.and (Own.from (boxed_own (g + 1) 4 (fun _ : List Ld => .bool false)) _) (ownFrom_pure _ (fun pre : List Ld => ¬ pre <+: (recs b.data.toList))))) (OwnFrom.and (ownFrom_pure _ (fun _ : List Ld => c = .exit 0)) (OwnFrom.and (Own.from (boxed_own gk 3 (fun pre : List Ld => .int .i64 (pre.length : Int))) _) (OwnFrom.and (keepK_own (Nat.le_refl _)) (ownFrom_pure _ (fun pre : List Ld => (pre.length : Int) = stop)))))))
        ⟨hk7, K7.out.s8.bel, KeepK.refl _ _ _, List.nil_prefix⟩
        (fun x a' W => a' = ⟨(T.setIfInBounds 31 (.string x.1)).setIfInBounds 11 (.string x.1), []⟩)
        (fun x a' _ X Y row hs hg hr => hs)
        ?assign ?body ?done ?stop
      case assign =>
        rintro lp pre ⟨x, hx⟩ W K hI hK
        gi_wp2
        exact hK _ _ ⟨Nat.le_refl _, fun k o hk h0 ho => h0⟩ trivial hI (by rw [HT2.out]; rfl)
      case body =>
        rintro lp pre ⟨x, hx⟩ a' W hlp ⟨r, hr⟩ ⟨iK, iB, hKK, iP⟩ rfl hlt
        have K := Aside0.mk (K7.out.keptK hk7 hne hKK iB)
        have hpl := iP.length_le
        have IP := Aside0.mk iP
        rw [HT2.out]
        simp only [List.setIfInBounds_toArray, List.set_cons_zero, List.set_cons_succ]
        clear HT2 iP
        have ck : W.cell? ⟨gk, 0, none⟩ = some (.int .i64 (pre.length : Int)) := iK.cell
        have cf := iK.frozen
        have cw : W.cell? ⟨gv, 0, none⟩ = some (.slice Av (recs b.data.toList).length cv) := (blk_cell K.out.cv 0).trans rfl
        have cr : W.cell? ⟨g + 1, 0, none⟩ = some (.bool false) := (blk_cell K.out.s8.cr 0).trans rfl
        have crf := blk_frozen K.out.s8.cr
        have c5 : W.cell? ⟨g, 0, none⟩ = some (.int .i64 stop) := (blk_cell K.out.s8.c5 0).trans rfl
        obtain ⟨k, hkk⟩ : ∃ k, k = pre.length := ⟨_, rfl⟩
        have HK := Aside0.mk hkk
        rw [← hkk] at ck hpl
        have p0 : ((0 : Int) ≤ (k : Int)) = True := eq_true (by omega)
        by_cases hlong : (recs b.data.toList).length ≤ k
        · have q0 : decide (((recs b.data.toList).length : Int) ≤ (k : Int)) = true := decide_eq_true (by omega)
          have HE := Aside0.mk (ld_long (x := ⟨x, hx⟩) (hkk ▸ hlong))
          clear hkk
          gi_wp2
          exact ⟨(KeepsOthers.setCell _ _ _).from _, below_set iB hgl, .inl ⟨rfl, Boxed.set _ K.out.s8.cr, HE.out⟩⟩
        · have q0 : decide (((recs b.data.toList).length : Int) ≤ (k : Int)) = false := decide_eq_false (by omega)
          have p1 : ((k : Int) < ((recs b.data.toList).length : Int)) = True := eq_true (by omega)
          obtain ⟨ad, rfl, t0⟩ := Kd.at_string (Kd.R_reads' K.out.rw).2.2 (k : Int) (by omega) (by rw [List.length_map]; omega)
          simp only [Int.toNat_natCast] at t0
          obtain ⟨y, hy⟩ : ∃ y, y = rdOf ByteArray.empty ((recs b.data.toList).map (·.1)) (k : Int) := ⟨_, rfl⟩
          rw [← hy] at t0
          have HE := Aside0.mk (ld_step (hx := hx) IP.out (by omega))
          rw [← hkk, ← hy] at HE
          clear hy hkk
          by_cases hxy : x = y
          · have HE := Aside0.mk (HE.out.2 hxy)
            have b0 : (x.toList == y.toList) = true := by rw [hxy]; exact beq_iff_eq.mpr rfl
            have ck2 : (W.setCell ⟨gk, 0, none⟩ (.int .i64 ((k : Int) + 1))).cell? ⟨gk, 0, none⟩ = some (.int .i64 ((k : Int) + 1)) := (blk_cell (blk_set iK 0 (.int .i64 ((k : Int) + 1))) 0).trans rfl
            have c52 : (W.setCell ⟨gk, 0, none⟩ (.int .i64 ((k : Int) + 1))).cell? ⟨g, 0, none⟩ = some (.int .i64 stop) := (blk_cell ((Below.heap_setCell W ⟨gk, 0, none⟩ _ g hne).trans K.out.s8.c5) 0).trans rfl
            have hK1 : KeepK W0.heap.size gk W0 (W.setCell ⟨gk, 0, none⟩ (.int .i64 ((k : Int) + 1))) := hKK.trans (KeepK.set _ _ _)
            have hlen : (((pre ++ [(⟨x, hx⟩ : Ld)]).length : Nat) : Int) = (k : Int) + 1 := by rw [List.length_append, List.length_singleton, ← HK.out]; rfl
            have hbx : Boxed (W.setCell ⟨gk, 0, none⟩ (.int .i64 ((k : Int) + 1))) gk 3 (.int .i64 (((pre ++ [(⟨x, hx⟩ : Ld)]).length : Nat) : Int)) := by rw [hlen]; exact Boxed.set _ iK
            have hBx : Below w.heap.size w (W.setCell ⟨gk, 0, none⟩ (.int .i64 ((k : Int) + 1))) := below_set iB hgk
            have XX := Aside0.mk (And.intro hK1 (And.intro hlen (And.intro hbx hBx)))
            clear hxy hK1 hlen hbx hBx
            by_cases hs : (k : Int) + 1 = stop
            · have z0 : (((k : Int) + 1) == stop) = true := by simpa using hs
              have HS := Aside0.mk hs
              clear hs
              gi_wp2
              exact ⟨(KeepsOthers.setCell _ _ _).from _, XX.out.2.2.2, .inr ⟨rfl, XX.out.2.2.1, XX.out.1, by rw [XX.out.2.1]; exact HS.out⟩⟩
            · have z0 : (((k : Int) + 1) == stop) = false := by simpa using hs
              clear hs
              gi_wp2
              exact ⟨(KeepsOthers.setCell _ _ _).from _, trivial, XX.out.2.2.1, XX.out.2.2.2, XX.out.1, HE.out⟩
          · have HE := Aside0.mk (fun q => hxy (HE.out.1 q))
            have b0 : (x.toList == y.toList) = false := beq_eq_false_iff_ne.mpr (fun q => hxy (ba_ext (by simpa only [ByteArray.toList_eq] using q)))
            clear hxy
            gi_wp2
            exact ⟨(KeepsOthers.setCell _ _ _).from _, below_set iB hgl, .inl ⟨rfl, Boxed.set _ K.out.s8.cr, HE.out⟩⟩
      case stop =>
        rintro D c pre W hDs hpre ⟨iB, ⟨rfl, i4, iP⟩ | ⟨rfl, iK, hKK, iS⟩⟩ hK
        · exact absurd hpre iP
        · have hpl := hpre.length_le
          have K10 := Aside0.mk (K7.out.keptK hk7 hne hKK iB)
          have X10 := Aside0.mk (show W.heap[gk]? = some (.cells #[.int .i64 (pre.length : Int)] 3 (0, 0)) from iK)
          have hDr : g + 1 < W0.heap.size := blk_lt K7.out.s8.cr
          have hDw : w.heap.size ≤ W0.heap.size := K7.out.s8.bel.size
          have cw : W.cell? ⟨gv, 0, none⟩ = some (.slice Av (recs b.data.toList).length cv) := (blk_cell K10.out.cv 0).trans rfl
          clear K7 hc7 HT2 hk7 hKK iK hgk hne
          obtain ⟨kf, hkf⟩ : ∃ kf, kf = pre.length := ⟨_, rfl⟩
          rw [← hkf] at X10
          have HFN := Aside0.mk (show (kf : Int) = stop ∨ kf = (recs b.data.toList).length from by rw [hkf]; exact .inl iS)
          clear hkf
          gi_wp2
          go_wp2
          go_loopg [51, 10] (recs b.data.toList).length (fun m v nn wr => ∃ j : Nat, v = .int .i64 (j : Int) ∧ nn = .int .i64 (whole ((recs b.data.toList).take j) : Int) ∧ m + j = (recs b.data.toList).length ∧ Aside0 (Below W.heap.size W wr))
          case atStart => exact ⟨0, rfl, rfl, by omega, ⟨Below.refl _ _⟩⟩
          case round =>
            obtain ⟨j, rfl, rfl, hj, HB⟩ := hrel
            have hwb := whole_le ((recs b.data.toList).take j)
            rw [List.length_take] at hwb
            by_cases hlt2 : j < (recs b.data.toList).length
            · have q0 : decide ((j : Int) < ((recs b.data.toList).length : Int)) = true := decide_eq_true (by omega)
              obtain ⟨ad, rfl, x0⟩ := Kd.at_string (Kd.C_below (Kd.R_reads' K10.out.rw).2.2 HB.out) (j : Int) (by omega) (by rw [List.length_map]; omega)
              simp only [Int.toNat_natCast] at x0
              have p0 : ((0 : Int) ≤ (j : Int)) = True := eq_true (by omega)
              have p1 : ((j : Int) < ((recs b.data.toList).length : Int)) = True := eq_true (by omega)
              have hv : rdOf ByteArray.empty ((recs b.data.toList).map (·.1)) (j : Int) = ((recs b.data.toList)[j]).1 := by
                unfold rdOf
                rw [Int.toNat_natCast, List.getD_eq_getElem?_getD, List.getElem?_map, List.getElem?_eq_getElem hlt2]
                rfl
              have hw : whole ((recs b.data.toList).take (j + 1)) = whole ((recs b.data.toList).take j) + ((recs b.data.toList)[j].1.size + 6) := by rw [List.take_succ_eq_append_getElem hlt2, whole_append]; simp [whole]
              rw [hv] at x0
              clear hv
              generalize (recs b.data.toList)[j] = x at x0 hw
              obtain ⟨kc, cc, hcc, hcs⟩ := H.out.2.2.2.2.2.2 x
              have hx2 := x.2
              have HW := Aside0.mk (show (whole ((recs b.data.toList).take (j + 1)) : Int) = (whole ((recs b.data.toList).take j) : Int) + (cc.size : Int) from by rw [hw, hcs]; push_cast; rfl)
              have hwb2 : whole ((recs b.data.toList).take j) ≤ 103000000 := by omega
              have hcs2 : cc.size ≤ 2000 := by omega
              clear hw hwb hcs
              generalize whole ((recs b.data.toList).take j) = n at HW hwb2 ⊢
              have CL := fun W => countermandref02_Close.calls kc x.1 cc W hcc
              go_wp2_with (go_at_call 13; refine (CL _).mono ?_; rintro e w5 ⟨rfl, hb5⟩)
              go_roundg ((recs b.data.toList).length - (j + 1))
              case rel => exact ⟨j + 1, (by rw [Int.natCast_add]; rfl), (by rw [HW.out]), by omega, ⟨HB.out.trans (hb5.mono HB.out.size)⟩⟩
              case measure => omega
            · have q0 : decide ((j : Int) < ((recs b.data.toList).length : Int)) = false := decide_eq_false (by omega)
              obtain rfl : j = (recs b.data.toList).length := by omega
              have hnw : whole ((recs b.data.toList).take (recs b.data.toList).length) = whole (recs b.data.toList) := by rw [List.take_length]
              rw [hnw]
              clear hnw hwb hlt2
              have KW := Aside0.mk (K10.out.below HB.out)
              have XW := Aside0.mk ((HB.out.block _ (blk_lt X10.out)).trans X10.out)
              have DW := Aside0.mk (below_dfr HB.out hK)
              have RO := fun W h => wafer_Row.calls kt A0 c0 l0 t W h hc0 HT.out.1 (by omega) (by omega)
              have RR2 := fun W h => countermandref02_Row.calls kt A0 c0 l0 ⟨t.toArray⟩ W h hc0 HT.out.2
              have WH := fun W => whole_ok H.out.2.2.2.2.1 b hbs W
              have hst : ((⟨t.toArray⟩ : ByteArray).toList == (⟨t.toArray⟩ : ByteArray).toList) = true := beq_iff_eq.mpr rfl
              generalize hn : whole (recs b.data.toList) = n at WH ⊢
              by_cases hs : (kf : Int) = stop
              · have z1 : ((kf : Int) == stop) = true := by simpa using hs
                clear hs
                go_wp2_with (first
                  | (go_at_call 17; refine (RO _ (Kd.C_below H.out.1 KW.out.s8.bel)).mono ?_; rintro e wa ⟨rfl, hb5⟩; have Ka := Aside0.mk (KW.out.below hb5); have Xa := Aside0.mk ((hb5.block _ (blk_lt XW.out)).trans XW.out); have Da := Aside0.mk (below_dfr hb5 DW.out); clear hb5)
                  | (go_at_call 20; refine (RR2 _ (Kd.C_below H.out.1 Ka.out.s8.bel)).mono ?_; rintro e wb ⟨rfl, hb5⟩; have Kb := Aside0.mk (Ka.out.below hb5); have Xb := Aside0.mk ((hb5.block _ (blk_lt Xa.out)).trans Xa.out); have Db := Aside0.mk (below_dfr hb5 Da.out); clear hb5; have ck := (blk_cell Xb.out 0).trans rfl; have c5 := (blk_cell Kb.out.s8.c5 0).trans rfl; have cw := (blk_cell Kb.out.cv 0).trans rfl)
                  | (go_at_call 21; refine (WH _).mono ?_; rintro e wc ⟨rfl, hb5⟩; have Kc := Aside0.mk (Kb.out.below hb5); have Dc := Aside0.mk (below_dfr hb5 Db.out); have cr := (blk_cell Kc.out.s8.cr 0).trans rfl; have crf := blk_frozen Kc.out.s8.cr; clear hb5))
                have KZb : (wc.setCell ⟨g + 1, 0, none⟩ (.bool true)).heap[g + 1]? = some (.cells #[.bool true] 4 (0, 0)) := by simpa using blk_set Kc.out.s8.cr 0 (.bool true)
                have KZB : Below w.heap.size w (wc.setCell ⟨g + 1, 0, none⟩ (.bool true)) := below_set Kc.out.s8.bel hgl
                have hDe := (KeepsOthers.setCell wc ⟨g + 1, 0, none⟩ (.bool true)).same D _ Dc.out rfl
                have hbe := belowK_b (w := W0) (Nat.le_refl _) _ D _ (.deferred none) hDs hDe rfl rfl
                refine ⟨by simp, .inl ⟨_, _, rfl, run_takeDeferred hDe, ?_⟩⟩
                exact ⟨_, results_bool (by rfl) _ _ (g + 1) (.bool true) (by rfl) ((blk_cell ((hbe.block _ hDr).trans KZb) 0).trans rfl), rfl, KZB.trans (hbe.mono hDw)⟩
              · have z1 : ((kf : Int) == stop) = false := by simpa using hs
                have hkl : kf = (recs b.data.toList).length := by rcases HFN.out with h | h; exact absurd h hs; exact h
                subst hkl
                clear hs
                go_wp2_with (first
                  | (go_at_call 17; refine (RO _ (Kd.C_below H.out.1 KW.out.s8.bel)).mono ?_; rintro e wa ⟨rfl, hb5⟩; have Ka := Aside0.mk (KW.out.below hb5); have Xa := Aside0.mk ((hb5.block _ (blk_lt XW.out)).trans XW.out); have Da := Aside0.mk (below_dfr hb5 DW.out); clear hb5)
                  | (go_at_call 20; refine (RR2 _ (Kd.C_below H.out.1 Ka.out.s8.bel)).mono ?_; rintro e wb ⟨rfl, hb5⟩; have Kb := Aside0.mk (Ka.out.below hb5); have Xb := Aside0.mk ((hb5.block _ (blk_lt Xa.out)).trans Xa.out); have Db := Aside0.mk (below_dfr hb5 Da.out); clear hb5; have ck := (blk_cell Xb.out 0).trans rfl; have c5 := (blk_cell Kb.out.s8.c5 0).trans rfl; have cw := (blk_cell Kb.out.cv 0).trans rfl)
                  | (go_at_call 21; refine (WH _).mono ?_; rintro e wc ⟨rfl, hb5⟩; have Kc := Aside0.mk (Kb.out.below hb5); have Dc := Aside0.mk (below_dfr hb5 Db.out); have cr := (blk_cell Kc.out.s8.cr 0).trans rfl; have crf := blk_frozen Kc.out.s8.cr; clear hb5))
                have KZb : (wc.setCell ⟨g + 1, 0, none⟩ (.bool true)).heap[g + 1]? = some (.cells #[.bool true] 4 (0, 0)) := by simpa using blk_set Kc.out.s8.cr 0 (.bool true)
                have KZB : Below w.heap.size w (wc.setCell ⟨g + 1, 0, none⟩ (.bool true)) := below_set Kc.out.s8.bel hgl
                have hDe := (KeepsOthers.setCell wc ⟨g + 1, 0, none⟩ (.bool true)).same D _ Dc.out rfl
                have hbe := belowK_b (w := W0) (Nat.le_refl _) _ D _ (.deferred none) hDs hDe rfl rfl
                refine ⟨by simp, .inl ⟨_, _, rfl, run_takeDeferred hDe, ?_⟩⟩
                exact ⟨_, results_bool (by rfl) _ _ (g + 1) (.bool true) (by rfl) ((blk_cell ((hbe.block _ hDr).trans KZb) 0).trans rfl), rfl, KZB.trans (hbe.mono hDw)⟩
      case done =>
        rintro D zs W hDs rfl ⟨iK, iB, hKK, iP⟩ hK
        have K10 := Aside0.mk (K7.out.keptK hk7 hne hKK iB)
        have X10 := Aside0.mk (show W.heap[gk]? = some (.cells #[.int .i64 ((recs b.data.toList).length : Int)] 3 (0, 0)) from iK)
        have hDr : g + 1 < W0.heap.size := blk_lt K7.out.s8.cr
        have hDw : w.heap.size ≤ W0.heap.size := K7.out.s8.bel.size
        have cw : W.cell? ⟨gv, 0, none⟩ = some (.slice Av (recs b.data.toList).length cv) := (blk_cell K10.out.cv 0).trans rfl
        clear K7 hc7 HT2 hk7 hKK iK hgk hne
        obtain ⟨kf, hkf⟩ : ∃ kf, kf = (recs b.data.toList).length := ⟨_, rfl⟩
        rw [← hkf] at X10
        have HFN := Aside0.mk (show (kf : Int) = stop ∨ kf = (recs b.data.toList).length from by rw [hkf]; exact .inr rfl)
        clear hkf
        go_wp2
        go_loopg [51, 10] (recs b.data.toList).length (fun m v nn wr => ∃ j : Nat, v = .int .i64 (j : Int) ∧ nn = .int .i64 (whole ((recs b.data.toList).take j) : Int) ∧ m + j = (recs b.data.toList).length ∧ Aside0 (Below W.heap.size W wr))
        case atStart => exact ⟨0, rfl, rfl, by omega, ⟨Below.refl _ _⟩⟩
        case round =>
          obtain ⟨j, rfl, rfl, hj, HB⟩ := hrel
          have hwb := whole_le ((recs b.data.toList).take j)
          rw [List.length_take] at hwb
          by_cases hlt2 : j < (recs b.data.toList).length
          · have q0 : decide ((j : Int) < ((recs b.data.toList).length : Int)) = true := decide_eq_true (by omega)
            obtain ⟨ad, rfl, x0⟩ := Kd.at_string (Kd.C_below (Kd.R_reads' K10.out.rw).2.2 HB.out) (j : Int) (by omega) (by rw [List.length_map]; omega)
            simp only [Int.toNat_natCast] at x0
            have p0 : ((0 : Int) ≤ (j : Int)) = True := eq_true (by omega)
            have p1 : ((j : Int) < ((recs b.data.toList).length : Int)) = True := eq_true (by omega)
            have hv : rdOf ByteArray.empty ((recs b.data.toList).map (·.1)) (j : Int) = ((recs b.data.toList)[j]).1 := by
              unfold rdOf
              rw [Int.toNat_natCast, List.getD_eq_getElem?_getD, List.getElem?_map, List.getElem?_eq_getElem hlt2]
              rfl
            have hw : whole ((recs b.data.toList).take (j + 1)) = whole ((recs b.data.toList).take j) + ((recs b.data.toList)[j].1.size + 6) := by rw [List.take_succ_eq_append_getElem hlt2, whole_append]; simp [whole]
            rw [hv] at x0
            clear hv
            generalize (recs b.data.toList)[j] = x at x0 hw
            obtain ⟨kc, cc, hcc, hcs⟩ := H.out.2.2.2.2.2.2 x
            have hx2 := x.2
            have HW := Aside0.mk (show (whole ((recs b.data.toList).take (j + 1)) : Int) = (whole ((recs b.data.toList).take j) : Int) + (cc.size : Int) from by rw [hw, hcs]; push_cast; rfl)
            have hwb2 : whole ((recs b.data.toList).take j) ≤ 103000000 := by omega
            have hcs2 : cc.size ≤ 2000 := by omega
            clear hw hwb hcs
            generalize whole ((recs b.data.toList).take j) = n at HW hwb2 ⊢
            have CL := fun W => countermandref02_Close.calls kc x.1 cc W hcc
            go_wp2_with (go_at_call 13; refine (CL _).mono ?_; rintro e w5 ⟨rfl, hb5⟩)
            go_roundg ((recs b.data.toList).length - (j + 1))
            case rel => exact ⟨j + 1, (by rw [Int.natCast_add]; rfl), (by rw [HW.out]), by omega, ⟨HB.out.trans (hb5.mono HB.out.size)⟩⟩
            case measure => omega
          · have q0 : decide ((j : Int) < ((recs b.data.toList).length : Int)) = false := decide_eq_false (by omega)
            obtain rfl : j = (recs b.data.toList).length := by omega
            have hnw : whole ((recs b.data.toList).take (recs b.data.toList).length) = whole (recs b.data.toList) := by rw [List.take_length]
            rw [hnw]
            clear hnw hwb hlt2
            have KW := Aside0.mk (K10.out.below HB.out)
            have XW := Aside0.mk ((HB.out.block _ (blk_lt X10.out)).trans X10.out)
            have DW := Aside0.mk (below_dfr HB.out hK)
            have RO := fun W h => wafer_Row.calls kt A0 c0 l0 t W h hc0 HT.out.1 (by omega) (by omega)
            have RR2 := fun W h => countermandref02_Row.calls kt A0 c0 l0 ⟨t.toArray⟩ W h hc0 HT.out.2
            have WH := fun W => whole_ok H.out.2.2.2.2.1 b hbs W
            have hst : ((⟨t.toArray⟩ : ByteArray).toList == (⟨t.toArray⟩ : ByteArray).toList) = true := beq_iff_eq.mpr rfl
            generalize hn : whole (recs b.data.toList) = n at WH ⊢
            by_cases hs : (kf : Int) = stop
            · have z1 : ((kf : Int) == stop) = true := by simpa using hs
              clear hs
              go_wp2_with (first
                | (go_at_call 17; refine (RO _ (Kd.C_below H.out.1 KW.out.s8.bel)).mono ?_; rintro e wa ⟨rfl, hb5⟩; have Ka := Aside0.mk (KW.out.below hb5); have Xa := Aside0.mk ((hb5.block _ (blk_lt XW.out)).trans XW.out); have Da := Aside0.mk (below_dfr hb5 DW.out); clear hb5)
                | (go_at_call 20; refine (RR2 _ (Kd.C_below H.out.1 Ka.out.s8.bel)).mono ?_; rintro e wb ⟨rfl, hb5⟩; have Kb := Aside0.mk (Ka.out.below hb5); have Xb := Aside0.mk ((hb5.block _ (blk_lt Xa.out)).trans Xa.out); have Db := Aside0.mk (below_dfr hb5 Da.out); clear hb5; have ck := (blk_cell Xb.out 0).trans rfl; have c5 := (blk_cell Kb.out.s8.c5 0).trans rfl; have cw := (blk_cell Kb.out.cv 0).trans rfl)
                | (go_at_call 21; refine (WH _).mono ?_; rintro e wc ⟨rfl, hb5⟩; have Kc := Aside0.mk (Kb.out.below hb5); have Dc := Aside0.mk (below_dfr hb5 Db.out); have cr := (blk_cell Kc.out.s8.cr 0).trans rfl; have crf := blk_frozen Kc.out.s8.cr; clear hb5))
              have KZb : (wc.setCell ⟨g + 1, 0, none⟩ (.bool true)).heap[g + 1]? = some (.cells #[.bool true] 4 (0, 0)) := by simpa using blk_set Kc.out.s8.cr 0 (.bool true)
              have KZB : Below w.heap.size w (wc.setCell ⟨g + 1, 0, none⟩ (.bool true)) := below_set Kc.out.s8.bel hgl
              have hDe := (KeepsOthers.setCell wc ⟨g + 1, 0, none⟩ (.bool true)).same D _ Dc.out rfl
              have hbe := belowK_b (w := W0) (Nat.le_refl _) _ D _ (.deferred none) hDs hDe rfl rfl
              refine ⟨by simp, .inl ⟨_, _, rfl, run_takeDeferred hDe, ?_⟩⟩
              exact ⟨_, results_bool (by rfl) _ _ (g + 1) (.bool true) (by rfl) ((blk_cell ((hbe.block _ hDr).trans KZb) 0).trans rfl), rfl, KZB.trans (hbe.mono hDw)⟩
            · have z1 : ((kf : Int) == stop) = false := by simpa using hs
              have hkl : kf = (recs b.data.toList).length := by rcases HFN.out with h | h; exact absurd h hs; exact h
              subst hkl
              clear hs
              go_wp2_with (first
                | (go_at_call 17; refine (RO _ (Kd.C_below H.out.1 KW.out.s8.bel)).mono ?_; rintro e wa ⟨rfl, hb5⟩; have Ka := Aside0.mk (KW.out.below hb5); have Xa := Aside0.mk ((hb5.block _ (blk_lt XW.out)).trans XW.out); have Da := Aside0.mk (below_dfr hb5 DW.out); clear hb5)
                | (go_at_call 20; refine (RR2 _ (Kd.C_below H.out.1 Ka.out.s8.bel)).mono ?_; rintro e wb ⟨rfl, hb5⟩; have Kb := Aside0.mk (Ka.out.below hb5); have Xb := Aside0.mk ((hb5.block _ (blk_lt Xa.out)).trans Xa.out); have Db := Aside0.mk (below_dfr hb5 Da.out); clear hb5; have ck := (blk_cell Xb.out 0).trans rfl; have c5 := (blk_cell Kb.out.s8.c5 0).trans rfl; have cw := (blk_cell Kb.out.cv 0).trans rfl)
                | (go_at_call 21; refine (WH _).mono ?_; rintro e wc ⟨rfl, hb5⟩; have Kc := Aside0.mk (Kb.out.below hb5); have Dc := Aside0.mk (below_dfr hb5 Db.out); have cr := (blk_cell Kc.out.s8.cr 0).trans rfl; have crf := blk_frozen Kc.out.s8.cr; clear hb5))
              have KZb : (wc.setCell ⟨g + 1, 0, none⟩ (.bool true)).heap[g + 1]? = some (.cells #[.bool true] 4 (0, 0)) := by simpa using blk_set Kc.out.s8.cr 0 (.bool true)
              have KZB : Below w.heap.size w (wc.setCell ⟨g + 1, 0, none⟩ (.bool true)) := below_set Kc.out.s8.bel hgl
              have hDe := (KeepsOthers.setCell wc ⟨g + 1, 0, none⟩ (.bool true)).same D _ Dc.out rfl
              have hbe := belowK_b (w := W0) (Nat.le_refl _) _ D _ (.deferred none) hDs hDe rfl rfl
              refine ⟨by simp, .inl ⟨_, _, rfl, run_takeDeferred hDe, ?_⟩⟩
              exact ⟨_, results_bool (by rfl) _ _ (g + 1) (.bool true) (by rfl) ((blk_cell ((hbe.block _ hDr).trans KZb) 0).trans rfl), rfl, KZB.trans (hbe.mono hDw)⟩
  · go_wp2
    exact ⟨_, results_bool (by rfl) _ _ (g + 1) (.bool true) (by rfl) ((blk_cell (blk_set K2.out.cr 0 (.bool true)) 0).trans rfl), rfl, below_set K2.out.bel hgl⟩
end
theorem countermandlaw02_WaferRows.walk (P : countermandlaw02_WaferRows.Pure) (a0 : Option Addr) (len0 cap0 : Nat) (z0 : List (ByteArray)) (x0 : ByteArray) (x1 : Int) (w : World) (w0 : z0.length = len0 ∧ Kd.C Kd.string w a0 z0.length z0 ∧ z0.length ≤ cap0 ∧ z0.length ≤ maxLen ∧ (∀ x ∈ z0, x.size ≤ maxLen)) (h0 : x0.size ≤ 140737488351232) (h1 : (Lit.int .i64 x1).wf = true) :
    Calls Try.prog 8 #[.slice a0 len0 cap0, .string x0, .int .i64 x1] w fun e w' => e = .returned (.bool true) ∧ Below w.heap.size w w' := by
  obtain ⟨rfl, hr0, hc0, _⟩ := w0
  exact rows_main P a0 cap0 z0 x0 x1 w hr0 hc0

end Go.Proofs.Ytjegpbaohoigjaa.PWaferRows
