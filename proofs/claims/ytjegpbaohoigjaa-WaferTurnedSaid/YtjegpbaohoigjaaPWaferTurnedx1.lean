/- Written by a program of this session, which began as the kit's print and is turned in wip/printer: the plain form of each function, and that the Go code comes to it. -/
import Derived.Test.YtjegpbaohoigjaaPWaferTurnedx0
namespace Go.Proofs.Ytjegpbaohoigjaa.PWaferTurned
open Go.RowKit Go.Proofs.YtjegpbaohoigjaaW.PrintWords Go.Proofs.YtjegpbaohoigjaaW.PrintLast Go.Proofs.YtjegpbaohoigjaaW.PrintMore
attribute [local go_sem] max2_int min2_int max_two min_two max_three min_three max_four min_four   -- for this text's walks alone
set_option linter.unusedVariables false
set_option linter.unusedSimpArgs false

/-! ### wafer_Sum: function 11 -/
mutual
def wafer_Sum.l0 : Nat → ByteArray → Int → Int → Int → Option (Int)
  | 0, _, _, _, _ => none
  | k + 1, x0, x3, x6, x7 => if x7 < x6 then (if 0 ≤ x7 then (if x7 < (x0.size : Int) then (wafer_Sum.l1 k x0 (Go.bits .xor .u32 x3 ((bt x0 x7) % 4294967296)) x6 x7 0) else (none)) else (none)) else (some (Go.bits .xor .u32 4294967295 x3))
def wafer_Sum.l1 : Nat → ByteArray → Int → Int → Int → Int → Option (Int)
  | 0, _, _, _, _, _ => none
  | k + 1, x0, x3, x6, x7, x16 => if x16 < 8 then (wafer_Sum.l1 k x0 (Go.bits .xor .u32 (x3 / 2) (Go.bits .and .u32 2197175160 ((-(Go.bits .and .u32 x3 1)) % 4294967296))) x6 x7 (wrap64 (x16 + 1))) else (wafer_Sum.l0 k x0 x3 x6 (wrap64 (x7 + 1)))
end
def wafer_Sum.f (k : Nat) (a0 : ByteArray) : Option (Int) := wafer_Sum.l0 k a0 4294967295 (a0.size : Int) 0
theorem wafer_Sum.mono_l : ∀ k, (∀ y0 y1 y2 y3, LeO (wafer_Sum.l0 k y0 y1 y2 y3) (wafer_Sum.l0 (k + 1) y0 y1 y2 y3)) ∧ (∀ y0 y1 y2 y3 y4, LeO (wafer_Sum.l1 k y0 y1 y2 y3 y4) (wafer_Sum.l1 (k + 1) y0 y1 y2 y3 y4))
  | 0 => ⟨fun _ _ _ _ r h => by simp [wafer_Sum.l0] at h, fun _ _ _ _ _ r h => by simp [wafer_Sum.l1] at h⟩
  | k + 1 => by
    obtain ⟨ih0, ih1⟩ := wafer_Sum.mono_l k
    refine ⟨?_, ?_⟩
    · intro y0 y1 y2 y3
      unfold wafer_Sum.l0
      repeat' first
      | (with_reducible exact ih0 _ _ _ _)
      | (with_reducible exact ih1 _ _ _ _ _)
      | (with_reducible exact LeO.refl _)
      | (with_reducible exact LeO.none _)
      | (with_reducible refine LeO.ite ?_ ?_)
      | (with_reducible refine LeO.bind ?_ (fun _ => ?_))
      | exact ih0 _ _ _ _
      | exact ih1 _ _ _ _ _
      | exact LeO.none _
      | refine LeO.ite ?_ ?_
      | refine LeO.bind ?_ (fun _ => ?_)
    · intro y0 y1 y2 y3 y4
      unfold wafer_Sum.l1
      repeat' first
      | (with_reducible exact ih0 _ _ _ _)
      | (with_reducible exact ih1 _ _ _ _ _)
      | (with_reducible exact LeO.refl _)
      | (with_reducible exact LeO.none _)
      | (with_reducible refine LeO.ite ?_ ?_)
      | (with_reducible refine LeO.bind ?_ (fun _ => ?_))
      | exact ih0 _ _ _ _
      | exact ih1 _ _ _ _ _
      | exact LeO.none _
      | refine LeO.ite ?_ ?_
      | refine LeO.bind ?_ (fun _ => ?_)
theorem wafer_Sum.mono : ∀ a0 k, LeO (wafer_Sum.f k a0) (wafer_Sum.f (k + 1) a0) := by
  intro a0 k
  obtain ⟨ih0, ih1⟩ := wafer_Sum.mono_l k
  unfold wafer_Sum.f
  repeat' first
      | (with_reducible exact ih0 _ _ _ _)
      | (with_reducible exact ih1 _ _ _ _ _)
      | (with_reducible exact LeO.refl _)
      | (with_reducible exact LeO.none _)
      | (with_reducible refine LeO.ite ?_ ?_)
      | (with_reducible refine LeO.bind ?_ (fun _ => ?_))
      | exact ih0 _ _ _ _
      | exact ih1 _ _ _ _ _
      | exact LeO.none _
      | refine LeO.ite ?_ ?_
      | refine LeO.bind ?_ (fun _ => ?_)
set_option maxHeartbeats 8000000 in
set_option maxRecDepth 100000 in
theorem wafer_Sum.calls (k : Nat) (a0 : ByteArray) (r : Int) (w : World) (h : wafer_Sum.f k a0 = some r) :
    Calls Try.prog 11 #[.string a0] w fun e w' => e = .returned (.int .u32 r) ∧ Drawn0 w w' := by
  have H : (wafer_Sum.l0 k a0 4294967295 (a0.size : Int) 0) = some r := h
  clear h
  have H' := Aside0.mk H
  clear H
  go_enter Try.func11, Try.ntmps11
  go_wp2
  go_loopg [3, 7] k (fun kq v3 v7 w' => ∃ (x3_1 : Int) (x7_1 : Int), v3 = .int .u32 x3_1 ∧ v7 = .int .i64 x7_1 ∧ Aside0 (wafer_Sum.l0 kq a0 x3_1 (a0.size : Int) x7_1 = some r) ∧ Aside0 (kq ≤ k) ∧ Drawn0 w w')
  case atStart => exact ⟨(4294967295), (0), (by first | rfl | (simp; done) | (simp [*]; done)), (by first | rfl | (simp; done) | (simp [*]; done)), H', ⟨Nat.le_refl _⟩, by repeat (first | exact Drawn0.refl _ | apply Drawn0.step)⟩
  case round =>
    clear H'
    try clear c1
    obtain ⟨x3_1, x7_1, rfl, rfl, HA, HK1, ⟨m1, rfl⟩⟩ := hrel
    cases gk with
    | zero => exact absurd HA.out (by simp [wafer_Sum.l0])
    | succ k1 =>
      have H := HA.out
      clear HA
      simp only [wafer_Sum.l0] at H
      by_cases c2 : x7_1 < (a0.size : Int)
      · rw [if_pos c2] at H
        have c2b0 : decide (x7_1 < (a0.size : Int)) = true := decide_eq_true c2
        clear c2
        by_cases c3 : 0 ≤ x7_1
        · rw [if_pos c3] at H
          have c3b0 : decide (0 ≤ x7_1) = true := decide_eq_true c3
          clear c3
          by_cases c4 : x7_1 < (a0.size : Int)
          · rw [if_pos c4] at H
            have c4b0 : decide (x7_1 < (a0.size : Int)) = true := decide_eq_true c4
            clear c4
            have H' := Aside0.mk H
            clear H
            have p5 : 0 ≤ (x7_1 : Int) := of_decide_eq_true (by first | (with_reducible assumption) | assumption)
            have q5 : x7_1 < (a0.size : Int) := of_decide_eq_true (by first | (with_reducible assumption) | assumption)
            have hx5 := bt_at a0 x7_1
            replace p5 := eq_true p5
            replace q5 := eq_true q5
            go_wp2
            go_loopg [3, 16] k1 (fun kq v3 v16 w' => ∃ (x3_2 : Int) (x16_2 : Int), v3 = .int .u32 x3_2 ∧ v16 = .int .i64 x16_2 ∧ Aside0 (wafer_Sum.l1 kq a0 x3_2 (a0.size : Int) x7_1 x16_2 = some r) ∧ Aside0 (kq ≤ k1) ∧ Drawn0 w w')
            case atStart => exact ⟨(Go.bits .xor .u32 x3_1 ((bt a0 x7_1) % 4294967296)), (0), (by first | rfl | (simp; done) | (simp [*]; done)), (by first | rfl | (simp; done) | (simp [*]; done)), H', ⟨Nat.le_refl _⟩, by repeat (first | exact Drawn0.refl _ | apply Drawn0.step)⟩
            case round =>
              clear H'
              try clear c1
              try clear c2
              try clear c2b0
              try clear p2
              try clear c3
              try clear c3b0
              try clear c4
              try clear c4b0
              try clear p5
              try clear q5
              try clear hx5
              try clear p5
              try clear q5
              obtain ⟨x3_2, x16_2, rfl, rfl, HA, HK2, ⟨m2, rfl⟩⟩ := hrel
              cases gk with
              | zero => exact absurd HA.out (by simp [wafer_Sum.l1])
              | succ k2 =>
                have H := HA.out
                clear HA
                simp only [wafer_Sum.l1] at H
                by_cases c6 : x16_2 < 8
                · rw [if_pos c6] at H
                  have c6b0 : decide (x16_2 < 8) = true := decide_eq_true c6
                  clear c6
                  have H' := Aside0.mk H
                  clear H
                  go_wp2
                  go_roundg k2
                  case measure => have := HK1.out; have := HK2.out; omega
                  case rel => exact ⟨(Go.bits .xor .u32 (x3_2 / 2) (Go.bits .and .u32 2197175160 ((-(Go.bits .and .u32 x3_2 1)) % 4294967296))), (wrap64 (x16_2 + 1)), (by first | rfl | (simp; done) | (simp [*]; done)), (by first | rfl | (simp; done) | (simp [*]; done)), H', ⟨by have := HK1.out; have := HK2.out; omega⟩, by repeat (first | exact Drawn0.refl _ | apply Drawn0.step)⟩
                · rw [if_neg c6] at H
                  have c6b0 : decide (x16_2 < 8) = false := decide_eq_false c6
                  clear c6
                  have H' := Aside0.mk H
                  clear H
                  go_wp2
                  go_roundg k2
                  case measure => have := HK1.out; have := HK2.out; omega
                  case rel => exact ⟨(x3_2), (wrap64 (x7_1 + 1)), (by first | rfl | (simp; done) | (simp [*]; done)), (by first | rfl | (simp; done) | (simp [*]; done)), H', ⟨by have := HK1.out; have := HK2.out; omega⟩, by repeat (first | exact Drawn0.refl _ | apply Drawn0.step)⟩
          · rw [if_neg c4] at H
            exact absurd H (by simp)
        · rw [if_neg c3] at H
          exact absurd H (by simp)
      · rw [if_neg c2] at H
        have c2b0 : decide (x7_1 < (a0.size : Int)) = false := decide_eq_false c2
        clear c2
        obtain rfl := Option.some.inj H
        simp only [Option.some.injEq, Prod.mk.injEq] at H
        obtain ⟨rfl⟩ := H
        go_wp2
        go_ret
        exact ⟨by first | rfl | (simp; done) | (simp [*]; done), by repeat (first | exact Drawn0.refl _ | apply Drawn0.step)⟩

/-! ### wafer_foots: function 22 -/
def wafer_foots.f (a0 : Int) : Option (ByteArray) := some (strOfNums (([(a0) % 256, (a0 / 256) % 256, (a0 / 65536) % 256, (a0 / 16777216) % 256] : List Int)))
set_option maxHeartbeats 8000000 in
set_option maxRecDepth 100000 in
theorem wafer_foots.calls (a0 : Int) (r : ByteArray) (w : World) (h : wafer_foots.f a0 = some r) :
    Calls Try.prog 22 #[.int .u32 a0] w fun e w' => e = .returned (.string r) ∧ Below w.heap.size w w' := by
  have HB := Aside0.mk (Below.refl w.heap.size w)
  have H : (some (strOfNums (([(a0) % 256, (a0 / 256) % 256, (a0 / 65536) % 256, (a0 / 16777216) % 256] : List Int)))) = some r := h
  clear h
  obtain ⟨y101, hy101⟩ : ∃ y_ : List Int, y_ = (([(a0) % 256, (a0 / 256) % 256, (a0 / 65536) % 256, (a0 / 16777216) % 256] : List Int)) := ⟨_, rfl⟩
  replace H : (some (strOfNums y101)) = some r := by first | (rw [hy101]; with_reducible exact H) | (have H2_ := (Option.bind_some _ _).symm.trans H; rw [hy101]; with_reducible exact H2_) | (have H2_ := (Option.bind_some _ _).symm.trans H; with_reducible exact H2_) | with_reducible exact H | (rw [hy101]; exact H) | exact H
  have Ny101 := Aside0.mk hy101
  clear hy101
  obtain rfl := Option.some.inj H
  simp only [Option.some.injEq, Prod.mk.injEq] at H
  obtain ⟨rfl⟩ := H
  go_enter Try.func22, Try.ntmps22
  go_wp2_with (first | ((with_reducible refine gate_dst (N := 14) rfl ?_); refine Kd.R_lit (Kd.int .u8) _ 5 ?hg (N := 14) ?hd (xs := ([(a0) % 256, (a0 / 256) % 256, (a0 / 65536) % 256, (a0 / 16777216) % 256] : List Int)) (inner := [.int .u8 ((a0) % 256), .int .u8 ((a0 / 256) % 256), .int .u8 ((a0 / 65536) % 256), .int .u8 ((a0 / 16777216) % 256)]) (ok := fun _ => True) (okp := fun _ => True) ?hr ?hp (fun _ hk => hk) trivial (Below.refl _ _) (Nat.le_refl _) (by simp) ?_; (case hd => rfl); (case hg => rfl); (case hr => first | (go_simp; done) | (go_simp; rfl)); (case hp => exact (Reps.one (show Kd.M (Kd.int .u8) _ _ _ ((a0) % 256) [.int .u8 ((a0) % 256)] from rfl) (Reps.one (show Kd.M (Kd.int .u8) _ _ _ ((a0 / 256) % 256) [.int .u8 ((a0 / 256) % 256)] from rfl) (Reps.one (show Kd.M (Kd.int .u8) _ _ _ ((a0 / 65536) % 256) [.int .u8 ((a0 / 65536) % 256)] from rfl) (Reps.one (show Kd.M (Kd.int .u8) _ _ _ ((a0 / 16777216) % 256) [.int .u8 ((a0 / 16777216) % 256)] from rfl) (Reps.none _ _)))))); intro v102 w2 ho3 hb hg_ hnew_; clear hg_ hnew_; (first | rw [← Ny101.out] at ho3 | (simp only [Int.reduceToNat] at ho3; rw [← Ny101.out] at ho3)); have n0_ := Aside0.mk (Kd.R_lower ho3 (below_size (by repeat (first | (with_reducible first | exact HB.out | apply below_alloc | apply pw_below_drewN | apply below_drew1) | exact HB.out)))); have n1_ := Aside0.mk (below_step (by repeat (first | (with_reducible first | exact HB.out | apply below_alloc | apply pw_below_drewN | apply below_drew1) | exact HB.out)) hb); clear HB; have HO103 := n0_; have HB := n1_; clear n0_ n1_; clear hb ho3; have hcv4 := own_string (P := Try.prog) Try.underlying30 Try.underlying5 Try.underlying9 (Kd.own_of_R HO103.out)))
  go_ret
  exact ⟨by first | rfl | (simp [errW_none, errW_some] <;> rfl) | (simp [*, errW_none, errW_some] <;> rfl), by repeat (first | (with_reducible first | exact HB.out | apply below_alloc | apply pw_below_drewN | apply below_drew1) | exact HB.out)⟩

/-! ### wafer_Close: function 10 -/
def wafer_Close.f (k : Nat) (a0 : ByteArray) : Option (ByteArray) := if (a0.size : Int) > 1024 then (some (⟨#[]⟩ : ByteArray)) else ((some (([((a0.size : Int) / 256) % 256, ((a0.size : Int)) % 256] : List Int) : List Int)).bind fun y104 => (if (strOfNums y104).size + a0.size ≤ 9223372036854775807 then ((wafer_Sum.f k ((strOfNums y104) ++ a0)).bind fun t107 => ((wafer_foots.f t107).bind fun t108 => (if (strOfNums y104).size + a0.size + t108.size ≤ 9223372036854775807 then (some (((strOfNums y104) ++ a0) ++ t108)) else (none)))) else (none)))
theorem wafer_Close.mono : ∀ a0 k, LeO (wafer_Close.f k a0) (wafer_Close.f (k + 1) a0) := by
  intro a0 k
  unfold wafer_Close.f
  repeat' first
      | (with_reducible exact wafer_Sum.mono _ _)
      | (with_reducible exact LeO.refl _)
      | (with_reducible exact LeO.none _)
      | (with_reducible refine LeO.ite ?_ ?_)
      | (with_reducible refine LeO.bind ?_ (fun _ => ?_))
      | exact wafer_Sum.mono _ _
      | exact LeO.none _
      | refine LeO.ite ?_ ?_
      | refine LeO.bind ?_ (fun _ => ?_)
set_option maxHeartbeats 8000000 in
set_option maxRecDepth 100000 in
theorem wafer_Close.calls (k : Nat) (a0 : ByteArray) (r : ByteArray) (w : World) (h : wafer_Close.f k a0 = some r) :
    Calls Try.prog 10 #[.string a0] w fun e w' => e = .returned (.string r) ∧ Below w.heap.size w w' := by
  have HB := Aside0.mk (Below.refl w.heap.size w)
  have H : (if (a0.size : Int) > 1024 then (some (⟨#[]⟩ : ByteArray)) else ((some (([((a0.size : Int) / 256) % 256, ((a0.size : Int)) % 256] : List Int) : List Int)).bind fun y104 => (if (strOfNums y104).size + a0.size ≤ 9223372036854775807 then ((wafer_Sum.f k ((strOfNums y104) ++ a0)).bind fun t107 => ((wafer_foots.f t107).bind fun t108 => (if (strOfNums y104).size + a0.size + t108.size ≤ 9223372036854775807 then (some (((strOfNums y104) ++ a0) ++ t108)) else (none)))) else (none)))) = some r := h
  clear h
  by_cases c2 : (a0.size : Int) > 1024
  · rw [if_pos c2] at H
    have c2b0 : decide (1024 < (a0.size : Int)) = true := decide_eq_true c2
    have c2b1 : decide (1024 < a0.size) = true := decide_eq_true (by omega)
    clear c2
    obtain rfl := Option.some.inj H
    simp only [Option.some.injEq, Prod.mk.injEq] at H
    obtain ⟨rfl⟩ := H
    go_enter Try.func10, Try.ntmps10
    go_wp2
    go_ret
    exact ⟨by first | rfl | (simp [errW_none, errW_some] <;> rfl) | (simp [*, errW_none, errW_some] <;> rfl), by repeat (first | (with_reducible first | exact HB.out | apply below_alloc | apply pw_below_drewN | apply below_drew1) | exact HB.out)⟩
  · rw [if_neg c2] at H
    have c2b0 : decide (1024 < (a0.size : Int)) = false := decide_eq_false c2
    have c2b1 : decide (1024 < a0.size) = false := decide_eq_false (by omega)
    clear c2
    obtain ⟨y104, hy104⟩ : ∃ y_ : List Int, y_ = (([((a0.size : Int) / 256) % 256, ((a0.size : Int)) % 256] : List Int)) := ⟨_, rfl⟩
    replace H : (if (strOfNums y104).size + a0.size ≤ 9223372036854775807 then ((wafer_Sum.f k ((strOfNums y104) ++ a0)).bind fun t107 => ((wafer_foots.f t107).bind fun t108 => (if (strOfNums y104).size + a0.size + t108.size ≤ 9223372036854775807 then (some (((strOfNums y104) ++ a0) ++ t108)) else (none)))) else (none)) = some r := by first | (rw [hy104]; with_reducible exact H) | (have H2_ := (Option.bind_some _ _).symm.trans H; rw [hy104]; with_reducible exact H2_) | (have H2_ := (Option.bind_some _ _).symm.trans H; with_reducible exact H2_) | with_reducible exact H | (rw [hy104]; exact H) | exact H
    have Ny104 := Aside0.mk hy104
    clear hy104
    by_cases c3 : (strOfNums y104).size + a0.size ≤ 9223372036854775807
    · rw [if_pos c3] at H
      have c3b0 := eq_true c3
      have c3b1 : decide ((strOfNums y104).size + a0.size ≤ 9223372036854775807) = true := decide_eq_true c3
      try have c3b2 : (9223372036854775807 < (strOfNums y104).size + a0.size) = False := eq_false (Nat.not_lt.2 c3)
      replace H := Option.bind_eq_some_iff.mp H
      obtain ⟨t107, A40, H⟩ := H
      replace H : ((wafer_foots.f t107).bind fun t108 => (if (strOfNums y104).size + a0.size + t108.size ≤ 9223372036854775807 then (some (((strOfNums y104) ++ a0) ++ t108)) else (none))) = some r := H
      have A4 := Aside0.mk A40
      clear A40
      replace H := Option.bind_eq_some_iff.mp H
      obtain ⟨t108, A50, H⟩ := H
      replace H : (if (strOfNums y104).size + a0.size + t108.size ≤ 9223372036854775807 then (some (((strOfNums y104) ++ a0) ++ t108)) else (none)) = some r := H
      have A5 := Aside0.mk A50
      clear A50
      by_cases c6 : (strOfNums y104).size + a0.size + t108.size ≤ 9223372036854775807
      · rw [if_pos c6] at H
        have c6b0 := eq_true c6
        have c6b1 : decide ((strOfNums y104).size + a0.size + t108.size ≤ 9223372036854775807) = true := decide_eq_true c6
        try have c6b2 : (9223372036854775807 < (strOfNums y104).size + a0.size + t108.size) = False := eq_false (Nat.not_lt.2 c6)
        obtain rfl := Option.some.inj H
        simp only [Option.some.injEq, Prod.mk.injEq] at H
        obtain ⟨rfl⟩ := H
        go_enter Try.func10, Try.ntmps10
        go_wp2_with (first | ((with_reducible refine gate_dst (N := 14) rfl ?_); refine Kd.R_lit (Kd.int .u8) _ 5 ?hg (N := 14) ?hd (xs := ([((a0.size : Int) / 256) % 256, ((a0.size : Int)) % 256] : List Int)) (inner := [.int .u8 (((a0.size : Int) / 256) % 256), .int .u8 (((a0.size : Int)) % 256)]) (ok := fun _ => True) (okp := fun _ => True) ?hr ?hp (fun _ hk => hk) trivial (Below.refl _ _) (Nat.le_refl _) (by simp) ?_; (case hd => rfl); (case hg => rfl); (case hr => first | (go_simp; done) | (go_simp; rfl)); (case hp => exact (Reps.one (show Kd.M (Kd.int .u8) _ _ _ (((a0.size : Int) / 256) % 256) [.int .u8 (((a0.size : Int) / 256) % 256)] from rfl) (Reps.one (show Kd.M (Kd.int .u8) _ _ _ (((a0.size : Int)) % 256) [.int .u8 (((a0.size : Int)) % 256)] from rfl) (Reps.none _ _)))); intro v105 w7 ho8 hb hg_ hnew_; clear hg_ hnew_; (first | rw [← Ny104.out] at ho8 | (simp only [Int.reduceToNat] at ho8; rw [← Ny104.out] at ho8)); have n0_ := Aside0.mk (Kd.R_lower ho8 (below_size (by repeat (first | (with_reducible first | exact HB.out | apply below_alloc | apply pw_below_drewN | apply below_drew1) | exact HB.out)))); have n1_ := Aside0.mk (below_step (by repeat (first | (with_reducible first | exact HB.out | apply below_alloc | apply pw_below_drewN | apply below_drew1) | exact HB.out)) hb); clear HB; have HO106 := n0_; have HB := n1_; clear n0_ n1_; clear hb ho8; have hcv9 := own_string (P := Try.prog) Try.underlying30 Try.underlying5 Try.underlying9 (Kd.own_of_R HO106.out)) | ((with_reducible refine gate_callee (f := 11) rfl ?_); refine goesL_ (some 20) rfl rfl Try.func11 (by kernel_rfl) rfl #[.string ((strOfNums y104) ++ a0)] rfl (by (try simp only [List.map_toArray, List.map_cons, List.map_nil]); first | done | rfl | (simp only [List.length_drop, List.length_take]; rfl)) ?_; (with_reducible refine (wafer_Sum.calls k ((strOfNums y104) ++ a0) t107 _ A4.out).mono ?_); rintro e w' ⟨rfl, ⟨nd, rfl⟩⟩; refine ⟨_, rfl, ?_⟩) | ((with_reducible refine gate_callee (f := 22) rfl ?_); refine goesL_ (some 21) rfl rfl Try.func22 (by kernel_rfl) rfl #[.int .u32 t107] rfl (by (try simp only [List.map_toArray, List.map_cons, List.map_nil]); first | done | rfl | (simp only [List.length_drop, List.length_take]; rfl)) ?_; (with_reducible refine (wafer_foots.calls t107 t108 _ A5.out).mono ?_); rintro e w10 ⟨rfl, hb⟩; refine ⟨_, rfl, ?_⟩; have n0_ := Aside0.mk (Kd.R_below (by (with_reducible repeat (first | apply Kd.R_alloc | apply Kd.R_drewN | apply Kd.R_drew)); exact HO106.out) hb); have n1_ := Aside0.mk (below_step (by repeat (first | (with_reducible first | exact HB.out | apply below_alloc | apply pw_below_drewN | apply below_drew1) | exact HB.out)) hb); clear HO106; clear HB; have HO106 := n0_; have HB := n1_; clear n0_ n1_; (try clear hb); (try clear hb2); (try clear hk); (try clear hi)))
        go_ret
        exact ⟨by first | rfl | (simp [errW_none, errW_some] <;> rfl) | (simp [*, errW_none, errW_some] <;> rfl), by repeat (first | (with_reducible first | exact HB.out | apply below_alloc | apply pw_below_drewN | apply below_drew1) | exact HB.out)⟩
      · rw [if_neg c6] at H
        exact absurd H (by simp)
    · rw [if_neg c3] at H
      exact absurd H (by simp)

/-! ### countermandlaw02_alive: function 9 -/
def countermandlaw02_alive.f (k : Nat)  : Option (Bool) := (wafer_Sum.f k (⟨#[49, 50, 51, 52, 53, 54, 55, 56, 57]⟩ : ByteArray)).bind fun t109 => (if t109 = 3808858755 then ((wafer_Close.f k (⟨#[108, 111, 97, 100]⟩ : ByteArray)).bind fun t110 => (some ((t110.size : Int) == 10))) else (some false))
theorem countermandlaw02_alive.mono : ∀ k, LeO (countermandlaw02_alive.f k ) (countermandlaw02_alive.f (k + 1) ) := by
  intro  k
  unfold countermandlaw02_alive.f
  repeat' first
      | (with_reducible exact wafer_Close.mono _ _)
      | (with_reducible exact wafer_Sum.mono _ _)
      | (with_reducible exact LeO.refl _)
      | (with_reducible exact LeO.none _)
      | (with_reducible refine LeO.ite ?_ ?_)
      | (with_reducible refine LeO.bind ?_ (fun _ => ?_))
      | exact wafer_Close.mono _ _
      | exact wafer_Sum.mono _ _
      | exact LeO.none _
      | refine LeO.ite ?_ ?_
      | refine LeO.bind ?_ (fun _ => ?_)
set_option maxHeartbeats 8000000 in
set_option maxRecDepth 100000 in
theorem countermandlaw02_alive.calls (k : Nat)  (r : Bool) (w : World) (h : countermandlaw02_alive.f k  = some r) :
    Calls Try.prog 9 #[] w fun e w' => e = .returned (.bool r) ∧ Below w.heap.size w w' := by
  have HB := Aside0.mk (Below.refl w.heap.size w)
  have H : ((wafer_Sum.f k (⟨#[49, 50, 51, 52, 53, 54, 55, 56, 57]⟩ : ByteArray)).bind fun t109 => (if t109 = 3808858755 then ((wafer_Close.f k (⟨#[108, 111, 97, 100]⟩ : ByteArray)).bind fun t110 => (some ((t110.size : Int) == 10))) else (some false))) = some r := h
  clear h
  replace H := Option.bind_eq_some_iff.mp H
  obtain ⟨t109, A10, H⟩ := H
  replace H : (if t109 = 3808858755 then ((wafer_Close.f k (⟨#[108, 111, 97, 100]⟩ : ByteArray)).bind fun t110 => (some ((t110.size : Int) == 10))) else (some false)) = some r := H
  have A1 := Aside0.mk A10
  clear A10
  by_cases c2 : t109 = 3808858755
  · rw [if_pos c2] at H
    have c2b0 : (t109 == 3808858755) = true := beq_iff_eq.mpr c2
    have c2b1 : (t109 != 3808858755) = false := bne_eq_false_iff_eq.mpr c2
    clear c2
    replace H := Option.bind_eq_some_iff.mp H
    obtain ⟨t110, A30, H⟩ := H
    replace H : (some ((t110.size : Int) == 10)) = some r := H
    have A3 := Aside0.mk A30
    clear A30
    obtain rfl := Option.some.inj H
    simp only [Option.some.injEq, Prod.mk.injEq] at H
    obtain ⟨rfl⟩ := H
    go_enter Try.func9, Try.ntmps9
    go_wp2_with (first | ((with_reducible refine gate_callee (f := 11) rfl ?_); refine goesL_ (some 1) rfl rfl Try.func11 (by kernel_rfl) rfl #[.string (⟨#[49, 50, 51, 52, 53, 54, 55, 56, 57]⟩ : ByteArray)] rfl (by (try simp only [List.map_toArray, List.map_cons, List.map_nil]); first | done | rfl | (simp only [List.length_drop, List.length_take]; rfl)) ?_; (with_reducible refine (wafer_Sum.calls k (⟨#[49, 50, 51, 52, 53, 54, 55, 56, 57]⟩ : ByteArray) t109 _ A1.out).mono ?_); rintro e w' ⟨rfl, ⟨nd, rfl⟩⟩; refine ⟨_, rfl, ?_⟩) | (go_at_call 10; (with_reducible refine (wafer_Close.calls k (⟨#[108, 111, 97, 100]⟩ : ByteArray) t110 _ A3.out).mono ?_); rintro e w4 ⟨rfl, hb⟩; have n0_ := Aside0.mk (below_step (by repeat (first | (with_reducible first | exact HB.out | apply below_alloc | apply pw_below_drewN | apply below_drew1) | exact HB.out)) hb); clear HB; have HB := n0_; clear n0_; (try clear hb); (try clear hb2); (try clear hk); (try clear hi)))
    go_ret
    exact ⟨by first | rfl | (simp [errW_none, errW_some] <;> rfl) | (simp [*, errW_none, errW_some] <;> rfl), by repeat (first | (with_reducible first | exact HB.out | apply below_alloc | apply pw_below_drewN | apply below_drew1) | exact HB.out)⟩
  · rw [if_neg c2] at H
    have c2b0 : (t109 == 3808858755) = false := beq_eq_false_iff_ne.mpr c2
    have c2b1 : (t109 != 3808858755) = true := bne_iff_ne.mpr c2
    obtain rfl := Option.some.inj H
    simp only [Option.some.injEq, Prod.mk.injEq] at H
    obtain ⟨rfl⟩ := H
    go_enter Try.func9, Try.ntmps9
    go_wp2_with (first | ((with_reducible refine gate_callee (f := 11) rfl ?_); refine goesL_ (some 1) rfl rfl Try.func11 (by kernel_rfl) rfl #[.string (⟨#[49, 50, 51, 52, 53, 54, 55, 56, 57]⟩ : ByteArray)] rfl (by (try simp only [List.map_toArray, List.map_cons, List.map_nil]); first | done | rfl | (simp only [List.length_drop, List.length_take]; rfl)) ?_; (with_reducible refine (wafer_Sum.calls k (⟨#[49, 50, 51, 52, 53, 54, 55, 56, 57]⟩ : ByteArray) t109 _ A1.out).mono ?_); rintro e w' ⟨rfl, ⟨nd, rfl⟩⟩; refine ⟨_, rfl, ?_⟩))
    go_ret
    exact ⟨by first | rfl | (simp [errW_none, errW_some] <;> rfl) | (simp [*, errW_none, errW_some] <;> rfl), by repeat (first | (with_reducible first | exact HB.out | apply below_alloc | apply pw_below_drewN | apply below_drew1) | exact HB.out)⟩

/-! ### wafer_Open: function 14 -/
def wafer_Open.j0 : Nat → ByteArray → Int → Int → Bool → Option (ByteArray × Int)
  | 0, _, _, _, _ => none
  | k + 1, x0, x4, x5, x27 => if x27 = true then (some ((⟨#[]⟩ : ByteArray), 0)) else (if 0 ≤ (wrap64 (2 + x4)) then (if (wrap64 (2 + x4)) ≤ (x0.size : Int) then ((wafer_Sum.f k (x0.extract 0 ((wrap64 (2 + x4)) : Int).toNat)).bind fun t111 => ((wafer_foots.f t111).bind fun t112 => (if (wrap64 (2 + x4)) ≤ x5 then (if x5 ≤ (x0.size : Int) then (if t112.toList = (x0.extract ((wrap64 (2 + x4)) : Int).toNat (x5 : Int).toNat).toList then (if 2 ≤ (wrap64 (2 + x4)) then (some (x0.extract 2 ((wrap64 (2 + x4)) : Int).toNat, x5)) else (none)) else (some ((⟨#[]⟩ : ByteArray), 0))) else (none)) else (none)))) else (none)) else (none))
def wafer_Open.f (k : Nat) (a0 : ByteArray) : Option (ByteArray × Int) := if (a0.size : Int) < 2 then (some ((⟨#[]⟩ : ByteArray), 0)) else (if 0 < (a0.size : Int) then (if 1 < (a0.size : Int) then (if (Go.bits .or .i64 (wrap64 ((wrap64 (bt a0 0)) * 256)) (wrap64 (bt a0 1))) > 1024 then (wafer_Open.j0 k a0 (Go.bits .or .i64 (wrap64 ((wrap64 (bt a0 0)) * 256)) (wrap64 (bt a0 1))) (wrap64 ((wrap64 (2 + (Go.bits .or .i64 (wrap64 ((wrap64 (bt a0 0)) * 256)) (wrap64 (bt a0 1))))) + 4)) true) else (wafer_Open.j0 k a0 (Go.bits .or .i64 (wrap64 ((wrap64 (bt a0 0)) * 256)) (wrap64 (bt a0 1))) (wrap64 ((wrap64 (2 + (Go.bits .or .i64 (wrap64 ((wrap64 (bt a0 0)) * 256)) (wrap64 (bt a0 1))))) + 4)) (decide ((a0.size : Int) < (wrap64 ((wrap64 (2 + (Go.bits .or .i64 (wrap64 ((wrap64 (bt a0 0)) * 256)) (wrap64 (bt a0 1))))) + 4)))))) else (none)) else (none))
theorem wafer_Open.mono_l : ∀ k, (∀ y0 y1 y2 y3, LeO (wafer_Open.j0 k y0 y1 y2 y3) (wafer_Open.j0 (k + 1) y0 y1 y2 y3))
  | 0 => fun _ _ _ _ r h => by simp [wafer_Open.j0] at h
  | k + 1 => by
    have ih0 := wafer_Open.mono_l k
    · intro y0 y1 y2 y3
      unfold wafer_Open.j0
      repeat' first
      | (with_reducible exact ih0 _ _ _ _)
      | (with_reducible exact wafer_Sum.mono _ _)
      | (with_reducible exact LeO.refl _)
      | (with_reducible exact LeO.none _)
      | (with_reducible refine LeO.ite ?_ ?_)
      | (with_reducible refine LeO.bind ?_ (fun _ => ?_))
      | exact ih0 _ _ _ _
      | exact wafer_Sum.mono _ _
      | exact LeO.none _
      | refine LeO.ite ?_ ?_
      | refine LeO.bind ?_ (fun _ => ?_)
theorem wafer_Open.mono : ∀ a0 k, LeO (wafer_Open.f k a0) (wafer_Open.f (k + 1) a0) := by
  intro a0 k
  have ih0 := wafer_Open.mono_l k
  unfold wafer_Open.f
  repeat' first
      | (with_reducible exact ih0 _ _ _ _)
      | (with_reducible exact wafer_Sum.mono _ _)
      | (with_reducible exact LeO.refl _)
      | (with_reducible exact LeO.none _)
      | (with_reducible refine LeO.ite ?_ ?_)
      | (with_reducible refine LeO.bind ?_ (fun _ => ?_))
      | exact ih0 _ _ _ _
      | exact wafer_Sum.mono _ _
      | exact LeO.none _
      | refine LeO.ite ?_ ?_
      | refine LeO.bind ?_ (fun _ => ?_)
def wafer_Open.T3 : Bool × List (List Nat × List Nat) := (true, [([], []), ([0], [0]), ([1], [1]), ([2], [2]), ([], []), ([4], [4]), ([5], [5]), ([3, 6], [3, 6]), ([7, 0, 1, 2, 3, 4, 5, 6, 7], [7])])
def wafer_Open.B3 : List Nat := [0, 1, 3, 7, 0, 16, 48, 127, 255]
theorem wafer_Open.tab3 : rtab .any (opsOf Try.f14 3) = wafer_Open.T3 := by kernel_rfl
theorem wafer_Open.bits3 : waitsOk wafer_Open.T3.2 wafer_Open.B3 = true := by kernel_rfl
def wafer_Open.T7 : Bool × List (List Nat × List Nat) := (true, [([], []), ([], []), ([1], [1]), ([0, 2], [0, 2]), ([3], [3]), ([4, 4], [4]), ([], []), ([], []), ([7], [7]), ([], []), ([6, 8, 9], [6, 8, 9]), ([5, 10], [5, 10])])
def wafer_Open.B7 : List Nat := [0, 0, 2, 7, 15, 31, 0, 0, 128, 0, 960, 2047]
theorem wafer_Open.tab7 : rtab .any (opsOf Try.f14 7) = wafer_Open.T7 := by kernel_rfl
theorem wafer_Open.bits7 : waitsOk wafer_Open.T7.2 wafer_Open.B7 = true := by kernel_rfl
set_option maxHeartbeats 8000000 in
set_option maxRecDepth 100000 in
theorem wafer_Open.calls (k : Nat) (a0 : ByteArray) (r1 : ByteArray) (r2 : Int) (w : World) (h : wafer_Open.f k a0 = some (r1, r2)) :
    Calls Try.prog 14 #[.string a0] w fun e w' => e = .returned (.tuple #[.string r1, .int .i64 r2]) ∧ Below w.heap.size w w' := by
  have HB := Aside0.mk (Below.refl w.heap.size w)
  have H : (if (a0.size : Int) < 2 then (some ((⟨#[]⟩ : ByteArray), 0)) else (if 0 < (a0.size : Int) then (if 1 < (a0.size : Int) then (if (Go.bits .or .i64 (wrap64 ((wrap64 (bt a0 0)) * 256)) (wrap64 (bt a0 1))) > 1024 then (wafer_Open.j0 k a0 (Go.bits .or .i64 (wrap64 ((wrap64 (bt a0 0)) * 256)) (wrap64 (bt a0 1))) (wrap64 ((wrap64 (2 + (Go.bits .or .i64 (wrap64 ((wrap64 (bt a0 0)) * 256)) (wrap64 (bt a0 1))))) + 4)) true) else (wafer_Open.j0 k a0 (Go.bits .or .i64 (wrap64 ((wrap64 (bt a0 0)) * 256)) (wrap64 (bt a0 1))) (wrap64 ((wrap64 (2 + (Go.bits .or .i64 (wrap64 ((wrap64 (bt a0 0)) * 256)) (wrap64 (bt a0 1))))) + 4)) (decide ((a0.size : Int) < (wrap64 ((wrap64 (2 + (Go.bits .or .i64 (wrap64 ((wrap64 (bt a0 0)) * 256)) (wrap64 (bt a0 1))))) + 4)))))) else (none)) else (none))) = some (r1, r2) := h
  clear h
  by_cases c2 : (a0.size : Int) < 2
  · rw [if_pos c2] at H
    have c2b0 : decide ((a0.size : Int) < 2) = true := decide_eq_true c2
    have c2b1 : decide (a0.size < 2) = true := decide_eq_true (by omega)
    clear c2
    simp only [Option.some.injEq, Prod.mk.injEq] at H
    obtain ⟨rfl, rfl⟩ := H
    go_enter Try.func14, Try.ntmps14
    go_wp2
    go_ret2
    exact ⟨by first | rfl | (simp [errW_none, errW_some] <;> rfl) | (simp [*, errW_none, errW_some] <;> rfl), by repeat (first | (with_reducible first | exact HB.out | apply below_alloc | apply pw_below_drewN | apply below_drew1) | exact HB.out)⟩
  · rw [if_neg c2] at H
    have c2b0 : decide ((a0.size : Int) < 2) = false := decide_eq_false c2
    have c2b1 : decide (a0.size < 2) = false := decide_eq_false (by omega)
    clear c2
    by_cases c3 : 0 < (a0.size : Int)
    · rw [if_pos c3] at H
      have c3b0 : decide (0 < (a0.size : Int)) = true := decide_eq_true c3
      have c3b1 : decide (0 < a0.size) = true := decide_eq_true (by omega)
      clear c3
      by_cases c5 : 1 < (a0.size : Int)
      · rw [if_pos c5] at H
        have c5b0 : decide (1 < (a0.size : Int)) = true := decide_eq_true c5
        have c5b1 : decide (1 < a0.size) = true := decide_eq_true (by omega)
        clear c5
        have HC7 := Aside0.mk H
        clear H
        go_enter Try.func14, Try.ntmps14
        try go_wp2
        have n0_ := Aside0.mk (below_drew1 HB.out)
        clear HB
        have HB := n0_
        clear n0_
        have p4 : 0 ≤ (0 : Int) := (by omega)
        have q4 : 0 < a0.size := (by have : (0 : Int) < (a0.size : Int) := of_decide_eq_true (by first | (with_reducible assumption) | assumption); omega)
        have hx4 : ∀ h : 0 < a0.size, ((a0[0]'h).toNat : Int) = bt a0 0 := bt_at a0 0
        clear p4
        have qi4 : (0 < (a0.size : Int)) = True := eq_true (of_decide_eq_true (by first | (with_reducible assumption) | assumption))
        replace q4 := eq_true q4
        have p6 : 0 ≤ (1 : Int) := (by omega)
        have q6 : 1 < a0.size := (by have : (1 : Int) < (a0.size : Int) := of_decide_eq_true (by first | (with_reducible assumption) | assumption); omega)
        have hx6 : ∀ h : 1 < a0.size, ((a0[1]'h).toNat : Int) = bt a0 1 := bt_at a0 1
        clear p6
        have qi6 : (1 < (a0.size : Int)) = True := eq_true (of_decide_eq_true (by first | (with_reducible assumption) | assumption))
        replace q6 := eq_true q6
        refine start_ (n := 9) (S := fun w' => True) (ds := []) #[false, false, false, false, false, false, false, false, false] (by kernel_rfl) rfl rfl trivial (fun hHeld => ?_); refine with_tabW wafer_Open.tab3 wafer_Open.bits3 (fun HT_ HW_ => ?_)
        generalize w.drew = w8 at HB hHeld ⊢
        refine pure_ (i := 0) (N := some 9) (v := ?_) (a' := ?_) #[true, false, false, false, false, false, false, false, false] rfl rfl (any_of HT_.out (by kernel_rfl)) (fun _ _ _ h => h) (Or.inl ⟨by rfl, ?_⟩) ?_ ?_
        rotate_left
        · intro w'
          go_simp
          with_reducible rfl
        rotate_left
        · simp only [Act.put, List.setIfInBounds_toArray, List.set_cons_zero, List.set_cons_succ, i64_w, i32_w]
          rfl
        refine pure_ (i := 4) (N := some 13) (v := ?_) (a' := ?_) #[true, false, false, false, true, false, false, false, false] rfl rfl (any_of HT_.out (by kernel_rfl)) (fun _ _ _ h => h) (Or.inl ⟨by rfl, ?_⟩) ?_ ?_
        rotate_left
        · intro w'
          go_simp
          with_reducible rfl
        rotate_left
        · simp only [Act.put, List.setIfInBounds_toArray, List.set_cons_zero, List.set_cons_succ, i64_w, i32_w]
          rfl
        refine take_ (i := 1) (N := some 10) (v := ?_) (a' := ?_) #[true, true, false, false, true, false, false, false, false] rfl rfl (take_ofW HT_.out HW_.out (by kernel_rfl)) (fun _ _ _ h => h) (Or.inl ⟨by rfl, ?_⟩) hHeld ?_ ?_
        rotate_left
        · intro w' _
          go_simp
          with_reducible rfl
        rotate_left
        · simp only [Act.put, List.setIfInBounds_toArray, List.set_cons_zero, List.set_cons_succ, i64_w, i32_w]
          rfl
        refine pure_ (i := 2) (N := some 11) (v := ?_) (a' := ?_) #[true, true, true, false, true, false, false, false, false] rfl rfl (any_of HT_.out (by kernel_rfl)) (fun _ _ _ h => h) (Or.inl ⟨by rfl, ?_⟩) ?_ ?_
        rotate_left
        · intro w'
          go_simp
          with_reducible rfl
        rotate_left
        · simp only [Act.put, List.setIfInBounds_toArray, List.set_cons_zero, List.set_cons_succ, i64_w, i32_w]
          rfl
        refine pure_ (i := 3) (N := some 12) (v := ?_) (a' := ?_) #[true, true, true, true, true, false, false, false, false] rfl rfl (any_of HT_.out (by kernel_rfl)) (fun _ _ _ h => h) (Or.inl ⟨by rfl, ?_⟩) ?_ ?_
        rotate_left
        · intro w'
          go_simp
          with_reducible rfl
        rotate_left
        · simp only [Act.put, List.setIfInBounds_toArray, List.set_cons_zero, List.set_cons_succ, i64_w, i32_w]
          rfl
        refine take_ (i := 5) (N := some 14) (v := ?_) (a' := ?_) #[true, true, true, true, true, true, false, false, false] rfl rfl (take_ofW HT_.out HW_.out (by kernel_rfl)) (fun _ _ _ h => h) (Or.inl ⟨by rfl, ?_⟩) hHeld ?_ ?_
        rotate_left
        · intro w' _
          go_simp
          with_reducible rfl
        rotate_left
        · simp only [Act.put, List.setIfInBounds_toArray, List.set_cons_zero, List.set_cons_succ, i64_w, i32_w]
          rfl
        refine pure_ (i := 6) (N := some 15) (v := ?_) (a' := ?_) #[true, true, true, true, true, true, true, false, false] rfl rfl (any_of HT_.out (by kernel_rfl)) (fun _ _ _ h => h) (Or.inl ⟨by rfl, ?_⟩) ?_ ?_
        rotate_left
        · intro w'
          go_simp
          with_reducible rfl
        rotate_left
        · simp only [Act.put, List.setIfInBounds_toArray, List.set_cons_zero, List.set_cons_succ, i64_w, i32_w]
          rfl
        refine pure_ (i := 7) (N := some 16) (v := ?_) (a' := ?_) #[true, true, true, true, true, true, true, true, false] rfl rfl (any_of HT_.out (by kernel_rfl)) (fun _ _ _ h => h) (Or.inl ⟨by rfl, ?_⟩) ?_ ?_
        rotate_left
        · intro w'
          go_simp
          with_reducible rfl
        rotate_left
        · simp only [Act.put, List.setIfInBounds_toArray, List.set_cons_zero, List.set_cons_succ, i64_w, i32_w]
          rfl
        refine pure_ (i := 8) (N := some 4) (v := ?_) (a' := ?_) #[true, true, true, true, true, true, true, true, true] rfl rfl (any_of HT_.out (by kernel_rfl)) (fun _ _ _ h => h) (Or.inl ⟨by rfl, ?_⟩) ?_ ?_
        rotate_left
        · intro w'
          go_simp
          with_reducible rfl
        rotate_left
        · simp only [Act.put, List.setIfInBounds_toArray, List.set_cons_zero, List.set_cons_succ, i64_w, i32_w]
          rfl
        refine done_ (done_of HT_.out (by kernel_rfl)) ?_
        go_upto_region 5 with (fail)
        go_cut [27] (fun v27 wc => ∃ (kq : Nat) (x27_6 : Bool), v27 = .bool x27_6 ∧ Aside0 (wafer_Open.j0 kq a0 (Go.bits .or .i64 (wrap64 ((wrap64 (bt a0 0)) * 256)) (wrap64 (bt a0 1))) (wrap64 ((wrap64 (2 + (Go.bits .or .i64 (wrap64 ((wrap64 (bt a0 0)) * 256)) (wrap64 (bt a0 1))))) + 4)) x27_6 = some (r1, r2)) ∧ Aside0 (kq ≤ k) ∧ Aside0 (Below w.heap.size w wc))
        case first =>
          have H := HC7.out
          clear HC7
          by_cases c9 : (Go.bits .or .i64 (wrap64 ((wrap64 (bt a0 0)) * 256)) (wrap64 (bt a0 1))) > 1024
          · rw [if_pos c9] at H
            have c9b0 : decide (1024 < (Go.bits .or .i64 (wrap64 ((wrap64 (bt a0 0)) * 256)) (wrap64 (bt a0 1)))) = true := decide_eq_true c9
            clear c9
            (first | rw [c9b0] | (simp only [i64_w, i32_w]; rw [c9b0]) | skip)
            have H' := Aside0.mk H
            clear H
            go_wp2
            go_meet
            case rel => exact ⟨_, (true), (by first | rfl | (simp; done) | (simp [*]; done)), H', ⟨by first | omega | exact Nat.le_refl _⟩, ⟨by repeat (first | (with_reducible first | exact HB.out | apply below_alloc | apply pw_below_drewN | apply below_drew1) | exact HB.out)⟩⟩
          · rw [if_neg c9] at H
            have c9b0 : decide (1024 < (Go.bits .or .i64 (wrap64 ((wrap64 (bt a0 0)) * 256)) (wrap64 (bt a0 1)))) = false := decide_eq_false c9
            clear c9
            (first | rw [c9b0] | (simp only [i64_w, i32_w]; rw [c9b0]) | skip)
            have H' := Aside0.mk H
            clear H
            go_wp2
            go_meet
            case rel => exact ⟨_, (decide ((a0.size : Int) < (wrap64 ((wrap64 (2 + (Go.bits .or .i64 (wrap64 ((wrap64 (bt a0 0)) * 256)) (wrap64 (bt a0 1))))) + 4)))), (by first | rfl | (simp; done) | (simp [*]; done)), H', ⟨by first | omega | exact Nat.le_refl _⟩, ⟨by repeat (first | (with_reducible first | exact HB.out | apply below_alloc | apply pw_below_drewN | apply below_drew1) | exact HB.out)⟩⟩
        case rest =>
          clear HC7
          try clear c1
          try clear c2
          try clear c2b0
          try clear c2b1
          try clear p2
          try clear c3
          try clear c3b0
          try clear c3b1
          try clear p4
          try clear q4
          try clear hx4
          try clear qi4
          try clear c5
          try clear c5b0
          try clear c5b1
          try clear p6
          try clear q6
          try clear hx6
          try clear qi6
          try clear c9
          try clear c9b0
          try clear p4
          try clear p6
          try clear q4
          try clear q6
          obtain ⟨kq, x27_6, rfl, HA, HJ6, HB⟩ := hcut
          cases kq with
          | zero => exact absurd HA.out (by simp [wafer_Open.j0])
          | succ kj6 =>
            have H := HA.out
            clear HA
            simp only [wafer_Open.j0] at H
            by_cases c10 : x27_6 = true
            · subst c10
              have H1 : (some ((⟨#[]⟩ : ByteArray), 0)) = some (r1, r2) := by rw [if_pos rfl] at H; exact H
              clear H
              have H := H1
              clear H1
              simp only [Option.some.injEq, Prod.mk.injEq] at H
              obtain ⟨rfl, rfl⟩ := H
              go_wp2
              go_ret2
              exact ⟨by first | rfl | (simp [errW_none, errW_some] <;> rfl) | (simp [*, errW_none, errW_some] <;> rfl), by repeat (first | (with_reducible first | exact HB.out | apply below_alloc | apply pw_below_drewN | apply below_drew1) | exact HB.out)⟩
            · replace c10 := Bool.eq_false_iff.mpr c10
              subst c10
              have H1 : (if 0 ≤ (wrap64 (2 + (Go.bits .or .i64 (wrap64 ((wrap64 (bt a0 0)) * 256)) (wrap64 (bt a0 1))))) then (if (wrap64 (2 + (Go.bits .or .i64 (wrap64 ((wrap64 (bt a0 0)) * 256)) (wrap64 (bt a0 1))))) ≤ (a0.size : Int) then ((wafer_Sum.f kj6 (a0.extract 0 ((wrap64 (2 + (Go.bits .or .i64 (wrap64 ((wrap64 (bt a0 0)) * 256)) (wrap64 (bt a0 1))))) : Int).toNat)).bind fun t111 => ((wafer_foots.f t111).bind fun t112 => (if (wrap64 (2 + (Go.bits .or .i64 (wrap64 ((wrap64 (bt a0 0)) * 256)) (wrap64 (bt a0 1))))) ≤ (wrap64 ((wrap64 (2 + (Go.bits .or .i64 (wrap64 ((wrap64 (bt a0 0)) * 256)) (wrap64 (bt a0 1))))) + 4)) then (if (wrap64 ((wrap64 (2 + (Go.bits .or .i64 (wrap64 ((wrap64 (bt a0 0)) * 256)) (wrap64 (bt a0 1))))) + 4)) ≤ (a0.size : Int) then (if t112.toList = (a0.extract ((wrap64 (2 + (Go.bits .or .i64 (wrap64 ((wrap64 (bt a0 0)) * 256)) (wrap64 (bt a0 1))))) : Int).toNat ((wrap64 ((wrap64 (2 + (Go.bits .or .i64 (wrap64 ((wrap64 (bt a0 0)) * 256)) (wrap64 (bt a0 1))))) + 4)) : Int).toNat).toList then (if 2 ≤ (wrap64 (2 + (Go.bits .or .i64 (wrap64 ((wrap64 (bt a0 0)) * 256)) (wrap64 (bt a0 1))))) then (some (a0.extract 2 ((wrap64 (2 + (Go.bits .or .i64 (wrap64 ((wrap64 (bt a0 0)) * 256)) (wrap64 (bt a0 1))))) : Int).toNat, (wrap64 ((wrap64 (2 + (Go.bits .or .i64 (wrap64 ((wrap64 (bt a0 0)) * 256)) (wrap64 (bt a0 1))))) + 4)))) else (none)) else (some ((⟨#[]⟩ : ByteArray), 0))) else (none)) else (none)))) else (none)) else (none)) = some (r1, r2) := by rw [if_neg (show ¬ (false = true) by decide)] at H; exact H
              clear H
              have H := H1
              clear H1
              obtain ⟨ji11, hji11⟩ : ∃ j_ : Int, (wrap64 (2 + (Go.bits .or .i64 (wrap64 ((wrap64 (bt a0 0)) * 256)) (wrap64 (bt a0 1))))) = j_ := ⟨_, rfl⟩
              replace H : (if 0 ≤ (ji11) then (if (ji11) ≤ (a0.size : Int) then ((wafer_Sum.f kj6 (a0.extract 0 ((ji11) : Int).toNat)).bind fun t111 => ((wafer_foots.f t111).bind fun t112 => (if (ji11) ≤ (wrap64 ((ji11) + 4)) then (if (wrap64 ((ji11) + 4)) ≤ (a0.size : Int) then (if t112.toList = (a0.extract ((ji11) : Int).toNat ((wrap64 ((ji11) + 4)) : Int).toNat).toList then (if 2 ≤ (ji11) then (some (a0.extract 2 ((ji11) : Int).toNat, (wrap64 ((ji11) + 4)))) else (none)) else (some ((⟨#[]⟩ : ByteArray), 0))) else (none)) else (none)))) else (none)) else (none)) = some (r1, r2) := by first | (rw [hji11] at H; exact H) | (simp only [hji11] at H ⊢; exact H)
              have hji11w : (IntKind.i64.wrap (2 + (Go.bits .or .i64 (wrap64 ((wrap64 (bt a0 0)) * 256)) (wrap64 (bt a0 1))))) = ji11 := (i64_w _).trans hji11
              by_cases c12 : 0 ≤ (ji11)
              · rw [if_pos c12] at H
                have c12b0 := eq_true c12
                have c12b1 : decide (0 ≤ (ji11)) = true := decide_eq_true c12
                clear c12
                by_cases c13 : (ji11) ≤ (a0.size : Int)
                · rw [if_pos c13] at H
                  have c13b0 := eq_true c13
                  have c13b1 : decide ((ji11) ≤ (a0.size : Int)) = true := decide_eq_true c13
                  clear c13
                  replace H := Option.bind_eq_some_iff.mp H
                  obtain ⟨t111, A140, H⟩ := H
                  replace H : ((wafer_foots.f t111).bind fun t112 => (if (ji11) ≤ (wrap64 ((ji11) + 4)) then (if (wrap64 ((ji11) + 4)) ≤ (a0.size : Int) then (if t112.toList = (a0.extract ((ji11) : Int).toNat ((wrap64 ((ji11) + 4)) : Int).toNat).toList then (if 2 ≤ (ji11) then (some (a0.extract 2 ((ji11) : Int).toNat, (wrap64 ((ji11) + 4)))) else (none)) else (some ((⟨#[]⟩ : ByteArray), 0))) else (none)) else (none))) = some (r1, r2) := H
                  have A14 := Aside0.mk A140
                  clear A140
                  replace H := Option.bind_eq_some_iff.mp H
                  obtain ⟨t112, A150, H⟩ := H
                  replace H : (if (ji11) ≤ (wrap64 ((ji11) + 4)) then (if (wrap64 ((ji11) + 4)) ≤ (a0.size : Int) then (if t112.toList = (a0.extract ((ji11) : Int).toNat ((wrap64 ((ji11) + 4)) : Int).toNat).toList then (if 2 ≤ (ji11) then (some (a0.extract 2 ((ji11) : Int).toNat, (wrap64 ((ji11) + 4)))) else (none)) else (some ((⟨#[]⟩ : ByteArray), 0))) else (none)) else (none)) = some (r1, r2) := H
                  have A15 := Aside0.mk A150
                  clear A150
                  have c16b0 := eq_true (of_decide_eq_true (by first | (with_reducible assumption) | assumption) : 0 ≤ (ji11))
                  by_cases c17 : (ji11) ≤ (wrap64 ((ji11) + 4))
                  · rw [if_pos c17] at H
                    have c17b0 := eq_true c17
                    have c17b1 : decide ((ji11) ≤ (wrap64 ((ji11) + 4))) = true := decide_eq_true c17
                    by_cases c18 : (wrap64 ((ji11) + 4)) ≤ (a0.size : Int)
                    · rw [if_pos c18] at H
                      have c18b0 := eq_true c18
                      have c18b1 : decide ((wrap64 ((ji11) + 4)) ≤ (a0.size : Int)) = true := decide_eq_true c18
                      by_cases c19 : t112.toList = (a0.extract ((ji11) : Int).toNat ((wrap64 ((ji11) + 4)) : Int).toNat).toList
                      · rw [if_pos c19] at H
                        have c19b0 : (t112.toList == (a0.extract ((ji11) : Int).toNat ((wrap64 ((ji11) + 4)) : Int).toNat).toList) = true := beq_iff_eq.mpr c19
                        have c19b1 : (t112.toList != (a0.extract ((ji11) : Int).toNat ((wrap64 ((ji11) + 4)) : Int).toNat).toList) = false := bne_eq_false_iff_eq.mpr c19
                        clear c19
                        by_cases c20 : 2 ≤ (ji11)
                        · rw [if_pos c20] at H
                          have c20b0 := eq_true c20
                          have c20b1 : decide (2 ≤ (ji11)) = true := decide_eq_true c20
                          clear c20
                          have c21b0 := eq_true (of_decide_eq_true (by first | (with_reducible assumption) | assumption) : (ji11) ≤ (a0.size : Int))
                          simp only [Option.some.injEq, Prod.mk.injEq] at H
                          obtain ⟨rfl, rfl⟩ := H
                          try go_wp2
                          have n0_ := Aside0.mk (below_drew1 HB.out)
                          clear HB
                          have HB := n0_
                          clear n0_
                          refine start_ (n := 12) (S := fun w' => True) (ds := []) #[false, false, false, false, false, false, false, false, false, false, false, false] (by kernel_rfl) rfl rfl trivial (fun hHeld => ?_); refine with_tabW wafer_Open.tab7 wafer_Open.bits7 (fun HT_ HW_ => ?_)
                          generalize wc.drew = w22 at HB hHeld ⊢
                          refine pure_ (i := 0) (N := some 28) (v := ?_) (a' := ?_) #[true, false, false, false, false, false, false, false, false, false, false, false] rfl rfl (any_of HT_.out (by kernel_rfl)) (fun _ _ _ h => h) (Or.inl ⟨by rfl, ?_⟩) ?_ ?_
                          rotate_left
                          · intro w'
                            go_simp
                            with_reducible rfl
                          rotate_left
                          · simp only [Act.put, List.setIfInBounds_toArray, List.set_cons_zero, List.set_cons_succ, i64_w, i32_w]
                            rfl
                          refine pure_ (i := 1) (N := some 29) (v := ?_) (a' := ?_) #[true, true, false, false, false, false, false, false, false, false, false, false] rfl rfl (any_of HT_.out (by kernel_rfl)) (fun _ _ _ h => h) (Or.inl ⟨by rfl, ?_⟩) ?_ ?_
                          rotate_left
                          · intro w'
                            go_simp
                            with_reducible rfl
                          rotate_left
                          · simp only [Act.put, List.setIfInBounds_toArray, List.set_cons_zero, List.set_cons_succ, i64_w, i32_w]
                            rfl
                          refine pure_ (i := 2) (N := some 30) (v := ?_) (a' := ?_) #[true, true, true, false, false, false, false, false, false, false, false, false] rfl rfl (any_of HT_.out (by kernel_rfl)) (fun _ _ _ h => h) (Or.inl ⟨by rfl, ?_⟩) ?_ ?_
                          rotate_left
                          · intro w'
                            go_simp
                            with_reducible rfl
                          rotate_left
                          · simp only [Act.put, List.setIfInBounds_toArray, List.set_cons_zero, List.set_cons_succ, i64_w, i32_w]
                            rfl
                          refine pure_ (i := 3) (N := some 31) (v := ?_) (a' := ?_) #[true, true, true, true, false, false, false, false, false, false, false, false] rfl rfl (any_of HT_.out (by kernel_rfl)) (fun _ _ _ h => h) (Or.inl ⟨by rfl, ?_⟩) ?_ ?_
                          rotate_left
                          · intro w'
                            go_simp
                            with_reducible rfl
                          rotate_left
                          · simp only [Act.put, List.setIfInBounds_toArray, List.set_cons_zero, List.set_cons_succ, i64_w, i32_w]
                            rfl
                          refine pure_ (i := 6) (N := some 34) (v := ?_) (a' := ?_) #[true, true, true, true, false, false, true, false, false, false, false, false] rfl rfl (any_of HT_.out (by kernel_rfl)) (fun _ _ _ h => h) (Or.inl ⟨by rfl, ?_⟩) ?_ ?_
                          rotate_left
                          · intro w'
                            go_simp
                            with_reducible rfl
                          rotate_left
                          · simp only [Act.put, List.setIfInBounds_toArray, List.set_cons_zero, List.set_cons_succ, i64_w, i32_w]
                            rfl
                          refine pure_ (i := 7) (N := some 35) (v := ?_) (a' := ?_) #[true, true, true, true, false, false, true, true, false, false, false, false] rfl rfl (any_of HT_.out (by kernel_rfl)) (fun _ _ _ h => h) (Or.inl ⟨by rfl, ?_⟩) ?_ ?_
                          rotate_left
                          · intro w'
                            go_simp
                            with_reducible rfl
                          rotate_left
                          · simp only [Act.put, List.setIfInBounds_toArray, List.set_cons_zero, List.set_cons_succ, i64_w, i32_w]
                            rfl
                          refine pure_ (i := 8) (N := some 36) (v := ?_) (a' := ?_) #[true, true, true, true, false, false, true, true, true, false, false, false] rfl rfl (any_of HT_.out (by kernel_rfl)) (fun _ _ _ h => h) (Or.inl ⟨by rfl, ?_⟩) ?_ ?_
                          rotate_left
                          · intro w'
                            go_simp
                            with_reducible rfl
                          rotate_left
                          · simp only [Act.put, List.setIfInBounds_toArray, List.set_cons_zero, List.set_cons_succ, i64_w, i32_w]
                            rfl
                          refine pure_ (i := 9) (N := some 37) (v := ?_) (a' := ?_) #[true, true, true, true, false, false, true, true, true, true, false, false] rfl rfl (any_of HT_.out (by kernel_rfl)) (fun _ _ _ h => h) (Or.inl ⟨by rfl, ?_⟩) ?_ ?_
                          rotate_left
                          · intro w'
                            go_simp
                            with_reducible rfl
                          rotate_left
                          · simp only [Act.put, List.setIfInBounds_toArray, List.set_cons_zero, List.set_cons_succ, i64_w, i32_w]
                            rfl
                          refine pure_ (i := 10) (N := some 38) (v := ?_) (a' := ?_) #[true, true, true, true, false, false, true, true, true, true, true, false] rfl rfl (any_of HT_.out (by kernel_rfl)) (fun _ _ _ h => h) (Or.inl ⟨by rfl, ?_⟩) ?_ ?_
                          rotate_left
                          · intro w'
                            go_simp
                            with_reducible rfl
                          rotate_left
                          · simp only [Act.put, List.setIfInBounds_toArray, List.set_cons_zero, List.set_cons_succ, i64_w, i32_w]
                            rfl
                          refine one_ (i := 4) (N := some 32) #[true, true, true, true, true, false, true, true, true, true, true, false] rfl rfl (one_of HT_.out (by kernel_rfl)) (by decide) (fun K hK => ?_)
                          refine goes_ Try.func11 (by kernel_rfl) rfl #[.string (a0.extract 0 ((ji11) : Int).toNat)] (by rfl) rfl rfl (by (try simp only [List.map_toArray, List.map_cons, List.map_nil]); first | done | (simp only [hji11]; rfl) | rfl | (simp only [List.length_drop, List.length_take]; rfl)) ?_
                          with_reducible refine (wafer_Sum.calls kj6 (a0.extract 0 ((ji11) : Int).toNat) t111 _ A14.out).mono ?_
                          rintro e w' ⟨rfl, ⟨nd, rfl⟩⟩
                          refine ⟨_, rfl, ?_⟩
                          refine hK.out _ _ trivial (fun hHeld => ?_)
                          clear hK K
                          refine norm_ (a' := ?_) ?_ ?_
                          rotate_left
                          · show Act.put _ (some 32) _ = _
                            simp only [Act.put, List.setIfInBounds_toArray, List.set_cons_zero, List.set_cons_succ, i64_w, i32_w]
                            rfl
                          refine one_ (i := 5) (N := some 33) #[true, true, true, true, true, true, true, true, true, true, true, false] rfl rfl (one_of HT_.out (by kernel_rfl)) (by decide) (fun K hK => ?_)
                          refine goes_ Try.func22 (by kernel_rfl) rfl #[.int .u32 t111] (by rfl) rfl rfl (by (try simp only [List.map_toArray, List.map_cons, List.map_nil]); first | done | rfl | (simp only [List.length_drop, List.length_take]; rfl)) ?_
                          with_reducible refine (wafer_foots.calls t111 t112 _ A15.out).mono ?_
                          rintro e w23 ⟨rfl, hb⟩
                          refine ⟨_, rfl, ?_⟩
                          have n0_ := Aside0.mk (below_step (by repeat (first | (with_reducible first | exact HB.out | apply below_alloc | apply pw_below_drewN | apply below_drew1) | exact HB.out)) hb)
                          clear HB
                          have HB := n0_
                          clear n0_
                          (try clear hb)
                          (try clear hb2)
                          (try clear hk)
                          (try clear hi)
                          refine hK.out _ _ trivial (fun hHeld => ?_)
                          clear hK K
                          refine norm_ (a' := ?_) ?_ ?_
                          rotate_left
                          · show Act.put _ (some 33) _ = _
                            simp only [Act.put, List.setIfInBounds_toArray, List.set_cons_zero, List.set_cons_succ, i64_w, i32_w]
                            rfl
                          refine pure_ (i := 11) (N := some 39) (v := ?_) (a' := ?_) #[true, true, true, true, true, true, true, true, true, true, true, true] rfl rfl (any_of HT_.out (by kernel_rfl)) (fun _ _ _ h => h) (Or.inl ⟨by rfl, ?_⟩) ?_ ?_
                          rotate_left
                          · intro w'
                            go_simp
                            with_reducible rfl
                          rotate_left
                          · simp only [Act.put, List.setIfInBounds_toArray, List.set_cons_zero, List.set_cons_succ, i64_w, i32_w]
                            rfl
                          refine done_ (done_of HT_.out (by kernel_rfl)) ?_
                          try go_wp2
                          go_ret2
                          exact ⟨by first | rfl | (simp [errW_none, errW_some] <;> rfl) | (simp only [← hji11]; first | rfl | (simp [errW_none, errW_some] <;> rfl)) | (simp [*, errW_none, errW_some] <;> rfl), by repeat (first | (with_reducible first | exact HB.out | apply below_alloc | apply pw_below_drewN | apply below_drew1) | exact HB.out)⟩
                        · rw [if_neg c20] at H
                          exact absurd H (by simp)
                      · rw [if_neg c19] at H
                        have c19b0 : (t112.toList == (a0.extract ((ji11) : Int).toNat ((wrap64 ((ji11) + 4)) : Int).toNat).toList) = false := beq_eq_false_iff_ne.mpr c19
                        have c19b1 : (t112.toList != (a0.extract ((ji11) : Int).toNat ((wrap64 ((ji11) + 4)) : Int).toNat).toList) = true := bne_iff_ne.mpr c19
                        simp only [Option.some.injEq, Prod.mk.injEq] at H
                        obtain ⟨rfl, rfl⟩ := H
                        try go_wp2
                        have n0_ := Aside0.mk (below_drew1 HB.out)
                        clear HB
                        have HB := n0_
                        clear n0_
                        refine start_ (n := 12) (S := fun w' => True) (ds := []) #[false, false, false, false, false, false, false, false, false, false, false, false] (by kernel_rfl) rfl rfl trivial (fun hHeld => ?_); refine with_tabW wafer_Open.tab7 wafer_Open.bits7 (fun HT_ HW_ => ?_)
                        generalize wc.drew = w24 at HB hHeld ⊢
                        refine pure_ (i := 0) (N := some 28) (v := ?_) (a' := ?_) #[true, false, false, false, false, false, false, false, false, false, false, false] rfl rfl (any_of HT_.out (by kernel_rfl)) (fun _ _ _ h => h) (Or.inl ⟨by rfl, ?_⟩) ?_ ?_
                        rotate_left
                        · intro w'
                          go_simp
                          with_reducible rfl
                        rotate_left
                        · simp only [Act.put, List.setIfInBounds_toArray, List.set_cons_zero, List.set_cons_succ, i64_w, i32_w]
                          rfl
                        refine pure_ (i := 1) (N := some 29) (v := ?_) (a' := ?_) #[true, true, false, false, false, false, false, false, false, false, false, false] rfl rfl (any_of HT_.out (by kernel_rfl)) (fun _ _ _ h => h) (Or.inl ⟨by rfl, ?_⟩) ?_ ?_
                        rotate_left
                        · intro w'
                          go_simp
                          with_reducible rfl
                        rotate_left
                        · simp only [Act.put, List.setIfInBounds_toArray, List.set_cons_zero, List.set_cons_succ, i64_w, i32_w]
                          rfl
                        refine pure_ (i := 2) (N := some 30) (v := ?_) (a' := ?_) #[true, true, true, false, false, false, false, false, false, false, false, false] rfl rfl (any_of HT_.out (by kernel_rfl)) (fun _ _ _ h => h) (Or.inl ⟨by rfl, ?_⟩) ?_ ?_
                        rotate_left
                        · intro w'
                          go_simp
                          with_reducible rfl
                        rotate_left
                        · simp only [Act.put, List.setIfInBounds_toArray, List.set_cons_zero, List.set_cons_succ, i64_w, i32_w]
                          rfl
                        refine pure_ (i := 3) (N := some 31) (v := ?_) (a' := ?_) #[true, true, true, true, false, false, false, false, false, false, false, false] rfl rfl (any_of HT_.out (by kernel_rfl)) (fun _ _ _ h => h) (Or.inl ⟨by rfl, ?_⟩) ?_ ?_
                        rotate_left
                        · intro w'
                          go_simp
                          with_reducible rfl
                        rotate_left
                        · simp only [Act.put, List.setIfInBounds_toArray, List.set_cons_zero, List.set_cons_succ, i64_w, i32_w]
                          rfl
                        refine pure_ (i := 6) (N := some 34) (v := ?_) (a' := ?_) #[true, true, true, true, false, false, true, false, false, false, false, false] rfl rfl (any_of HT_.out (by kernel_rfl)) (fun _ _ _ h => h) (Or.inl ⟨by rfl, ?_⟩) ?_ ?_
                        rotate_left
                        · intro w'
                          go_simp
                          with_reducible rfl
                        rotate_left
                        · simp only [Act.put, List.setIfInBounds_toArray, List.set_cons_zero, List.set_cons_succ, i64_w, i32_w]
                          rfl
                        refine pure_ (i := 7) (N := some 35) (v := ?_) (a' := ?_) #[true, true, true, true, false, false, true, true, false, false, false, false] rfl rfl (any_of HT_.out (by kernel_rfl)) (fun _ _ _ h => h) (Or.inl ⟨by rfl, ?_⟩) ?_ ?_
                        rotate_left
                        · intro w'
                          go_simp
                          with_reducible rfl
                        rotate_left
                        · simp only [Act.put, List.setIfInBounds_toArray, List.set_cons_zero, List.set_cons_succ, i64_w, i32_w]
                          rfl
                        refine pure_ (i := 8) (N := some 36) (v := ?_) (a' := ?_) #[true, true, true, true, false, false, true, true, true, false, false, false] rfl rfl (any_of HT_.out (by kernel_rfl)) (fun _ _ _ h => h) (Or.inl ⟨by rfl, ?_⟩) ?_ ?_
                        rotate_left
                        · intro w'
                          go_simp
                          with_reducible rfl
                        rotate_left
                        · simp only [Act.put, List.setIfInBounds_toArray, List.set_cons_zero, List.set_cons_succ, i64_w, i32_w]
                          rfl
                        refine pure_ (i := 9) (N := some 37) (v := ?_) (a' := ?_) #[true, true, true, true, false, false, true, true, true, true, false, false] rfl rfl (any_of HT_.out (by kernel_rfl)) (fun _ _ _ h => h) (Or.inl ⟨by rfl, ?_⟩) ?_ ?_
                        rotate_left
                        · intro w'
                          go_simp
                          with_reducible rfl
                        rotate_left
                        · simp only [Act.put, List.setIfInBounds_toArray, List.set_cons_zero, List.set_cons_succ, i64_w, i32_w]
                          rfl
                        refine pure_ (i := 10) (N := some 38) (v := ?_) (a' := ?_) #[true, true, true, true, false, false, true, true, true, true, true, false] rfl rfl (any_of HT_.out (by kernel_rfl)) (fun _ _ _ h => h) (Or.inl ⟨by rfl, ?_⟩) ?_ ?_
                        rotate_left
                        · intro w'
                          go_simp
                          with_reducible rfl
                        rotate_left
                        · simp only [Act.put, List.setIfInBounds_toArray, List.set_cons_zero, List.set_cons_succ, i64_w, i32_w]
                          rfl
                        refine one_ (i := 4) (N := some 32) #[true, true, true, true, true, false, true, true, true, true, true, false] rfl rfl (one_of HT_.out (by kernel_rfl)) (by decide) (fun K hK => ?_)
                        refine goes_ Try.func11 (by kernel_rfl) rfl #[.string (a0.extract 0 ((ji11) : Int).toNat)] (by rfl) rfl rfl (by (try simp only [List.map_toArray, List.map_cons, List.map_nil]); first | done | (simp only [hji11]; rfl) | rfl | (simp only [List.length_drop, List.length_take]; rfl)) ?_
                        with_reducible refine (wafer_Sum.calls kj6 (a0.extract 0 ((ji11) : Int).toNat) t111 _ A14.out).mono ?_
                        rintro e w' ⟨rfl, ⟨nd, rfl⟩⟩
                        refine ⟨_, rfl, ?_⟩
                        refine hK.out _ _ trivial (fun hHeld => ?_)
                        clear hK K
                        refine norm_ (a' := ?_) ?_ ?_
                        rotate_left
                        · show Act.put _ (some 32) _ = _
                          simp only [Act.put, List.setIfInBounds_toArray, List.set_cons_zero, List.set_cons_succ, i64_w, i32_w]
                          rfl
                        refine one_ (i := 5) (N := some 33) #[true, true, true, true, true, true, true, true, true, true, true, false] rfl rfl (one_of HT_.out (by kernel_rfl)) (by decide) (fun K hK => ?_)
                        refine goes_ Try.func22 (by kernel_rfl) rfl #[.int .u32 t111] (by rfl) rfl rfl (by (try simp only [List.map_toArray, List.map_cons, List.map_nil]); first | done | rfl | (simp only [List.length_drop, List.length_take]; rfl)) ?_
                        with_reducible refine (wafer_foots.calls t111 t112 _ A15.out).mono ?_
                        rintro e w25 ⟨rfl, hb⟩
                        refine ⟨_, rfl, ?_⟩
                        have n0_ := Aside0.mk (below_step (by repeat (first | (with_reducible first | exact HB.out | apply below_alloc | apply pw_below_drewN | apply below_drew1) | exact HB.out)) hb)
                        clear HB
                        have HB := n0_
                        clear n0_
                        (try clear hb)
                        (try clear hb2)
                        (try clear hk)
                        (try clear hi)
                        refine hK.out _ _ trivial (fun hHeld => ?_)
                        clear hK K
                        refine norm_ (a' := ?_) ?_ ?_
                        rotate_left
                        · show Act.put _ (some 33) _ = _
                          simp only [Act.put, List.setIfInBounds_toArray, List.set_cons_zero, List.set_cons_succ, i64_w, i32_w]
                          rfl
                        refine pure_ (i := 11) (N := some 39) (v := ?_) (a' := ?_) #[true, true, true, true, true, true, true, true, true, true, true, true] rfl rfl (any_of HT_.out (by kernel_rfl)) (fun _ _ _ h => h) (Or.inl ⟨by rfl, ?_⟩) ?_ ?_
                        rotate_left
                        · intro w'
                          go_simp
                          with_reducible rfl
                        rotate_left
                        · simp only [Act.put, List.setIfInBounds_toArray, List.set_cons_zero, List.set_cons_succ, i64_w, i32_w]
                          rfl
                        refine done_ (done_of HT_.out (by kernel_rfl)) ?_
                        try go_wp2
                        go_ret2
                        exact ⟨by first | rfl | (simp [errW_none, errW_some] <;> rfl) | (simp only [← hji11]; first | rfl | (simp [errW_none, errW_some] <;> rfl)) | (simp [*, errW_none, errW_some] <;> rfl), by repeat (first | (with_reducible first | exact HB.out | apply below_alloc | apply pw_below_drewN | apply below_drew1) | exact HB.out)⟩
                    · rw [if_neg c18] at H
                      exact absurd H (by simp)
                  · rw [if_neg c17] at H
                    exact absurd H (by simp)
                · rw [if_neg c13] at H
                  exact absurd H (by simp)
              · rw [if_neg c12] at H
                exact absurd H (by simp)
      · rw [if_neg c5] at H
        exact absurd H (by simp)
    · rw [if_neg c3] at H
      exact absurd H (by simp)

end Go.Proofs.Ytjegpbaohoigjaa.PWaferTurned
