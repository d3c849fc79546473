/- Written by a program of this session, which began as the kit's print and is turned in wip/printer: the plain form of each function, and that the Go code comes to it. -/
import Derived.Test.YtfimbmdbaaiemaaPTokenDoesx0
import Derived.Test.YtfimbmdbaaiemaaPTokenDoesx1
namespace Go.Proofs.Ytfimbmdbaaiemaa.PTokenDoes
open Go.RowKit Go.Proofs.YtfimbmdbaaiemaaW.PrintWords Go.Proofs.YtfimbmdbaaiemaaW.PrintLast Go.Proofs.YtfimbmdbaaiemaaW.PrintMore
attribute [local go_sem] max2_int min2_int max_two min_two max_three min_three max_four min_four   -- for this text's walks alone
set_option linter.unusedVariables false
set_option linter.unusedSimpArgs false

/-- A state of type 55 at block g of W; what its slices lead to came in by w0. -/
def IsS55 (w0 W : World) (g : Nat) (f0 : Int) (f1 : Bool) (f2 : Int) : Prop := W.heap[g]? = some (.cells #[.int .i64 f0, .bool f1, .int .i64 f2] 55 (0, 0)) ∧ w0.heap.size ≤ g
theorem IsS55.grown {w0 W : World} {g : Nat} {f0 : Int} {f1 : Bool} {f2 : Int} {W1 : World} {row : Option Nat} (h : IsS55 w0 W g f0 f1 f2) (hw : W.grownBy W1 row) (hne : some g ≠ row) : IsS55 w0 W1 g f0 f1 f2 := by
  obtain ⟨hb, hg⟩ := h
  exact ⟨blk_grown hb hw hne, hg⟩
theorem IsS55.own_neN {w0 W : World} {g : Nat} {f0 : Int} {f1 : Bool} {f2 : Int} {α : Type} {d : Kd α} {e : Nat} {base : Nat} {ok : Nat → Prop} {v : Value} {xs : List α} (h : IsS55 w0 W g f0 f1 f2) (ho : Kd.N d e W base ok v xs) (ht : e ≠ 55) : some g ≠ v.ownBlock := by
  obtain ⟨hb, hg⟩ := h
  exact Kd.N_ne ho hb ht
theorem IsS55.fresh {w0 W : World} {g : Nat} {f0 : Int} {f1 : Bool} {f2 : Int} (h : IsS55 w0 W g f0 f1 f2) : ∀ k, W.heap.size ≤ k → k ≠ g := by
  obtain ⟨hb, hg⟩ := h
  exact Kd.freshB hb
theorem IsS55.kept {w0 W : World} {g : Nat} {f0 : Int} {f1 : Bool} {f2 : Int} {W1 : World} {S : Nat → Prop} (h : IsS55 w0 W g f0 f1 f2) (hk : Kept W W1 S) (hne : ¬ S g) : IsS55 w0 W1 g f0 f1 f2 := by
  obtain ⟨hb, hg⟩ := h
  exact ⟨blk_kept hb hk hne, hg⟩
theorem IsS55.below {w0 W : World} {g : Nat} {f0 : Int} {f1 : Bool} {f2 : Int} {W1 : World} (h : IsS55 w0 W g f0 f1 f2) (hw : Below W.heap.size W W1) : IsS55 w0 W1 g f0 f1 f2 := h.grown (grown_of_below hw none) (by simp)
theorem IsS55.alloc {w0 W : World} {g : Nat} {f0 : Int} {f1 : Bool} {f2 : Int} (h : IsS55 w0 W g f0 f1 f2) (o : Obj) : IsS55 w0 (W.alloc o) g f0 f1 f2 := h.below (below_alloc (Below.refl _ _) o)
theorem IsS55.drewN {w0 W : World} {g : Nat} {f0 : Int} {f1 : Bool} {f2 : Int} (h : IsS55 w0 W g f0 f1 f2) (m : Nat) : IsS55 w0 (W.drewN m) g f0 f1 f2 := h
theorem IsS55.drew {w0 W : World} {g : Nat} {f0 : Int} {f1 : Bool} {f2 : Int} (h : IsS55 w0 W g f0 f1 f2) : IsS55 w0 W.drew g f0 f1 f2 := h
theorem IsS55.at_ {w0 W : World} {g : Nat} {f0 : Int} {f1 : Bool} {f2 : Int} {w' : World} {m : Nat} (hq : W.drewN m = w') (h : IsS55 w0 W g f0 f1 f2) : IsS55 w0 w' g f0 f1 f2 := by subst hq; exact IsS55.drewN h m
theorem IsS55.apart {w0 W : World} {g : Nat} {f0 : Int} {f1 : Bool} {f2 : Int} {α : Type} {d : Kd α} {e : Nat} {base : Nat} {ok : Nat → Prop} {v : Value} {xs : List α} (h : IsS55 w0 W g f0 f1 f2) (ho : d.R e W base ok v xs) (ht : ∀ q, q ∈ e :: d.E → q ≠ 55) : d.R e W base (fun k => ok k ∧ k ≠ g) v xs := by
  obtain ⟨hb, hg⟩ := h
  exact Kd.R_types ho hb ht
theorem IsS55.own_ne {w0 W : World} {g : Nat} {f0 : Int} {f1 : Bool} {f2 : Int} {α : Type} {d : Kd α} {e : Nat} {base : Nat} {ok : Nat → Prop} {v : Value} {xs : List α} (h : IsS55 w0 W g f0 f1 f2) (ho : d.R e W base ok v xs) (ht : e ≠ 55) : some g ≠ v.ownBlock := by
  obtain ⟨hb, hg⟩ := h
  exact Kd.R_ne ho hb ht
theorem IsS55.apartQ {w0 W : World} {g : Nat} {f0 : Int} {f1 : Bool} {f2 : Int} {α : Type} {d : Kd α} {e : Nat} {base : Nat} {ok : Nat → Prop} {v : Value} {xs : List α} (h : IsS55 w0 W g f0 f1 f2) (ho : d.Q e W base ok v xs) (ht : ∀ q, q ∈ e :: d.E → q ≠ 55) : d.Q e W base (fun k => ok k ∧ k ≠ g) v xs := by
  obtain ⟨hb, hg⟩ := h
  exact Kd.Q_types ho hb ht
theorem IsS55.own_neQ {w0 W : World} {g : Nat} {f0 : Int} {f1 : Bool} {f2 : Int} {α : Type} {d : Kd α} {e : Nat} {base : Nat} {ok : Nat → Prop} {v : Value} {xs : List α} (h : IsS55 w0 W g f0 f1 f2) (ho : d.Q e W base ok v xs) (ht : e ≠ 55) : some g ≠ v.ownBlock := by
  obtain ⟨hb, hg⟩ := h
  exact Kd.Q_ne ho hb ht
theorem IsS55.apartS {w0 W : World} {g : Nat} {f0 : Int} {f1 : Bool} {f2 : Int} {α : Type} {d : Kd α} {e : Nat} {base : Nat} {ok : Nat → Prop} {v : Value} {xs : List α} (h : IsS55 w0 W g f0 f1 f2) (ho : d.S e W base ok v xs) (ht : ∀ q, q ∈ e :: d.E → q ≠ 55) : d.S e W base (fun k => ok k ∧ k ≠ g) v xs := by
  obtain ⟨hb, hg⟩ := h
  exact Kd.S_types ho hb ht
theorem IsS55.own_neS {w0 W : World} {g : Nat} {f0 : Int} {f1 : Bool} {f2 : Int} {α : Type} {d : Kd α} {e : Nat} {base : Nat} {ok : Nat → Prop} {v : Value} {xs : List α} (h : IsS55 w0 W g f0 f1 f2) (ho : d.S e W base ok v xs) (ht : e ≠ 55) : some g ≠ v.ownBlock := by
  obtain ⟨hb, hg⟩ := h
  exact Kd.S_ne ho hb ht
theorem IsS55.lt {w0 W : World} {g : Nat} {f0 : Int} {f1 : Bool} {f2 : Int} (h : IsS55 w0 W g f0 f1 f2) : g < W.heap.size := by
  obtain ⟨hb, hg⟩ := h
  exact blk_lt hb
theorem IsS55.ge {w0 W : World} {g : Nat} {f0 : Int} {f1 : Bool} {f2 : Int} (h : IsS55 w0 W g f0 f1 f2) : w0.heap.size ≤ g := by
  obtain ⟨hb, hg⟩ := h
  exact hg
theorem IsS55.ne_blk {w0 W : World} {g : Nat} {f0 : Int} {f1 : Bool} {f2 : Int} {a : Nat} {cs : Array Value} {t : TypeId} {fr : Nat × Nat} (h : IsS55 w0 W g f0 f1 f2) (hb2 : W.heap[a]? = some (.cells cs t fr)) (ht : t ≠ 55) : g ≠ a := by
  obtain ⟨hb, hg⟩ := h
  rintro rfl
  rw [hb] at hb2
  injection hb2 with hb2
  injection hb2 with _ ht2
  exact ht ht2.symm
theorem IsS55.far {w0 W : World} {g : Nat} {f0 : Int} {f1 : Bool} {f2 : Int} {p : Addr} (h : IsS55 w0 W g f0 f1 f2) (hne : g ≠ p.block) (u : Value) : IsS55 w0 (W.setCell p u) g f0 f1 f2 := by
  obtain ⟨hb, hg⟩ := h
  exact ⟨blk_far hb hne u, hg⟩
theorem cellS55_0 {W : World} {g : Nat} {f0 : Int} {f1 : Bool} {f2 : Int} (h : W.heap[g]? = some (.cells #[.int .i64 f0, .bool f1, .int .i64 f2] 55 (0, 0))) : W.cell? ⟨g, 0, none⟩ = some (.int .i64 f0) := (blk_cell h 0).trans rfl
theorem IsS55.set_0 {w0 W : World} {g : Nat} {f0 : Int} {f1 : Bool} {f2 : Int} (h : IsS55 w0 W g f0 f1 f2) (x : Int) : IsS55 w0 (W.setCell ⟨g, 0, none⟩ (.int .i64 x)) g x f1 f2 := by
  obtain ⟨hb, hg⟩ := h
  exact ⟨by simpa using blk_set hb 0 (.int .i64 x), hg⟩
theorem cellS55_1 {W : World} {g : Nat} {f0 : Int} {f1 : Bool} {f2 : Int} (h : W.heap[g]? = some (.cells #[.int .i64 f0, .bool f1, .int .i64 f2] 55 (0, 0))) : W.cell? ⟨g, 1, none⟩ = some (.bool f1) := (blk_cell h 1).trans rfl
theorem IsS55.set_1 {w0 W : World} {g : Nat} {f0 : Int} {f1 : Bool} {f2 : Int} (h : IsS55 w0 W g f0 f1 f2) (x : Bool) : IsS55 w0 (W.setCell ⟨g, 1, none⟩ (.bool x)) g f0 x f2 := by
  obtain ⟨hb, hg⟩ := h
  exact ⟨by simpa using blk_set hb 1 (.bool x), hg⟩
theorem cellS55_2 {W : World} {g : Nat} {f0 : Int} {f1 : Bool} {f2 : Int} (h : W.heap[g]? = some (.cells #[.int .i64 f0, .bool f1, .int .i64 f2] 55 (0, 0))) : W.cell? ⟨g, 2, none⟩ = some (.int .i64 f2) := (blk_cell h 2).trans rfl
theorem IsS55.set_2 {w0 W : World} {g : Nat} {f0 : Int} {f1 : Bool} {f2 : Int} (h : IsS55 w0 W g f0 f1 f2) (x : Int) : IsS55 w0 (W.setCell ⟨g, 2, none⟩ (.int .i64 x)) g f0 f1 x := by
  obtain ⟨hb, hg⟩ := h
  exact ⟨by simpa using blk_set hb 2 (.int .i64 x), hg⟩
theorem IsS55.new (w0 W : World) (f0 : Int) (f1 : Bool) (f2 : Int) (hB : Below w0.heap.size w0 W) : IsS55 w0 (W.alloc (.cells #[.int .i64 f0, .bool f1, .int .i64 f2] 55)) W.heap.size f0 f1 f2 := ⟨by simpa using heap_alloc_new W _, hB.size⟩

/-! ### countermandref19_Token_Free: function 39 -/
def countermandref19_Token_Free.f (s0_0 : Int) (s0_1 : Bool) (s0_2 : Int) (a1 : Int) : Option (Bool × Int × Bool × Int) := if a1 < 0 then (some (false, s0_0, s0_1, s0_2)) else (if s0_0 ≥ 0 then (if s0_0 = a1 then (if s0_2 ≥ 0 then (some (!(s0_2 != a1), s0_0, s0_1, s0_2)) else (some (!false, s0_0, s0_1, s0_2))) else (some (!true, s0_0, s0_1, s0_2))) else (if s0_2 ≥ 0 then (some (!(s0_2 != a1), s0_0, s0_1, s0_2)) else (some (!false, s0_0, s0_1, s0_2))))
set_option maxHeartbeats 8000000 in
set_option maxRecDepth 100000 in
theorem countermandref19_Token_Free.calls (g : Nat) (s0_0 : Int) (s0_1 : Bool) (s0_2 : Int) (a1 : Int) (r1 : Bool) (r2 : Int) (r3 : Bool) (r4 : Int) (w0 w : World) (hI : IsS55 w0 w g s0_0 s0_1 s0_2) (hB : Below w0.heap.size w0 w) (h : countermandref19_Token_Free.f s0_0 s0_1 s0_2 a1 = some (r1, r2, r3, r4)) :
    Calls Try.prog 39 #[.pointer (some ⟨g, 0, none⟩), .int .i64 a1] w fun e w' => e = .returned (.bool r1) ∧ IsS55 w0 w' g r2 r3 r4 ∧ Below w0.heap.size w0 w' ∧ KeepBut w w' g none := by
  have HI0 := Aside0.mk hI
  have HK := Aside0.mk (KeepBut.refl w g none)
  have HL := Aside0.mk hB.size
  clear hI
  have HW0 := Aside0.mk hB.size
  have HB := Aside0.mk hB
  clear hB
  have H : (if a1 < 0 then (some (false, s0_0, s0_1, s0_2)) else (if s0_0 ≥ 0 then (if s0_0 = a1 then (if s0_2 ≥ 0 then (some (!(s0_2 != a1), s0_0, s0_1, s0_2)) else (some (!false, s0_0, s0_1, s0_2))) else (some (!true, s0_0, s0_1, s0_2))) else (if s0_2 ≥ 0 then (some (!(s0_2 != a1), s0_0, s0_1, s0_2)) else (some (!false, s0_0, s0_1, s0_2))))) = some (r1, r2, r3, r4) := h
  clear h
  by_cases c3 : a1 < 0
  · rw [if_pos c3] at H
    have c3b0 : decide (a1 < 0) = true := decide_eq_true c3
    clear c3
    simp only [Option.some.injEq, Prod.mk.injEq] at H
    obtain ⟨rfl, rfl, rfl, rfl⟩ := H
    go_enter Try.func39, Try.ntmps39
    go_wp2
    go_ret
    exact ⟨by first | rfl | (simp [errW_none, errW_some] <;> rfl) | (simp [*, errW_none, errW_some] <;> rfl), by repeat (first | (with_reducible first | exact HI0.out | apply IsS55.alloc | apply IsS55.drewN | apply IsS55.drew | apply IsS55.set_0 | apply IsS55.set_1 | apply IsS55.set_2) | exact HI0.out), by repeat (first | (with_reducible first | exact HB.out | apply below_alloc | apply pw_below_drewN | apply below_drew1 | refine below_set ?_ (IsS55.ge HI0.out)) | exact HB.out), by repeat (first | (with_reducible first | exact HK.out | apply KeepBut.set_ | apply keep_drewN | apply keep_drew | apply keep_alloc) | exact HK.out)⟩
  · rw [if_neg c3] at H
    have c3b0 : decide (a1 < 0) = false := decide_eq_false c3
    clear c3
    by_cases c4 : s0_0 ≥ 0
    · rw [if_pos c4] at H
      have c4b0 : decide (0 ≤ s0_0) = true := decide_eq_true c4
      clear c4
      by_cases c5 : s0_0 = a1
      · rw [if_pos c5] at H
        have c5b0 : (s0_0 == a1) = true := beq_iff_eq.mpr c5
        have c5b1 : (s0_0 != a1) = false := bne_eq_false_iff_eq.mpr c5
        clear c5
        by_cases c6 : s0_2 ≥ 0
        · rw [if_pos c6] at H
          have c6b0 : decide (0 ≤ s0_2) = true := decide_eq_true c6
          clear c6
          simp only [Option.some.injEq, Prod.mk.injEq] at H
          obtain ⟨rfl, rfl, rfl, rfl⟩ := H
          obtain ⟨HGz7, hgz7⟩ := HI0.out
          have hcz7_0 := cellS55_0 HGz7
          have hcz7_1 := cellS55_1 HGz7
          have hcz7_2 := cellS55_2 HGz7
          have hfz7_0 := blk_frozen HGz7 0
          have hfz7_1 := blk_frozen HGz7 1
          have hfz7_2 := blk_frozen HGz7 2
          clear HGz7 hgz7
          go_enter Try.func39, Try.ntmps39
          go_wp2
          go_ret
          exact ⟨by first | rfl | (simp [errW_none, errW_some] <;> rfl) | (simp [*, errW_none, errW_some] <;> rfl), by repeat (first | (with_reducible first | exact HI0.out | apply IsS55.alloc | apply IsS55.drewN | apply IsS55.drew | apply IsS55.set_0 | apply IsS55.set_1 | apply IsS55.set_2) | exact HI0.out), by repeat (first | (with_reducible first | exact HB.out | apply below_alloc | apply pw_below_drewN | apply below_drew1 | refine below_set ?_ (IsS55.ge HI0.out)) | exact HB.out), by repeat (first | (with_reducible first | exact HK.out | apply KeepBut.set_ | apply keep_drewN | apply keep_drew | apply keep_alloc) | exact HK.out)⟩
        · rw [if_neg c6] at H
          have c6b0 : decide (0 ≤ s0_2) = false := decide_eq_false c6
          clear c6
          simp only [Option.some.injEq, Prod.mk.injEq] at H
          obtain ⟨rfl, rfl, rfl, rfl⟩ := H
          obtain ⟨HGz8, hgz8⟩ := HI0.out
          have hcz8_0 := cellS55_0 HGz8
          have hcz8_1 := cellS55_1 HGz8
          have hcz8_2 := cellS55_2 HGz8
          have hfz8_0 := blk_frozen HGz8 0
          have hfz8_1 := blk_frozen HGz8 1
          have hfz8_2 := blk_frozen HGz8 2
          clear HGz8 hgz8
          go_enter Try.func39, Try.ntmps39
          go_wp2
          go_ret
          exact ⟨by first | rfl | (simp [errW_none, errW_some] <;> rfl) | (simp [*, errW_none, errW_some] <;> rfl), by repeat (first | (with_reducible first | exact HI0.out | apply IsS55.alloc | apply IsS55.drewN | apply IsS55.drew | apply IsS55.set_0 | apply IsS55.set_1 | apply IsS55.set_2) | exact HI0.out), by repeat (first | (with_reducible first | exact HB.out | apply below_alloc | apply pw_below_drewN | apply below_drew1 | refine below_set ?_ (IsS55.ge HI0.out)) | exact HB.out), by repeat (first | (with_reducible first | exact HK.out | apply KeepBut.set_ | apply keep_drewN | apply keep_drew | apply keep_alloc) | exact HK.out)⟩
      · rw [if_neg c5] at H
        have c5b0 : (s0_0 == a1) = false := beq_eq_false_iff_ne.mpr c5
        have c5b1 : (s0_0 != a1) = true := bne_iff_ne.mpr c5
        simp only [Option.some.injEq, Prod.mk.injEq] at H
        obtain ⟨rfl, rfl, rfl, rfl⟩ := H
        obtain ⟨HGz9, hgz9⟩ := HI0.out
        have hcz9_0 := cellS55_0 HGz9
        have hcz9_1 := cellS55_1 HGz9
        have hcz9_2 := cellS55_2 HGz9
        have hfz9_0 := blk_frozen HGz9 0
        have hfz9_1 := blk_frozen HGz9 1
        have hfz9_2 := blk_frozen HGz9 2
        clear HGz9 hgz9
        go_enter Try.func39, Try.ntmps39
        go_wp2
        go_ret
        exact ⟨by first | rfl | (simp [errW_none, errW_some] <;> rfl) | (simp [*, errW_none, errW_some] <;> rfl), by repeat (first | (with_reducible first | exact HI0.out | apply IsS55.alloc | apply IsS55.drewN | apply IsS55.drew | apply IsS55.set_0 | apply IsS55.set_1 | apply IsS55.set_2) | exact HI0.out), by repeat (first | (with_reducible first | exact HB.out | apply below_alloc | apply pw_below_drewN | apply below_drew1 | refine below_set ?_ (IsS55.ge HI0.out)) | exact HB.out), by repeat (first | (with_reducible first | exact HK.out | apply KeepBut.set_ | apply keep_drewN | apply keep_drew | apply keep_alloc) | exact HK.out)⟩
    · rw [if_neg c4] at H
      have c4b0 : decide (0 ≤ s0_0) = false := decide_eq_false c4
      clear c4
      by_cases c10 : s0_2 ≥ 0
      · rw [if_pos c10] at H
        have c10b0 : decide (0 ≤ s0_2) = true := decide_eq_true c10
        clear c10
        simp only [Option.some.injEq, Prod.mk.injEq] at H
        obtain ⟨rfl, rfl, rfl, rfl⟩ := H
        obtain ⟨HGz11, hgz11⟩ := HI0.out
        have hcz11_0 := cellS55_0 HGz11
        have hcz11_1 := cellS55_1 HGz11
        have hcz11_2 := cellS55_2 HGz11
        have hfz11_0 := blk_frozen HGz11 0
        have hfz11_1 := blk_frozen HGz11 1
        have hfz11_2 := blk_frozen HGz11 2
        clear HGz11 hgz11
        go_enter Try.func39, Try.ntmps39
        go_wp2
        go_ret
        exact ⟨by first | rfl | (simp [errW_none, errW_some] <;> rfl) | (simp [*, errW_none, errW_some] <;> rfl), by repeat (first | (with_reducible first | exact HI0.out | apply IsS55.alloc | apply IsS55.drewN | apply IsS55.drew | apply IsS55.set_0 | apply IsS55.set_1 | apply IsS55.set_2) | exact HI0.out), by repeat (first | (with_reducible first | exact HB.out | apply below_alloc | apply pw_below_drewN | apply below_drew1 | refine below_set ?_ (IsS55.ge HI0.out)) | exact HB.out), by repeat (first | (with_reducible first | exact HK.out | apply KeepBut.set_ | apply keep_drewN | apply keep_drew | apply keep_alloc) | exact HK.out)⟩
      · rw [if_neg c10] at H
        have c10b0 : decide (0 ≤ s0_2) = false := decide_eq_false c10
        clear c10
        simp only [Option.some.injEq, Prod.mk.injEq] at H
        obtain ⟨rfl, rfl, rfl, rfl⟩ := H
        obtain ⟨HGz12, hgz12⟩ := HI0.out
        have hcz12_0 := cellS55_0 HGz12
        have hcz12_1 := cellS55_1 HGz12
        have hcz12_2 := cellS55_2 HGz12
        have hfz12_0 := blk_frozen HGz12 0
        have hfz12_1 := blk_frozen HGz12 1
        have hfz12_2 := blk_frozen HGz12 2
        clear HGz12 hgz12
        go_enter Try.func39, Try.ntmps39
        go_wp2
        go_ret
        exact ⟨by first | rfl | (simp [errW_none, errW_some] <;> rfl) | (simp [*, errW_none, errW_some] <;> rfl), by repeat (first | (with_reducible first | exact HI0.out | apply IsS55.alloc | apply IsS55.drewN | apply IsS55.drew | apply IsS55.set_0 | apply IsS55.set_1 | apply IsS55.set_2) | exact HI0.out), by repeat (first | (with_reducible first | exact HB.out | apply below_alloc | apply pw_below_drewN | apply below_drew1 | refine below_set ?_ (IsS55.ge HI0.out)) | exact HB.out), by repeat (first | (with_reducible first | exact HK.out | apply KeepBut.set_ | apply keep_drewN | apply keep_drew | apply keep_alloc) | exact HK.out)⟩

/-! ### countermandref19_Token_Take: function 35 -/
def countermandref19_Token_Take.f (s0_0 : Int) (s0_1 : Bool) (s0_2 : Int) (a1 : Int) (a2 : Bool) : Option (Bool × Int × Bool × Int) := (countermandref19_Token_Free.f s0_0 s0_1 s0_2 a1).bind fun bt130 => (if bt130.1 = true then (if a2 = true then (if bt130.2.1 = a1 then (some (true, a1, bt130.2.2.1, bt130.2.2.2)) else (some (true, a1, false, bt130.2.2.2))) else (some (true, a1, true, bt130.2.2.2))) else (some (false, bt130.2.1, bt130.2.2.1, bt130.2.2.2)))
set_option maxHeartbeats 8000000 in
set_option maxRecDepth 100000 in
theorem countermandref19_Token_Take.calls (g : Nat) (s0_0 : Int) (s0_1 : Bool) (s0_2 : Int) (a1 : Int) (a2 : Bool) (r1 : Bool) (r2 : Int) (r3 : Bool) (r4 : Int) (w0 w : World) (hI : IsS55 w0 w g s0_0 s0_1 s0_2) (hB : Below w0.heap.size w0 w) (h : countermandref19_Token_Take.f s0_0 s0_1 s0_2 a1 a2 = some (r1, r2, r3, r4)) :
    Calls Try.prog 35 #[.pointer (some ⟨g, 0, none⟩), .int .i64 a1, .bool a2] w fun e w' => e = .returned (.bool r1) ∧ IsS55 w0 w' g r2 r3 r4 ∧ Below w0.heap.size w0 w' ∧ KeepBut w w' g none := by
  have HI0 := Aside0.mk hI
  have HK := Aside0.mk (KeepBut.refl w g none)
  have HL := Aside0.mk hB.size
  clear hI
  have HW0 := Aside0.mk hB.size
  have HB := Aside0.mk hB
  clear hB
  have H : ((countermandref19_Token_Free.f s0_0 s0_1 s0_2 a1).bind fun bt130 => (if bt130.1 = true then (if a2 = true then (if bt130.2.1 = a1 then (some (true, a1, bt130.2.2.1, bt130.2.2.2)) else (some (true, a1, false, bt130.2.2.2))) else (some (true, a1, true, bt130.2.2.2))) else (some (false, bt130.2.1, bt130.2.2.1, bt130.2.2.2)))) = some (r1, r2, r3, r4) := h
  clear h
  replace H := Option.bind_eq_some_iff.mp H
  obtain ⟨⟨t130, t131, t132, t133⟩, A40, H⟩ := H
  replace H : (if t130 = true then (if a2 = true then (if t131 = a1 then (some (true, a1, t132, t133)) else (some (true, a1, false, t133))) else (some (true, a1, true, t133))) else (some (false, t131, t132, t133))) = some (r1, r2, r3, r4) := H
  have A4 := Aside0.mk A40
  clear A40
  by_cases c5 : t130 = true
  · subst c5
    have H1 : (if a2 = true then (if t131 = a1 then (some (true, a1, t132, t133)) else (some (true, a1, false, t133))) else (some (true, a1, true, t133))) = some (r1, r2, r3, r4) := by rw [if_pos rfl] at H; exact H
    clear H
    have H := H1
    clear H1
    by_cases c6 : a2 = true
    · subst c6
      have H1 : (if t131 = a1 then (some (true, a1, t132, t133)) else (some (true, a1, false, t133))) = some (r1, r2, r3, r4) := by rw [if_pos rfl] at H; exact H
      clear H
      have H := H1
      clear H1
      by_cases c7 : t131 = a1
      · rw [if_pos c7] at H
        have c7b0 : (t131 == a1) = true := beq_iff_eq.mpr c7
        have c7b1 : (t131 != a1) = false := bne_eq_false_iff_eq.mpr c7
        clear c7
        simp only [Option.some.injEq, Prod.mk.injEq] at H
        obtain ⟨rfl, rfl, rfl, rfl⟩ := H
        go_enter Try.func35, Try.ntmps35
        go_wp2_with (first | ((with_reducible refine gate_callee (f := 39) rfl ?_); refine goesL_ (some 9) rfl rfl Try.func39 (by kernel_rfl) rfl #[.pointer (some ⟨g, 0, none⟩), .int .i64 a1] rfl (by (try simp only [List.map_toArray, List.map_cons, List.map_nil]); first | done | rfl | (simp only [List.length_drop, List.length_take]; rfl)) ?_; (with_reducible refine (countermandref19_Token_Free.calls g s0_0 s0_1 s0_2 a1 true t131 t132 t133 w0 _ ?side1 ?side2 A4.out).mono ?_); (case side1 => repeat (first | (with_reducible first | exact HI0.out | apply IsS55.alloc | apply IsS55.drewN | apply IsS55.drew | apply IsS55.set_0 | apply IsS55.set_1 | apply IsS55.set_2) | exact HI0.out)); (case side2 => repeat (first | (with_reducible first | exact HB.out | apply below_alloc | apply pw_below_drewN | apply below_drew1 | refine below_set ?_ (IsS55.ge HI0.out)) | exact HB.out)); rintro e w8 ⟨rfl, hi, hb, hk⟩; refine ⟨_, rfl, ?_⟩; have n0_ := Aside0.mk (KeepBut.trans (by repeat (first | (with_reducible first | exact HK.out | apply KeepBut.set_ | apply keep_drewN | apply keep_drew | apply keep_alloc) | exact HK.out)) hk (.inl rfl)); have n1_ := Aside0.mk (hb); have n2_ := Aside0.mk (hi); clear HK; clear HB; clear HI0; have HK := n0_; have HB := n1_; have HI0 := n2_; clear n0_ n1_ n2_; (try clear hb); (try clear hb2); (try clear hk); (try clear hi); obtain ⟨HGz9, hgz9⟩ := HI0.out; have hcz9_0 := cellS55_0 HGz9; have hcz9_1 := cellS55_1 HGz9; have hcz9_2 := cellS55_2 HGz9; have hfz9_0 := blk_frozen HGz9 0; have hfz9_1 := blk_frozen HGz9 1; have hfz9_2 := blk_frozen HGz9 2; clear HGz9 hgz9))
        go_ret
        exact ⟨by first | rfl | (simp [errW_none, errW_some] <;> rfl) | (simp [*, errW_none, errW_some] <;> rfl), by repeat (first | (with_reducible first | exact HI0.out | apply IsS55.alloc | apply IsS55.drewN | apply IsS55.drew | apply IsS55.set_0 | apply IsS55.set_1 | apply IsS55.set_2) | exact HI0.out), by repeat (first | (with_reducible first | exact HB.out | apply below_alloc | apply pw_below_drewN | apply below_drew1 | refine below_set ?_ (IsS55.ge HI0.out)) | exact HB.out), by repeat (first | (with_reducible first | exact HK.out | apply KeepBut.set_ | apply keep_drewN | apply keep_drew | apply keep_alloc) | exact HK.out)⟩
      · rw [if_neg c7] at H
        have c7b0 : (t131 == a1) = false := beq_eq_false_iff_ne.mpr c7
        have c7b1 : (t131 != a1) = true := bne_iff_ne.mpr c7
        simp only [Option.some.injEq, Prod.mk.injEq] at H
        obtain ⟨rfl, rfl, rfl, rfl⟩ := H
        go_enter Try.func35, Try.ntmps35
        go_wp2_with (first | ((with_reducible refine gate_callee (f := 39) rfl ?_); refine goesL_ (some 9) rfl rfl Try.func39 (by kernel_rfl) rfl #[.pointer (some ⟨g, 0, none⟩), .int .i64 a1] rfl (by (try simp only [List.map_toArray, List.map_cons, List.map_nil]); first | done | rfl | (simp only [List.length_drop, List.length_take]; rfl)) ?_; (with_reducible refine (countermandref19_Token_Free.calls g s0_0 s0_1 s0_2 a1 true t131 t132 t133 w0 _ ?side1 ?side2 A4.out).mono ?_); (case side1 => repeat (first | (with_reducible first | exact HI0.out | apply IsS55.alloc | apply IsS55.drewN | apply IsS55.drew | apply IsS55.set_0 | apply IsS55.set_1 | apply IsS55.set_2) | exact HI0.out)); (case side2 => repeat (first | (with_reducible first | exact HB.out | apply below_alloc | apply pw_below_drewN | apply below_drew1 | refine below_set ?_ (IsS55.ge HI0.out)) | exact HB.out)); rintro e w10 ⟨rfl, hi, hb, hk⟩; refine ⟨_, rfl, ?_⟩; have n0_ := Aside0.mk (KeepBut.trans (by repeat (first | (with_reducible first | exact HK.out | apply KeepBut.set_ | apply keep_drewN | apply keep_drew | apply keep_alloc) | exact HK.out)) hk (.inl rfl)); have n1_ := Aside0.mk (hb); have n2_ := Aside0.mk (hi); clear HK; clear HB; clear HI0; have HK := n0_; have HB := n1_; have HI0 := n2_; clear n0_ n1_ n2_; (try clear hb); (try clear hb2); (try clear hk); (try clear hi); obtain ⟨HGz11, hgz11⟩ := HI0.out; have hcz11_0 := cellS55_0 HGz11; have hcz11_1 := cellS55_1 HGz11; have hcz11_2 := cellS55_2 HGz11; have hfz11_0 := blk_frozen HGz11 0; have hfz11_1 := blk_frozen HGz11 1; have hfz11_2 := blk_frozen HGz11 2; clear HGz11 hgz11))
        go_ret
        exact ⟨by first | rfl | (simp [errW_none, errW_some] <;> rfl) | (simp [*, errW_none, errW_some] <;> rfl), by repeat (first | (with_reducible first | exact HI0.out | apply IsS55.alloc | apply IsS55.drewN | apply IsS55.drew | apply IsS55.set_0 | apply IsS55.set_1 | apply IsS55.set_2) | exact HI0.out), by repeat (first | (with_reducible first | exact HB.out | apply below_alloc | apply pw_below_drewN | apply below_drew1 | refine below_set ?_ (IsS55.ge HI0.out)) | exact HB.out), by repeat (first | (with_reducible first | exact HK.out | apply KeepBut.set_ | apply keep_drewN | apply keep_drew | apply keep_alloc) | exact HK.out)⟩
    · replace c6 := Bool.eq_false_iff.mpr c6
      subst c6
      have H1 : (some (true, a1, true, t133)) = some (r1, r2, r3, r4) := by rw [if_neg (show ¬ (false = true) by decide)] at H; exact H
      clear H
      have H := H1
      clear H1
      simp only [Option.some.injEq, Prod.mk.injEq] at H
      obtain ⟨rfl, rfl, rfl, rfl⟩ := H
      go_enter Try.func35, Try.ntmps35
      go_wp2_with (first | ((with_reducible refine gate_callee (f := 39) rfl ?_); refine goesL_ (some 9) rfl rfl Try.func39 (by kernel_rfl) rfl #[.pointer (some ⟨g, 0, none⟩), .int .i64 a1] rfl (by (try simp only [List.map_toArray, List.map_cons, List.map_nil]); first | done | rfl | (simp only [List.length_drop, List.length_take]; rfl)) ?_; (with_reducible refine (countermandref19_Token_Free.calls g s0_0 s0_1 s0_2 a1 true t131 t132 t133 w0 _ ?side1 ?side2 A4.out).mono ?_); (case side1 => repeat (first | (with_reducible first | exact HI0.out | apply IsS55.alloc | apply IsS55.drewN | apply IsS55.drew | apply IsS55.set_0 | apply IsS55.set_1 | apply IsS55.set_2) | exact HI0.out)); (case side2 => repeat (first | (with_reducible first | exact HB.out | apply below_alloc | apply pw_below_drewN | apply below_drew1 | refine below_set ?_ (IsS55.ge HI0.out)) | exact HB.out)); rintro e w12 ⟨rfl, hi, hb, hk⟩; refine ⟨_, rfl, ?_⟩; have n0_ := Aside0.mk (KeepBut.trans (by repeat (first | (with_reducible first | exact HK.out | apply KeepBut.set_ | apply keep_drewN | apply keep_drew | apply keep_alloc) | exact HK.out)) hk (.inl rfl)); have n1_ := Aside0.mk (hb); have n2_ := Aside0.mk (hi); clear HK; clear HB; clear HI0; have HK := n0_; have HB := n1_; have HI0 := n2_; clear n0_ n1_ n2_; (try clear hb); (try clear hb2); (try clear hk); (try clear hi); obtain ⟨HGz13, hgz13⟩ := HI0.out; have hcz13_0 := cellS55_0 HGz13; have hcz13_1 := cellS55_1 HGz13; have hcz13_2 := cellS55_2 HGz13; have hfz13_0 := blk_frozen HGz13 0; have hfz13_1 := blk_frozen HGz13 1; have hfz13_2 := blk_frozen HGz13 2; clear HGz13 hgz13))
      go_ret
      exact ⟨by first | rfl | (simp [errW_none, errW_some] <;> rfl) | (simp [*, errW_none, errW_some] <;> rfl), by repeat (first | (with_reducible first | exact HI0.out | apply IsS55.alloc | apply IsS55.drewN | apply IsS55.drew | apply IsS55.set_0 | apply IsS55.set_1 | apply IsS55.set_2) | exact HI0.out), by repeat (first | (with_reducible first | exact HB.out | apply below_alloc | apply pw_below_drewN | apply below_drew1 | refine below_set ?_ (IsS55.ge HI0.out)) | exact HB.out), by repeat (first | (with_reducible first | exact HK.out | apply KeepBut.set_ | apply keep_drewN | apply keep_drew | apply keep_alloc) | exact HK.out)⟩
  · replace c5 := Bool.eq_false_iff.mpr c5
    subst c5
    have H1 : (some (false, t131, t132, t133)) = some (r1, r2, r3, r4) := by rw [if_neg (show ¬ (false = true) by decide)] at H; exact H
    clear H
    have H := H1
    clear H1
    simp only [Option.some.injEq, Prod.mk.injEq] at H
    obtain ⟨rfl, rfl, rfl, rfl⟩ := H
    go_enter Try.func35, Try.ntmps35
    go_wp2_with (first | ((with_reducible refine gate_callee (f := 39) rfl ?_); refine goesL_ (some 9) rfl rfl Try.func39 (by kernel_rfl) rfl #[.pointer (some ⟨g, 0, none⟩), .int .i64 a1] rfl (by (try simp only [List.map_toArray, List.map_cons, List.map_nil]); first | done | rfl | (simp only [List.length_drop, List.length_take]; rfl)) ?_; (with_reducible refine (countermandref19_Token_Free.calls g s0_0 s0_1 s0_2 a1 false t131 t132 t133 w0 _ ?side1 ?side2 A4.out).mono ?_); (case side1 => repeat (first | (with_reducible first | exact HI0.out | apply IsS55.alloc | apply IsS55.drewN | apply IsS55.drew | apply IsS55.set_0 | apply IsS55.set_1 | apply IsS55.set_2) | exact HI0.out)); (case side2 => repeat (first | (with_reducible first | exact HB.out | apply below_alloc | apply pw_below_drewN | apply below_drew1 | refine below_set ?_ (IsS55.ge HI0.out)) | exact HB.out)); rintro e w14 ⟨rfl, hi, hb, hk⟩; refine ⟨_, rfl, ?_⟩; have n0_ := Aside0.mk (KeepBut.trans (by repeat (first | (with_reducible first | exact HK.out | apply KeepBut.set_ | apply keep_drewN | apply keep_drew | apply keep_alloc) | exact HK.out)) hk (.inl rfl)); have n1_ := Aside0.mk (hb); have n2_ := Aside0.mk (hi); clear HK; clear HB; clear HI0; have HK := n0_; have HB := n1_; have HI0 := n2_; clear n0_ n1_ n2_; (try clear hb); (try clear hb2); (try clear hk); (try clear hi)))
    go_ret
    exact ⟨by first | rfl | (simp [errW_none, errW_some] <;> rfl) | (simp [*, errW_none, errW_some] <;> rfl), by repeat (first | (with_reducible first | exact HI0.out | apply IsS55.alloc | apply IsS55.drewN | apply IsS55.drew | apply IsS55.set_0 | apply IsS55.set_1 | apply IsS55.set_2) | exact HI0.out), by repeat (first | (with_reducible first | exact HB.out | apply below_alloc | apply pw_below_drewN | apply below_drew1 | refine below_set ?_ (IsS55.ge HI0.out)) | exact HB.out), by repeat (first | (with_reducible first | exact HK.out | apply KeepBut.set_ | apply keep_drewN | apply keep_drew | apply keep_alloc) | exact HK.out)⟩

/-! ### countermandref19_Token_Lock: function 36 -/
def countermandref19_Token_Lock.f (s0_0 : Int) (s0_1 : Bool) (s0_2 : Int) (a1 : Int) : Option (Bool × Int × Bool × Int) := (countermandref19_Token_Free.f s0_0 s0_1 s0_2 a1).bind fun bt134 => (if bt134.1 = true then (some (true, bt134.2.1, bt134.2.2.1, a1)) else (some (false, bt134.2.1, bt134.2.2.1, bt134.2.2.2)))
set_option maxHeartbeats 8000000 in
set_option maxRecDepth 100000 in
theorem countermandref19_Token_Lock.calls (g : Nat) (s0_0 : Int) (s0_1 : Bool) (s0_2 : Int) (a1 : Int) (r1 : Bool) (r2 : Int) (r3 : Bool) (r4 : Int) (w0 w : World) (hI : IsS55 w0 w g s0_0 s0_1 s0_2) (hB : Below w0.heap.size w0 w) (h : countermandref19_Token_Lock.f s0_0 s0_1 s0_2 a1 = some (r1, r2, r3, r4)) :
    Calls Try.prog 36 #[.pointer (some ⟨g, 0, none⟩), .int .i64 a1] w fun e w' => e = .returned (.bool r1) ∧ IsS55 w0 w' g r2 r3 r4 ∧ Below w0.heap.size w0 w' ∧ KeepBut w w' g none := by
  have HI0 := Aside0.mk hI
  have HK := Aside0.mk (KeepBut.refl w g none)
  have HL := Aside0.mk hB.size
  clear hI
  have HW0 := Aside0.mk hB.size
  have HB := Aside0.mk hB
  clear hB
  have H : ((countermandref19_Token_Free.f s0_0 s0_1 s0_2 a1).bind fun bt134 => (if bt134.1 = true then (some (true, bt134.2.1, bt134.2.2.1, a1)) else (some (false, bt134.2.1, bt134.2.2.1, bt134.2.2.2)))) = some (r1, r2, r3, r4) := h
  clear h
  replace H := Option.bind_eq_some_iff.mp H
  obtain ⟨⟨t134, t135, t136, t137⟩, A30, H⟩ := H
  replace H : (if t134 = true then (some (true, t135, t136, a1)) else (some (false, t135, t136, t137))) = some (r1, r2, r3, r4) := H
  have A3 := Aside0.mk A30
  clear A30
  by_cases c4 : t134 = true
  · subst c4
    have H1 : (some (true, t135, t136, a1)) = some (r1, r2, r3, r4) := by rw [if_pos rfl] at H; exact H
    clear H
    have H := H1
    clear H1
    simp only [Option.some.injEq, Prod.mk.injEq] at H
    obtain ⟨rfl, rfl, rfl, rfl⟩ := H
    go_enter Try.func36, Try.ntmps36
    go_wp2_with (first | ((with_reducible refine gate_callee (f := 39) rfl ?_); refine goesL_ (some 7) rfl rfl Try.func39 (by kernel_rfl) rfl #[.pointer (some ⟨g, 0, none⟩), .int .i64 a1] rfl (by (try simp only [List.map_toArray, List.map_cons, List.map_nil]); first | done | rfl | (simp only [List.length_drop, List.length_take]; rfl)) ?_; (with_reducible refine (countermandref19_Token_Free.calls g s0_0 s0_1 s0_2 a1 true t135 t136 t137 w0 _ ?side1 ?side2 A3.out).mono ?_); (case side1 => repeat (first | (with_reducible first | exact HI0.out | apply IsS55.alloc | apply IsS55.drewN | apply IsS55.drew | apply IsS55.set_0 | apply IsS55.set_1 | apply IsS55.set_2) | exact HI0.out)); (case side2 => repeat (first | (with_reducible first | exact HB.out | apply below_alloc | apply pw_below_drewN | apply below_drew1 | refine below_set ?_ (IsS55.ge HI0.out)) | exact HB.out)); rintro e w5 ⟨rfl, hi, hb, hk⟩; refine ⟨_, rfl, ?_⟩; have n0_ := Aside0.mk (KeepBut.trans (by repeat (first | (with_reducible first | exact HK.out | apply KeepBut.set_ | apply keep_drewN | apply keep_drew | apply keep_alloc) | exact HK.out)) hk (.inl rfl)); have n1_ := Aside0.mk (hb); have n2_ := Aside0.mk (hi); clear HK; clear HB; clear HI0; have HK := n0_; have HB := n1_; have HI0 := n2_; clear n0_ n1_ n2_; (try clear hb); (try clear hb2); (try clear hk); (try clear hi); obtain ⟨HGz6, hgz6⟩ := HI0.out; have hcz6_0 := cellS55_0 HGz6; have hcz6_1 := cellS55_1 HGz6; have hcz6_2 := cellS55_2 HGz6; have hfz6_0 := blk_frozen HGz6 0; have hfz6_1 := blk_frozen HGz6 1; have hfz6_2 := blk_frozen HGz6 2; clear HGz6 hgz6))
    go_ret
    exact ⟨by first | rfl | (simp [errW_none, errW_some] <;> rfl) | (simp [*, errW_none, errW_some] <;> rfl), by repeat (first | (with_reducible first | exact HI0.out | apply IsS55.alloc | apply IsS55.drewN | apply IsS55.drew | apply IsS55.set_0 | apply IsS55.set_1 | apply IsS55.set_2) | exact HI0.out), by repeat (first | (with_reducible first | exact HB.out | apply below_alloc | apply pw_below_drewN | apply below_drew1 | refine below_set ?_ (IsS55.ge HI0.out)) | exact HB.out), by repeat (first | (with_reducible first | exact HK.out | apply KeepBut.set_ | apply keep_drewN | apply keep_drew | apply keep_alloc) | exact HK.out)⟩
  · replace c4 := Bool.eq_false_iff.mpr c4
    subst c4
    have H1 : (some (false, t135, t136, t137)) = some (r1, r2, r3, r4) := by rw [if_neg (show ¬ (false = true) by decide)] at H; exact H
    clear H
    have H := H1
    clear H1
    simp only [Option.some.injEq, Prod.mk.injEq] at H
    obtain ⟨rfl, rfl, rfl, rfl⟩ := H
    go_enter Try.func36, Try.ntmps36
    go_wp2_with (first | ((with_reducible refine gate_callee (f := 39) rfl ?_); refine goesL_ (some 7) rfl rfl Try.func39 (by kernel_rfl) rfl #[.pointer (some ⟨g, 0, none⟩), .int .i64 a1] rfl (by (try simp only [List.map_toArray, List.map_cons, List.map_nil]); first | done | rfl | (simp only [List.length_drop, List.length_take]; rfl)) ?_; (with_reducible refine (countermandref19_Token_Free.calls g s0_0 s0_1 s0_2 a1 false t135 t136 t137 w0 _ ?side1 ?side2 A3.out).mono ?_); (case side1 => repeat (first | (with_reducible first | exact HI0.out | apply IsS55.alloc | apply IsS55.drewN | apply IsS55.drew | apply IsS55.set_0 | apply IsS55.set_1 | apply IsS55.set_2) | exact HI0.out)); (case side2 => repeat (first | (with_reducible first | exact HB.out | apply below_alloc | apply pw_below_drewN | apply below_drew1 | refine below_set ?_ (IsS55.ge HI0.out)) | exact HB.out)); rintro e w7 ⟨rfl, hi, hb, hk⟩; refine ⟨_, rfl, ?_⟩; have n0_ := Aside0.mk (KeepBut.trans (by repeat (first | (with_reducible first | exact HK.out | apply KeepBut.set_ | apply keep_drewN | apply keep_drew | apply keep_alloc) | exact HK.out)) hk (.inl rfl)); have n1_ := Aside0.mk (hb); have n2_ := Aside0.mk (hi); clear HK; clear HB; clear HI0; have HK := n0_; have HB := n1_; have HI0 := n2_; clear n0_ n1_ n2_; (try clear hb); (try clear hb2); (try clear hk); (try clear hi)))
    go_ret
    exact ⟨by first | rfl | (simp [errW_none, errW_some] <;> rfl) | (simp [*, errW_none, errW_some] <;> rfl), by repeat (first | (with_reducible first | exact HI0.out | apply IsS55.alloc | apply IsS55.drewN | apply IsS55.drew | apply IsS55.set_0 | apply IsS55.set_1 | apply IsS55.set_2) | exact HI0.out), by repeat (first | (with_reducible first | exact HB.out | apply below_alloc | apply pw_below_drewN | apply below_drew1 | refine below_set ?_ (IsS55.ge HI0.out)) | exact HB.out), by repeat (first | (with_reducible first | exact HK.out | apply KeepBut.set_ | apply keep_drewN | apply keep_drew | apply keep_alloc) | exact HK.out)⟩

/-! ### countermandref19_Token_Unlock: function 37 -/
def countermandref19_Token_Unlock.f (s0_0 : Int) (s0_1 : Bool) (s0_2 : Int) (a1 : Int) : Option (Bool × Int × Bool × Int) := if a1 < 0 then (some (false, s0_0, s0_1, s0_2)) else (if s0_2 = a1 then (some (true, s0_0, s0_1, (-1))) else (some (false, s0_0, s0_1, s0_2)))
set_option maxHeartbeats 8000000 in
set_option maxRecDepth 100000 in
theorem countermandref19_Token_Unlock.calls (g : Nat) (s0_0 : Int) (s0_1 : Bool) (s0_2 : Int) (a1 : Int) (r1 : Bool) (r2 : Int) (r3 : Bool) (r4 : Int) (w0 w : World) (hI : IsS55 w0 w g s0_0 s0_1 s0_2) (hB : Below w0.heap.size w0 w) (h : countermandref19_Token_Unlock.f s0_0 s0_1 s0_2 a1 = some (r1, r2, r3, r4)) :
    Calls Try.prog 37 #[.pointer (some ⟨g, 0, none⟩), .int .i64 a1] w fun e w' => e = .returned (.bool r1) ∧ IsS55 w0 w' g r2 r3 r4 ∧ Below w0.heap.size w0 w' ∧ KeepBut w w' g none := by
  have HI0 := Aside0.mk hI
  have HK := Aside0.mk (KeepBut.refl w g none)
  have HL := Aside0.mk hB.size
  clear hI
  have HW0 := Aside0.mk hB.size
  have HB := Aside0.mk hB
  clear hB
  have H : (if a1 < 0 then (some (false, s0_0, s0_1, s0_2)) else (if s0_2 = a1 then (some (true, s0_0, s0_1, (-1))) else (some (false, s0_0, s0_1, s0_2)))) = some (r1, r2, r3, r4) := h
  clear h
  by_cases c3 : a1 < 0
  · rw [if_pos c3] at H
    have c3b0 : decide (a1 < 0) = true := decide_eq_true c3
    clear c3
    simp only [Option.some.injEq, Prod.mk.injEq] at H
    obtain ⟨rfl, rfl, rfl, rfl⟩ := H
    go_enter Try.func37, Try.ntmps37
    go_wp2
    go_ret
    exact ⟨by first | rfl | (simp [errW_none, errW_some] <;> rfl) | (simp [*, errW_none, errW_some] <;> rfl), by repeat (first | (with_reducible first | exact HI0.out | apply IsS55.alloc | apply IsS55.drewN | apply IsS55.drew | apply IsS55.set_0 | apply IsS55.set_1 | apply IsS55.set_2) | exact HI0.out), by repeat (first | (with_reducible first | exact HB.out | apply below_alloc | apply pw_below_drewN | apply below_drew1 | refine below_set ?_ (IsS55.ge HI0.out)) | exact HB.out), by repeat (first | (with_reducible first | exact HK.out | apply KeepBut.set_ | apply keep_drewN | apply keep_drew | apply keep_alloc) | exact HK.out)⟩
  · rw [if_neg c3] at H
    have c3b0 : decide (a1 < 0) = false := decide_eq_false c3
    clear c3
    by_cases c4 : s0_2 = a1
    · rw [if_pos c4] at H
      have c4b0 : (s0_2 == a1) = true := beq_iff_eq.mpr c4
      have c4b1 : (s0_2 != a1) = false := bne_eq_false_iff_eq.mpr c4
      clear c4
      simp only [Option.some.injEq, Prod.mk.injEq] at H
      obtain ⟨rfl, rfl, rfl, rfl⟩ := H
      obtain ⟨HGz5, hgz5⟩ := HI0.out
      have hcz5_0 := cellS55_0 HGz5
      have hcz5_1 := cellS55_1 HGz5
      have hcz5_2 := cellS55_2 HGz5
      have hfz5_0 := blk_frozen HGz5 0
      have hfz5_1 := blk_frozen HGz5 1
      have hfz5_2 := blk_frozen HGz5 2
      clear HGz5 hgz5
      go_enter Try.func37, Try.ntmps37
      go_wp2
      go_ret
      exact ⟨by first | rfl | (simp [errW_none, errW_some] <;> rfl) | (simp [*, errW_none, errW_some] <;> rfl), by repeat (first | (with_reducible first | exact HI0.out | apply IsS55.alloc | apply IsS55.drewN | apply IsS55.drew | apply IsS55.set_0 | apply IsS55.set_1 | apply IsS55.set_2) | exact HI0.out), by repeat (first | (with_reducible first | exact HB.out | apply below_alloc | apply pw_below_drewN | apply below_drew1 | refine below_set ?_ (IsS55.ge HI0.out)) | exact HB.out), by repeat (first | (with_reducible first | exact HK.out | apply KeepBut.set_ | apply keep_drewN | apply keep_drew | apply keep_alloc) | exact HK.out)⟩
    · rw [if_neg c4] at H
      have c4b0 : (s0_2 == a1) = false := beq_eq_false_iff_ne.mpr c4
      have c4b1 : (s0_2 != a1) = true := bne_iff_ne.mpr c4
      simp only [Option.some.injEq, Prod.mk.injEq] at H
      obtain ⟨rfl, rfl, rfl, rfl⟩ := H
      obtain ⟨HGz6, hgz6⟩ := HI0.out
      have hcz6_0 := cellS55_0 HGz6
      have hcz6_1 := cellS55_1 HGz6
      have hcz6_2 := cellS55_2 HGz6
      have hfz6_0 := blk_frozen HGz6 0
      have hfz6_1 := blk_frozen HGz6 1
      have hfz6_2 := blk_frozen HGz6 2
      clear HGz6 hgz6
      go_enter Try.func37, Try.ntmps37
      go_wp2
      go_ret
      exact ⟨by first | rfl | (simp [errW_none, errW_some] <;> rfl) | (simp [*, errW_none, errW_some] <;> rfl), by repeat (first | (with_reducible first | exact HI0.out | apply IsS55.alloc | apply IsS55.drewN | apply IsS55.drew | apply IsS55.set_0 | apply IsS55.set_1 | apply IsS55.set_2) | exact HI0.out), by repeat (first | (with_reducible first | exact HB.out | apply below_alloc | apply pw_below_drewN | apply below_drew1 | refine below_set ?_ (IsS55.ge HI0.out)) | exact HB.out), by repeat (first | (with_reducible first | exact HK.out | apply KeepBut.set_ | apply keep_drewN | apply keep_drew | apply keep_alloc) | exact HK.out)⟩

/-! ### countermandref19_Token_Drop: function 38 -/
def countermandref19_Token_Drop.f (s0_0 : Int) (s0_1 : Bool) (s0_2 : Int) (a1 : Int) : Option (Bool × Int × Bool × Int) := if a1 < 0 then (some (false, s0_0, s0_1, s0_2)) else (if s0_0 = a1 then (some (true, (-1), false, s0_2)) else (some (false, s0_0, s0_1, s0_2)))
set_option maxHeartbeats 8000000 in
set_option maxRecDepth 100000 in
theorem countermandref19_Token_Drop.calls (g : Nat) (s0_0 : Int) (s0_1 : Bool) (s0_2 : Int) (a1 : Int) (r1 : Bool) (r2 : Int) (r3 : Bool) (r4 : Int) (w0 w : World) (hI : IsS55 w0 w g s0_0 s0_1 s0_2) (hB : Below w0.heap.size w0 w) (h : countermandref19_Token_Drop.f s0_0 s0_1 s0_2 a1 = some (r1, r2, r3, r4)) :
    Calls Try.prog 38 #[.pointer (some ⟨g, 0, none⟩), .int .i64 a1] w fun e w' => e = .returned (.bool r1) ∧ IsS55 w0 w' g r2 r3 r4 ∧ Below w0.heap.size w0 w' ∧ KeepBut w w' g none := by
  have HI0 := Aside0.mk hI
  have HK := Aside0.mk (KeepBut.refl w g none)
  have HL := Aside0.mk hB.size
  clear hI
  have HW0 := Aside0.mk hB.size
  have HB := Aside0.mk hB
  clear hB
  have H : (if a1 < 0 then (some (false, s0_0, s0_1, s0_2)) else (if s0_0 = a1 then (some (true, (-1), false, s0_2)) else (some (false, s0_0, s0_1, s0_2)))) = some (r1, r2, r3, r4) := h
  clear h
  by_cases c3 : a1 < 0
  · rw [if_pos c3] at H
    have c3b0 : decide (a1 < 0) = true := decide_eq_true c3
    clear c3
    simp only [Option.some.injEq, Prod.mk.injEq] at H
    obtain ⟨rfl, rfl, rfl, rfl⟩ := H
    go_enter Try.func38, Try.ntmps38
    go_wp2
    go_ret
    exact ⟨by first | rfl | (simp [errW_none, errW_some] <;> rfl) | (simp [*, errW_none, errW_some] <;> rfl), by repeat (first | (with_reducible first | exact HI0.out | apply IsS55.alloc | apply IsS55.drewN | apply IsS55.drew | apply IsS55.set_0 | apply IsS55.set_1 | apply IsS55.set_2) | exact HI0.out), by repeat (first | (with_reducible first | exact HB.out | apply below_alloc | apply pw_below_drewN | apply below_drew1 | refine below_set ?_ (IsS55.ge HI0.out)) | exact HB.out), by repeat (first | (with_reducible first | exact HK.out | apply KeepBut.set_ | apply keep_drewN | apply keep_drew | apply keep_alloc) | exact HK.out)⟩
  · rw [if_neg c3] at H
    have c3b0 : decide (a1 < 0) = false := decide_eq_false c3
    clear c3
    by_cases c4 : s0_0 = a1
    · rw [if_pos c4] at H
      have c4b0 : (s0_0 == a1) = true := beq_iff_eq.mpr c4
      have c4b1 : (s0_0 != a1) = false := bne_eq_false_iff_eq.mpr c4
      clear c4
      simp only [Option.some.injEq, Prod.mk.injEq] at H
      obtain ⟨rfl, rfl, rfl, rfl⟩ := H
      obtain ⟨HGz5, hgz5⟩ := HI0.out
      have hcz5_0 := cellS55_0 HGz5
      have hcz5_1 := cellS55_1 HGz5
      have hcz5_2 := cellS55_2 HGz5
      have hfz5_0 := blk_frozen HGz5 0
      have hfz5_1 := blk_frozen HGz5 1
      have hfz5_2 := blk_frozen HGz5 2
      clear HGz5 hgz5
      go_enter Try.func38, Try.ntmps38
      go_wp2
      go_ret
      exact ⟨by first | rfl | (simp [errW_none, errW_some] <;> rfl) | (simp [*, errW_none, errW_some] <;> rfl), by repeat (first | (with_reducible first | exact HI0.out | apply IsS55.alloc | apply IsS55.drewN | apply IsS55.drew | apply IsS55.set_0 | apply IsS55.set_1 | apply IsS55.set_2) | exact HI0.out), by repeat (first | (with_reducible first | exact HB.out | apply below_alloc | apply pw_below_drewN | apply below_drew1 | refine below_set ?_ (IsS55.ge HI0.out)) | exact HB.out), by repeat (first | (with_reducible first | exact HK.out | apply KeepBut.set_ | apply keep_drewN | apply keep_drew | apply keep_alloc) | exact HK.out)⟩
    · rw [if_neg c4] at H
      have c4b0 : (s0_0 == a1) = false := beq_eq_false_iff_ne.mpr c4
      have c4b1 : (s0_0 != a1) = true := bne_iff_ne.mpr c4
      simp only [Option.some.injEq, Prod.mk.injEq] at H
      obtain ⟨rfl, rfl, rfl, rfl⟩ := H
      obtain ⟨HGz6, hgz6⟩ := HI0.out
      have hcz6_0 := cellS55_0 HGz6
      have hcz6_1 := cellS55_1 HGz6
      have hcz6_2 := cellS55_2 HGz6
      have hfz6_0 := blk_frozen HGz6 0
      have hfz6_1 := blk_frozen HGz6 1
      have hfz6_2 := blk_frozen HGz6 2
      clear HGz6 hgz6
      go_enter Try.func38, Try.ntmps38
      go_wp2
      go_ret
      exact ⟨by first | rfl | (simp [errW_none, errW_some] <;> rfl) | (simp [*, errW_none, errW_some] <;> rfl), by repeat (first | (with_reducible first | exact HI0.out | apply IsS55.alloc | apply IsS55.drewN | apply IsS55.drew | apply IsS55.set_0 | apply IsS55.set_1 | apply IsS55.set_2) | exact HI0.out), by repeat (first | (with_reducible first | exact HB.out | apply below_alloc | apply pw_below_drewN | apply below_drew1 | refine below_set ?_ (IsS55.ge HI0.out)) | exact HB.out), by repeat (first | (with_reducible first | exact HK.out | apply KeepBut.set_ | apply keep_drewN | apply keep_drew | apply keep_alloc) | exact HK.out)⟩

/-! ### countermandlaw19_TokenDoes: function 10 -/
mutual
def countermandlaw19_TokenDoes.l0 : Nat → Int → List (S49) → Int → Int → Int → Bool → Int → Int → Bool → Int → Option (Bool)
  | 0, _, _, _, _, _, _, _, _, _, _ => none
  | k + 1, x1, x23, x24, x25, x143000, x143001, x143002, x144000, x144001, x144002 => if x25 < x24 then (if 0 ≤ x25 then (if x25 < (x23.length : Int) then (if ((rd_T49 x23 x25).f0) = 0 then ((token_Token_Take.f x143000 x143001 x143002 ((rd_T49 x23 x25).f1) ((rd_T49 x23 x25).f2)).bind fun bt146 => ((countermandref19_Token_Take.f x144000 x144001 x144002 ((rd_T49 x23 x25).f1) ((rd_T49 x23 x25).f2)).bind fun bt150 => (countermandlaw19_TokenDoes.j1 k x1 (bt146.1 == bt150.1) x23 x24 x25 bt146.2.1 bt146.2.2.1 bt146.2.2.2 bt150.2.1 bt150.2.2.1 bt150.2.2.2 ((rd_T49 x23 x25).f0) ((rd_T49 x23 x25).f1) ((rd_T49 x23 x25).f2)))) else (if ((rd_T49 x23 x25).f0) = 1 then ((token_Token_Lock.f x143000 x143001 x143002 ((rd_T49 x23 x25).f1)).bind fun bt154 => ((countermandref19_Token_Lock.f x144000 x144001 x144002 ((rd_T49 x23 x25).f1)).bind fun bt158 => (countermandlaw19_TokenDoes.j1 k x1 (bt154.1 == bt158.1) x23 x24 x25 bt154.2.1 bt154.2.2.1 bt154.2.2.2 bt158.2.1 bt158.2.2.1 bt158.2.2.2 ((rd_T49 x23 x25).f0) ((rd_T49 x23 x25).f1) ((rd_T49 x23 x25).f2)))) else (if ((rd_T49 x23 x25).f0) = 2 then ((token_Token_Unlock.f x143000 x143001 x143002 ((rd_T49 x23 x25).f1)).bind fun bt162 => ((countermandref19_Token_Unlock.f x144000 x144001 x144002 ((rd_T49 x23 x25).f1)).bind fun bt166 => (countermandlaw19_TokenDoes.j1 k x1 (bt162.1 == bt166.1) x23 x24 x25 bt162.2.1 bt162.2.2.1 bt162.2.2.2 bt166.2.1 bt166.2.2.1 bt166.2.2.2 ((rd_T49 x23 x25).f0) ((rd_T49 x23 x25).f1) ((rd_T49 x23 x25).f2)))) else (if ((rd_T49 x23 x25).f0) = 3 then ((token_Token_Drop.f x143000 x143001 x143002 ((rd_T49 x23 x25).f1)).bind fun bt170 => ((countermandref19_Token_Drop.f x144000 x144001 x144002 ((rd_T49 x23 x25).f1)).bind fun bt174 => (countermandlaw19_TokenDoes.j1 k x1 (bt170.1 == bt174.1) x23 x24 x25 bt170.2.1 bt170.2.2.1 bt170.2.2.2 bt174.2.1 bt174.2.2.1 bt174.2.2.2 ((rd_T49 x23 x25).f0) ((rd_T49 x23 x25).f1) ((rd_T49 x23 x25).f2)))) else (countermandlaw19_TokenDoes.j1 k x1 true x23 x24 x25 x143000 x143001 x143002 x144000 x144001 x144002 ((rd_T49 x23 x25).f0) ((rd_T49 x23 x25).f1) ((rd_T49 x23 x25).f2)))))) else (none)) else (none)) else ((token_Token_Free_nil.f 0).bind fun t206 => (if t206 = true then (some false) else ((token_Token_Take_nil.f 0 true).bind fun t207 => (if t207 = true then (some false) else ((token_Token_Lock_nil.f 0).bind fun t208 => (if t208 = true then (some false) else ((token_Token_Unlock_nil.f 0).bind fun t209 => (if t209 = true then (some false) else ((token_Token_Drop_nil.f 0).bind fun t210 => (if t210 = true then (some false) else ((token_Token_Holder_nil.f).bind fun t211 => (if t211 = (-1) then ((token_Token_Commits_nil.f).bind fun t212 => (if t212 = (-1) then ((token_Token_Soft_nil.f).bind fun t213 => (if t213 = true then (some false) else ((token_Token_Sure_nil.f 0).bind fun t214 => (some (!t214))))) else (some false))) else (some false)))))))))))))
def countermandlaw19_TokenDoes.j1 : Nat → Int → Bool → List (S49) → Int → Int → Int → Bool → Int → Int → Bool → Int → Int → Int → Bool → Option (Bool)
  | 0, _, _, _, _, _, _, _, _, _, _, _, _, _, _ => none
  | k + 1, x1, x9, x23, x24, x25, x143000, x143001, x143002, x144000, x144001, x144002, x146000, x146001, x146002 => (token_Token_Holder.f x143000 x143001 x143002).bind fun bt178 => ((token_Token_Commits.f bt178.2.1 bt178.2.2.1 bt178.2.2.2).bind fun bt182 => (if x9 = true then (if bt178.1 = x144000 then (if bt182.1 = x144002 then ((token_Token_Soft.f bt182.2.1 bt182.2.2.1 bt182.2.2.2).bind fun bt186 => (if x144000 ≥ 0 then (if bt186.1 = (!x144001) then (if bt178.1 ≥ 0 then (if bt182.1 ≥ 0 then (countermandlaw19_TokenDoes.j2 k x1 x23 x24 x25 (bt178.1 != bt182.1) bt186.2.1 bt186.2.2.1 bt186.2.2.2 x144000 x144001 x144002 x146000 x146001 x146002) else (countermandlaw19_TokenDoes.j2 k x1 x23 x24 x25 false bt186.2.1 bt186.2.2.1 bt186.2.2.2 x144000 x144001 x144002 x146000 x146001 x146002)) else (countermandlaw19_TokenDoes.j2 k x1 x23 x24 x25 false bt186.2.1 bt186.2.2.1 bt186.2.2.2 x144000 x144001 x144002 x146000 x146001 x146002)) else (countermandlaw19_TokenDoes.j2 k x1 x23 x24 x25 true bt186.2.1 bt186.2.2.1 bt186.2.2.2 x144000 x144001 x144002 x146000 x146001 x146002)) else (if bt186.1 = true then (countermandlaw19_TokenDoes.j2 k x1 x23 x24 x25 true bt186.2.1 bt186.2.2.1 bt186.2.2.2 x144000 x144001 x144002 x146000 x146001 x146002) else (if bt178.1 ≥ 0 then (if bt182.1 ≥ 0 then (countermandlaw19_TokenDoes.j2 k x1 x23 x24 x25 (bt178.1 != bt182.1) bt186.2.1 bt186.2.2.1 bt186.2.2.2 x144000 x144001 x144002 x146000 x146001 x146002) else (countermandlaw19_TokenDoes.j2 k x1 x23 x24 x25 false bt186.2.1 bt186.2.2.1 bt186.2.2.2 x144000 x144001 x144002 x146000 x146001 x146002)) else (countermandlaw19_TokenDoes.j2 k x1 x23 x24 x25 false bt186.2.1 bt186.2.2.1 bt186.2.2.2 x144000 x144001 x144002 x146000 x146001 x146002))))) else (countermandlaw19_TokenDoes.j2 k x1 x23 x24 x25 true bt182.2.1 bt182.2.2.1 bt182.2.2.2 x144000 x144001 x144002 x146000 x146001 x146002)) else (countermandlaw19_TokenDoes.j2 k x1 x23 x24 x25 true bt182.2.1 bt182.2.2.1 bt182.2.2.2 x144000 x144001 x144002 x146000 x146001 x146002)) else (countermandlaw19_TokenDoes.j2 k x1 x23 x24 x25 true bt182.2.1 bt182.2.2.1 bt182.2.2.2 x144000 x144001 x144002 x146000 x146001 x146002)))
def countermandlaw19_TokenDoes.j2 : Nat → Int → List (S49) → Int → Int → Bool → Int → Bool → Int → Int → Bool → Int → Int → Int → Bool → Option (Bool)
  | 0, _, _, _, _, _, _, _, _, _, _, _, _, _, _ => none
  | k + 1, x1, x23, x24, x25, x130, x143000, x143001, x143002, x144000, x144001, x144002, x146000, x146001, x146002 => if x130 = true then (some false) else ((some (([x1, x146001, 0, 1] : List Int) : List Int)).bind fun y190 => (countermandlaw19_TokenDoes.l1 k x1 x23 x24 x25 y190 (y190.length : Int) 0 x143000 x143001 x143002 x144000 x144001 x144002))
def countermandlaw19_TokenDoes.l1 : Nat → Int → List (S49) → Int → Int → List Int → Int → Int → Int → Bool → Int → Int → Bool → Int → Option (Bool)
  | 0, _, _, _, _, _, _, _, _, _, _, _, _, _ => none
  | k + 1, x1, x23, x24, x25, x134, x135, x136, x143000, x143001, x143002, x144000, x144001, x144002 => if x136 < x135 then (if 0 ≤ x136 then (if x136 < (x134.length : Int) then ((token_Token_Free.f x143000 x143001 x143002 (rd x134 x136)).bind fun bt194 => ((countermandref19_Token_Free.f x144000 x144001 x144002 (rd x134 x136)).bind fun bt198 => (if bt194.1 = bt198.1 then ((token_Token_Sure.f bt194.2.1 bt194.2.2.1 bt194.2.2.2 (rd x134 x136)).bind fun bt202 => (if (rd x134 x136) ≥ 0 then (if bt198.2.1 = (rd x134 x136) then (if bt202.1 = bt198.2.2.1 then (countermandlaw19_TokenDoes.l1 k x1 x23 x24 x25 x134 x135 (wrap64 (x136 + 1)) bt202.2.1 bt202.2.2.1 bt202.2.2.2 bt198.2.1 bt198.2.2.1 bt198.2.2.2) else (some false)) else (if bt202.1 = true then (some false) else (countermandlaw19_TokenDoes.l1 k x1 x23 x24 x25 x134 x135 (wrap64 (x136 + 1)) bt202.2.1 bt202.2.2.1 bt202.2.2.2 bt198.2.1 bt198.2.2.1 bt198.2.2.2))) else (if bt202.1 = true then (some false) else (countermandlaw19_TokenDoes.l1 k x1 x23 x24 x25 x134 x135 (wrap64 (x136 + 1)) bt202.2.1 bt202.2.2.1 bt202.2.2.2 bt198.2.1 bt198.2.2.1 bt198.2.2.2)))) else (some false)))) else (none)) else (none)) else (countermandlaw19_TokenDoes.l0 k x1 x23 x24 (wrap64 (x25 + 1)) x143000 x143001 x143002 x144000 x144001 x144002)
end
def countermandlaw19_TokenDoes.f (k : Nat) (l0 : List (S49)) (a1 : Int) : Option (Bool) := (countermandlaw19_alive.f).bind fun t138 => (if t138 = true then (if (l0.length : Int) > 100 then (some true) else ((token_New.f).bind fun bt139 => (countermandlaw19_TokenDoes.l0 k a1 l0 (l0.length : Int) 0 bt139.1 bt139.2.1 bt139.2.2 (-1) false (-1)))) else (some false))
theorem countermandlaw19_TokenDoes.mono_l : ∀ k, (∀ y0 y1 y2 y3 y4 y5 y6 y7 y8 y9, LeO (countermandlaw19_TokenDoes.l0 k y0 y1 y2 y3 y4 y5 y6 y7 y8 y9) (countermandlaw19_TokenDoes.l0 (k + 1) y0 y1 y2 y3 y4 y5 y6 y7 y8 y9)) ∧ (∀ y0 y1 y2 y3 y4 y5 y6 y7 y8 y9 y10 y11 y12 y13, LeO (countermandlaw19_TokenDoes.j1 k y0 y1 y2 y3 y4 y5 y6 y7 y8 y9 y10 y11 y12 y13) (countermandlaw19_TokenDoes.j1 (k + 1) y0 y1 y2 y3 y4 y5 y6 y7 y8 y9 y10 y11 y12 y13)) ∧ (∀ y0 y1 y2 y3 y4 y5 y6 y7 y8 y9 y10 y11 y12 y13, LeO (countermandlaw19_TokenDoes.j2 k y0 y1 y2 y3 y4 y5 y6 y7 y8 y9 y10 y11 y12 y13) (countermandlaw19_TokenDoes.j2 (k + 1) y0 y1 y2 y3 y4 y5 y6 y7 y8 y9 y10 y11 y12 y13)) ∧ (∀ y0 y1 y2 y3 y4 y5 y6 y7 y8 y9 y10 y11 y12, LeO (countermandlaw19_TokenDoes.l1 k y0 y1 y2 y3 y4 y5 y6 y7 y8 y9 y10 y11 y12) (countermandlaw19_TokenDoes.l1 (k + 1) y0 y1 y2 y3 y4 y5 y6 y7 y8 y9 y10 y11 y12))
  | 0 => ⟨fun _ _ _ _ _ _ _ _ _ _ r h => by simp [countermandlaw19_TokenDoes.l0] at h, fun _ _ _ _ _ _ _ _ _ _ _ _ _ _ r h => by simp [countermandlaw19_TokenDoes.j1] at h, fun _ _ _ _ _ _ _ _ _ _ _ _ _ _ r h => by simp [countermandlaw19_TokenDoes.j2] at h, fun _ _ _ _ _ _ _ _ _ _ _ _ _ r h => by simp [countermandlaw19_TokenDoes.l1] at h⟩
  | k + 1 => by
    obtain ⟨ih0, ih1, ih2, ih3⟩ := countermandlaw19_TokenDoes.mono_l k
    refine ⟨?_, ?_, ?_, ?_⟩
    · intro y0 y1 y2 y3 y4 y5 y6 y7 y8 y9
      unfold countermandlaw19_TokenDoes.l0
      repeat' first
      | (with_reducible exact ih0 _ _ _ _ _ _ _ _ _ _)
      | (with_reducible exact ih1 _ _ _ _ _ _ _ _ _ _ _ _ _ _)
      | (with_reducible exact ih2 _ _ _ _ _ _ _ _ _ _ _ _ _ _)
      | (with_reducible exact ih3 _ _ _ _ _ _ _ _ _ _ _ _ _)
      | (with_reducible exact LeO.refl _)
      | (with_reducible exact LeO.none _)
      | (with_reducible refine LeO.ite ?_ ?_)
      | (with_reducible refine LeO.bind ?_ (fun _ => ?_))
      | exact ih0 _ _ _ _ _ _ _ _ _ _
      | exact ih1 _ _ _ _ _ _ _ _ _ _ _ _ _ _
      | exact ih2 _ _ _ _ _ _ _ _ _ _ _ _ _ _
      | exact ih3 _ _ _ _ _ _ _ _ _ _ _ _ _
      | exact LeO.none _
      | refine LeO.ite ?_ ?_
      | refine LeO.bind ?_ (fun _ => ?_)
    · intro y0 y1 y2 y3 y4 y5 y6 y7 y8 y9 y10 y11 y12 y13
      unfold countermandlaw19_TokenDoes.j1
      repeat' first
      | (with_reducible exact ih0 _ _ _ _ _ _ _ _ _ _)
      | (with_reducible exact ih1 _ _ _ _ _ _ _ _ _ _ _ _ _ _)
      | (with_reducible exact ih2 _ _ _ _ _ _ _ _ _ _ _ _ _ _)
      | (with_reducible exact ih3 _ _ _ _ _ _ _ _ _ _ _ _ _)
      | (with_reducible exact LeO.refl _)
      | (with_reducible exact LeO.none _)
      | (with_reducible refine LeO.ite ?_ ?_)
      | (with_reducible refine LeO.bind ?_ (fun _ => ?_))
      | exact ih0 _ _ _ _ _ _ _ _ _ _
      | exact ih1 _ _ _ _ _ _ _ _ _ _ _ _ _ _
      | exact ih2 _ _ _ _ _ _ _ _ _ _ _ _ _ _
      | exact ih3 _ _ _ _ _ _ _ _ _ _ _ _ _
      | exact LeO.none _
      | refine LeO.ite ?_ ?_
      | refine LeO.bind ?_ (fun _ => ?_)
    · intro y0 y1 y2 y3 y4 y5 y6 y7 y8 y9 y10 y11 y12 y13
      unfold countermandlaw19_TokenDoes.j2
      repeat' first
      | (with_reducible exact ih0 _ _ _ _ _ _ _ _ _ _)
      | (with_reducible exact ih1 _ _ _ _ _ _ _ _ _ _ _ _ _ _)
      | (with_reducible exact ih2 _ _ _ _ _ _ _ _ _ _ _ _ _ _)
      | (with_reducible exact ih3 _ _ _ _ _ _ _ _ _ _ _ _ _)
      | (with_reducible exact LeO.refl _)
      | (with_reducible exact LeO.none _)
      | (with_reducible refine LeO.ite ?_ ?_)
      | (with_reducible refine LeO.bind ?_ (fun _ => ?_))
      | exact ih0 _ _ _ _ _ _ _ _ _ _
      | exact ih1 _ _ _ _ _ _ _ _ _ _ _ _ _ _
      | exact ih2 _ _ _ _ _ _ _ _ _ _ _ _ _ _
      | exact ih3 _ _ _ _ _ _ _ _ _ _ _ _ _
      | exact LeO.none _
      | refine LeO.ite ?_ ?_
      | refine LeO.bind ?_ (fun _ => ?_)
    · intro y0 y1 y2 y3 y4 y5 y6 y7 y8 y9 y10 y11 y12
      unfold countermandlaw19_TokenDoes.l1
      repeat' first
      | (with_reducible exact ih0 _ _ _ _ _ _ _ _ _ _)
      | (with_reducible exact ih1 _ _ _ _ _ _ _ _ _ _ _ _ _ _)
      | (with_reducible exact ih2 _ _ _ _ _ _ _ _ _ _ _ _ _ _)
      | (with_reducible exact ih3 _ _ _ _ _ _ _ _ _ _ _ _ _)
      | (with_reducible exact LeO.refl _)
      | (with_reducible exact LeO.none _)
      | (with_reducible refine LeO.ite ?_ ?_)
      | (with_reducible refine LeO.bind ?_ (fun _ => ?_))
      | exact ih0 _ _ _ _ _ _ _ _ _ _
      | exact ih1 _ _ _ _ _ _ _ _ _ _ _ _ _ _
      | exact ih2 _ _ _ _ _ _ _ _ _ _ _ _ _ _
      | exact ih3 _ _ _ _ _ _ _ _ _ _ _ _ _
      | exact LeO.none _
      | refine LeO.ite ?_ ?_
      | refine LeO.bind ?_ (fun _ => ?_)
theorem countermandlaw19_TokenDoes.mono : ∀ a0 a1 k, LeO (countermandlaw19_TokenDoes.f k a0 a1) (countermandlaw19_TokenDoes.f (k + 1) a0 a1) := by
  intro a0 a1 k
  obtain ⟨ih0, ih1, ih2, ih3⟩ := countermandlaw19_TokenDoes.mono_l k
  unfold countermandlaw19_TokenDoes.f
  repeat' first
      | (with_reducible exact ih0 _ _ _ _ _ _ _ _ _ _)
      | (with_reducible exact ih1 _ _ _ _ _ _ _ _ _ _ _ _ _ _)
      | (with_reducible exact ih2 _ _ _ _ _ _ _ _ _ _ _ _ _ _)
      | (with_reducible exact ih3 _ _ _ _ _ _ _ _ _ _ _ _ _)
      | (with_reducible exact LeO.refl _)
      | (with_reducible exact LeO.none _)
      | (with_reducible refine LeO.ite ?_ ?_)
      | (with_reducible refine LeO.bind ?_ (fun _ => ?_))
      | exact ih0 _ _ _ _ _ _ _ _ _ _
      | exact ih1 _ _ _ _ _ _ _ _ _ _ _ _ _ _
      | exact ih2 _ _ _ _ _ _ _ _ _ _ _ _ _ _
      | exact ih3 _ _ _ _ _ _ _ _ _ _ _ _ _
      | exact LeO.none _
      | refine LeO.ite ?_ ?_
      | refine LeO.bind ?_ (fun _ => ?_)
theorem countermandlaw19_TokenDoes.j2_false {k_ : Nat} {x1 : Int} {x23 : List (S49)} {x24 : Int} {x25 : Int} {x143000 : Int} {x143001 : Bool} {x143002 : Int} {x144000 : Int} {x144001 : Bool} {x144002 : Int} {x146000 : Int} {x146001 : Int} {x146002 : Bool} {r : Bool} (h : countermandlaw19_TokenDoes.j2 k_ x1 x23 x24 x25 true x143000 x143001 x143002 x144000 x144001 x144002 x146000 x146001 x146002 = some r) : r = false := by
  cases k_ with
  | zero => simp [countermandlaw19_TokenDoes.j2] at h
  | succ k_ =>
    simp [countermandlaw19_TokenDoes.j2] at h
    first | exact h | exact h.symm
def countermandlaw19_TokenDoes.T12 : Bool × List (List Nat × List Nat) := (true, [([], []), ([], []), ([1], [1]), ([], []), ([3], [3]), ([0, 2, 4], [0, 2, 4]), ([], []), ([], []), ([7], [7]), ([], []), ([9], [9]), ([6, 8, 10, 5], [6, 8, 10]), ([5, 11], [5, 11]), ([12, 11, 0, 1, 2, 3, 4, 5, 6, 7, 8, 9, 10, 11, 12], [12])])
def countermandlaw19_TokenDoes.B12 : List Nat := [0, 0, 2, 0, 8, 31, 0, 0, 128, 0, 512, 2047, 4095, 8191]
theorem countermandlaw19_TokenDoes.tab12 : rtab .any (opsOf Try.f10 12) = countermandlaw19_TokenDoes.T12 := by kernel_rfl
theorem countermandlaw19_TokenDoes.bits12 : waitsOk countermandlaw19_TokenDoes.T12.2 countermandlaw19_TokenDoes.B12 = true := by kernel_rfl
def countermandlaw19_TokenDoes.T14 : Bool × List (List Nat × List Nat) := (true, [([], []), ([], []), ([1], [1]), ([0, 2], [0, 2]), ([], []), ([], []), ([5], [5]), ([4, 6, 3], [4, 6]), ([3, 7], [3, 7]), ([8, 7, 0, 1, 2, 3, 4, 5, 6, 7, 8], [8])])
def countermandlaw19_TokenDoes.B14 : List Nat := [0, 0, 2, 7, 0, 0, 32, 127, 255, 511]
theorem countermandlaw19_TokenDoes.tab14 : rtab .any (opsOf Try.f10 14) = countermandlaw19_TokenDoes.T14 := by kernel_rfl
theorem countermandlaw19_TokenDoes.bits14 : waitsOk countermandlaw19_TokenDoes.T14.2 countermandlaw19_TokenDoes.B14 = true := by kernel_rfl
def countermandlaw19_TokenDoes.T16 : Bool × List (List Nat × List Nat) := (true, [([], []), ([], []), ([1], [1]), ([0, 2], [0, 2]), ([], []), ([], []), ([5], [5]), ([4, 6, 3], [4, 6]), ([3, 7], [3, 7]), ([8, 7, 0, 1, 2, 3, 4, 5, 6, 7, 8], [8])])
def countermandlaw19_TokenDoes.B16 : List Nat := [0, 0, 2, 7, 0, 0, 32, 127, 255, 511]
theorem countermandlaw19_TokenDoes.tab16 : rtab .any (opsOf Try.f10 16) = countermandlaw19_TokenDoes.T16 := by kernel_rfl
theorem countermandlaw19_TokenDoes.bits16 : waitsOk countermandlaw19_TokenDoes.T16.2 countermandlaw19_TokenDoes.B16 = true := by kernel_rfl
def countermandlaw19_TokenDoes.T18 : Bool × List (List Nat × List Nat) := (true, [([], []), ([], []), ([1], [1]), ([0, 2], [0, 2]), ([], []), ([], []), ([5], [5]), ([4, 6, 3], [4, 6]), ([3, 7], [3, 7]), ([8, 7, 0, 1, 2, 3, 4, 5, 6, 7, 8], [8])])
def countermandlaw19_TokenDoes.B18 : List Nat := [0, 0, 2, 7, 0, 0, 32, 127, 255, 511]
theorem countermandlaw19_TokenDoes.tab18 : rtab .any (opsOf Try.f10 18) = countermandlaw19_TokenDoes.T18 := by kernel_rfl
theorem countermandlaw19_TokenDoes.bits18 : waitsOk countermandlaw19_TokenDoes.T18.2 countermandlaw19_TokenDoes.B18 = true := by kernel_rfl
def countermandlaw19_TokenDoes.T20 : Bool × List (List Nat × List Nat) := (true, [([], []), ([0], [0]), ([1], [1]), ([2], [2]), ([2], [2]), ([4, 2], [2, 4]), ([5, 2], [2, 5]), ([6, 2], [2, 6]), ([3, 7, 2], [2, 3, 7]), ([2, 8], [2, 8]), ([9, 2], [9]), ([10], [10]), ([10], [10]), ([12, 10], [10, 12]), ([13, 10], [10, 13]), ([14, 10], [10, 14]), ([11, 15, 10], [10, 11, 15]), ([10, 16], [10, 16]), ([17, 10], [17]), ([18], [18]), ([19, 18, 18], [18, 19]), ([18], [18]), ([21, 18], [18, 21]), ([22, 18], [18, 22]), ([23, 18], [18, 23]), ([24, 18], [18, 24]), ([25, 20, 18], [18, 25]), ([26], [26]), ([27, 26], [26, 27]), ([28, 26], [26, 28]), ([29, 26], [26, 29]), ([30, 26], [26, 30]), ([26, 31, 18], [18, 26, 31]), ([20, 32, 18], [18, 20, 32]), ([18, 33], [18, 33]), ([34, 26], [34]), ([35], [35]), ([36, 35], [35, 36]), ([37, 35, 35], [35, 37]), ([38], [38]), ([39, 38], [38, 39]), ([38, 40, 35], [35, 38, 40]), ([41, 38, 35], [35, 41]), ([42], [42]), ([42], [42]), ([43, 44, 42], [42, 43, 44]), ([42, 45, 35], [35, 42, 45]), ([35, 46], [35, 46])])
def countermandlaw19_TokenDoes.B20 : List Nat := [0, 1, 3, 7, 7, 23, 55, 119, 255, 511, 1023, 2047, 2047, 6143, 14335, 30719, 65535, 131071, 262143, 524287, 1048575, 524287, 2621439, 6815743, 15204351, 31981567, 67108863, 134217727, 268435455, 536870911, 1073741823, 2147483647, 4294967295, 8589934591, 17179869183, 34359738367, 68719476735, 137438953471, 274877906943, 549755813887, 1099511627775, 2199023255551, 4398046511103, 8796093022207, 8796093022207, 35184372088831, 70368744177663, 140737488355327]
theorem countermandlaw19_TokenDoes.tab20 : rtab .any (opsOf Try.f10 20) = countermandlaw19_TokenDoes.T20 := by kernel_rfl
theorem countermandlaw19_TokenDoes.bits20 : waitsOk countermandlaw19_TokenDoes.T20.2 countermandlaw19_TokenDoes.B20 = true := by kernel_rfl
@[reducible] def vb0_ : Array Bool := #[false, false, false, false, false, false, false, false, false, false, false, false, false, false]
@[reducible] def vb1_ : Array Bool := #[true, false, false, false, false, false, false, false, false, false, false, false, false, false]
@[reducible] def vb2_ : Array Bool := #[true, true, false, false, false, false, false, false, false, false, false, false, false, false]
@[reducible] def vb3_ : Array Bool := #[true, true, false, true, false, false, false, false, false, false, false, false, false, false]
@[reducible] def vb4_ : Array Bool := #[true, true, false, true, false, false, true, false, false, false, false, false, false, false]
@[reducible] def vb5_ : Array Bool := #[true, true, false, true, false, false, true, true, false, false, false, false, false, false]
@[reducible] def vb6_ : Array Bool := #[true, true, false, true, false, false, true, true, false, true, false, false, false, false]
@[reducible] def vb7_ : Array Bool := #[true, true, true, true, false, false, true, true, false, true, false, false, false, false]
@[reducible] def vb8_ : Array Bool := #[true, true, true, true, true, false, true, true, false, true, false, false, false, false]
@[reducible] def vb9_ : Array Bool := #[true, true, true, true, true, false, true, true, true, true, false, false, false, false]
@[reducible] def vb10_ : Array Bool := #[true, true, true, true, true, false, true, true, true, true, true, false, false, false]
@[reducible] def vb11_ : Array Bool := #[true, true, true, true, true, true, true, true, true, true, true, false, false, false]
@[reducible] def vb12_ : Array Bool := #[true, true, true, true, true, true, true, true, true, true, true, true, false, false]
@[reducible] def vb13_ : Array Bool := #[true, true, true, true, true, true, true, true, true, true, true, true, true, false]
@[reducible] def vb14_ : Array Bool := #[true, true, true, true, true, true, true, true, true, true, true, true, true, true]
@[reducible] def vb15_ : Array Bool := #[false, false, false, false, false, false, false, false, false, false]
@[reducible] def vb16_ : Array Bool := #[true, false, false, false, false, false, false, false, false, false]
@[reducible] def vb17_ : Array Bool := #[true, true, false, false, false, false, false, false, false, false]
@[reducible] def vb18_ : Array Bool := #[true, true, false, false, true, false, false, false, false, false]
@[reducible] def vb19_ : Array Bool := #[true, true, false, false, true, true, false, false, false, false]
@[reducible] def vb20_ : Array Bool := #[true, true, true, false, true, true, false, false, false, false]
@[reducible] def vb21_ : Array Bool := #[true, true, true, false, true, true, true, false, false, false]
@[reducible] def vb22_ : Array Bool := #[true, true, true, true, true, true, true, false, false, false]
@[reducible] def vb23_ : Array Bool := #[true, true, true, true, true, true, true, true, false, false]
@[reducible] def vb24_ : Array Bool := #[true, true, true, true, true, true, true, true, true, false]
@[reducible] def vb25_ : Array Bool := #[true, true, true, true, true, true, true, true, true, true]
@[reducible] def vb26_ : Array Bool := #[false, false, false, false, false, false, false, false, false, false, false, false, false, false, false, false, false, false, false, false, false, false, false, false, false, false, false, false, false, false, false, false, false, false, false, false, false, false, false, false, false, false, false, false, false, false, false, false]
@[reducible] def vb27_ : Array Bool := #[true, false, false, false, false, false, false, false, false, false, false, false, false, false, false, false, false, false, false, false, false, false, false, false, false, false, false, false, false, false, false, false, false, false, false, false, false, false, false, false, false, false, false, false, false, false, false, false]
@[reducible] def vb28_ : Array Bool := #[true, true, false, false, false, false, false, false, false, false, false, false, false, false, false, false, false, false, false, false, false, false, false, false, false, false, false, false, false, false, false, false, false, false, false, false, false, false, false, false, false, false, false, false, false, false, false, false]
@[reducible] def vb29_ : Array Bool := #[true, true, true, false, false, false, false, false, false, false, false, false, false, false, false, false, false, false, false, false, false, false, false, false, false, false, false, false, false, false, false, false, false, false, false, false, false, false, false, false, false, false, false, false, false, false, false, false]
@[reducible] def vb30_ : Array Bool := #[true, true, true, true, false, false, false, false, false, false, false, false, false, false, false, false, false, false, false, false, false, false, false, false, false, false, false, false, false, false, false, false, false, false, false, false, false, false, false, false, false, false, false, false, false, false, false, false]
@[reducible] def vb31_ : Array Bool := #[true, true, true, true, true, false, false, false, false, false, false, false, false, false, false, false, false, false, false, false, false, false, false, false, false, false, false, false, false, false, false, false, false, false, false, false, false, false, false, false, false, false, false, false, false, false, false, false]
@[reducible] def vb32_ : Array Bool := #[true, true, true, true, true, true, false, false, false, false, false, false, false, false, false, false, false, false, false, false, false, false, false, false, false, false, false, false, false, false, false, false, false, false, false, false, false, false, false, false, false, false, false, false, false, false, false, false]
@[reducible] def vb33_ : Array Bool := #[true, true, true, true, true, true, true, false, false, false, false, false, false, false, false, false, false, false, false, false, false, false, false, false, false, false, false, false, false, false, false, false, false, false, false, false, false, false, false, false, false, false, false, false, false, false, false, false]
@[reducible] def vb34_ : Array Bool := #[true, true, true, true, true, true, true, true, false, false, false, false, false, false, false, false, false, false, false, false, false, false, false, false, false, false, false, false, false, false, false, false, false, false, false, false, false, false, false, false, false, false, false, false, false, false, false, false]
@[reducible] def vb35_ : Array Bool := #[true, true, true, true, true, true, true, true, true, false, false, false, false, false, false, false, false, false, false, false, false, false, false, false, false, false, false, false, false, false, false, false, false, false, false, false, false, false, false, false, false, false, false, false, false, false, false, false]
@[reducible] def vb36_ : Array Bool := #[true, true, true, true, true, true, true, true, true, true, false, false, false, false, false, false, false, false, false, false, false, false, false, false, false, false, false, false, false, false, false, false, false, false, false, false, false, false, false, false, false, false, false, false, false, false, false, false]
@[reducible] def vb37_ : Array Bool := #[true, true, true, true, true, true, true, true, true, true, true, false, false, false, false, false, false, false, false, false, false, false, false, false, false, false, false, false, false, false, false, false, false, false, false, false, false, false, false, false, false, false, false, false, false, false, false, false]
@[reducible] def vb38_ : Array Bool := #[true, true, true, true, true, true, true, true, true, true, true, true, false, false, false, false, false, false, false, false, false, false, false, false, false, false, false, false, false, false, false, false, false, false, false, false, false, false, false, false, false, false, false, false, false, false, false, false]
@[reducible] def vb39_ : Array Bool := #[true, true, true, true, true, true, true, true, true, true, true, true, true, false, false, false, false, false, false, false, false, false, false, false, false, false, false, false, false, false, false, false, false, false, false, false, false, false, false, false, false, false, false, false, false, false, false, false]
@[reducible] def vb40_ : Array Bool := #[true, true, true, true, true, true, true, true, true, true, true, true, true, true, false, false, false, false, false, false, false, false, false, false, false, false, false, false, false, false, false, false, false, false, false, false, false, false, false, false, false, false, false, false, false, false, false, false]
@[reducible] def vb41_ : Array Bool := #[true, true, true, true, true, true, true, true, true, true, true, true, true, true, true, false, false, false, false, false, false, false, false, false, false, false, false, false, false, false, false, false, false, false, false, false, false, false, false, false, false, false, false, false, false, false, false, false]
@[reducible] def vb42_ : Array Bool := #[true, true, true, true, true, true, true, true, true, true, true, true, true, true, true, true, false, false, false, false, false, false, false, false, false, false, false, false, false, false, false, false, false, false, false, false, false, false, false, false, false, false, false, false, false, false, false, false]
@[reducible] def vb43_ : Array Bool := #[true, true, true, true, true, true, true, true, true, true, true, true, true, true, true, true, true, false, false, false, false, false, false, false, false, false, false, false, false, false, false, false, false, false, false, false, false, false, false, false, false, false, false, false, false, false, false, false]
@[reducible] def vb44_ : Array Bool := #[true, true, true, true, true, true, true, true, true, true, true, true, true, true, true, true, true, true, false, false, false, false, false, false, false, false, false, false, false, false, false, false, false, false, false, false, false, false, false, false, false, false, false, false, false, false, false, false]
@[reducible] def vb45_ : Array Bool := #[true, true, true, true, true, true, true, true, true, true, true, true, true, true, true, true, true, true, true, false, false, false, false, false, false, false, false, false, false, false, false, false, false, false, false, false, false, false, false, false, false, false, false, false, false, false, false, false]
@[reducible] def vb46_ : Array Bool := #[true, true, true, true, true, true, true, true, true, true, true, true, true, true, true, true, true, true, true, true, false, false, false, false, false, false, false, false, false, false, false, false, false, false, false, false, false, false, false, false, false, false, false, false, false, false, false, false]
@[reducible] def vb47_ : Array Bool := #[true, true, true, true, true, true, true, true, true, true, true, true, true, true, true, true, true, true, true, true, false, true, false, false, false, false, false, false, false, false, false, false, false, false, false, false, false, false, false, false, false, false, false, false, false, false, false, false]
@[reducible] def vb48_ : Array Bool := #[true, true, true, true, true, true, true, true, true, true, true, true, true, true, true, true, true, true, true, true, false, true, true, false, false, false, false, false, false, false, false, false, false, false, false, false, false, false, false, false, false, false, false, false, false, false, false, false]
@[reducible] def vb49_ : Array Bool := #[true, true, true, true, true, true, true, true, true, true, true, true, true, true, true, true, true, true, true, true, false, true, true, true, false, false, false, false, false, false, false, false, false, false, false, false, false, false, false, false, false, false, false, false, false, false, false, false]
@[reducible] def vb50_ : Array Bool := #[true, true, true, true, true, true, true, true, true, true, true, true, true, true, true, true, true, true, true, true, false, true, true, true, true, false, false, false, false, false, false, false, false, false, false, false, false, false, false, false, false, false, false, false, false, false, false, false]
@[reducible] def vb51_ : Array Bool := #[true, true, true, true, true, true, true, true, true, true, true, true, true, true, true, true, true, true, true, true, false, true, true, true, true, true, false, false, false, false, false, false, false, false, false, false, false, false, false, false, false, false, false, false, false, false, false, false]
@[reducible] def vb52_ : Array Bool := #[true, true, true, true, true, true, true, true, true, true, true, true, true, true, true, true, true, true, true, true, true, true, true, true, true, true, false, false, false, false, false, false, false, false, false, false, false, false, false, false, false, false, false, false, false, false, false, false]
@[reducible] def vb53_ : Array Bool := #[true, true, true, true, true, true, true, true, true, true, true, true, true, true, true, true, true, true, true, true, true, true, true, true, true, true, true, false, false, false, false, false, false, false, false, false, false, false, false, false, false, false, false, false, false, false, false, false]
@[reducible] def vb54_ : Array Bool := #[true, true, true, true, true, true, true, true, true, true, true, true, true, true, true, true, true, true, true, true, true, true, true, true, true, true, true, true, false, false, false, false, false, false, false, false, false, false, false, false, false, false, false, false, false, false, false, false]
@[reducible] def vb55_ : Array Bool := #[true, true, true, true, true, true, true, true, true, true, true, true, true, true, true, true, true, true, true, true, true, true, true, true, true, true, true, true, true, false, false, false, false, false, false, false, false, false, false, false, false, false, false, false, false, false, false, false]
@[reducible] def vb56_ : Array Bool := #[true, true, true, true, true, true, true, true, true, true, true, true, true, true, true, true, true, true, true, true, true, true, true, true, true, true, true, true, true, true, false, false, false, false, false, false, false, false, false, false, false, false, false, false, false, false, false, false]
@[reducible] def vb57_ : Array Bool := #[true, true, true, true, true, true, true, true, true, true, true, true, true, true, true, true, true, true, true, true, true, true, true, true, true, true, true, true, true, true, true, false, false, false, false, false, false, false, false, false, false, false, false, false, false, false, false, false]
@[reducible] def vb58_ : Array Bool := #[true, true, true, true, true, true, true, true, true, true, true, true, true, true, true, true, true, true, true, true, true, true, true, true, true, true, true, true, true, true, true, true, false, false, false, false, false, false, false, false, false, false, false, false, false, false, false, false]
@[reducible] def vb59_ : Array Bool := #[true, true, true, true, true, true, true, true, true, true, true, true, true, true, true, true, true, true, true, true, true, true, true, true, true, true, true, true, true, true, true, true, true, false, false, false, false, false, false, false, false, false, false, false, false, false, false, false]
@[reducible] def vb60_ : Array Bool := #[true, true, true, true, true, true, true, true, true, true, true, true, true, true, true, true, true, true, true, true, true, true, true, true, true, true, true, true, true, true, true, true, true, true, false, false, false, false, false, false, false, false, false, false, false, false, false, false]
@[reducible] def vb61_ : Array Bool := #[true, true, true, true, true, true, true, true, true, true, true, true, true, true, true, true, true, true, true, true, true, true, true, true, true, true, true, true, true, true, true, true, true, true, true, false, false, false, false, false, false, false, false, false, false, false, false, false]
@[reducible] def vb62_ : Array Bool := #[true, true, true, true, true, true, true, true, true, true, true, true, true, true, true, true, true, true, true, true, true, true, true, true, true, true, true, true, true, true, true, true, true, true, true, true, false, false, false, false, false, false, false, false, false, false, false, false]
@[reducible] def vb63_ : Array Bool := #[true, true, true, true, true, true, true, true, true, true, true, true, true, true, true, true, true, true, true, true, true, true, true, true, true, true, true, true, true, true, true, true, true, true, true, true, true, false, false, false, false, false, false, false, false, false, false, false]
@[reducible] def vb64_ : Array Bool := #[true, true, true, true, true, true, true, true, true, true, true, true, true, true, true, true, true, true, true, true, true, true, true, true, true, true, true, true, true, true, true, true, true, true, true, true, true, true, false, false, false, false, false, false, false, false, false, false]
@[reducible] def vb65_ : Array Bool := #[true, true, true, true, true, true, true, true, true, true, true, true, true, true, true, true, true, true, true, true, true, true, true, true, true, true, true, true, true, true, true, true, true, true, true, true, true, true, true, false, false, false, false, false, false, false, false, false]
@[reducible] def vb66_ : Array Bool := #[true, true, true, true, true, true, true, true, true, true, true, true, true, true, true, true, true, true, true, true, true, true, true, true, true, true, true, true, true, true, true, true, true, true, true, true, true, true, true, true, false, false, false, false, false, false, false, false]
@[reducible] def vb67_ : Array Bool := #[true, true, true, true, true, true, true, true, true, true, true, true, true, true, true, true, true, true, true, true, true, true, true, true, true, true, true, true, true, true, true, true, true, true, true, true, true, true, true, true, true, false, false, false, false, false, false, false]
@[reducible] def vb68_ : Array Bool := #[true, true, true, true, true, true, true, true, true, true, true, true, true, true, true, true, true, true, true, true, true, true, true, true, true, true, true, true, true, true, true, true, true, true, true, true, true, true, true, true, true, true, false, false, false, false, false, false]
@[reducible] def vb69_ : Array Bool := #[true, true, true, true, true, true, true, true, true, true, true, true, true, true, true, true, true, true, true, true, true, true, true, true, true, true, true, true, true, true, true, true, true, true, true, true, true, true, true, true, true, true, true, false, false, false, false, false]
@[reducible] def vb70_ : Array Bool := #[true, true, true, true, true, true, true, true, true, true, true, true, true, true, true, true, true, true, true, true, true, true, true, true, true, true, true, true, true, true, true, true, true, true, true, true, true, true, true, true, true, true, true, true, false, false, false, false]
@[reducible] def vb71_ : Array Bool := #[true, true, true, true, true, true, true, true, true, true, true, true, true, true, true, true, true, true, true, true, true, true, true, true, true, true, true, true, true, true, true, true, true, true, true, true, true, true, true, true, true, true, true, true, true, false, false, false]
@[reducible] def vb72_ : Array Bool := #[true, true, true, true, true, true, true, true, true, true, true, true, true, true, true, true, true, true, true, true, true, true, true, true, true, true, true, true, true, true, true, true, true, true, true, true, true, true, true, true, true, true, true, true, true, true, false, false]
@[reducible] def vb73_ : Array Bool := #[true, true, true, true, true, true, true, true, true, true, true, true, true, true, true, true, true, true, true, true, true, true, true, true, true, true, true, true, true, true, true, true, true, true, true, true, true, true, true, true, true, true, true, true, true, true, true, false]
@[reducible] def vb74_ : Array Bool := #[true, true, true, true, true, true, true, true, true, true, true, true, true, true, true, true, true, true, true, true, true, true, true, true, true, true, true, true, true, true, true, true, true, true, true, true, true, true, true, true, true, true, true, true, true, true, true, true]
theorem y1_ {α : Type} (l : List α) (i : Nat) (a : α) : l.toArray.setIfInBounds i a = (l.set i a).toArray := List.setIfInBounds_toArray l i a
theorem y2_ {α : Type} (a b : α) (l : List α) : (a :: l).set 0 b = b :: l := rfl
theorem y3_ {α : Type} (a b : α) (l : List α) (n : Nat) : (a :: l).set (n + 1) b = a :: l.set n b := rfl

end Go.Proofs.Ytfimbmdbaaiemaa.PTokenDoes
