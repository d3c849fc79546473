/- Written by a program of this session, which began as the kit's print and is turned in wip/printer: the plain form of each function, and that the Go code comes to it. -/
import Derived.Test.YtfimbmdbaaiemaaPCursorStepsx0
import Derived.BigRegion
namespace Go.Proofs.Ytfimbmdbaaiemaa.PCursorSteps
open Go.RowKit Go.Proofs.YtfimbmdbaaiemaaW.PrintWords Go.Proofs.YtfimbmdbaaiemaaW.PrintLast Go.Proofs.YtfimbmdbaaiemaaW.PrintMore
attribute [local go_sem] max2_int min2_int max_two min_two max_three min_three max_four min_four   -- for this text's walks alone
set_option linter.unusedVariables false
set_option linter.unusedSimpArgs false

/-! ### cursor_is: function 45 -/
def cursor_is.f (a0 : Int) : Option (Bool) := if a0 ≥ 0 then (some (decide (a0 < 3))) else (some false)
set_option maxHeartbeats 8000000 in
set_option maxRecDepth 100000 in
theorem cursor_is.calls (a0 : Int) (r : Bool) (w : World) (h : cursor_is.f a0 = some r) :
    Calls Try.prog 45 #[.int .i64 a0] w fun e w' => e = .returned (.bool r) ∧ Drawn0 w w' := by
  have H : (if a0 ≥ 0 then (some (decide (a0 < 3))) else (some false)) = some r := h
  clear h
  by_cases c2 : a0 ≥ 0
  · rw [if_pos c2] at H
    have c2b0 : decide (0 ≤ a0) = true := decide_eq_true c2
    clear c2
    obtain rfl := Option.some.inj H
    simp only [Option.some.injEq, Prod.mk.injEq] at H
    obtain ⟨rfl⟩ := H
    go_enter Try.func45, Try.ntmps45
    go_wp2
    go_ret
    exact ⟨by first | rfl | (simp; done) | (simp [*]; done), by repeat (first | exact Drawn0.refl _ | apply Drawn0.step)⟩
  · rw [if_neg c2] at H
    have c2b0 : decide (0 ≤ a0) = false := decide_eq_false c2
    clear c2
    obtain rfl := Option.some.inj H
    simp only [Option.some.injEq, Prod.mk.injEq] at H
    obtain ⟨rfl⟩ := H
    go_enter Try.func45, Try.ntmps45
    go_wp2
    go_ret
    exact ⟨by first | rfl | (simp; done) | (simp [*]; done), by repeat (first | exact Drawn0.refl _ | apply Drawn0.step)⟩

/-- A state of type 36 at block g of W; what its slices lead to came in by w0. -/
def IsS36 (w0 W : World) (g : Nat) (f0 : Int) (f1 : Int) (f2 : Int) : Prop := W.heap[g]? = some (.cells #[.int .i64 f0, .int .i64 f1, .int .i64 f2] 36 (0, 0)) ∧ w0.heap.size ≤ g
theorem IsS36.grown {w0 W : World} {g : Nat} {f0 : Int} {f1 : Int} {f2 : Int} {W1 : World} {row : Option Nat} (h : IsS36 w0 W g f0 f1 f2) (hw : W.grownBy W1 row) (hne : some g ≠ row) : IsS36 w0 W1 g f0 f1 f2 := by
  obtain ⟨hb, hg⟩ := h
  exact ⟨blk_grown hb hw hne, hg⟩
theorem IsS36.own_neN {w0 W : World} {g : Nat} {f0 : Int} {f1 : Int} {f2 : Int} {α : Type} {d : Kd α} {e : Nat} {base : Nat} {ok : Nat → Prop} {v : Value} {xs : List α} (h : IsS36 w0 W g f0 f1 f2) (ho : Kd.N d e W base ok v xs) (ht : e ≠ 36) : some g ≠ v.ownBlock := by
  obtain ⟨hb, hg⟩ := h
  exact Kd.N_ne ho hb ht
theorem IsS36.fresh {w0 W : World} {g : Nat} {f0 : Int} {f1 : Int} {f2 : Int} (h : IsS36 w0 W g f0 f1 f2) : ∀ k, W.heap.size ≤ k → k ≠ g := by
  obtain ⟨hb, hg⟩ := h
  exact Kd.freshB hb
theorem IsS36.kept {w0 W : World} {g : Nat} {f0 : Int} {f1 : Int} {f2 : Int} {W1 : World} {S : Nat → Prop} (h : IsS36 w0 W g f0 f1 f2) (hk : Kept W W1 S) (hne : ¬ S g) : IsS36 w0 W1 g f0 f1 f2 := by
  obtain ⟨hb, hg⟩ := h
  exact ⟨blk_kept hb hk hne, hg⟩
theorem IsS36.below {w0 W : World} {g : Nat} {f0 : Int} {f1 : Int} {f2 : Int} {W1 : World} (h : IsS36 w0 W g f0 f1 f2) (hw : Below W.heap.size W W1) : IsS36 w0 W1 g f0 f1 f2 := h.grown (grown_of_below hw none) (by simp)
theorem IsS36.alloc {w0 W : World} {g : Nat} {f0 : Int} {f1 : Int} {f2 : Int} (h : IsS36 w0 W g f0 f1 f2) (o : Obj) : IsS36 w0 (W.alloc o) g f0 f1 f2 := h.below (below_alloc (Below.refl _ _) o)
theorem IsS36.drewN {w0 W : World} {g : Nat} {f0 : Int} {f1 : Int} {f2 : Int} (h : IsS36 w0 W g f0 f1 f2) (m : Nat) : IsS36 w0 (W.drewN m) g f0 f1 f2 := h
theorem IsS36.drew {w0 W : World} {g : Nat} {f0 : Int} {f1 : Int} {f2 : Int} (h : IsS36 w0 W g f0 f1 f2) : IsS36 w0 W.drew g f0 f1 f2 := h
theorem IsS36.at_ {w0 W : World} {g : Nat} {f0 : Int} {f1 : Int} {f2 : Int} {w' : World} {m : Nat} (hq : W.drewN m = w') (h : IsS36 w0 W g f0 f1 f2) : IsS36 w0 w' g f0 f1 f2 := by subst hq; exact IsS36.drewN h m
theorem IsS36.apart {w0 W : World} {g : Nat} {f0 : Int} {f1 : Int} {f2 : Int} {α : Type} {d : Kd α} {e : Nat} {base : Nat} {ok : Nat → Prop} {v : Value} {xs : List α} (h : IsS36 w0 W g f0 f1 f2) (ho : d.R e W base ok v xs) (ht : ∀ q, q ∈ e :: d.E → q ≠ 36) : d.R e W base (fun k => ok k ∧ k ≠ g) v xs := by
  obtain ⟨hb, hg⟩ := h
  exact Kd.R_types ho hb ht
theorem IsS36.own_ne {w0 W : World} {g : Nat} {f0 : Int} {f1 : Int} {f2 : Int} {α : Type} {d : Kd α} {e : Nat} {base : Nat} {ok : Nat → Prop} {v : Value} {xs : List α} (h : IsS36 w0 W g f0 f1 f2) (ho : d.R e W base ok v xs) (ht : e ≠ 36) : some g ≠ v.ownBlock := by
  obtain ⟨hb, hg⟩ := h
  exact Kd.R_ne ho hb ht
theorem IsS36.apartQ {w0 W : World} {g : Nat} {f0 : Int} {f1 : Int} {f2 : Int} {α : Type} {d : Kd α} {e : Nat} {base : Nat} {ok : Nat → Prop} {v : Value} {xs : List α} (h : IsS36 w0 W g f0 f1 f2) (ho : d.Q e W base ok v xs) (ht : ∀ q, q ∈ e :: d.E → q ≠ 36) : d.Q e W base (fun k => ok k ∧ k ≠ g) v xs := by
  obtain ⟨hb, hg⟩ := h
  exact Kd.Q_types ho hb ht
theorem IsS36.own_neQ {w0 W : World} {g : Nat} {f0 : Int} {f1 : Int} {f2 : Int} {α : Type} {d : Kd α} {e : Nat} {base : Nat} {ok : Nat → Prop} {v : Value} {xs : List α} (h : IsS36 w0 W g f0 f1 f2) (ho : d.Q e W base ok v xs) (ht : e ≠ 36) : some g ≠ v.ownBlock := by
  obtain ⟨hb, hg⟩ := h
  exact Kd.Q_ne ho hb ht
theorem IsS36.apartS {w0 W : World} {g : Nat} {f0 : Int} {f1 : Int} {f2 : Int} {α : Type} {d : Kd α} {e : Nat} {base : Nat} {ok : Nat → Prop} {v : Value} {xs : List α} (h : IsS36 w0 W g f0 f1 f2) (ho : d.S e W base ok v xs) (ht : ∀ q, q ∈ e :: d.E → q ≠ 36) : d.S e W base (fun k => ok k ∧ k ≠ g) v xs := by
  obtain ⟨hb, hg⟩ := h
  exact Kd.S_types ho hb ht
theorem IsS36.own_neS {w0 W : World} {g : Nat} {f0 : Int} {f1 : Int} {f2 : Int} {α : Type} {d : Kd α} {e : Nat} {base : Nat} {ok : Nat → Prop} {v : Value} {xs : List α} (h : IsS36 w0 W g f0 f1 f2) (ho : d.S e W base ok v xs) (ht : e ≠ 36) : some g ≠ v.ownBlock := by
  obtain ⟨hb, hg⟩ := h
  exact Kd.S_ne ho hb ht
theorem IsS36.lt {w0 W : World} {g : Nat} {f0 : Int} {f1 : Int} {f2 : Int} (h : IsS36 w0 W g f0 f1 f2) : g < W.heap.size := by
  obtain ⟨hb, hg⟩ := h
  exact blk_lt hb
theorem IsS36.ge {w0 W : World} {g : Nat} {f0 : Int} {f1 : Int} {f2 : Int} (h : IsS36 w0 W g f0 f1 f2) : w0.heap.size ≤ g := by
  obtain ⟨hb, hg⟩ := h
  exact hg
theorem IsS36.ne_blk {w0 W : World} {g : Nat} {f0 : Int} {f1 : Int} {f2 : Int} {a : Nat} {cs : Array Value} {t : TypeId} {fr : Nat × Nat} (h : IsS36 w0 W g f0 f1 f2) (hb2 : W.heap[a]? = some (.cells cs t fr)) (ht : t ≠ 36) : g ≠ a := by
  obtain ⟨hb, hg⟩ := h
  rintro rfl
  rw [hb] at hb2
  injection hb2 with hb2
  injection hb2 with _ ht2
  exact ht ht2.symm
theorem IsS36.far {w0 W : World} {g : Nat} {f0 : Int} {f1 : Int} {f2 : Int} {p : Addr} (h : IsS36 w0 W g f0 f1 f2) (hne : g ≠ p.block) (u : Value) : IsS36 w0 (W.setCell p u) g f0 f1 f2 := by
  obtain ⟨hb, hg⟩ := h
  exact ⟨blk_far hb hne u, hg⟩
theorem cellS36_0 {W : World} {g : Nat} {f0 : Int} {f1 : Int} {f2 : Int} (h : W.heap[g]? = some (.cells #[.int .i64 f0, .int .i64 f1, .int .i64 f2] 36 (0, 0))) : W.cell? ⟨g, 0, none⟩ = some (.int .i64 f0) := (blk_cell h 0).trans rfl
theorem IsS36.set_0 {w0 W : World} {g : Nat} {f0 : Int} {f1 : Int} {f2 : Int} (h : IsS36 w0 W g f0 f1 f2) (x : Int) : IsS36 w0 (W.setCell ⟨g, 0, none⟩ (.int .i64 x)) g x f1 f2 := by
  obtain ⟨hb, hg⟩ := h
  exact ⟨by simpa using blk_set hb 0 (.int .i64 x), hg⟩
theorem cellS36_1 {W : World} {g : Nat} {f0 : Int} {f1 : Int} {f2 : Int} (h : W.heap[g]? = some (.cells #[.int .i64 f0, .int .i64 f1, .int .i64 f2] 36 (0, 0))) : W.cell? ⟨g, 1, none⟩ = some (.int .i64 f1) := (blk_cell h 1).trans rfl
theorem IsS36.set_1 {w0 W : World} {g : Nat} {f0 : Int} {f1 : Int} {f2 : Int} (h : IsS36 w0 W g f0 f1 f2) (x : Int) : IsS36 w0 (W.setCell ⟨g, 1, none⟩ (.int .i64 x)) g f0 x f2 := by
  obtain ⟨hb, hg⟩ := h
  exact ⟨by simpa using blk_set hb 1 (.int .i64 x), hg⟩
theorem cellS36_2 {W : World} {g : Nat} {f0 : Int} {f1 : Int} {f2 : Int} (h : W.heap[g]? = some (.cells #[.int .i64 f0, .int .i64 f1, .int .i64 f2] 36 (0, 0))) : W.cell? ⟨g, 2, none⟩ = some (.int .i64 f2) := (blk_cell h 2).trans rfl
theorem IsS36.set_2 {w0 W : World} {g : Nat} {f0 : Int} {f1 : Int} {f2 : Int} (h : IsS36 w0 W g f0 f1 f2) (x : Int) : IsS36 w0 (W.setCell ⟨g, 2, none⟩ (.int .i64 x)) g f0 f1 x := by
  obtain ⟨hb, hg⟩ := h
  exact ⟨by simpa using blk_set hb 2 (.int .i64 x), hg⟩
theorem IsS36.new (w0 W : World) (f0 : Int) (f1 : Int) (f2 : Int) (hB : Below w0.heap.size w0 W) : IsS36 w0 (W.alloc (.cells #[.int .i64 f0, .int .i64 f1, .int .i64 f2] 36)) W.heap.size f0 f1 f2 := ⟨by simpa using heap_alloc_new W _, hB.size⟩

/-! ### cursor_Cursor_Step: function 19 -/
--IMPORT Derived.BigRegion
theorem eqI3 (d : Nat) (w : World) (x y : Int) : (Op.equalIn (d + 1) 3 (.int .i64 x) (.int .i64 y)).run Try.prog w = .ok (x == y) w := by
  unfold Op.equalIn
  simp [run_underlying Try.underlying3]
theorem ptA (w : World) (x0 x1 x2 : Value) : (part 3 #[x0, x1, x2] 0).run Try.prog w = .ok x0 w ∧ (part 3 #[x0, x1, x2] 1).run Try.prog w = .ok x1 w ∧ (part 3 #[x0, x1, x2] 2).run Try.prog w = .ok x2 w := ⟨by kernel_rfl, by kernel_rfl, by kernel_rfl⟩
@[go_sem] theorem eqArr34 (w : World) (x0 x1 x2 y0 y1 y2 : Int) :
    (Op.equalIn 10000 34 (.agg #[.int .i64 x0, .int .i64 x1, .int .i64 x2]) (.agg #[.int .i64 y0, .int .i64 y1, .int .i64 y2])).run Try.prog w = .ok (x0 == y0 && (x1 == y1 && x2 == y2)) w := by
  have hs : (sizeOf 3).run Try.prog w = .ok 1 w := by kernel_rfl
  rw [show (10000 : Nat) = 9998 + 1 + 1 from rfl]
  unfold Op.equalIn
  simp only [Sem.run_bind, run_underlying Try.underlying34, Result.andThen_ok, hs]
  have e := eqI3 9998
  obtain ⟨a0, a1, a2⟩ := ptA w (.int .i64 x0) (.int .i64 x1) (.int .i64 x2)
  obtain ⟨b0, b1, b2⟩ := ptA w (.int .i64 y0) (.int .i64 y1) (.int .i64 y2)
  have hr : List.range' 0 3 1 = [0, 1, 2] := rfl
  simp only [Std.Legacy.Range.forIn_eq_forIn_range', Std.Legacy.Range.size, hr]
  simp [a0, a1, a2, b0, b1, b2, e, Sem.run_bind]
  by_cases h0 : x0 = y0
  · by_cases h1 : x1 = y1
    · by_cases h2 : x2 = y2
      · simp [*]
      · simp [*]
    · simp [*]
  · simp [*]
def cursor_Cursor_Step.f (s0_0 : Int) (s0_1 : Int) (s0_2 : Int) (a1 : Int) : Option (Bool × Int × Int × Int) := if a1 = 0 then (if s0_0 ≥ 64 then (some (false, s0_0, s0_1, s0_2)) else (some (true, wrap64 (s0_0 + 1), s0_1, s0_2))) else (if a1 = 1 then (if s0_1 ≥ 64 then (some (false, s0_0, s0_1, s0_2)) else (some (true, s0_0, wrap64 (s0_1 + 1), s0_2))) else (if a1 = 2 then (if s0_2 ≥ 64 then (some (false, s0_0, s0_1, s0_2)) else (some (true, s0_0, s0_1, wrap64 (s0_2 + 1)))) else (some (false, s0_0, s0_1, s0_2))))
set_option maxHeartbeats 800000 in
set_option maxRecDepth 100000 in
theorem step_full0 (g : Nat) (s0_0 : Int) (s0_1 : Int) (s0_2 : Int) (w0 w : World) (hI : IsS36 w0 w g s0_0 s0_1 s0_2) (hB : Below w0.heap.size w0 w) (h : s0_0 ≥ 64) :
    Calls Try.prog 19 #[.pointer (some ⟨g, 0, none⟩), .int .i64 0] w fun e w' => e = .returned (.bool false) ∧ IsS36 w0 w' g s0_0 s0_1 s0_2 ∧ Below w0.heap.size w0 w' ∧ KeepBut w w' g none := by
  have hu34 := Try.underlying34
  have hu36 := Try.underlying36
  have A := cursor_is.calls 0 true
  obtain ⟨HG, hg⟩ := hI
  have c0 := cellS36_0 HG
  have f0 := blk_frozen HG 0
  have b0 : decide (s0_0 ≥ 64) = true := decide_eq_true h
  go_enter Try.func19, Try.ntmps19
  go_wp2_with (go_at_call 45; (with_reducible refine (A _ rfl).mono ?_); rintro e w' ⟨rfl, ⟨nd, rfl⟩⟩)
  go_ret
  exact ⟨rfl, IsS36.drewN ⟨HG, hg⟩ _, pw_below_drewN hB _, keep_drewN (KeepBut.refl w g none) _⟩
set_option maxHeartbeats 800000 in
set_option maxRecDepth 100000 in
theorem step_on0 (g : Nat) (s0_0 : Int) (s0_1 : Int) (s0_2 : Int) (w0 w : World) (hI : IsS36 w0 w g s0_0 s0_1 s0_2) (hB : Below w0.heap.size w0 w) (h : ¬ s0_0 ≥ 64) :
    Calls Try.prog 19 #[.pointer (some ⟨g, 0, none⟩), .int .i64 0] w fun e w' => e = .returned (.bool true) ∧ IsS36 w0 w' g (wrap64 (s0_0 + 1)) s0_1 s0_2 ∧ Below w0.heap.size w0 w' ∧ KeepBut w w' g none := by
  have hu34 := Try.underlying34
  have hu36 := Try.underlying36
  have A := cursor_is.calls 0 true
  obtain ⟨HG, hg⟩ := hI
  have c0 := cellS36_0 HG
  have f0 := blk_frozen HG 0
  have b0 : decide (s0_0 ≥ 64) = false := decide_eq_false h
  have H := Aside0.mk (show IsS36 w0 w g s0_0 s0_1 s0_2 from ⟨HG, hg⟩)
  have hh : decide ((0 : Int) < 3) = true := rfl
  have hge : w0.heap.size ≤ g := hg
  clear HG hg
  go_enter Try.func19, Try.ntmps19
  go_wp2_with (go_at_call 45; (with_reducible refine (A _ rfl).mono ?_); rintro e w' ⟨rfl, ⟨nd, rfl⟩⟩)
  go_region
  go_wp2
  go_ret
  exact ⟨rfl, IsS36.set_0 (IsS36.drewN H.out _) _, below_set (pw_below_drewN hB _) hge, KeepBut.set_ (keep_drewN (KeepBut.refl w g none) _) _ _⟩
set_option maxHeartbeats 800000 in
set_option maxRecDepth 100000 in
theorem step_full1 (g : Nat) (s0_0 : Int) (s0_1 : Int) (s0_2 : Int) (w0 w : World) (hI : IsS36 w0 w g s0_0 s0_1 s0_2) (hB : Below w0.heap.size w0 w) (h : s0_1 ≥ 64) :
    Calls Try.prog 19 #[.pointer (some ⟨g, 0, none⟩), .int .i64 1] w fun e w' => e = .returned (.bool false) ∧ IsS36 w0 w' g s0_0 s0_1 s0_2 ∧ Below w0.heap.size w0 w' ∧ KeepBut w w' g none := by
  have hu34 := Try.underlying34
  have hu36 := Try.underlying36
  have A := cursor_is.calls 1 true
  obtain ⟨HG, hg⟩ := hI
  have c0 := cellS36_1 HG
  have f0 := blk_frozen HG 1
  have b0 : decide (s0_1 ≥ 64) = true := decide_eq_true h
  go_enter Try.func19, Try.ntmps19
  go_wp2_with (go_at_call 45; (with_reducible refine (A _ rfl).mono ?_); rintro e w' ⟨rfl, ⟨nd, rfl⟩⟩)
  go_ret
  exact ⟨rfl, IsS36.drewN ⟨HG, hg⟩ _, pw_below_drewN hB _, keep_drewN (KeepBut.refl w g none) _⟩
set_option maxHeartbeats 800000 in
set_option maxRecDepth 100000 in
theorem step_on1 (g : Nat) (s0_0 : Int) (s0_1 : Int) (s0_2 : Int) (w0 w : World) (hI : IsS36 w0 w g s0_0 s0_1 s0_2) (hB : Below w0.heap.size w0 w) (h : ¬ s0_1 ≥ 64) :
    Calls Try.prog 19 #[.pointer (some ⟨g, 0, none⟩), .int .i64 1] w fun e w' => e = .returned (.bool true) ∧ IsS36 w0 w' g s0_0 (wrap64 (s0_1 + 1)) s0_2 ∧ Below w0.heap.size w0 w' ∧ KeepBut w w' g none := by
  have hu34 := Try.underlying34
  have hu36 := Try.underlying36
  have A := cursor_is.calls 1 true
  obtain ⟨HG, hg⟩ := hI
  have c0 := cellS36_1 HG
  have f0 := blk_frozen HG 1
  have b0 : decide (s0_1 ≥ 64) = false := decide_eq_false h
  have H := Aside0.mk (show IsS36 w0 w g s0_0 s0_1 s0_2 from ⟨HG, hg⟩)
  have hh : decide ((0 : Int) < 3) = true := rfl
  have hge : w0.heap.size ≤ g := hg
  clear HG hg
  go_enter Try.func19, Try.ntmps19
  go_wp2_with (go_at_call 45; (with_reducible refine (A _ rfl).mono ?_); rintro e w' ⟨rfl, ⟨nd, rfl⟩⟩)
  go_region
  go_wp2
  go_ret
  exact ⟨rfl, IsS36.set_1 (IsS36.drewN H.out _) _, below_set (pw_below_drewN hB _) hge, KeepBut.set_ (keep_drewN (KeepBut.refl w g none) _) _ _⟩
set_option maxHeartbeats 800000 in
set_option maxRecDepth 100000 in
theorem step_full2 (g : Nat) (s0_0 : Int) (s0_1 : Int) (s0_2 : Int) (w0 w : World) (hI : IsS36 w0 w g s0_0 s0_1 s0_2) (hB : Below w0.heap.size w0 w) (h : s0_2 ≥ 64) :
    Calls Try.prog 19 #[.pointer (some ⟨g, 0, none⟩), .int .i64 2] w fun e w' => e = .returned (.bool false) ∧ IsS36 w0 w' g s0_0 s0_1 s0_2 ∧ Below w0.heap.size w0 w' ∧ KeepBut w w' g none := by
  have hu34 := Try.underlying34
  have hu36 := Try.underlying36
  have A := cursor_is.calls 2 true
  obtain ⟨HG, hg⟩ := hI
  have c0 := cellS36_2 HG
  have f0 := blk_frozen HG 2
  have b0 : decide (s0_2 ≥ 64) = true := decide_eq_true h
  go_enter Try.func19, Try.ntmps19
  go_wp2_with (go_at_call 45; (with_reducible refine (A _ rfl).mono ?_); rintro e w' ⟨rfl, ⟨nd, rfl⟩⟩)
  go_ret
  exact ⟨rfl, IsS36.drewN ⟨HG, hg⟩ _, pw_below_drewN hB _, keep_drewN (KeepBut.refl w g none) _⟩
set_option maxHeartbeats 800000 in
set_option maxRecDepth 100000 in
theorem step_on2 (g : Nat) (s0_0 : Int) (s0_1 : Int) (s0_2 : Int) (w0 w : World) (hI : IsS36 w0 w g s0_0 s0_1 s0_2) (hB : Below w0.heap.size w0 w) (h : ¬ s0_2 ≥ 64) :
    Calls Try.prog 19 #[.pointer (some ⟨g, 0, none⟩), .int .i64 2] w fun e w' => e = .returned (.bool true) ∧ IsS36 w0 w' g s0_0 s0_1 (wrap64 (s0_2 + 1)) ∧ Below w0.heap.size w0 w' ∧ KeepBut w w' g none := by
  have hu34 := Try.underlying34
  have hu36 := Try.underlying36
  have A := cursor_is.calls 2 true
  obtain ⟨HG, hg⟩ := hI
  have c0 := cellS36_2 HG
  have f0 := blk_frozen HG 2
  have b0 : decide (s0_2 ≥ 64) = false := decide_eq_false h
  have H := Aside0.mk (show IsS36 w0 w g s0_0 s0_1 s0_2 from ⟨HG, hg⟩)
  have hh : decide ((0 : Int) < 3) = true := rfl
  have hge : w0.heap.size ≤ g := hg
  clear HG hg
  go_enter Try.func19, Try.ntmps19
  go_wp2_with (go_at_call 45; (with_reducible refine (A _ rfl).mono ?_); rintro e w' ⟨rfl, ⟨nd, rfl⟩⟩)
  go_region
  go_wp2
  go_ret
  exact ⟨rfl, IsS36.set_2 (IsS36.drewN H.out _) _, below_set (pw_below_drewN hB _) hge, KeepBut.set_ (keep_drewN (KeepBut.refl w g none) _) _ _⟩
set_option maxHeartbeats 800000 in
set_option maxRecDepth 100000 in
theorem step_out (g : Nat) (s0_0 : Int) (s0_1 : Int) (s0_2 : Int) (a1 : Int) (w0 w : World) (hI : IsS36 w0 w g s0_0 s0_1 s0_2) (hB : Below w0.heap.size w0 w) (hf : cursor_is.f a1 = some false) :
    Calls Try.prog 19 #[.pointer (some ⟨g, 0, none⟩), .int .i64 a1] w fun e w' => e = .returned (.bool false) ∧ IsS36 w0 w' g s0_0 s0_1 s0_2 ∧ Below w0.heap.size w0 w' ∧ KeepBut w w' g none := by
  have A := cursor_is.calls a1 false
  go_enter Try.func19, Try.ntmps19
  go_wp2_with (go_at_call 45; (with_reducible refine (A _ hf).mono ?_); rintro e w' ⟨rfl, ⟨nd, rfl⟩⟩)
  go_ret
  exact ⟨rfl, IsS36.drewN hI _, pw_below_drewN hB _, keep_drewN (KeepBut.refl w g none) _⟩
theorem cursor_Cursor_Step.calls (g : Nat) (s0_0 : Int) (s0_1 : Int) (s0_2 : Int) (a1 : Int) (r1 : Bool) (r2 : Int) (r3 : Int) (r4 : Int) (w0 w : World) (hI : IsS36 w0 w g s0_0 s0_1 s0_2) (hB : Below w0.heap.size w0 w) (h : cursor_Cursor_Step.f s0_0 s0_1 s0_2 a1 = some (r1, r2, r3, r4)) :
    Calls Try.prog 19 #[.pointer (some ⟨g, 0, none⟩), .int .i64 a1] w fun e w' => e = .returned (.bool r1) ∧ IsS36 w0 w' g r2 r3 r4 ∧ Below w0.heap.size w0 w' ∧ KeepBut w w' g none := by
  unfold cursor_Cursor_Step.f at h
  by_cases h0 : a1 = 0
  · subst h0
    rw [if_pos rfl] at h
    by_cases k : s0_0 ≥ 64
    · rw [if_pos k] at h; injection h with h; injection h with e1 h; injection h with e2 h; injection h with e3 e4; subst e1 e2 e3 e4
      exact step_full0 g _ _ _ w0 w hI hB k
    · rw [if_neg k] at h; injection h with h; injection h with e1 h; injection h with e2 h; injection h with e3 e4; subst e1 e2 e3 e4
      exact step_on0 g _ _ _ w0 w hI hB k
  rw [if_neg h0] at h
  by_cases h1 : a1 = 1
  · subst h1
    rw [if_pos rfl] at h
    by_cases k : s0_1 ≥ 64
    · rw [if_pos k] at h; injection h with h; injection h with e1 h; injection h with e2 h; injection h with e3 e4; subst e1 e2 e3 e4
      exact step_full1 g _ _ _ w0 w hI hB k
    · rw [if_neg k] at h; injection h with h; injection h with e1 h; injection h with e2 h; injection h with e3 e4; subst e1 e2 e3 e4
      exact step_on1 g _ _ _ w0 w hI hB k
  rw [if_neg h1] at h
  by_cases h2 : a1 = 2
  · subst h2
    rw [if_pos rfl] at h
    by_cases k : s0_2 ≥ 64
    · rw [if_pos k] at h; injection h with h; injection h with e1 h; injection h with e2 h; injection h with e3 e4; subst e1 e2 e3 e4
      exact step_full2 g _ _ _ w0 w hI hB k
    · rw [if_neg k] at h; injection h with h; injection h with e1 h; injection h with e2 h; injection h with e3 e4; subst e1 e2 e3 e4
      exact step_on2 g _ _ _ w0 w hI hB k
  rw [if_neg h2] at h
  injection h with h; injection h with e1 h; injection h with e2 h; injection h with e3 e4; subst e1 e2 e3 e4
  refine step_out g _ _ _ a1 w0 w hI hB ?_
  unfold cursor_is.f
  by_cases h3 : a1 ≥ 0
  · rw [if_pos h3, decide_eq_false (by omega)]
  · rw [if_neg h3]

/-! ### cursor_Cursor_At: function 22 -/
def cursor_Cursor_At.f (s0_0 : Int) (s0_1 : Int) (s0_2 : Int) (a1 : Int) (a2 : Int) : Option (Int × Int × Int × Int) := (cursor_is.f a1).bind fun t101 => (if t101 = true then (if a1 = 0 then (some (wrap64 (a2 + s0_0), s0_0, s0_1, s0_2)) else (if a1 = 1 then (some (wrap64 (a2 + s0_1), s0_0, s0_1, s0_2)) else (if a1 = 2 then (some (wrap64 (a2 + s0_2), s0_0, s0_1, s0_2)) else (none)))) else (some (a2, s0_0, s0_1, s0_2)))
set_option maxHeartbeats 8000000 in
set_option maxRecDepth 100000 in
theorem cursor_Cursor_At.calls (g : Nat) (s0_0 : Int) (s0_1 : Int) (s0_2 : Int) (a1 : Int) (a2 : Int) (r1 : Int) (r2 : Int) (r3 : Int) (r4 : Int) (w0 w : World) (hI : IsS36 w0 w g s0_0 s0_1 s0_2) (hB : Below w0.heap.size w0 w) (h : cursor_Cursor_At.f s0_0 s0_1 s0_2 a1 a2 = some (r1, r2, r3, r4)) :
    Calls Try.prog 22 #[.pointer (some ⟨g, 0, none⟩), .int .i64 a1, .int .i64 a2] w fun e w' => e = .returned (.int .i64 r1) ∧ IsS36 w0 w' g r2 r3 r4 ∧ Below w0.heap.size w0 w' ∧ KeepBut w w' g none := by
  have hu34 := Try.underlying34
  have HI0 := Aside0.mk hI
  have HK := Aside0.mk (KeepBut.refl w g none)
  have HL := Aside0.mk hB.size
  clear hI
  have HW0 := Aside0.mk hB.size
  have HB := Aside0.mk hB
  clear hB
  have H : ((cursor_is.f a1).bind fun t101 => (if t101 = true then (if a1 = 0 then (some (wrap64 (a2 + s0_0), s0_0, s0_1, s0_2)) else (if a1 = 1 then (some (wrap64 (a2 + s0_1), s0_0, s0_1, s0_2)) else (if a1 = 2 then (some (wrap64 (a2 + s0_2), s0_0, s0_1, s0_2)) else (none)))) else (some (a2, s0_0, s0_1, s0_2)))) = some (r1, r2, r3, r4) := h
  clear h
  replace H := Option.bind_eq_some_iff.mp H
  obtain ⟨t101, A40, H⟩ := H
  replace H : (if t101 = true then (if a1 = 0 then (some (wrap64 (a2 + s0_0), s0_0, s0_1, s0_2)) else (if a1 = 1 then (some (wrap64 (a2 + s0_1), s0_0, s0_1, s0_2)) else (if a1 = 2 then (some (wrap64 (a2 + s0_2), s0_0, s0_1, s0_2)) else (none)))) else (some (a2, s0_0, s0_1, s0_2))) = some (r1, r2, r3, r4) := H
  have A4 := Aside0.mk A40
  clear A40
  by_cases c5 : t101 = true
  · subst c5
    have H1 : (if a1 = 0 then (some (wrap64 (a2 + s0_0), s0_0, s0_1, s0_2)) else (if a1 = 1 then (some (wrap64 (a2 + s0_1), s0_0, s0_1, s0_2)) else (if a1 = 2 then (some (wrap64 (a2 + s0_2), s0_0, s0_1, s0_2)) else (none)))) = some (r1, r2, r3, r4) := by rw [if_pos rfl] at H; exact H
    clear H
    have H := H1
    clear H1
    by_cases c6 : a1 = 0
    · subst c6
      have H1 : (some (wrap64 (a2 + s0_0), s0_0, s0_1, s0_2)) = some (r1, r2, r3, r4) := by rw [if_pos rfl] at H; exact H
      clear H
      have H := H1
      clear H1
      simp only [Option.some.injEq, Prod.mk.injEq] at H
      obtain ⟨rfl, rfl, rfl, rfl⟩ := H
      go_enter Try.func22, Try.ntmps22
      go_wp2_with (first | (go_at_call 45; (with_reducible refine (cursor_is.calls 0 true _ A4.out).mono ?_); rintro e w' ⟨rfl, ⟨nd, rfl⟩⟩; obtain ⟨HGz7, hgz7⟩ := HI0.out; have hcz7_0 := cellS36_0 HGz7; have hcz7_1 := cellS36_1 HGz7; have hcz7_2 := cellS36_2 HGz7; have hfz7_0 := blk_frozen HGz7 0; have hfz7_1 := blk_frozen HGz7 1; have hfz7_2 := blk_frozen HGz7 2; clear HGz7 hgz7))
      go_ret
      exact ⟨by first | rfl | (simp [errW_none, errW_some] <;> rfl) | (simp [*, errW_none, errW_some] <;> rfl), by repeat (first | (with_reducible first | exact HI0.out | apply IsS36.alloc | apply IsS36.drewN | apply IsS36.drew | apply IsS36.set_0 | apply IsS36.set_1 | apply IsS36.set_2) | exact HI0.out), by repeat (first | (with_reducible first | exact HB.out | apply below_alloc | apply pw_below_drewN | apply below_drew1 | refine below_set ?_ (IsS36.ge HI0.out)) | exact HB.out), by repeat (first | (with_reducible first | exact HK.out | apply KeepBut.set_ | apply keep_drewN | apply keep_drew | apply keep_alloc) | exact HK.out)⟩
    · rw [if_neg c6] at H
      clear c6
      by_cases c8 : a1 = 1
      · subst c8
        have H1 : (some (wrap64 (a2 + s0_1), s0_0, s0_1, s0_2)) = some (r1, r2, r3, r4) := by rw [if_pos rfl] at H; exact H
        clear H
        have H := H1
        clear H1
        simp only [Option.some.injEq, Prod.mk.injEq] at H
        obtain ⟨rfl, rfl, rfl, rfl⟩ := H
        go_enter Try.func22, Try.ntmps22
        go_wp2_with (first | (go_at_call 45; (with_reducible refine (cursor_is.calls 1 true _ A4.out).mono ?_); rintro e w' ⟨rfl, ⟨nd, rfl⟩⟩; obtain ⟨HGz9, hgz9⟩ := HI0.out; have hcz9_0 := cellS36_0 HGz9; have hcz9_1 := cellS36_1 HGz9; have hcz9_2 := cellS36_2 HGz9; have hfz9_0 := blk_frozen HGz9 0; have hfz9_1 := blk_frozen HGz9 1; have hfz9_2 := blk_frozen HGz9 2; clear HGz9 hgz9))
        go_ret
        exact ⟨by first | rfl | (simp [errW_none, errW_some] <;> rfl) | (simp [*, errW_none, errW_some] <;> rfl), by repeat (first | (with_reducible first | exact HI0.out | apply IsS36.alloc | apply IsS36.drewN | apply IsS36.drew | apply IsS36.set_0 | apply IsS36.set_1 | apply IsS36.set_2) | exact HI0.out), by repeat (first | (with_reducible first | exact HB.out | apply below_alloc | apply pw_below_drewN | apply below_drew1 | refine below_set ?_ (IsS36.ge HI0.out)) | exact HB.out), by repeat (first | (with_reducible first | exact HK.out | apply KeepBut.set_ | apply keep_drewN | apply keep_drew | apply keep_alloc) | exact HK.out)⟩
      · rw [if_neg c8] at H
        clear c8
        by_cases c10 : a1 = 2
        · subst c10
          have H1 : (some (wrap64 (a2 + s0_2), s0_0, s0_1, s0_2)) = some (r1, r2, r3, r4) := by rw [if_pos rfl] at H; exact H
          clear H
          have H := H1
          clear H1
          simp only [Option.some.injEq, Prod.mk.injEq] at H
          obtain ⟨rfl, rfl, rfl, rfl⟩ := H
          go_enter Try.func22, Try.ntmps22
          go_wp2_with (first | (go_at_call 45; (with_reducible refine (cursor_is.calls 2 true _ A4.out).mono ?_); rintro e w' ⟨rfl, ⟨nd, rfl⟩⟩; obtain ⟨HGz11, hgz11⟩ := HI0.out; have hcz11_0 := cellS36_0 HGz11; have hcz11_1 := cellS36_1 HGz11; have hcz11_2 := cellS36_2 HGz11; have hfz11_0 := blk_frozen HGz11 0; have hfz11_1 := blk_frozen HGz11 1; have hfz11_2 := blk_frozen HGz11 2; clear HGz11 hgz11))
          go_ret
          exact ⟨by first | rfl | (simp [errW_none, errW_some] <;> rfl) | (simp [*, errW_none, errW_some] <;> rfl), by repeat (first | (with_reducible first | exact HI0.out | apply IsS36.alloc | apply IsS36.drewN | apply IsS36.drew | apply IsS36.set_0 | apply IsS36.set_1 | apply IsS36.set_2) | exact HI0.out), by repeat (first | (with_reducible first | exact HB.out | apply below_alloc | apply pw_below_drewN | apply below_drew1 | refine below_set ?_ (IsS36.ge HI0.out)) | exact HB.out), by repeat (first | (with_reducible first | exact HK.out | apply KeepBut.set_ | apply keep_drewN | apply keep_drew | apply keep_alloc) | exact HK.out)⟩
        · rw [if_neg c10] at H
          exact absurd H (by simp)
  · replace c5 := Bool.eq_false_iff.mpr c5
    subst c5
    have H1 : (some (a2, s0_0, s0_1, s0_2)) = some (r1, r2, r3, r4) := by rw [if_neg (show ¬ (false = true) by decide)] at H; exact H
    clear H
    have H := H1
    clear H1
    simp only [Option.some.injEq, Prod.mk.injEq] at H
    obtain ⟨rfl, rfl, rfl, rfl⟩ := H
    go_enter Try.func22, Try.ntmps22
    go_wp2_with (first | (go_at_call 45; (with_reducible refine (cursor_is.calls a1 false _ A4.out).mono ?_); rintro e w' ⟨rfl, ⟨nd, rfl⟩⟩))
    go_ret
    exact ⟨by first | rfl | (simp [errW_none, errW_some] <;> rfl) | (simp [*, errW_none, errW_some] <;> rfl), by repeat (first | (with_reducible first | exact HI0.out | apply IsS36.alloc | apply IsS36.drewN | apply IsS36.drew | apply IsS36.set_0 | apply IsS36.set_1 | apply IsS36.set_2) | exact HI0.out), by repeat (first | (with_reducible first | exact HB.out | apply below_alloc | apply pw_below_drewN | apply below_drew1 | refine below_set ?_ (IsS36.ge HI0.out)) | exact HB.out), by repeat (first | (with_reducible first | exact HK.out | apply KeepBut.set_ | apply keep_drewN | apply keep_drew | apply keep_alloc) | exact HK.out)⟩

/-! ### cursor_Cursor_Any: function 23 -/
def cursor_Cursor_Any.f (s0_0 : Int) (s0_1 : Int) (s0_2 : Int) : Option (Bool × Int × Int × Int) := if s0_0 = 0 then (if s0_1 = 0 then (if s0_2 = 0 then (some (false, s0_0, s0_1, s0_2)) else (some (true, s0_0, s0_1, s0_2))) else (some (true, s0_0, s0_1, s0_2))) else (some (true, s0_0, s0_1, s0_2))
set_option maxHeartbeats 8000000 in
set_option maxRecDepth 100000 in
theorem cursor_Cursor_Any.calls (g : Nat) (s0_0 : Int) (s0_1 : Int) (s0_2 : Int) (r1 : Bool) (r2 : Int) (r3 : Int) (r4 : Int) (w0 w : World) (hI : IsS36 w0 w g s0_0 s0_1 s0_2) (hB : Below w0.heap.size w0 w) (h : cursor_Cursor_Any.f s0_0 s0_1 s0_2 = some (r1, r2, r3, r4)) :
    Calls Try.prog 23 #[.pointer (some ⟨g, 0, none⟩)] w fun e w' => e = .returned (.bool r1) ∧ IsS36 w0 w' g r2 r3 r4 ∧ Below w0.heap.size w0 w' ∧ KeepBut w w' g none := by
  have hu34 := Try.underlying34
  have HI0 := Aside0.mk hI
  have HK := Aside0.mk (KeepBut.refl w g none)
  have HL := Aside0.mk hB.size
  clear hI
  have HW0 := Aside0.mk hB.size
  have HB := Aside0.mk hB
  clear hB
  have H : (if s0_0 = 0 then (if s0_1 = 0 then (if s0_2 = 0 then (some (false, s0_0, s0_1, s0_2)) else (some (true, s0_0, s0_1, s0_2))) else (some (true, s0_0, s0_1, s0_2))) else (some (true, s0_0, s0_1, s0_2))) = some (r1, r2, r3, r4) := h
  clear h
  by_cases c2 : s0_0 = 0
  · rw [if_pos c2] at H
    have c2b0 : (s0_0 == 0) = true := beq_iff_eq.mpr c2
    have c2b1 : (s0_0 != 0) = false := bne_eq_false_iff_eq.mpr c2
    clear c2
    by_cases c3 : s0_1 = 0
    · rw [if_pos c3] at H
      have c3b0 : (s0_1 == 0) = true := beq_iff_eq.mpr c3
      have c3b1 : (s0_1 != 0) = false := bne_eq_false_iff_eq.mpr c3
      clear c3
      by_cases c4 : s0_2 = 0
      · rw [if_pos c4] at H
        have c4b0 : (s0_2 == 0) = true := beq_iff_eq.mpr c4
        have c4b1 : (s0_2 != 0) = false := bne_eq_false_iff_eq.mpr c4
        clear c4
        simp only [Option.some.injEq, Prod.mk.injEq] at H
        obtain ⟨rfl, rfl, rfl, rfl⟩ := H
        obtain ⟨HGz5, hgz5⟩ := HI0.out
        have hcz5_0 := cellS36_0 HGz5
        have hcz5_1 := cellS36_1 HGz5
        have hcz5_2 := cellS36_2 HGz5
        have hfz5_0 := blk_frozen HGz5 0
        have hfz5_1 := blk_frozen HGz5 1
        have hfz5_2 := blk_frozen HGz5 2
        clear HGz5 hgz5
        go_enter Try.func23, Try.ntmps23
        go_wp2
        go_ret
        exact ⟨by first | rfl | (simp [errW_none, errW_some] <;> rfl) | (simp [*, errW_none, errW_some] <;> rfl), by repeat (first | (with_reducible first | exact HI0.out | apply IsS36.alloc | apply IsS36.drewN | apply IsS36.drew | apply IsS36.set_0 | apply IsS36.set_1 | apply IsS36.set_2) | exact HI0.out), by repeat (first | (with_reducible first | exact HB.out | apply below_alloc | apply pw_below_drewN | apply below_drew1 | refine below_set ?_ (IsS36.ge HI0.out)) | exact HB.out), by repeat (first | (with_reducible first | exact HK.out | apply KeepBut.set_ | apply keep_drewN | apply keep_drew | apply keep_alloc) | exact HK.out)⟩
      · rw [if_neg c4] at H
        have c4b0 : (s0_2 == 0) = false := beq_eq_false_iff_ne.mpr c4
        have c4b1 : (s0_2 != 0) = true := bne_iff_ne.mpr c4
        simp only [Option.some.injEq, Prod.mk.injEq] at H
        obtain ⟨rfl, rfl, rfl, rfl⟩ := H
        obtain ⟨HGz6, hgz6⟩ := HI0.out
        have hcz6_0 := cellS36_0 HGz6
        have hcz6_1 := cellS36_1 HGz6
        have hcz6_2 := cellS36_2 HGz6
        have hfz6_0 := blk_frozen HGz6 0
        have hfz6_1 := blk_frozen HGz6 1
        have hfz6_2 := blk_frozen HGz6 2
        clear HGz6 hgz6
        go_enter Try.func23, Try.ntmps23
        go_wp2
        go_ret
        exact ⟨by first | rfl | (simp [errW_none, errW_some] <;> rfl) | (simp [*, errW_none, errW_some] <;> rfl), by repeat (first | (with_reducible first | exact HI0.out | apply IsS36.alloc | apply IsS36.drewN | apply IsS36.drew | apply IsS36.set_0 | apply IsS36.set_1 | apply IsS36.set_2) | exact HI0.out), by repeat (first | (with_reducible first | exact HB.out | apply below_alloc | apply pw_below_drewN | apply below_drew1 | refine below_set ?_ (IsS36.ge HI0.out)) | exact HB.out), by repeat (first | (with_reducible first | exact HK.out | apply KeepBut.set_ | apply keep_drewN | apply keep_drew | apply keep_alloc) | exact HK.out)⟩
    · rw [if_neg c3] at H
      have c3b0 : (s0_1 == 0) = false := beq_eq_false_iff_ne.mpr c3
      have c3b1 : (s0_1 != 0) = true := bne_iff_ne.mpr c3
      simp only [Option.some.injEq, Prod.mk.injEq] at H
      obtain ⟨rfl, rfl, rfl, rfl⟩ := H
      obtain ⟨HGz7, hgz7⟩ := HI0.out
      have hcz7_0 := cellS36_0 HGz7
      have hcz7_1 := cellS36_1 HGz7
      have hcz7_2 := cellS36_2 HGz7
      have hfz7_0 := blk_frozen HGz7 0
      have hfz7_1 := blk_frozen HGz7 1
      have hfz7_2 := blk_frozen HGz7 2
      clear HGz7 hgz7
      go_enter Try.func23, Try.ntmps23
      go_wp2
      go_ret
      exact ⟨by first | rfl | (simp [errW_none, errW_some] <;> rfl) | (simp [*, errW_none, errW_some] <;> rfl), by repeat (first | (with_reducible first | exact HI0.out | apply IsS36.alloc | apply IsS36.drewN | apply IsS36.drew | apply IsS36.set_0 | apply IsS36.set_1 | apply IsS36.set_2) | exact HI0.out), by repeat (first | (with_reducible first | exact HB.out | apply below_alloc | apply pw_below_drewN | apply below_drew1 | refine below_set ?_ (IsS36.ge HI0.out)) | exact HB.out), by repeat (first | (with_reducible first | exact HK.out | apply KeepBut.set_ | apply keep_drewN | apply keep_drew | apply keep_alloc) | exact HK.out)⟩
  · rw [if_neg c2] at H
    have c2b0 : (s0_0 == 0) = false := beq_eq_false_iff_ne.mpr c2
    have c2b1 : (s0_0 != 0) = true := bne_iff_ne.mpr c2
    simp only [Option.some.injEq, Prod.mk.injEq] at H
    obtain ⟨rfl, rfl, rfl, rfl⟩ := H
    obtain ⟨HGz8, hgz8⟩ := HI0.out
    have hcz8_0 := cellS36_0 HGz8
    have hcz8_1 := cellS36_1 HGz8
    have hcz8_2 := cellS36_2 HGz8
    have hfz8_0 := blk_frozen HGz8 0
    have hfz8_1 := blk_frozen HGz8 1
    have hfz8_2 := blk_frozen HGz8 2
    clear HGz8 hgz8
    go_enter Try.func23, Try.ntmps23
    go_wp2
    go_ret
    exact ⟨by first | rfl | (simp [errW_none, errW_some] <;> rfl) | (simp [*, errW_none, errW_some] <;> rfl), by repeat (first | (with_reducible first | exact HI0.out | apply IsS36.alloc | apply IsS36.drewN | apply IsS36.drew | apply IsS36.set_0 | apply IsS36.set_1 | apply IsS36.set_2) | exact HI0.out), by repeat (first | (with_reducible first | exact HB.out | apply below_alloc | apply pw_below_drewN | apply below_drew1 | refine below_set ?_ (IsS36.ge HI0.out)) | exact HB.out), by repeat (first | (with_reducible first | exact HK.out | apply KeepBut.set_ | apply keep_drewN | apply keep_drew | apply keep_alloc) | exact HK.out)⟩

/-! ### countermandlaw15_alive: function 17 -/
def countermandlaw15_alive.f  : Option (Bool) := (cursor_Cursor_Step.f 0 0 0 1).bind fun bt103 => (if bt103.1 = true then ((cursor_Cursor_Step.f bt103.2.1 bt103.2.2.1 bt103.2.2.2 1).bind fun bt107 => (if bt107.1 = true then ((cursor_Cursor_At.f bt107.2.1 bt107.2.2.1 bt107.2.2.2 1 5).bind fun bt111 => (if bt111.1 = 7 then ((cursor_Cursor_Any.f bt111.2.1 bt111.2.2.1 bt111.2.2.2).bind fun bt115 => (some bt115.1)) else (some false))) else (some false))) else (some false))
set_option maxHeartbeats 8000000 in
set_option maxRecDepth 100000 in
theorem countermandlaw15_alive.calls  (r : Bool) (w : World) (h : countermandlaw15_alive.f  = some r) :
    Calls Try.prog 17 #[] w fun e w' => e = .returned (.bool r) ∧ Below w.heap.size w w' := by
  have hu36 := Try.underlying36
  have HB := Aside0.mk (Below.refl w.heap.size w)
  have H : ((cursor_Cursor_Step.f 0 0 0 1).bind fun bt103 => (if bt103.1 = true then ((cursor_Cursor_Step.f bt103.2.1 bt103.2.2.1 bt103.2.2.2 1).bind fun bt107 => (if bt107.1 = true then ((cursor_Cursor_At.f bt107.2.1 bt107.2.2.1 bt107.2.2.2 1 5).bind fun bt111 => (if bt111.1 = 7 then ((cursor_Cursor_Any.f bt111.2.1 bt111.2.2.1 bt111.2.2.2).bind fun bt115 => (some bt115.1)) else (some false))) else (some false))) else (some false))) = some r := h
  clear h
  replace H := Option.bind_eq_some_iff.mp H
  obtain ⟨⟨t103, t104, t105, t106⟩, A10, H⟩ := H
  replace H : (if t103 = true then ((cursor_Cursor_Step.f t104 t105 t106 1).bind fun bt107 => (if bt107.1 = true then ((cursor_Cursor_At.f bt107.2.1 bt107.2.2.1 bt107.2.2.2 1 5).bind fun bt111 => (if bt111.1 = 7 then ((cursor_Cursor_Any.f bt111.2.1 bt111.2.2.1 bt111.2.2.2).bind fun bt115 => (some bt115.1)) else (some false))) else (some false))) else (some false)) = some r := H
  have A1 := Aside0.mk A10
  clear A10
  by_cases c2 : t103 = true
  · subst c2
    have H1 : ((cursor_Cursor_Step.f t104 t105 t106 1).bind fun bt107 => (if bt107.1 = true then ((cursor_Cursor_At.f bt107.2.1 bt107.2.2.1 bt107.2.2.2 1 5).bind fun bt111 => (if bt111.1 = 7 then ((cursor_Cursor_Any.f bt111.2.1 bt111.2.2.1 bt111.2.2.2).bind fun bt115 => (some bt115.1)) else (some false))) else (some false))) = some r := by rw [if_pos rfl] at H; exact H
    clear H
    have H := H1
    clear H1
    replace H := Option.bind_eq_some_iff.mp H
    obtain ⟨⟨t107, t108, t109, t110⟩, A30, H⟩ := H
    replace H : (if t107 = true then ((cursor_Cursor_At.f t108 t109 t110 1 5).bind fun bt111 => (if bt111.1 = 7 then ((cursor_Cursor_Any.f bt111.2.1 bt111.2.2.1 bt111.2.2.2).bind fun bt115 => (some bt115.1)) else (some false))) else (some false)) = some r := H
    have A3 := Aside0.mk A30
    clear A30
    by_cases c4 : t107 = true
    · subst c4
      have H1 : ((cursor_Cursor_At.f t108 t109 t110 1 5).bind fun bt111 => (if bt111.1 = 7 then ((cursor_Cursor_Any.f bt111.2.1 bt111.2.2.1 bt111.2.2.2).bind fun bt115 => (some bt115.1)) else (some false))) = some r := by rw [if_pos rfl] at H; exact H
      clear H
      have H := H1
      clear H1
      replace H := Option.bind_eq_some_iff.mp H
      obtain ⟨⟨t111, t112, t113, t114⟩, A50, H⟩ := H
      replace H : (if t111 = 7 then ((cursor_Cursor_Any.f t112 t113 t114).bind fun bt115 => (some bt115.1)) else (some false)) = some r := H
      have A5 := Aside0.mk A50
      clear A50
      by_cases c6 : t111 = 7
      · rw [if_pos c6] at H
        have c6b0 : (t111 == 7) = true := beq_iff_eq.mpr c6
        have c6b1 : (t111 != 7) = false := bne_eq_false_iff_eq.mpr c6
        clear c6
        replace H := Option.bind_eq_some_iff.mp H
        obtain ⟨⟨t115, t116, t117, t118⟩, A70, H⟩ := H
        replace H : (some t115) = some r := H
        have A7 := Aside0.mk A70
        clear A70
        obtain rfl := Option.some.inj H
        simp only [Option.some.injEq, Prod.mk.injEq] at H
        obtain ⟨rfl⟩ := H
        go_enter Try.func17, Try.ntmps17
        go_wp2_with (first | ((with_reducible refine gate_dst (N := 3) rfl ?_); refine box_event ?hg (N := 3) ?hd (cs := #[.int .i64 0, .int .i64 0, .int .i64 0]) (t := 36) ?hr ?_; (case hd => rfl); (case hg => rfl); (case hr => first | (go_simp; done) | (go_simp; rfl)); intro gb102 hg w8 hbox hb; have n0_ := Aside0.mk (below_step (by repeat (first | (with_reducible first | exact HB.out | apply below_alloc | apply pw_below_drewN | apply below_drew1) | exact HB.out)) hb); have n1_ := Aside0.mk ((show IsS36 w w8 gb102 0 0 0 from ⟨hbox, (by rw [hg]; exact (below_size (by repeat (first | (with_reducible first | exact HB.out | apply below_alloc | apply pw_below_drewN | apply below_drew1) | exact HB.out))) : w.heap.size ≤ gb102)⟩)); clear HB; have HB := n0_; have HI102 := n1_; clear n0_ n1_; clear hb hbox hg) | ((with_reducible refine gate_callee (f := 19) rfl ?_); refine goesL_ (some 5) rfl rfl Try.func19 (by kernel_rfl) rfl #[.pointer (some ⟨gb102, 0, none⟩), .int .i64 1] rfl (by (try simp only [List.map_toArray, List.map_cons, List.map_nil]); first | done | rfl | (simp only [List.length_drop, List.length_take]; rfl)) ?_; (with_reducible refine (cursor_Cursor_Step.calls gb102 0 0 0 1 true t104 t105 t106 w _ ?side1 ?side2 A1.out).mono ?_); (case side1 => repeat (first | (with_reducible first | exact HI102.out | apply IsS36.alloc | apply IsS36.drewN | apply IsS36.drew | apply IsS36.set_0 | apply IsS36.set_1 | apply IsS36.set_2) | exact HI102.out)); (case side2 => repeat (first | (with_reducible first | exact HB.out | apply below_alloc | apply pw_below_drewN | apply below_drew1 | refine below_set ?_ (IsS36.ge HI102.out)) | exact HB.out)); rintro e w9 ⟨rfl, hi, hb, hk⟩; refine ⟨_, rfl, ?_⟩; have n0_ := Aside0.mk (hb); have n1_ := Aside0.mk (hi); clear HB; clear HI102; have HB := n0_; have HI102 := n1_; clear n0_ n1_; (try clear hb); (try clear hb2); (try clear hk); (try clear hi)) | (go_at_call 19; (with_reducible refine (cursor_Cursor_Step.calls gb102 t104 t105 t106 1 true t108 t109 t110 w _ ?side1 ?side2 A3.out).mono ?_); (case side1 => repeat (first | (with_reducible first | exact HI102.out | apply IsS36.alloc | apply IsS36.drewN | apply IsS36.drew | apply IsS36.set_0 | apply IsS36.set_1 | apply IsS36.set_2) | exact HI102.out)); (case side2 => repeat (first | (with_reducible first | exact HB.out | apply below_alloc | apply pw_below_drewN | apply below_drew1 | refine below_set ?_ (IsS36.ge HI102.out)) | exact HB.out)); rintro e w10 ⟨rfl, hi, hb, hk⟩; have n0_ := Aside0.mk (hb); have n1_ := Aside0.mk (hi); clear HB; clear HI102; have HB := n0_; have HI102 := n1_; clear n0_ n1_; (try clear hb); (try clear hb2); (try clear hk); (try clear hi)) | (go_at_call 22; (with_reducible refine (cursor_Cursor_At.calls gb102 t108 t109 t110 1 5 t111 t112 t113 t114 w _ ?side1 ?side2 A5.out).mono ?_); (case side1 => repeat (first | (with_reducible first | exact HI102.out | apply IsS36.alloc | apply IsS36.drewN | apply IsS36.drew | apply IsS36.set_0 | apply IsS36.set_1 | apply IsS36.set_2) | exact HI102.out)); (case side2 => repeat (first | (with_reducible first | exact HB.out | apply below_alloc | apply pw_below_drewN | apply below_drew1 | refine below_set ?_ (IsS36.ge HI102.out)) | exact HB.out)); rintro e w11 ⟨rfl, hi, hb, hk⟩; have n0_ := Aside0.mk (hb); have n1_ := Aside0.mk (hi); clear HB; clear HI102; have HB := n0_; have HI102 := n1_; clear n0_ n1_; (try clear hb); (try clear hb2); (try clear hk); (try clear hi)) | (go_at_call 23; (with_reducible refine (cursor_Cursor_Any.calls gb102 t112 t113 t114 t115 t116 t117 t118 w _ ?side1 ?side2 A7.out).mono ?_); (case side1 => repeat (first | (with_reducible first | exact HI102.out | apply IsS36.alloc | apply IsS36.drewN | apply IsS36.drew | apply IsS36.set_0 | apply IsS36.set_1 | apply IsS36.set_2) | exact HI102.out)); (case side2 => repeat (first | (with_reducible first | exact HB.out | apply below_alloc | apply pw_below_drewN | apply below_drew1 | refine below_set ?_ (IsS36.ge HI102.out)) | exact HB.out)); rintro e w12 ⟨rfl, hi, hb, hk⟩; have n0_ := Aside0.mk (hb); have n1_ := Aside0.mk (hi); clear HB; clear HI102; have HB := n0_; have HI102 := n1_; clear n0_ n1_; (try clear hb); (try clear hb2); (try clear hk); (try clear hi)))
        go_ret
        exact ⟨by first | rfl | (simp [errW_none, errW_some] <;> rfl) | (simp [*, errW_none, errW_some] <;> rfl), by repeat (first | (with_reducible first | exact HB.out | apply below_alloc | apply pw_below_drewN | apply below_drew1 | refine below_set ?_ (IsS36.ge HI102.out)) | exact HB.out)⟩
      · rw [if_neg c6] at H
        have c6b0 : (t111 == 7) = false := beq_eq_false_iff_ne.mpr c6
        have c6b1 : (t111 != 7) = true := bne_iff_ne.mpr c6
        obtain rfl := Option.some.inj H
        simp only [Option.some.injEq, Prod.mk.injEq] at H
        obtain ⟨rfl⟩ := H
        go_enter Try.func17, Try.ntmps17
        go_wp2_with (first | ((with_reducible refine gate_dst (N := 3) rfl ?_); refine box_event ?hg (N := 3) ?hd (cs := #[.int .i64 0, .int .i64 0, .int .i64 0]) (t := 36) ?hr ?_; (case hd => rfl); (case hg => rfl); (case hr => first | (go_simp; done) | (go_simp; rfl)); intro gb102 hg w13 hbox hb; have n0_ := Aside0.mk (below_step (by repeat (first | (with_reducible first | exact HB.out | apply below_alloc | apply pw_below_drewN | apply below_drew1) | exact HB.out)) hb); have n1_ := Aside0.mk ((show IsS36 w w13 gb102 0 0 0 from ⟨hbox, (by rw [hg]; exact (below_size (by repeat (first | (with_reducible first | exact HB.out | apply below_alloc | apply pw_below_drewN | apply below_drew1) | exact HB.out))) : w.heap.size ≤ gb102)⟩)); clear HB; have HB := n0_; have HI102 := n1_; clear n0_ n1_; clear hb hbox hg) | ((with_reducible refine gate_callee (f := 19) rfl ?_); refine goesL_ (some 5) rfl rfl Try.func19 (by kernel_rfl) rfl #[.pointer (some ⟨gb102, 0, none⟩), .int .i64 1] rfl (by (try simp only [List.map_toArray, List.map_cons, List.map_nil]); first | done | rfl | (simp only [List.length_drop, List.length_take]; rfl)) ?_; (with_reducible refine (cursor_Cursor_Step.calls gb102 0 0 0 1 true t104 t105 t106 w _ ?side1 ?side2 A1.out).mono ?_); (case side1 => repeat (first | (with_reducible first | exact HI102.out | apply IsS36.alloc | apply IsS36.drewN | apply IsS36.drew | apply IsS36.set_0 | apply IsS36.set_1 | apply IsS36.set_2) | exact HI102.out)); (case side2 => repeat (first | (with_reducible first | exact HB.out | apply below_alloc | apply pw_below_drewN | apply below_drew1 | refine below_set ?_ (IsS36.ge HI102.out)) | exact HB.out)); rintro e w14 ⟨rfl, hi, hb, hk⟩; refine ⟨_, rfl, ?_⟩; have n0_ := Aside0.mk (hb); have n1_ := Aside0.mk (hi); clear HB; clear HI102; have HB := n0_; have HI102 := n1_; clear n0_ n1_; (try clear hb); (try clear hb2); (try clear hk); (try clear hi)) | (go_at_call 19; (with_reducible refine (cursor_Cursor_Step.calls gb102 t104 t105 t106 1 true t108 t109 t110 w _ ?side1 ?side2 A3.out).mono ?_); (case side1 => repeat (first | (with_reducible first | exact HI102.out | apply IsS36.alloc | apply IsS36.drewN | apply IsS36.drew | apply IsS36.set_0 | apply IsS36.set_1 | apply IsS36.set_2) | exact HI102.out)); (case side2 => repeat (first | (with_reducible first | exact HB.out | apply below_alloc | apply pw_below_drewN | apply below_drew1 | refine below_set ?_ (IsS36.ge HI102.out)) | exact HB.out)); rintro e w15 ⟨rfl, hi, hb, hk⟩; have n0_ := Aside0.mk (hb); have n1_ := Aside0.mk (hi); clear HB; clear HI102; have HB := n0_; have HI102 := n1_; clear n0_ n1_; (try clear hb); (try clear hb2); (try clear hk); (try clear hi)) | (go_at_call 22; (with_reducible refine (cursor_Cursor_At.calls gb102 t108 t109 t110 1 5 t111 t112 t113 t114 w _ ?side1 ?side2 A5.out).mono ?_); (case side1 => repeat (first | (with_reducible first | exact HI102.out | apply IsS36.alloc | apply IsS36.drewN | apply IsS36.drew | apply IsS36.set_0 | apply IsS36.set_1 | apply IsS36.set_2) | exact HI102.out)); (case side2 => repeat (first | (with_reducible first | exact HB.out | apply below_alloc | apply pw_below_drewN | apply below_drew1 | refine below_set ?_ (IsS36.ge HI102.out)) | exact HB.out)); rintro e w16 ⟨rfl, hi, hb, hk⟩; have n0_ := Aside0.mk (hb); have n1_ := Aside0.mk (hi); clear HB; clear HI102; have HB := n0_; have HI102 := n1_; clear n0_ n1_; (try clear hb); (try clear hb2); (try clear hk); (try clear hi)))
        go_ret
        exact ⟨by first | rfl | (simp [errW_none, errW_some] <;> rfl) | (simp [*, errW_none, errW_some] <;> rfl), by repeat (first | (with_reducible first | exact HB.out | apply below_alloc | apply pw_below_drewN | apply below_drew1 | refine below_set ?_ (IsS36.ge HI102.out)) | exact HB.out)⟩
    · replace c4 := Bool.eq_false_iff.mpr c4
      subst c4
      have H1 : (some false) = some r := by rw [if_neg (show ¬ (false = true) by decide)] at H; exact H
      clear H
      have H := H1
      clear H1
      obtain rfl := Option.some.inj H
      simp only [Option.some.injEq, Prod.mk.injEq] at H
      obtain ⟨rfl⟩ := H
      go_enter Try.func17, Try.ntmps17
      go_wp2_with (first | ((with_reducible refine gate_dst (N := 3) rfl ?_); refine box_event ?hg (N := 3) ?hd (cs := #[.int .i64 0, .int .i64 0, .int .i64 0]) (t := 36) ?hr ?_; (case hd => rfl); (case hg => rfl); (case hr => first | (go_simp; done) | (go_simp; rfl)); intro gb102 hg w17 hbox hb; have n0_ := Aside0.mk (below_step (by repeat (first | (with_reducible first | exact HB.out | apply below_alloc | apply pw_below_drewN | apply below_drew1) | exact HB.out)) hb); have n1_ := Aside0.mk ((show IsS36 w w17 gb102 0 0 0 from ⟨hbox, (by rw [hg]; exact (below_size (by repeat (first | (with_reducible first | exact HB.out | apply below_alloc | apply pw_below_drewN | apply below_drew1) | exact HB.out))) : w.heap.size ≤ gb102)⟩)); clear HB; have HB := n0_; have HI102 := n1_; clear n0_ n1_; clear hb hbox hg) | ((with_reducible refine gate_callee (f := 19) rfl ?_); refine goesL_ (some 5) rfl rfl Try.func19 (by kernel_rfl) rfl #[.pointer (some ⟨gb102, 0, none⟩), .int .i64 1] rfl (by (try simp only [List.map_toArray, List.map_cons, List.map_nil]); first | done | rfl | (simp only [List.length_drop, List.length_take]; rfl)) ?_; (with_reducible refine (cursor_Cursor_Step.calls gb102 0 0 0 1 true t104 t105 t106 w _ ?side1 ?side2 A1.out).mono ?_); (case side1 => repeat (first | (with_reducible first | exact HI102.out | apply IsS36.alloc | apply IsS36.drewN | apply IsS36.drew | apply IsS36.set_0 | apply IsS36.set_1 | apply IsS36.set_2) | exact HI102.out)); (case side2 => repeat (first | (with_reducible first | exact HB.out | apply below_alloc | apply pw_below_drewN | apply below_drew1 | refine below_set ?_ (IsS36.ge HI102.out)) | exact HB.out)); rintro e w18 ⟨rfl, hi, hb, hk⟩; refine ⟨_, rfl, ?_⟩; have n0_ := Aside0.mk (hb); have n1_ := Aside0.mk (hi); clear HB; clear HI102; have HB := n0_; have HI102 := n1_; clear n0_ n1_; (try clear hb); (try clear hb2); (try clear hk); (try clear hi)) | (go_at_call 19; (with_reducible refine (cursor_Cursor_Step.calls gb102 t104 t105 t106 1 false t108 t109 t110 w _ ?side1 ?side2 A3.out).mono ?_); (case side1 => repeat (first | (with_reducible first | exact HI102.out | apply IsS36.alloc | apply IsS36.drewN | apply IsS36.drew | apply IsS36.set_0 | apply IsS36.set_1 | apply IsS36.set_2) | exact HI102.out)); (case side2 => repeat (first | (with_reducible first | exact HB.out | apply below_alloc | apply pw_below_drewN | apply below_drew1 | refine below_set ?_ (IsS36.ge HI102.out)) | exact HB.out)); rintro e w19 ⟨rfl, hi, hb, hk⟩; have n0_ := Aside0.mk (hb); have n1_ := Aside0.mk (hi); clear HB; clear HI102; have HB := n0_; have HI102 := n1_; clear n0_ n1_; (try clear hb); (try clear hb2); (try clear hk); (try clear hi)))
      go_ret
      exact ⟨by first | rfl | (simp [errW_none, errW_some] <;> rfl) | (simp [*, errW_none, errW_some] <;> rfl), by repeat (first | (with_reducible first | exact HB.out | apply below_alloc | apply pw_below_drewN | apply below_drew1 | refine below_set ?_ (IsS36.ge HI102.out)) | exact HB.out)⟩
  · replace c2 := Bool.eq_false_iff.mpr c2
    subst c2
    have H1 : (some false) = some r := by rw [if_neg (show ¬ (false = true) by decide)] at H; exact H
    clear H
    have H := H1
    clear H1
    obtain rfl := Option.some.inj H
    simp only [Option.some.injEq, Prod.mk.injEq] at H
    obtain ⟨rfl⟩ := H
    go_enter Try.func17, Try.ntmps17
    go_wp2_with (first | ((with_reducible refine gate_dst (N := 3) rfl ?_); refine box_event ?hg (N := 3) ?hd (cs := #[.int .i64 0, .int .i64 0, .int .i64 0]) (t := 36) ?hr ?_; (case hd => rfl); (case hg => rfl); (case hr => first | (go_simp; done) | (go_simp; rfl)); intro gb102 hg w20 hbox hb; have n0_ := Aside0.mk (below_step (by repeat (first | (with_reducible first | exact HB.out | apply below_alloc | apply pw_below_drewN | apply below_drew1) | exact HB.out)) hb); have n1_ := Aside0.mk ((show IsS36 w w20 gb102 0 0 0 from ⟨hbox, (by rw [hg]; exact (below_size (by repeat (first | (with_reducible first | exact HB.out | apply below_alloc | apply pw_below_drewN | apply below_drew1) | exact HB.out))) : w.heap.size ≤ gb102)⟩)); clear HB; have HB := n0_; have HI102 := n1_; clear n0_ n1_; clear hb hbox hg) | ((with_reducible refine gate_callee (f := 19) rfl ?_); refine goesL_ (some 5) rfl rfl Try.func19 (by kernel_rfl) rfl #[.pointer (some ⟨gb102, 0, none⟩), .int .i64 1] rfl (by (try simp only [List.map_toArray, List.map_cons, List.map_nil]); first | done | rfl | (simp only [List.length_drop, List.length_take]; rfl)) ?_; (with_reducible refine (cursor_Cursor_Step.calls gb102 0 0 0 1 false t104 t105 t106 w _ ?side1 ?side2 A1.out).mono ?_); (case side1 => repeat (first | (with_reducible first | exact HI102.out | apply IsS36.alloc | apply IsS36.drewN | apply IsS36.drew | apply IsS36.set_0 | apply IsS36.set_1 | apply IsS36.set_2) | exact HI102.out)); (case side2 => repeat (first | (with_reducible first | exact HB.out | apply below_alloc | apply pw_below_drewN | apply below_drew1 | refine below_set ?_ (IsS36.ge HI102.out)) | exact HB.out)); rintro e w21 ⟨rfl, hi, hb, hk⟩; refine ⟨_, rfl, ?_⟩; have n0_ := Aside0.mk (hb); have n1_ := Aside0.mk (hi); clear HB; clear HI102; have HB := n0_; have HI102 := n1_; clear n0_ n1_; (try clear hb); (try clear hb2); (try clear hk); (try clear hi)))
    go_ret
    exact ⟨by first | rfl | (simp [errW_none, errW_some] <;> rfl) | (simp [*, errW_none, errW_some] <;> rfl), by repeat (first | (with_reducible first | exact HB.out | apply below_alloc | apply pw_below_drewN | apply below_drew1 | refine below_set ?_ (IsS36.ge HI102.out)) | exact HB.out)⟩

/-! ### countermandref15_Read: function 18 -/
def countermandref15_Read.l0 : Nat → Int → Int → List Int → Int → Int → Option (Int)
  | 0, _, _, _, _, _ => none
  | k + 1, x1, x5, x8, x9, x10 => if x10 < x9 then (if 0 ≤ x10 then (if x10 < (x8.length : Int) then (if (rd x8 x10) = x1 then (if (rd x8 x10) ≥ 0 then (if (rd x8 x10) ≤ 2 then (if x5 < 64 then (countermandref15_Read.l0 k x1 (wrap64 (x5 + 1)) x8 x9 (wrap64 (x10 + 1))) else (countermandref15_Read.l0 k x1 x5 x8 x9 (wrap64 (x10 + 1)))) else (countermandref15_Read.l0 k x1 x5 x8 x9 (wrap64 (x10 + 1)))) else (countermandref15_Read.l0 k x1 x5 x8 x9 (wrap64 (x10 + 1)))) else (countermandref15_Read.l0 k x1 x5 x8 x9 (wrap64 (x10 + 1)))) else (none)) else (none)) else (some x5)
def countermandref15_Read.f (k : Nat) (l0 : List Int) (a1 : Int) : Option (Int) := countermandref15_Read.l0 k a1 0 l0 (l0.length : Int) 0
theorem countermandref15_Read.mono_l : ∀ k, (∀ y0 y1 y2 y3 y4, LeO (countermandref15_Read.l0 k y0 y1 y2 y3 y4) (countermandref15_Read.l0 (k + 1) y0 y1 y2 y3 y4))
  | 0 => fun _ _ _ _ _ r h => by simp [countermandref15_Read.l0] at h
  | k + 1 => by
    have ih0 := countermandref15_Read.mono_l k
    · intro y0 y1 y2 y3 y4
      unfold countermandref15_Read.l0
      repeat' first
      | (with_reducible exact ih0 _ _ _ _ _)
      | (with_reducible exact LeO.refl _)
      | (with_reducible exact LeO.none _)
      | (with_reducible refine LeO.ite ?_ ?_)
      | (with_reducible refine LeO.bind ?_ (fun _ => ?_))
      | exact ih0 _ _ _ _ _
      | exact LeO.none _
      | refine LeO.ite ?_ ?_
      | refine LeO.bind ?_ (fun _ => ?_)
theorem countermandref15_Read.mono : ∀ a0 a1 k, LeO (countermandref15_Read.f k a0 a1) (countermandref15_Read.f (k + 1) a0 a1) := by
  intro a0 a1 k
  have ih0 := countermandref15_Read.mono_l k
  unfold countermandref15_Read.f
  repeat' first
      | (with_reducible exact ih0 _ _ _ _ _)
      | (with_reducible exact LeO.refl _)
      | (with_reducible exact LeO.none _)
      | (with_reducible refine LeO.ite ?_ ?_)
      | (with_reducible refine LeO.bind ?_ (fun _ => ?_))
      | exact ih0 _ _ _ _ _
      | exact LeO.none _
      | refine LeO.ite ?_ ?_
      | refine LeO.bind ?_ (fun _ => ?_)
set_option maxHeartbeats 8000000 in
set_option maxRecDepth 100000 in
theorem countermandref15_Read.calls (k : Nat) (A0 : Option Addr) (c0 : Nat) (l0 : List Int) (a1 : Int) (r : Int) (w : World) (hr0 : Kd.C (Kd.int .i64) w A0 l0.length l0) (hc0 : l0.length ≤ c0) (h : countermandref15_Read.f k l0 a1 = some r) :
    Calls Try.prog 18 #[.slice A0 l0.length c0, .int .i64 a1] w fun e w' => e = .returned (.int .i64 r) ∧ Drawn0 w w' := by
  have HR0 := Aside0.mk hr0
  have HC0 := Aside0.mk hc0
  clear hr0 hc0
  have H : (countermandref15_Read.l0 k a1 0 l0 (l0.length : Int) 0) = some r := h
  clear h
  have H' := Aside0.mk H
  clear H
  go_enter Try.func18, Try.ntmps18
  go_wp2
  go_loopg [5, 10] k (fun kq v5 v10 w' => ∃ (x5_1 : Int) (x10_1 : Int), v5 = .int .i64 x5_1 ∧ v10 = .int .i64 x10_1 ∧ Aside0 (countermandref15_Read.l0 kq a1 x5_1 l0 (l0.length : Int) x10_1 = some r) ∧ Aside0 (kq ≤ k) ∧ Drawn0 w w')
  case atStart => exact ⟨(0), (0), (by first | rfl | (simp; done) | (simp [*]; done)), (by first | rfl | (simp; done) | (simp [*]; done)), H', ⟨Nat.le_refl _⟩, by repeat (first | exact Drawn0.refl _ | apply Drawn0.step)⟩
  case round =>
    clear H'
    try clear c1
    try clear p2
    obtain ⟨x5_1, x10_1, rfl, rfl, HA, HK1, ⟨m1, rfl⟩⟩ := hrel
    cases gk with
    | zero => exact absurd HA.out (by simp [countermandref15_Read.l0])
    | succ k1 =>
      have H := HA.out
      clear HA
      simp only [countermandref15_Read.l0] at H
      by_cases c3 : x10_1 < (l0.length : Int)
      · rw [if_pos c3] at H
        have c3b0 : decide (x10_1 < (l0.length : Int)) = true := decide_eq_true c3
        clear c3
        by_cases c4 : 0 ≤ x10_1
        · rw [if_pos c4] at H
          have c4b0 : decide (0 ≤ x10_1) = true := decide_eq_true c4
          clear c4
          by_cases c5 : x10_1 < (l0.length : Int)
          · rw [if_pos c5] at H
            have c5b0 : decide (x10_1 < (l0.length : Int)) = true := decide_eq_true c5
            clear c5
            by_cases c6 : (rd l0 x10_1) = a1
            · rw [if_pos c6] at H
              have c6b0 : ((rd l0 x10_1) == a1) = true := beq_iff_eq.mpr c6
              have c6b1 : ((rd l0 x10_1) != a1) = false := bne_eq_false_iff_eq.mpr c6
              clear c6
              by_cases c7 : (rd l0 x10_1) ≥ 0
              · rw [if_pos c7] at H
                have c7b0 : decide (0 ≤ (rd l0 x10_1)) = true := decide_eq_true c7
                clear c7
                by_cases c8 : (rd l0 x10_1) ≤ 2
                · rw [if_pos c8] at H
                  have c8b0 : decide ((rd l0 x10_1) ≤ 2) = true := decide_eq_true c8
                  clear c8
                  by_cases c9 : x5_1 < 64
                  · rw [if_pos c9] at H
                    have c9b0 : decide (x5_1 < 64) = true := decide_eq_true c9
                    clear c9
                    have H' := Aside0.mk H
                    clear H
                    have p119 : 0 ≤ (x10_1 : Int) := of_decide_eq_true (by first | (with_reducible assumption) | assumption)
                    have q119 : x10_1 < (l0.length : Int) := of_decide_eq_true (by first | (with_reducible assumption) | assumption)
                    obtain ⟨ad119, e119, hx119_0⟩ := Kd.at_int HR0.out x10_1 p119 q119
                    cases e119
                    replace p119 := eq_true p119
                    replace q119 := eq_true q119
                    go_wp2
                    go_roundg k1
                    case measure => have := HK1.out; omega
                    case rel => exact ⟨(wrap64 (x5_1 + 1)), (wrap64 (x10_1 + 1)), (by first | rfl | (simp; done) | (simp [*]; done)), (by first | rfl | (simp; done) | (simp [*]; done)), H', ⟨by have := HK1.out; omega⟩, by repeat (first | exact Drawn0.refl _ | apply Drawn0.step)⟩
                  · rw [if_neg c9] at H
                    have c9b0 : decide (x5_1 < 64) = false := decide_eq_false c9
                    clear c9
                    have H' := Aside0.mk H
                    clear H
                    have p119 : 0 ≤ (x10_1 : Int) := of_decide_eq_true (by first | (with_reducible assumption) | assumption)
                    have q119 : x10_1 < (l0.length : Int) := of_decide_eq_true (by first | (with_reducible assumption) | assumption)
                    obtain ⟨ad119, e119, hx119_0⟩ := Kd.at_int HR0.out x10_1 p119 q119
                    cases e119
                    replace p119 := eq_true p119
                    replace q119 := eq_true q119
                    go_wp2
                    go_roundg k1
                    case measure => have := HK1.out; omega
                    case rel => exact ⟨(x5_1), (wrap64 (x10_1 + 1)), (by first | rfl | (simp; done) | (simp [*]; done)), (by first | rfl | (simp; done) | (simp [*]; done)), H', ⟨by have := HK1.out; omega⟩, by repeat (first | exact Drawn0.refl _ | apply Drawn0.step)⟩
                · rw [if_neg c8] at H
                  have c8b0 : decide ((rd l0 x10_1) ≤ 2) = false := decide_eq_false c8
                  clear c8
                  have H' := Aside0.mk H
                  clear H
                  have p119 : 0 ≤ (x10_1 : Int) := of_decide_eq_true (by first | (with_reducible assumption) | assumption)
                  have q119 : x10_1 < (l0.length : Int) := of_decide_eq_true (by first | (with_reducible assumption) | assumption)
                  obtain ⟨ad119, e119, hx119_0⟩ := Kd.at_int HR0.out x10_1 p119 q119
                  cases e119
                  replace p119 := eq_true p119
                  replace q119 := eq_true q119
                  go_wp2
                  go_roundg k1
                  case measure => have := HK1.out; omega
                  case rel => exact ⟨(x5_1), (wrap64 (x10_1 + 1)), (by first | rfl | (simp; done) | (simp [*]; done)), (by first | rfl | (simp; done) | (simp [*]; done)), H', ⟨by have := HK1.out; omega⟩, by repeat (first | exact Drawn0.refl _ | apply Drawn0.step)⟩
              · rw [if_neg c7] at H
                have c7b0 : decide (0 ≤ (rd l0 x10_1)) = false := decide_eq_false c7
                clear c7
                have H' := Aside0.mk H
                clear H
                have p119 : 0 ≤ (x10_1 : Int) := of_decide_eq_true (by first | (with_reducible assumption) | assumption)
                have q119 : x10_1 < (l0.length : Int) := of_decide_eq_true (by first | (with_reducible assumption) | assumption)
                obtain ⟨ad119, e119, hx119_0⟩ := Kd.at_int HR0.out x10_1 p119 q119
                cases e119
                replace p119 := eq_true p119
                replace q119 := eq_true q119
                go_wp2
                go_roundg k1
                case measure => have := HK1.out; omega
                case rel => exact ⟨(x5_1), (wrap64 (x10_1 + 1)), (by first | rfl | (simp; done) | (simp [*]; done)), (by first | rfl | (simp; done) | (simp [*]; done)), H', ⟨by have := HK1.out; omega⟩, by repeat (first | exact Drawn0.refl _ | apply Drawn0.step)⟩
            · rw [if_neg c6] at H
              have c6b0 : ((rd l0 x10_1) == a1) = false := beq_eq_false_iff_ne.mpr c6
              have c6b1 : ((rd l0 x10_1) != a1) = true := bne_iff_ne.mpr c6
              have H' := Aside0.mk H
              clear H
              have p119 : 0 ≤ (x10_1 : Int) := of_decide_eq_true (by first | (with_reducible assumption) | assumption)
              have q119 : x10_1 < (l0.length : Int) := of_decide_eq_true (by first | (with_reducible assumption) | assumption)
              obtain ⟨ad119, e119, hx119_0⟩ := Kd.at_int HR0.out x10_1 p119 q119
              cases e119
              replace p119 := eq_true p119
              replace q119 := eq_true q119
              go_wp2
              go_roundg k1
              case measure => have := HK1.out; omega
              case rel => exact ⟨(x5_1), (wrap64 (x10_1 + 1)), (by first | rfl | (simp; done) | (simp [*]; done)), (by first | rfl | (simp; done) | (simp [*]; done)), H', ⟨by have := HK1.out; omega⟩, by repeat (first | exact Drawn0.refl _ | apply Drawn0.step)⟩
          · rw [if_neg c5] at H
            exact absurd H (by simp)
        · rw [if_neg c4] at H
          exact absurd H (by simp)
      · rw [if_neg c3] at H
        have c3b0 : decide (x10_1 < (l0.length : Int)) = false := decide_eq_false c3
        clear c3
        obtain rfl := Option.some.inj H
        simp only [Option.some.injEq, Prod.mk.injEq] at H
        obtain ⟨rfl⟩ := H
        go_wp2
        go_ret
        exact ⟨by first | rfl | (simp; done) | (simp [*]; done), by repeat (first | exact Drawn0.refl _ | apply Drawn0.step)⟩

/-! ### cursor_Cursor_Read: function 20 -/
def cursor_Cursor_Read.f (s0_0 : Int) (s0_1 : Int) (s0_2 : Int) (a1 : Int) : Option (Int × Int × Int × Int) := (cursor_is.f a1).bind fun t120 => (if t120 = true then (if a1 = 0 then (some (s0_0, s0_0, s0_1, s0_2)) else (if a1 = 1 then (some (s0_1, s0_0, s0_1, s0_2)) else (if a1 = 2 then (some (s0_2, s0_0, s0_1, s0_2)) else (none)))) else (some (0, s0_0, s0_1, s0_2)))
set_option maxHeartbeats 8000000 in
set_option maxRecDepth 100000 in
theorem cursor_Cursor_Read.calls (g : Nat) (s0_0 : Int) (s0_1 : Int) (s0_2 : Int) (a1 : Int) (r1 : Int) (r2 : Int) (r3 : Int) (r4 : Int) (w0 w : World) (hI : IsS36 w0 w g s0_0 s0_1 s0_2) (hB : Below w0.heap.size w0 w) (h : cursor_Cursor_Read.f s0_0 s0_1 s0_2 a1 = some (r1, r2, r3, r4)) :
    Calls Try.prog 20 #[.pointer (some ⟨g, 0, none⟩), .int .i64 a1] w fun e w' => e = .returned (.int .i64 r1) ∧ IsS36 w0 w' g r2 r3 r4 ∧ Below w0.heap.size w0 w' ∧ KeepBut w w' g none := by
  have hu34 := Try.underlying34
  have HI0 := Aside0.mk hI
  have HK := Aside0.mk (KeepBut.refl w g none)
  have HL := Aside0.mk hB.size
  clear hI
  have HW0 := Aside0.mk hB.size
  have HB := Aside0.mk hB
  clear hB
  have H : ((cursor_is.f a1).bind fun t120 => (if t120 = true then (if a1 = 0 then (some (s0_0, s0_0, s0_1, s0_2)) else (if a1 = 1 then (some (s0_1, s0_0, s0_1, s0_2)) else (if a1 = 2 then (some (s0_2, s0_0, s0_1, s0_2)) else (none)))) else (some (0, s0_0, s0_1, s0_2)))) = some (r1, r2, r3, r4) := h
  clear h
  replace H := Option.bind_eq_some_iff.mp H
  obtain ⟨t120, A30, H⟩ := H
  replace H : (if t120 = true then (if a1 = 0 then (some (s0_0, s0_0, s0_1, s0_2)) else (if a1 = 1 then (some (s0_1, s0_0, s0_1, s0_2)) else (if a1 = 2 then (some (s0_2, s0_0, s0_1, s0_2)) else (none)))) else (some (0, s0_0, s0_1, s0_2))) = some (r1, r2, r3, r4) := H
  have A3 := Aside0.mk A30
  clear A30
  by_cases c4 : t120 = true
  · subst c4
    have H1 : (if a1 = 0 then (some (s0_0, s0_0, s0_1, s0_2)) else (if a1 = 1 then (some (s0_1, s0_0, s0_1, s0_2)) else (if a1 = 2 then (some (s0_2, s0_0, s0_1, s0_2)) else (none)))) = some (r1, r2, r3, r4) := by rw [if_pos rfl] at H; exact H
    clear H
    have H := H1
    clear H1
    by_cases c5 : a1 = 0
    · subst c5
      have H1 : (some (s0_0, s0_0, s0_1, s0_2)) = some (r1, r2, r3, r4) := by rw [if_pos rfl] at H; exact H
      clear H
      have H := H1
      clear H1
      simp only [Option.some.injEq, Prod.mk.injEq] at H
      obtain ⟨rfl, rfl, rfl, rfl⟩ := H
      go_enter Try.func20, Try.ntmps20
      go_wp2_with (first | (go_at_call 45; (with_reducible refine (cursor_is.calls 0 true _ A3.out).mono ?_); rintro e w' ⟨rfl, ⟨nd, rfl⟩⟩; obtain ⟨HGz6, hgz6⟩ := HI0.out; have hcz6_0 := cellS36_0 HGz6; have hcz6_1 := cellS36_1 HGz6; have hcz6_2 := cellS36_2 HGz6; have hfz6_0 := blk_frozen HGz6 0; have hfz6_1 := blk_frozen HGz6 1; have hfz6_2 := blk_frozen HGz6 2; clear HGz6 hgz6))
      go_ret
      exact ⟨by first | rfl | (simp [errW_none, errW_some] <;> rfl) | (simp [*, errW_none, errW_some] <;> rfl), by repeat (first | (with_reducible first | exact HI0.out | apply IsS36.alloc | apply IsS36.drewN | apply IsS36.drew | apply IsS36.set_0 | apply IsS36.set_1 | apply IsS36.set_2) | exact HI0.out), by repeat (first | (with_reducible first | exact HB.out | apply below_alloc | apply pw_below_drewN | apply below_drew1 | refine below_set ?_ (IsS36.ge HI0.out)) | exact HB.out), by repeat (first | (with_reducible first | exact HK.out | apply KeepBut.set_ | apply keep_drewN | apply keep_drew | apply keep_alloc) | exact HK.out)⟩
    · rw [if_neg c5] at H
      clear c5
      by_cases c7 : a1 = 1
      · subst c7
        have H1 : (some (s0_1, s0_0, s0_1, s0_2)) = some (r1, r2, r3, r4) := by rw [if_pos rfl] at H; exact H
        clear H
        have H := H1
        clear H1
        simp only [Option.some.injEq, Prod.mk.injEq] at H
        obtain ⟨rfl, rfl, rfl, rfl⟩ := H
        go_enter Try.func20, Try.ntmps20
        go_wp2_with (first | (go_at_call 45; (with_reducible refine (cursor_is.calls 1 true _ A3.out).mono ?_); rintro e w' ⟨rfl, ⟨nd, rfl⟩⟩; obtain ⟨HGz8, hgz8⟩ := HI0.out; have hcz8_0 := cellS36_0 HGz8; have hcz8_1 := cellS36_1 HGz8; have hcz8_2 := cellS36_2 HGz8; have hfz8_0 := blk_frozen HGz8 0; have hfz8_1 := blk_frozen HGz8 1; have hfz8_2 := blk_frozen HGz8 2; clear HGz8 hgz8))
        go_ret
        exact ⟨by first | rfl | (simp [errW_none, errW_some] <;> rfl) | (simp [*, errW_none, errW_some] <;> rfl), by repeat (first | (with_reducible first | exact HI0.out | apply IsS36.alloc | apply IsS36.drewN | apply IsS36.drew | apply IsS36.set_0 | apply IsS36.set_1 | apply IsS36.set_2) | exact HI0.out), by repeat (first | (with_reducible first | exact HB.out | apply below_alloc | apply pw_below_drewN | apply below_drew1 | refine below_set ?_ (IsS36.ge HI0.out)) | exact HB.out), by repeat (first | (with_reducible first | exact HK.out | apply KeepBut.set_ | apply keep_drewN | apply keep_drew | apply keep_alloc) | exact HK.out)⟩
      · rw [if_neg c7] at H
        clear c7
        by_cases c9 : a1 = 2
        · subst c9
          have H1 : (some (s0_2, s0_0, s0_1, s0_2)) = some (r1, r2, r3, r4) := by rw [if_pos rfl] at H; exact H
          clear H
          have H := H1
          clear H1
          simp only [Option.some.injEq, Prod.mk.injEq] at H
          obtain ⟨rfl, rfl, rfl, rfl⟩ := H
          go_enter Try.func20, Try.ntmps20
          go_wp2_with (first | (go_at_call 45; (with_reducible refine (cursor_is.calls 2 true _ A3.out).mono ?_); rintro e w' ⟨rfl, ⟨nd, rfl⟩⟩; obtain ⟨HGz10, hgz10⟩ := HI0.out; have hcz10_0 := cellS36_0 HGz10; have hcz10_1 := cellS36_1 HGz10; have hcz10_2 := cellS36_2 HGz10; have hfz10_0 := blk_frozen HGz10 0; have hfz10_1 := blk_frozen HGz10 1; have hfz10_2 := blk_frozen HGz10 2; clear HGz10 hgz10))
          go_ret
          exact ⟨by first | rfl | (simp [errW_none, errW_some] <;> rfl) | (simp [*, errW_none, errW_some] <;> rfl), by repeat (first | (with_reducible first | exact HI0.out | apply IsS36.alloc | apply IsS36.drewN | apply IsS36.drew | apply IsS36.set_0 | apply IsS36.set_1 | apply IsS36.set_2) | exact HI0.out), by repeat (first | (with_reducible first | exact HB.out | apply below_alloc | apply pw_below_drewN | apply below_drew1 | refine below_set ?_ (IsS36.ge HI0.out)) | exact HB.out), by repeat (first | (with_reducible first | exact HK.out | apply KeepBut.set_ | apply keep_drewN | apply keep_drew | apply keep_alloc) | exact HK.out)⟩
        · rw [if_neg c9] at H
          exact absurd H (by simp)
  · replace c4 := Bool.eq_false_iff.mpr c4
    subst c4
    have H1 : (some (0, s0_0, s0_1, s0_2)) = some (r1, r2, r3, r4) := by rw [if_neg (show ¬ (false = true) by decide)] at H; exact H
    clear H
    have H := H1
    clear H1
    simp only [Option.some.injEq, Prod.mk.injEq] at H
    obtain ⟨rfl, rfl, rfl, rfl⟩ := H
    go_enter Try.func20, Try.ntmps20
    go_wp2_with (first | (go_at_call 45; (with_reducible refine (cursor_is.calls a1 false _ A3.out).mono ?_); rintro e w' ⟨rfl, ⟨nd, rfl⟩⟩))
    go_ret
    exact ⟨by first | rfl | (simp [errW_none, errW_some] <;> rfl) | (simp [*, errW_none, errW_some] <;> rfl), by repeat (first | (with_reducible first | exact HI0.out | apply IsS36.alloc | apply IsS36.drewN | apply IsS36.drew | apply IsS36.set_0 | apply IsS36.set_1 | apply IsS36.set_2) | exact HI0.out), by repeat (first | (with_reducible first | exact HB.out | apply below_alloc | apply pw_below_drewN | apply below_drew1 | refine below_set ?_ (IsS36.ge HI0.out)) | exact HB.out), by repeat (first | (with_reducible first | exact HK.out | apply KeepBut.set_ | apply keep_drewN | apply keep_drew | apply keep_alloc) | exact HK.out)⟩

/-! ### cursor_Cursor_Copy: function 21 -/
--COPY
--NIL 19 cursor_Cursor_Step_nil
--NIL 20 cursor_Cursor_Read_nil
--NIL 22 cursor_Cursor_At_nil
--NIL 23 cursor_Cursor_Any_nil
--NIL 21 cursor_Cursor_Copy_nil
def cursor_Cursor_Copy.f (s0_0 : Int) (s0_1 : Int) (s0_2 : Int) : Option (Int × Int × Int) := some (s0_0, s0_1, s0_2)
set_option maxHeartbeats 800000 in
set_option maxRecDepth 100000 in
/-- a copy is another one with the same -/
theorem cursor_Cursor_Copy.calls (g : Nat) (s0_0 : Int) (s0_1 : Int) (s0_2 : Int) (r1 : Int) (r2 : Int) (r3 : Int) (w0 w : World) (hI : IsS36 w0 w g s0_0 s0_1 s0_2) (hB : Below w0.heap.size w0 w) (h : cursor_Cursor_Copy.f s0_0 s0_1 s0_2 = some (r1, r2, r3)) :
    Calls Try.prog 21 #[.pointer (some ⟨g, 0, none⟩)] w fun e w' => ∃ g2 : Nat, e = .returned (.pointer (some ⟨g2, 0, none⟩)) ∧ IsS36 w0 w' g2 r1 r2 r3 ∧ Below w0.heap.size w0 w' ∧ Below w.heap.size w w' ∧ w.heap.size ≤ g2 := by
  injection h with h; injection h with e1 h; injection h with e2 e3; subst e1 e2 e3
  have hu34 := Try.underlying34
  have hu36 := Try.underlying36
  have hI0 := hI
  obtain ⟨HG, hg⟩ := hI
  have c0 := cellS36_0 HG
  have c1 := cellS36_1 HG
  have c2 := cellS36_2 HG
  clear HG
  go_enter Try.func21, Try.ntmps21
  go_wp2
  go_ret
  exact ⟨w.heap.size, rfl, ⟨heap_alloc_new _ _, hB.size⟩, hB.alloc hB.size _, below_alloc (Below.refl _ _) _, Nat.le_refl _⟩
def cursor_Cursor_Step_nil.f (a1 : Int) : Option (Bool) := some false
set_option maxHeartbeats 800000 in
set_option maxRecDepth 100000 in
theorem cursor_Cursor_Step_nil.calls (a1 : Int) (r : Bool) (w : World) (h : cursor_Cursor_Step_nil.f a1 = some r) : Calls Try.prog 19 #[.pointer none, .int .i64 a1] w fun e w' => e = .returned (.bool r) ∧ Below w.heap.size w w' := by
  injection h with h; subst h
  have HB := Below.refl w.heap.size w
  go_enter Try.func19, Try.ntmps19
  go_wp2
  go_ret
  exact ⟨rfl, by first | exact HB | exact pw_below_drewN HB _ | exact below_drew1 HB⟩
def cursor_Cursor_Read_nil.f (a1 : Int) : Option (Int) := some 0
set_option maxHeartbeats 800000 in
set_option maxRecDepth 100000 in
theorem cursor_Cursor_Read_nil.calls (a1 : Int) (r : Int) (w : World) (h : cursor_Cursor_Read_nil.f a1 = some r) : Calls Try.prog 20 #[.pointer none, .int .i64 a1] w fun e w' => e = .returned (.int .i64 r) ∧ Below w.heap.size w w' := by
  injection h with h; subst h
  have HB := Below.refl w.heap.size w
  go_enter Try.func20, Try.ntmps20
  go_wp2
  go_ret
  exact ⟨rfl, by first | exact HB | exact pw_below_drewN HB _ | exact below_drew1 HB⟩
def cursor_Cursor_At_nil.f (a1 : Int) (a2 : Int) : Option (Int) := some a2
set_option maxHeartbeats 800000 in
set_option maxRecDepth 100000 in
theorem cursor_Cursor_At_nil.calls (a1 : Int) (a2 : Int) (r : Int) (w : World) (h : cursor_Cursor_At_nil.f a1 a2 = some r) : Calls Try.prog 22 #[.pointer none, .int .i64 a1, .int .i64 a2] w fun e w' => e = .returned (.int .i64 r) ∧ Below w.heap.size w w' := by
  injection h with h; subst h
  have HB := Below.refl w.heap.size w
  go_enter Try.func22, Try.ntmps22
  go_wp2
  go_ret
  exact ⟨rfl, by first | exact HB | exact pw_below_drewN HB _ | exact below_drew1 HB⟩
def cursor_Cursor_Any_nil.f : Option (Bool) := some false
set_option maxHeartbeats 800000 in
set_option maxRecDepth 100000 in
theorem cursor_Cursor_Any_nil.calls (r : Bool) (w : World) (h : cursor_Cursor_Any_nil.f  = some r) : Calls Try.prog 23 #[.pointer none] w fun e w' => e = .returned (.bool r) ∧ Below w.heap.size w w' := by
  injection h with h; subst h
  have HB := Below.refl w.heap.size w
  go_enter Try.func23, Try.ntmps23
  go_wp2
  go_ret
  exact ⟨rfl, by first | exact HB | exact pw_below_drewN HB _ | exact below_drew1 HB⟩
def cursor_Cursor_Copy_nil.f : Option Unit := some ()
set_option maxHeartbeats 800000 in
set_option maxRecDepth 100000 in
theorem cursor_Cursor_Copy_nil.calls (w : World) (h : cursor_Cursor_Copy_nil.f = some ()) : Calls Try.prog 21 #[.pointer none] w fun e w' => e = .returned (.pointer none) ∧ Below w.heap.size w w' := by
  have HB := Below.refl w.heap.size w
  go_enter Try.func21, Try.ntmps21
  go_wp2
  go_ret
  exact ⟨rfl, by first | exact HB | exact pw_below_drewN HB _ | exact below_drew1 HB⟩

end Go.Proofs.Ytfimbmdbaaiemaa.PCursorSteps
