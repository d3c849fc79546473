/- Written by a program of this session, which began as the kit's print and is turned in wip/printer: the plain form of each function, and that the Go code comes to it. -/
import Derived.Test.YtodffnchcbapcaaPWireDoesx0
import Derived.BigRegion
namespace Go.Proofs.Ytodffnchcbapcaa.PWireDoes
open Go.RowKit Go.Proofs.YtodffnchcbapcaaW.PrintWords Go.Proofs.YtodffnchcbapcaaW.PrintLast Go.Proofs.YtodffnchcbapcaaW.PrintMore
attribute [local go_sem] max2_int min2_int max_two min_two max_three min_three max_four min_four   -- for this text's walks alone
set_option linter.unusedVariables false
set_option linter.unusedSimpArgs false

/-- A state of type 69 at block g of W; what its slices lead to came in by w0. -/
def IsS69 (w0 W : World) (g : Nat) (f0 : ByteArray) (f1 : ByteArray) (f2 : ByteArray) (f3 : ByteArray) (f4 : ByteArray) (f5 : ByteArray) (f6 : ByteArray) (f7 : ByteArray) (f8 : ByteArray) : Prop := W.heap[g]? = some (.cells #[.string f0, .string f1, .string f2, .string f3, .string f4, .string f5, .string f6, .string f7, .string f8] 69 (0, 0)) ∧ w0.heap.size ≤ g
theorem IsS69.grown {w0 W : World} {g : Nat} {f0 : ByteArray} {f1 : ByteArray} {f2 : ByteArray} {f3 : ByteArray} {f4 : ByteArray} {f5 : ByteArray} {f6 : ByteArray} {f7 : ByteArray} {f8 : ByteArray} {W1 : World} {row : Option Nat} (h : IsS69 w0 W g f0 f1 f2 f3 f4 f5 f6 f7 f8) (hw : W.grownBy W1 row) (hne : some g ≠ row) : IsS69 w0 W1 g f0 f1 f2 f3 f4 f5 f6 f7 f8 := by
  obtain ⟨hb, hg⟩ := h
  exact ⟨blk_grown hb hw hne, hg⟩
theorem IsS69.own_neN {w0 W : World} {g : Nat} {f0 : ByteArray} {f1 : ByteArray} {f2 : ByteArray} {f3 : ByteArray} {f4 : ByteArray} {f5 : ByteArray} {f6 : ByteArray} {f7 : ByteArray} {f8 : ByteArray} {α : Type} {d : Kd α} {e : Nat} {base : Nat} {ok : Nat → Prop} {v : Value} {xs : List α} (h : IsS69 w0 W g f0 f1 f2 f3 f4 f5 f6 f7 f8) (ho : Kd.N d e W base ok v xs) (ht : e ≠ 69) : some g ≠ v.ownBlock := by
  obtain ⟨hb, hg⟩ := h
  exact Kd.N_ne ho hb ht
theorem IsS69.fresh {w0 W : World} {g : Nat} {f0 : ByteArray} {f1 : ByteArray} {f2 : ByteArray} {f3 : ByteArray} {f4 : ByteArray} {f5 : ByteArray} {f6 : ByteArray} {f7 : ByteArray} {f8 : ByteArray} (h : IsS69 w0 W g f0 f1 f2 f3 f4 f5 f6 f7 f8) : ∀ k, W.heap.size ≤ k → k ≠ g := by
  obtain ⟨hb, hg⟩ := h
  exact Kd.freshB hb
theorem IsS69.kept {w0 W : World} {g : Nat} {f0 : ByteArray} {f1 : ByteArray} {f2 : ByteArray} {f3 : ByteArray} {f4 : ByteArray} {f5 : ByteArray} {f6 : ByteArray} {f7 : ByteArray} {f8 : ByteArray} {W1 : World} {S : Nat → Prop} (h : IsS69 w0 W g f0 f1 f2 f3 f4 f5 f6 f7 f8) (hk : Kept W W1 S) (hne : ¬ S g) : IsS69 w0 W1 g f0 f1 f2 f3 f4 f5 f6 f7 f8 := by
  obtain ⟨hb, hg⟩ := h
  exact ⟨blk_kept hb hk hne, hg⟩
theorem IsS69.below {w0 W : World} {g : Nat} {f0 : ByteArray} {f1 : ByteArray} {f2 : ByteArray} {f3 : ByteArray} {f4 : ByteArray} {f5 : ByteArray} {f6 : ByteArray} {f7 : ByteArray} {f8 : ByteArray} {W1 : World} (h : IsS69 w0 W g f0 f1 f2 f3 f4 f5 f6 f7 f8) (hw : Below W.heap.size W W1) : IsS69 w0 W1 g f0 f1 f2 f3 f4 f5 f6 f7 f8 := h.grown (grown_of_below hw none) (by simp)
theorem IsS69.alloc {w0 W : World} {g : Nat} {f0 : ByteArray} {f1 : ByteArray} {f2 : ByteArray} {f3 : ByteArray} {f4 : ByteArray} {f5 : ByteArray} {f6 : ByteArray} {f7 : ByteArray} {f8 : ByteArray} (h : IsS69 w0 W g f0 f1 f2 f3 f4 f5 f6 f7 f8) (o : Obj) : IsS69 w0 (W.alloc o) g f0 f1 f2 f3 f4 f5 f6 f7 f8 := h.below (below_alloc (Below.refl _ _) o)
theorem IsS69.drewN {w0 W : World} {g : Nat} {f0 : ByteArray} {f1 : ByteArray} {f2 : ByteArray} {f3 : ByteArray} {f4 : ByteArray} {f5 : ByteArray} {f6 : ByteArray} {f7 : ByteArray} {f8 : ByteArray} (h : IsS69 w0 W g f0 f1 f2 f3 f4 f5 f6 f7 f8) (m : Nat) : IsS69 w0 (W.drewN m) g f0 f1 f2 f3 f4 f5 f6 f7 f8 := h
theorem IsS69.drew {w0 W : World} {g : Nat} {f0 : ByteArray} {f1 : ByteArray} {f2 : ByteArray} {f3 : ByteArray} {f4 : ByteArray} {f5 : ByteArray} {f6 : ByteArray} {f7 : ByteArray} {f8 : ByteArray} (h : IsS69 w0 W g f0 f1 f2 f3 f4 f5 f6 f7 f8) : IsS69 w0 W.drew g f0 f1 f2 f3 f4 f5 f6 f7 f8 := h
theorem IsS69.at_ {w0 W : World} {g : Nat} {f0 : ByteArray} {f1 : ByteArray} {f2 : ByteArray} {f3 : ByteArray} {f4 : ByteArray} {f5 : ByteArray} {f6 : ByteArray} {f7 : ByteArray} {f8 : ByteArray} {w' : World} {m : Nat} (hq : W.drewN m = w') (h : IsS69 w0 W g f0 f1 f2 f3 f4 f5 f6 f7 f8) : IsS69 w0 w' g f0 f1 f2 f3 f4 f5 f6 f7 f8 := by subst hq; exact IsS69.drewN h m
theorem IsS69.apart {w0 W : World} {g : Nat} {f0 : ByteArray} {f1 : ByteArray} {f2 : ByteArray} {f3 : ByteArray} {f4 : ByteArray} {f5 : ByteArray} {f6 : ByteArray} {f7 : ByteArray} {f8 : ByteArray} {α : Type} {d : Kd α} {e : Nat} {base : Nat} {ok : Nat → Prop} {v : Value} {xs : List α} (h : IsS69 w0 W g f0 f1 f2 f3 f4 f5 f6 f7 f8) (ho : d.R e W base ok v xs) (ht : ∀ q, q ∈ e :: d.E → q ≠ 69) : d.R e W base (fun k => ok k ∧ k ≠ g) v xs := by
  obtain ⟨hb, hg⟩ := h
  exact Kd.R_types ho hb ht
theorem IsS69.own_ne {w0 W : World} {g : Nat} {f0 : ByteArray} {f1 : ByteArray} {f2 : ByteArray} {f3 : ByteArray} {f4 : ByteArray} {f5 : ByteArray} {f6 : ByteArray} {f7 : ByteArray} {f8 : ByteArray} {α : Type} {d : Kd α} {e : Nat} {base : Nat} {ok : Nat → Prop} {v : Value} {xs : List α} (h : IsS69 w0 W g f0 f1 f2 f3 f4 f5 f6 f7 f8) (ho : d.R e W base ok v xs) (ht : e ≠ 69) : some g ≠ v.ownBlock := by
  obtain ⟨hb, hg⟩ := h
  exact Kd.R_ne ho hb ht
theorem IsS69.apartQ {w0 W : World} {g : Nat} {f0 : ByteArray} {f1 : ByteArray} {f2 : ByteArray} {f3 : ByteArray} {f4 : ByteArray} {f5 : ByteArray} {f6 : ByteArray} {f7 : ByteArray} {f8 : ByteArray} {α : Type} {d : Kd α} {e : Nat} {base : Nat} {ok : Nat → Prop} {v : Value} {xs : List α} (h : IsS69 w0 W g f0 f1 f2 f3 f4 f5 f6 f7 f8) (ho : d.Q e W base ok v xs) (ht : ∀ q, q ∈ e :: d.E → q ≠ 69) : d.Q e W base (fun k => ok k ∧ k ≠ g) v xs := by
  obtain ⟨hb, hg⟩ := h
  exact Kd.Q_types ho hb ht
theorem IsS69.own_neQ {w0 W : World} {g : Nat} {f0 : ByteArray} {f1 : ByteArray} {f2 : ByteArray} {f3 : ByteArray} {f4 : ByteArray} {f5 : ByteArray} {f6 : ByteArray} {f7 : ByteArray} {f8 : ByteArray} {α : Type} {d : Kd α} {e : Nat} {base : Nat} {ok : Nat → Prop} {v : Value} {xs : List α} (h : IsS69 w0 W g f0 f1 f2 f3 f4 f5 f6 f7 f8) (ho : d.Q e W base ok v xs) (ht : e ≠ 69) : some g ≠ v.ownBlock := by
  obtain ⟨hb, hg⟩ := h
  exact Kd.Q_ne ho hb ht
theorem IsS69.apartS {w0 W : World} {g : Nat} {f0 : ByteArray} {f1 : ByteArray} {f2 : ByteArray} {f3 : ByteArray} {f4 : ByteArray} {f5 : ByteArray} {f6 : ByteArray} {f7 : ByteArray} {f8 : ByteArray} {α : Type} {d : Kd α} {e : Nat} {base : Nat} {ok : Nat → Prop} {v : Value} {xs : List α} (h : IsS69 w0 W g f0 f1 f2 f3 f4 f5 f6 f7 f8) (ho : d.S e W base ok v xs) (ht : ∀ q, q ∈ e :: d.E → q ≠ 69) : d.S e W base (fun k => ok k ∧ k ≠ g) v xs := by
  obtain ⟨hb, hg⟩ := h
  exact Kd.S_types ho hb ht
theorem IsS69.own_neS {w0 W : World} {g : Nat} {f0 : ByteArray} {f1 : ByteArray} {f2 : ByteArray} {f3 : ByteArray} {f4 : ByteArray} {f5 : ByteArray} {f6 : ByteArray} {f7 : ByteArray} {f8 : ByteArray} {α : Type} {d : Kd α} {e : Nat} {base : Nat} {ok : Nat → Prop} {v : Value} {xs : List α} (h : IsS69 w0 W g f0 f1 f2 f3 f4 f5 f6 f7 f8) (ho : d.S e W base ok v xs) (ht : e ≠ 69) : some g ≠ v.ownBlock := by
  obtain ⟨hb, hg⟩ := h
  exact Kd.S_ne ho hb ht
theorem IsS69.lt {w0 W : World} {g : Nat} {f0 : ByteArray} {f1 : ByteArray} {f2 : ByteArray} {f3 : ByteArray} {f4 : ByteArray} {f5 : ByteArray} {f6 : ByteArray} {f7 : ByteArray} {f8 : ByteArray} (h : IsS69 w0 W g f0 f1 f2 f3 f4 f5 f6 f7 f8) : g < W.heap.size := by
  obtain ⟨hb, hg⟩ := h
  exact blk_lt hb
theorem IsS69.ge {w0 W : World} {g : Nat} {f0 : ByteArray} {f1 : ByteArray} {f2 : ByteArray} {f3 : ByteArray} {f4 : ByteArray} {f5 : ByteArray} {f6 : ByteArray} {f7 : ByteArray} {f8 : ByteArray} (h : IsS69 w0 W g f0 f1 f2 f3 f4 f5 f6 f7 f8) : w0.heap.size ≤ g := by
  obtain ⟨hb, hg⟩ := h
  exact hg
theorem IsS69.ne_blk {w0 W : World} {g : Nat} {f0 : ByteArray} {f1 : ByteArray} {f2 : ByteArray} {f3 : ByteArray} {f4 : ByteArray} {f5 : ByteArray} {f6 : ByteArray} {f7 : ByteArray} {f8 : ByteArray} {a : Nat} {cs : Array Value} {t : TypeId} {fr : Nat × Nat} (h : IsS69 w0 W g f0 f1 f2 f3 f4 f5 f6 f7 f8) (hb2 : W.heap[a]? = some (.cells cs t fr)) (ht : t ≠ 69) : g ≠ a := by
  obtain ⟨hb, hg⟩ := h
  rintro rfl
  rw [hb] at hb2
  injection hb2 with hb2
  injection hb2 with _ ht2
  exact ht ht2.symm
theorem IsS69.far {w0 W : World} {g : Nat} {f0 : ByteArray} {f1 : ByteArray} {f2 : ByteArray} {f3 : ByteArray} {f4 : ByteArray} {f5 : ByteArray} {f6 : ByteArray} {f7 : ByteArray} {f8 : ByteArray} {p : Addr} (h : IsS69 w0 W g f0 f1 f2 f3 f4 f5 f6 f7 f8) (hne : g ≠ p.block) (u : Value) : IsS69 w0 (W.setCell p u) g f0 f1 f2 f3 f4 f5 f6 f7 f8 := by
  obtain ⟨hb, hg⟩ := h
  exact ⟨blk_far hb hne u, hg⟩
theorem cellS69_0 {W : World} {g : Nat} {f0 : ByteArray} {f1 : ByteArray} {f2 : ByteArray} {f3 : ByteArray} {f4 : ByteArray} {f5 : ByteArray} {f6 : ByteArray} {f7 : ByteArray} {f8 : ByteArray} (h : W.heap[g]? = some (.cells #[.string f0, .string f1, .string f2, .string f3, .string f4, .string f5, .string f6, .string f7, .string f8] 69 (0, 0))) : W.cell? ⟨g, 0, none⟩ = some (.string f0) := (blk_cell h 0).trans rfl
theorem IsS69.set_0 {w0 W : World} {g : Nat} {f0 : ByteArray} {f1 : ByteArray} {f2 : ByteArray} {f3 : ByteArray} {f4 : ByteArray} {f5 : ByteArray} {f6 : ByteArray} {f7 : ByteArray} {f8 : ByteArray} (h : IsS69 w0 W g f0 f1 f2 f3 f4 f5 f6 f7 f8) (x : ByteArray) : IsS69 w0 (W.setCell ⟨g, 0, none⟩ (.string x)) g x f1 f2 f3 f4 f5 f6 f7 f8 := by
  obtain ⟨hb, hg⟩ := h
  exact ⟨by simpa using blk_set hb 0 (.string x), hg⟩
theorem cellS69_1 {W : World} {g : Nat} {f0 : ByteArray} {f1 : ByteArray} {f2 : ByteArray} {f3 : ByteArray} {f4 : ByteArray} {f5 : ByteArray} {f6 : ByteArray} {f7 : ByteArray} {f8 : ByteArray} (h : W.heap[g]? = some (.cells #[.string f0, .string f1, .string f2, .string f3, .string f4, .string f5, .string f6, .string f7, .string f8] 69 (0, 0))) : W.cell? ⟨g, 1, none⟩ = some (.string f1) := (blk_cell h 1).trans rfl
theorem IsS69.set_1 {w0 W : World} {g : Nat} {f0 : ByteArray} {f1 : ByteArray} {f2 : ByteArray} {f3 : ByteArray} {f4 : ByteArray} {f5 : ByteArray} {f6 : ByteArray} {f7 : ByteArray} {f8 : ByteArray} (h : IsS69 w0 W g f0 f1 f2 f3 f4 f5 f6 f7 f8) (x : ByteArray) : IsS69 w0 (W.setCell ⟨g, 1, none⟩ (.string x)) g f0 x f2 f3 f4 f5 f6 f7 f8 := by
  obtain ⟨hb, hg⟩ := h
  exact ⟨by simpa using blk_set hb 1 (.string x), hg⟩
theorem cellS69_2 {W : World} {g : Nat} {f0 : ByteArray} {f1 : ByteArray} {f2 : ByteArray} {f3 : ByteArray} {f4 : ByteArray} {f5 : ByteArray} {f6 : ByteArray} {f7 : ByteArray} {f8 : ByteArray} (h : W.heap[g]? = some (.cells #[.string f0, .string f1, .string f2, .string f3, .string f4, .string f5, .string f6, .string f7, .string f8] 69 (0, 0))) : W.cell? ⟨g, 2, none⟩ = some (.string f2) := (blk_cell h 2).trans rfl
theorem IsS69.set_2 {w0 W : World} {g : Nat} {f0 : ByteArray} {f1 : ByteArray} {f2 : ByteArray} {f3 : ByteArray} {f4 : ByteArray} {f5 : ByteArray} {f6 : ByteArray} {f7 : ByteArray} {f8 : ByteArray} (h : IsS69 w0 W g f0 f1 f2 f3 f4 f5 f6 f7 f8) (x : ByteArray) : IsS69 w0 (W.setCell ⟨g, 2, none⟩ (.string x)) g f0 f1 x f3 f4 f5 f6 f7 f8 := by
  obtain ⟨hb, hg⟩ := h
  exact ⟨by simpa using blk_set hb 2 (.string x), hg⟩
theorem cellS69_3 {W : World} {g : Nat} {f0 : ByteArray} {f1 : ByteArray} {f2 : ByteArray} {f3 : ByteArray} {f4 : ByteArray} {f5 : ByteArray} {f6 : ByteArray} {f7 : ByteArray} {f8 : ByteArray} (h : W.heap[g]? = some (.cells #[.string f0, .string f1, .string f2, .string f3, .string f4, .string f5, .string f6, .string f7, .string f8] 69 (0, 0))) : W.cell? ⟨g, 3, none⟩ = some (.string f3) := (blk_cell h 3).trans rfl
theorem IsS69.set_3 {w0 W : World} {g : Nat} {f0 : ByteArray} {f1 : ByteArray} {f2 : ByteArray} {f3 : ByteArray} {f4 : ByteArray} {f5 : ByteArray} {f6 : ByteArray} {f7 : ByteArray} {f8 : ByteArray} (h : IsS69 w0 W g f0 f1 f2 f3 f4 f5 f6 f7 f8) (x : ByteArray) : IsS69 w0 (W.setCell ⟨g, 3, none⟩ (.string x)) g f0 f1 f2 x f4 f5 f6 f7 f8 := by
  obtain ⟨hb, hg⟩ := h
  exact ⟨by simpa using blk_set hb 3 (.string x), hg⟩
theorem cellS69_4 {W : World} {g : Nat} {f0 : ByteArray} {f1 : ByteArray} {f2 : ByteArray} {f3 : ByteArray} {f4 : ByteArray} {f5 : ByteArray} {f6 : ByteArray} {f7 : ByteArray} {f8 : ByteArray} (h : W.heap[g]? = some (.cells #[.string f0, .string f1, .string f2, .string f3, .string f4, .string f5, .string f6, .string f7, .string f8] 69 (0, 0))) : W.cell? ⟨g, 4, none⟩ = some (.string f4) := (blk_cell h 4).trans rfl
theorem IsS69.set_4 {w0 W : World} {g : Nat} {f0 : ByteArray} {f1 : ByteArray} {f2 : ByteArray} {f3 : ByteArray} {f4 : ByteArray} {f5 : ByteArray} {f6 : ByteArray} {f7 : ByteArray} {f8 : ByteArray} (h : IsS69 w0 W g f0 f1 f2 f3 f4 f5 f6 f7 f8) (x : ByteArray) : IsS69 w0 (W.setCell ⟨g, 4, none⟩ (.string x)) g f0 f1 f2 f3 x f5 f6 f7 f8 := by
  obtain ⟨hb, hg⟩ := h
  exact ⟨by simpa using blk_set hb 4 (.string x), hg⟩
theorem cellS69_5 {W : World} {g : Nat} {f0 : ByteArray} {f1 : ByteArray} {f2 : ByteArray} {f3 : ByteArray} {f4 : ByteArray} {f5 : ByteArray} {f6 : ByteArray} {f7 : ByteArray} {f8 : ByteArray} (h : W.heap[g]? = some (.cells #[.string f0, .string f1, .string f2, .string f3, .string f4, .string f5, .string f6, .string f7, .string f8] 69 (0, 0))) : W.cell? ⟨g, 5, none⟩ = some (.string f5) := (blk_cell h 5).trans rfl
theorem IsS69.set_5 {w0 W : World} {g : Nat} {f0 : ByteArray} {f1 : ByteArray} {f2 : ByteArray} {f3 : ByteArray} {f4 : ByteArray} {f5 : ByteArray} {f6 : ByteArray} {f7 : ByteArray} {f8 : ByteArray} (h : IsS69 w0 W g f0 f1 f2 f3 f4 f5 f6 f7 f8) (x : ByteArray) : IsS69 w0 (W.setCell ⟨g, 5, none⟩ (.string x)) g f0 f1 f2 f3 f4 x f6 f7 f8 := by
  obtain ⟨hb, hg⟩ := h
  exact ⟨by simpa using blk_set hb 5 (.string x), hg⟩
theorem cellS69_6 {W : World} {g : Nat} {f0 : ByteArray} {f1 : ByteArray} {f2 : ByteArray} {f3 : ByteArray} {f4 : ByteArray} {f5 : ByteArray} {f6 : ByteArray} {f7 : ByteArray} {f8 : ByteArray} (h : W.heap[g]? = some (.cells #[.string f0, .string f1, .string f2, .string f3, .string f4, .string f5, .string f6, .string f7, .string f8] 69 (0, 0))) : W.cell? ⟨g, 6, none⟩ = some (.string f6) := (blk_cell h 6).trans rfl
theorem IsS69.set_6 {w0 W : World} {g : Nat} {f0 : ByteArray} {f1 : ByteArray} {f2 : ByteArray} {f3 : ByteArray} {f4 : ByteArray} {f5 : ByteArray} {f6 : ByteArray} {f7 : ByteArray} {f8 : ByteArray} (h : IsS69 w0 W g f0 f1 f2 f3 f4 f5 f6 f7 f8) (x : ByteArray) : IsS69 w0 (W.setCell ⟨g, 6, none⟩ (.string x)) g f0 f1 f2 f3 f4 f5 x f7 f8 := by
  obtain ⟨hb, hg⟩ := h
  exact ⟨by simpa using blk_set hb 6 (.string x), hg⟩
theorem cellS69_7 {W : World} {g : Nat} {f0 : ByteArray} {f1 : ByteArray} {f2 : ByteArray} {f3 : ByteArray} {f4 : ByteArray} {f5 : ByteArray} {f6 : ByteArray} {f7 : ByteArray} {f8 : ByteArray} (h : W.heap[g]? = some (.cells #[.string f0, .string f1, .string f2, .string f3, .string f4, .string f5, .string f6, .string f7, .string f8] 69 (0, 0))) : W.cell? ⟨g, 7, none⟩ = some (.string f7) := (blk_cell h 7).trans rfl
theorem IsS69.set_7 {w0 W : World} {g : Nat} {f0 : ByteArray} {f1 : ByteArray} {f2 : ByteArray} {f3 : ByteArray} {f4 : ByteArray} {f5 : ByteArray} {f6 : ByteArray} {f7 : ByteArray} {f8 : ByteArray} (h : IsS69 w0 W g f0 f1 f2 f3 f4 f5 f6 f7 f8) (x : ByteArray) : IsS69 w0 (W.setCell ⟨g, 7, none⟩ (.string x)) g f0 f1 f2 f3 f4 f5 f6 x f8 := by
  obtain ⟨hb, hg⟩ := h
  exact ⟨by simpa using blk_set hb 7 (.string x), hg⟩
theorem cellS69_8 {W : World} {g : Nat} {f0 : ByteArray} {f1 : ByteArray} {f2 : ByteArray} {f3 : ByteArray} {f4 : ByteArray} {f5 : ByteArray} {f6 : ByteArray} {f7 : ByteArray} {f8 : ByteArray} (h : W.heap[g]? = some (.cells #[.string f0, .string f1, .string f2, .string f3, .string f4, .string f5, .string f6, .string f7, .string f8] 69 (0, 0))) : W.cell? ⟨g, 8, none⟩ = some (.string f8) := (blk_cell h 8).trans rfl
theorem IsS69.set_8 {w0 W : World} {g : Nat} {f0 : ByteArray} {f1 : ByteArray} {f2 : ByteArray} {f3 : ByteArray} {f4 : ByteArray} {f5 : ByteArray} {f6 : ByteArray} {f7 : ByteArray} {f8 : ByteArray} (h : IsS69 w0 W g f0 f1 f2 f3 f4 f5 f6 f7 f8) (x : ByteArray) : IsS69 w0 (W.setCell ⟨g, 8, none⟩ (.string x)) g f0 f1 f2 f3 f4 f5 f6 f7 x := by
  obtain ⟨hb, hg⟩ := h
  exact ⟨by simpa using blk_set hb 8 (.string x), hg⟩
theorem IsS69.new (w0 W : World) (f0 : ByteArray) (f1 : ByteArray) (f2 : ByteArray) (f3 : ByteArray) (f4 : ByteArray) (f5 : ByteArray) (f6 : ByteArray) (f7 : ByteArray) (f8 : ByteArray) (hB : Below w0.heap.size w0 W) : IsS69 w0 (W.alloc (.cells #[.string f0, .string f1, .string f2, .string f3, .string f4, .string f5, .string f6, .string f7, .string f8] 69)) W.heap.size f0 f1 f2 f3 f4 f5 f6 f7 f8 := ⟨by simpa using heap_alloc_new W _, hB.size⟩

/-! ### wire_New: function 17 -/
def wire_New.f  : Option (ByteArray × ByteArray × ByteArray × ByteArray × ByteArray × ByteArray × ByteArray × ByteArray × ByteArray) := some ((⟨#[]⟩ : ByteArray), (⟨#[]⟩ : ByteArray), (⟨#[]⟩ : ByteArray), (⟨#[]⟩ : ByteArray), (⟨#[]⟩ : ByteArray), (⟨#[]⟩ : ByteArray), (⟨#[]⟩ : ByteArray), (⟨#[]⟩ : ByteArray), (⟨#[]⟩ : ByteArray))
set_option maxHeartbeats 8000000 in
set_option maxRecDepth 100000 in
theorem wire_New.calls  (r1 : ByteArray) (r2 : ByteArray) (r3 : ByteArray) (r4 : ByteArray) (r5 : ByteArray) (r6 : ByteArray) (r7 : ByteArray) (r8 : ByteArray) (r9 : ByteArray) (w0 w : World) (hB : Below w0.heap.size w0 w) (h : wire_New.f  = some (r1, r2, r3, r4, r5, r6, r7, r8, r9)) :
    Calls Try.prog 17 #[] w fun e w' => ∃ g_ : Nat, e = .returned (.pointer (some ⟨g_, 0, none⟩)) ∧ IsS69 w0 w' g_ r1 r2 r3 r4 r5 r6 r7 r8 r9 ∧ Below w0.heap.size w0 w' ∧ Below w.heap.size w w' := by
  have hu69 := Try.underlying69
  have HBW := Aside0.mk (Below.refl w.heap.size w)
  have HW0 := Aside0.mk hB.size
  have HB := Aside0.mk hB
  clear hB
  have H : (some ((⟨#[]⟩ : ByteArray), (⟨#[]⟩ : ByteArray), (⟨#[]⟩ : ByteArray), (⟨#[]⟩ : ByteArray), (⟨#[]⟩ : ByteArray), (⟨#[]⟩ : ByteArray), (⟨#[]⟩ : ByteArray), (⟨#[]⟩ : ByteArray), (⟨#[]⟩ : ByteArray))) = some (r1, r2, r3, r4, r5, r6, r7, r8, r9) := h
  clear h
  simp only [Option.some.injEq, Prod.mk.injEq] at H
  obtain ⟨rfl, rfl, rfl, rfl, rfl, rfl, rfl, rfl, rfl⟩ := H
  go_enter Try.func17, Try.ntmps17
  go_wp2_with (first | ((with_reducible refine gate_dst (N := 2) rfl ?_); refine box_event ?hg (N := 2) ?hd (cs := #[.string (⟨#[]⟩ : ByteArray), .string (⟨#[]⟩ : ByteArray), .string (⟨#[]⟩ : ByteArray), .string (⟨#[]⟩ : ByteArray), .string (⟨#[]⟩ : ByteArray), .string (⟨#[]⟩ : ByteArray), .string (⟨#[]⟩ : ByteArray), .string (⟨#[]⟩ : ByteArray), .string (⟨#[]⟩ : ByteArray)]) (t := 69) ?hr ?_; (case hd => rfl); (case hg => rfl); (case hr => first | (go_simp; done) | (go_simp; rfl)); intro gb101 hg w1 hbox hb; have n0_ := Aside0.mk (below_step HBW.out hb); have n1_ := Aside0.mk (below_step (by repeat (first | (with_reducible first | exact HB.out | apply below_alloc | apply pw_below_drewN | apply below_drew1) | exact HB.out)) hb); have n2_ := Aside0.mk (hbox); have n3_ := Aside0.mk ((by rw [hg]; exact (below_size (by repeat (first | (with_reducible first | exact HBW.out | apply below_alloc | apply pw_below_drewN | apply below_drew1) | exact HBW.out))) : w.heap.size ≤ gb101)); have n4_ := Aside0.mk ((Nat.le_trans HW0.out (by rw [hg]; exact (below_size (by repeat (first | (with_reducible first | exact HBW.out | apply below_alloc | apply pw_below_drewN | apply below_drew1) | exact HBW.out))) : w.heap.size ≤ gb101) : w0.heap.size ≤ gb101)); clear HBW; clear HB; have HBW := n0_; have HB := n1_; have BK101 := n2_; have GW101 := n3_; have GE101 := n4_; clear n0_ n1_ n2_ n3_ n4_; clear hb hbox hg))
  go_ret
  exact ⟨_, rfl, (show IsS69 w0 _ gb101 (⟨#[]⟩ : ByteArray) (⟨#[]⟩ : ByteArray) (⟨#[]⟩ : ByteArray) (⟨#[]⟩ : ByteArray) (⟨#[]⟩ : ByteArray) (⟨#[]⟩ : ByteArray) (⟨#[]⟩ : ByteArray) (⟨#[]⟩ : ByteArray) (⟨#[]⟩ : ByteArray) from ⟨by (with_reducible repeat (first | refine blk_drewN ?_ _ | refine blk_drew ?_ | refine blk_alloc ?_ _)); exact BK101.out, GE101.out⟩), by repeat (first | (with_reducible first | exact HB.out | apply below_alloc | apply pw_below_drewN | apply below_drew1 | refine below_set ?_ GE101.out) | exact HB.out), by repeat (first | (with_reducible first | exact HBW.out | apply below_alloc | apply pw_below_drewN | apply below_drew1 | refine below_set ?_ GW101.out) | exact HBW.out)⟩

/-- A state of type 66 at block g of W; what its slices lead to came in by w0. -/
def IsS66 (w0 W : World) (g : Nat) (f0 : ByteArray) (f1 : ByteArray) (f2 : ByteArray) : Prop := W.heap[g]? = some (.cells #[.string f0, .string f1, .string f2] 66 (0, 0)) ∧ w0.heap.size ≤ g
theorem IsS66.grown {w0 W : World} {g : Nat} {f0 : ByteArray} {f1 : ByteArray} {f2 : ByteArray} {W1 : World} {row : Option Nat} (h : IsS66 w0 W g f0 f1 f2) (hw : W.grownBy W1 row) (hne : some g ≠ row) : IsS66 w0 W1 g f0 f1 f2 := by
  obtain ⟨hb, hg⟩ := h
  exact ⟨blk_grown hb hw hne, hg⟩
theorem IsS66.own_neN {w0 W : World} {g : Nat} {f0 : ByteArray} {f1 : ByteArray} {f2 : ByteArray} {α : Type} {d : Kd α} {e : Nat} {base : Nat} {ok : Nat → Prop} {v : Value} {xs : List α} (h : IsS66 w0 W g f0 f1 f2) (ho : Kd.N d e W base ok v xs) (ht : e ≠ 66) : some g ≠ v.ownBlock := by
  obtain ⟨hb, hg⟩ := h
  exact Kd.N_ne ho hb ht
theorem IsS66.fresh {w0 W : World} {g : Nat} {f0 : ByteArray} {f1 : ByteArray} {f2 : ByteArray} (h : IsS66 w0 W g f0 f1 f2) : ∀ k, W.heap.size ≤ k → k ≠ g := by
  obtain ⟨hb, hg⟩ := h
  exact Kd.freshB hb
theorem IsS66.kept {w0 W : World} {g : Nat} {f0 : ByteArray} {f1 : ByteArray} {f2 : ByteArray} {W1 : World} {S : Nat → Prop} (h : IsS66 w0 W g f0 f1 f2) (hk : Kept W W1 S) (hne : ¬ S g) : IsS66 w0 W1 g f0 f1 f2 := by
  obtain ⟨hb, hg⟩ := h
  exact ⟨blk_kept hb hk hne, hg⟩
theorem IsS66.below {w0 W : World} {g : Nat} {f0 : ByteArray} {f1 : ByteArray} {f2 : ByteArray} {W1 : World} (h : IsS66 w0 W g f0 f1 f2) (hw : Below W.heap.size W W1) : IsS66 w0 W1 g f0 f1 f2 := h.grown (grown_of_below hw none) (by simp)
theorem IsS66.alloc {w0 W : World} {g : Nat} {f0 : ByteArray} {f1 : ByteArray} {f2 : ByteArray} (h : IsS66 w0 W g f0 f1 f2) (o : Obj) : IsS66 w0 (W.alloc o) g f0 f1 f2 := h.below (below_alloc (Below.refl _ _) o)
theorem IsS66.drewN {w0 W : World} {g : Nat} {f0 : ByteArray} {f1 : ByteArray} {f2 : ByteArray} (h : IsS66 w0 W g f0 f1 f2) (m : Nat) : IsS66 w0 (W.drewN m) g f0 f1 f2 := h
theorem IsS66.drew {w0 W : World} {g : Nat} {f0 : ByteArray} {f1 : ByteArray} {f2 : ByteArray} (h : IsS66 w0 W g f0 f1 f2) : IsS66 w0 W.drew g f0 f1 f2 := h
theorem IsS66.at_ {w0 W : World} {g : Nat} {f0 : ByteArray} {f1 : ByteArray} {f2 : ByteArray} {w' : World} {m : Nat} (hq : W.drewN m = w') (h : IsS66 w0 W g f0 f1 f2) : IsS66 w0 w' g f0 f1 f2 := by subst hq; exact IsS66.drewN h m
theorem IsS66.apart {w0 W : World} {g : Nat} {f0 : ByteArray} {f1 : ByteArray} {f2 : ByteArray} {α : Type} {d : Kd α} {e : Nat} {base : Nat} {ok : Nat → Prop} {v : Value} {xs : List α} (h : IsS66 w0 W g f0 f1 f2) (ho : d.R e W base ok v xs) (ht : ∀ q, q ∈ e :: d.E → q ≠ 66) : d.R e W base (fun k => ok k ∧ k ≠ g) v xs := by
  obtain ⟨hb, hg⟩ := h
  exact Kd.R_types ho hb ht
theorem IsS66.own_ne {w0 W : World} {g : Nat} {f0 : ByteArray} {f1 : ByteArray} {f2 : ByteArray} {α : Type} {d : Kd α} {e : Nat} {base : Nat} {ok : Nat → Prop} {v : Value} {xs : List α} (h : IsS66 w0 W g f0 f1 f2) (ho : d.R e W base ok v xs) (ht : e ≠ 66) : some g ≠ v.ownBlock := by
  obtain ⟨hb, hg⟩ := h
  exact Kd.R_ne ho hb ht
theorem IsS66.apartQ {w0 W : World} {g : Nat} {f0 : ByteArray} {f1 : ByteArray} {f2 : ByteArray} {α : Type} {d : Kd α} {e : Nat} {base : Nat} {ok : Nat → Prop} {v : Value} {xs : List α} (h : IsS66 w0 W g f0 f1 f2) (ho : d.Q e W base ok v xs) (ht : ∀ q, q ∈ e :: d.E → q ≠ 66) : d.Q e W base (fun k => ok k ∧ k ≠ g) v xs := by
  obtain ⟨hb, hg⟩ := h
  exact Kd.Q_types ho hb ht
theorem IsS66.own_neQ {w0 W : World} {g : Nat} {f0 : ByteArray} {f1 : ByteArray} {f2 : ByteArray} {α : Type} {d : Kd α} {e : Nat} {base : Nat} {ok : Nat → Prop} {v : Value} {xs : List α} (h : IsS66 w0 W g f0 f1 f2) (ho : d.Q e W base ok v xs) (ht : e ≠ 66) : some g ≠ v.ownBlock := by
  obtain ⟨hb, hg⟩ := h
  exact Kd.Q_ne ho hb ht
theorem IsS66.apartS {w0 W : World} {g : Nat} {f0 : ByteArray} {f1 : ByteArray} {f2 : ByteArray} {α : Type} {d : Kd α} {e : Nat} {base : Nat} {ok : Nat → Prop} {v : Value} {xs : List α} (h : IsS66 w0 W g f0 f1 f2) (ho : d.S e W base ok v xs) (ht : ∀ q, q ∈ e :: d.E → q ≠ 66) : d.S e W base (fun k => ok k ∧ k ≠ g) v xs := by
  obtain ⟨hb, hg⟩ := h
  exact Kd.S_types ho hb ht
theorem IsS66.own_neS {w0 W : World} {g : Nat} {f0 : ByteArray} {f1 : ByteArray} {f2 : ByteArray} {α : Type} {d : Kd α} {e : Nat} {base : Nat} {ok : Nat → Prop} {v : Value} {xs : List α} (h : IsS66 w0 W g f0 f1 f2) (ho : d.S e W base ok v xs) (ht : e ≠ 66) : some g ≠ v.ownBlock := by
  obtain ⟨hb, hg⟩ := h
  exact Kd.S_ne ho hb ht
theorem IsS66.lt {w0 W : World} {g : Nat} {f0 : ByteArray} {f1 : ByteArray} {f2 : ByteArray} (h : IsS66 w0 W g f0 f1 f2) : g < W.heap.size := by
  obtain ⟨hb, hg⟩ := h
  exact blk_lt hb
theorem IsS66.ge {w0 W : World} {g : Nat} {f0 : ByteArray} {f1 : ByteArray} {f2 : ByteArray} (h : IsS66 w0 W g f0 f1 f2) : w0.heap.size ≤ g := by
  obtain ⟨hb, hg⟩ := h
  exact hg
theorem IsS66.ne_blk {w0 W : World} {g : Nat} {f0 : ByteArray} {f1 : ByteArray} {f2 : ByteArray} {a : Nat} {cs : Array Value} {t : TypeId} {fr : Nat × Nat} (h : IsS66 w0 W g f0 f1 f2) (hb2 : W.heap[a]? = some (.cells cs t fr)) (ht : t ≠ 66) : g ≠ a := by
  obtain ⟨hb, hg⟩ := h
  rintro rfl
  rw [hb] at hb2
  injection hb2 with hb2
  injection hb2 with _ ht2
  exact ht ht2.symm
theorem IsS66.far {w0 W : World} {g : Nat} {f0 : ByteArray} {f1 : ByteArray} {f2 : ByteArray} {p : Addr} (h : IsS66 w0 W g f0 f1 f2) (hne : g ≠ p.block) (u : Value) : IsS66 w0 (W.setCell p u) g f0 f1 f2 := by
  obtain ⟨hb, hg⟩ := h
  exact ⟨blk_far hb hne u, hg⟩
theorem cellS66_0 {W : World} {g : Nat} {f0 : ByteArray} {f1 : ByteArray} {f2 : ByteArray} (h : W.heap[g]? = some (.cells #[.string f0, .string f1, .string f2] 66 (0, 0))) : W.cell? ⟨g, 0, none⟩ = some (.string f0) := (blk_cell h 0).trans rfl
theorem IsS66.set_0 {w0 W : World} {g : Nat} {f0 : ByteArray} {f1 : ByteArray} {f2 : ByteArray} (h : IsS66 w0 W g f0 f1 f2) (x : ByteArray) : IsS66 w0 (W.setCell ⟨g, 0, none⟩ (.string x)) g x f1 f2 := by
  obtain ⟨hb, hg⟩ := h
  exact ⟨by simpa using blk_set hb 0 (.string x), hg⟩
theorem cellS66_1 {W : World} {g : Nat} {f0 : ByteArray} {f1 : ByteArray} {f2 : ByteArray} (h : W.heap[g]? = some (.cells #[.string f0, .string f1, .string f2] 66 (0, 0))) : W.cell? ⟨g, 1, none⟩ = some (.string f1) := (blk_cell h 1).trans rfl
theorem IsS66.set_1 {w0 W : World} {g : Nat} {f0 : ByteArray} {f1 : ByteArray} {f2 : ByteArray} (h : IsS66 w0 W g f0 f1 f2) (x : ByteArray) : IsS66 w0 (W.setCell ⟨g, 1, none⟩ (.string x)) g f0 x f2 := by
  obtain ⟨hb, hg⟩ := h
  exact ⟨by simpa using blk_set hb 1 (.string x), hg⟩
theorem cellS66_2 {W : World} {g : Nat} {f0 : ByteArray} {f1 : ByteArray} {f2 : ByteArray} (h : W.heap[g]? = some (.cells #[.string f0, .string f1, .string f2] 66 (0, 0))) : W.cell? ⟨g, 2, none⟩ = some (.string f2) := (blk_cell h 2).trans rfl
theorem IsS66.set_2 {w0 W : World} {g : Nat} {f0 : ByteArray} {f1 : ByteArray} {f2 : ByteArray} (h : IsS66 w0 W g f0 f1 f2) (x : ByteArray) : IsS66 w0 (W.setCell ⟨g, 2, none⟩ (.string x)) g f0 f1 x := by
  obtain ⟨hb, hg⟩ := h
  exact ⟨by simpa using blk_set hb 2 (.string x), hg⟩
theorem IsS66.new (w0 W : World) (f0 : ByteArray) (f1 : ByteArray) (f2 : ByteArray) (hB : Below w0.heap.size w0 W) : IsS66 w0 (W.alloc (.cells #[.string f0, .string f1, .string f2] 66)) W.heap.size f0 f1 f2 := ⟨by simpa using heap_alloc_new W _, hB.size⟩

/-! ### wire_Wire_at: function 44 -/
--IMPORT Derived.BigRegion
set_option maxHeartbeats 800000 in
set_option maxRecDepth 100000 in
theorem at_in (g k : Nat) (w : World) (hk : k < 3) :
    Calls Try.prog 44 #[.pointer (some ⟨g, 0, none⟩), .int .i64 (k : Int)] w fun e w' => e = .returned (.pointer (some ⟨g, k * 3, none⟩)) ∧ ∃ n, w' = w.drewN n := by
  have hu26 := Try.underlying26
  have hu67 := Try.underlying67
  have hu69 := Try.underlying69
  have h0 : decide ((k : Int) < 0) = false := decide_eq_false (by omega)
  have h1 : decide ((3 : Int) ≤ (k : Int)) = false := decide_eq_false (by omega)
  have h2 : decide ((k : Int) < 3) = true := decide_eq_true (by omega)
  have h3 : decide ((0 : Int) ≤ (k : Int)) = true := decide_eq_true (by omega)
  go_enter Try.func44, Try.ntmps44
  go_wp2
  go_ret
  exact ⟨rfl, 0, rfl⟩
set_option maxHeartbeats 800000 in
set_option maxRecDepth 100000 in
theorem at_out (g : Nat) (a : Int) (w : World) (hk : ¬ (0 ≤ a ∧ a < 3)) :
    Calls Try.prog 44 #[.pointer (some ⟨g, 0, none⟩), .int .i64 a] w fun e w' => e = .returned (.pointer none) ∧ ∃ n, w' = w.drewN n := by
  have hu26 := Try.underlying26
  have hu67 := Try.underlying67
  have hu69 := Try.underlying69
  by_cases hn : a < 0
  · have h0 : decide (a < 0) = true := decide_eq_true hn
    go_enter Try.func44, Try.ntmps44
    go_wp2
    go_ret
    exact ⟨rfl, 0, rfl⟩
  · have h0 : decide (a < 0) = false := decide_eq_false hn
    have h1 : decide ((3 : Int) ≤ a) = true := decide_eq_true (by omega)
    go_enter Try.func44, Try.ntmps44
    go_wp2
    go_ret
    exact ⟨rfl, 0, rfl⟩
set_option maxHeartbeats 800000 in
set_option maxRecDepth 100000 in
theorem at_nil (a : Int) (w : World) :
    Calls Try.prog 44 #[.pointer none, .int .i64 a] w fun e w' => e = .returned (.pointer none) ∧ ∃ n, w' = w.drewN n := by
  have hu26 := Try.underlying26
  go_enter Try.func44, Try.ntmps44
  go_wp2
  go_ret
  exact ⟨rfl, 0, rfl⟩

/-! ### wire_Wire_Push: function 18 -/
set_option maxHeartbeats 800000 in
set_option maxRecDepth 100000 in
theorem push_in (g k : Nat) (w : World) (hk : k < 3) (x s : ByteArray) (hc : w.cell? ⟨g, k * 3, none⟩ = some (.string x)) (hf : w.frozen? ⟨g, k * 3, none⟩ = false) (hs : x.size + s.size ≤ 9223372036854775807) :
    Calls Try.prog 18 #[.pointer (some ⟨g, 0, none⟩), .int .i64 (k : Int), .string s] w fun e w' => e = .returned (.bool true) ∧ ∃ n, w' = (w.drewN n).setCell ⟨g, k * 3, none⟩ (.string (x ++ s)) := by
  have hu66 := Try.underlying66
  have A := at_in g k
  have b0 := eq_true hs
  have b1 : decide (x.size + s.size ≤ 9223372036854775807) = true := decide_eq_true hs
  have b2 : (9223372036854775807 < x.size + s.size) = False := eq_false (Nat.not_lt.2 hs)
  go_enter Try.func18, Try.ntmps18
  go_wp2_with (go_at_call 44; (with_reducible refine (A _ hk).mono ?_); rintro e w' ⟨rfl, ⟨nd, rfl⟩⟩)
  go_ret
  exact ⟨rfl, _, rfl⟩
set_option maxHeartbeats 800000 in
set_option maxRecDepth 100000 in
theorem push_out (g : Nat) (a : Int) (w : World) (hk : ¬ (0 ≤ a ∧ a < 3)) (s : ByteArray) :
    Calls Try.prog 18 #[.pointer (some ⟨g, 0, none⟩), .int .i64 a, .string s] w fun e w' => e = .returned (.bool false) ∧ ∃ n, w' = w.drewN n := by
  have A := at_out g a
  go_enter Try.func18, Try.ntmps18
  go_wp2_with (go_at_call 44; (with_reducible refine (A _ hk).mono ?_); rintro e w' ⟨rfl, ⟨nd, rfl⟩⟩)
  go_ret
  exact ⟨rfl, _, rfl⟩
set_option maxHeartbeats 800000 in
set_option maxRecDepth 100000 in
theorem push_nil (a : Int) (w : World) (s : ByteArray) :
    Calls Try.prog 18 #[.pointer none, .int .i64 a, .string s] w fun e w' => e = .returned (.bool false) ∧ ∃ n, w' = w.drewN n := by
  have A := at_nil a
  go_enter Try.func18, Try.ntmps18
  go_wp2_with (go_at_call 44; (with_reducible refine (A _).mono ?_); rintro e w' ⟨rfl, ⟨nd, rfl⟩⟩)
  go_ret
  exact ⟨rfl, _, rfl⟩
def wire_Wire_Push.f (s0_0 : ByteArray) (s0_1 : ByteArray) (s0_2 : ByteArray) (s0_3 : ByteArray) (s0_4 : ByteArray) (s0_5 : ByteArray) (s0_6 : ByteArray) (s0_7 : ByteArray) (s0_8 : ByteArray) (a1 : Int) (a2 : ByteArray) : Option (Bool × ByteArray × ByteArray × ByteArray × ByteArray × ByteArray × ByteArray × ByteArray × ByteArray × ByteArray) := if a1 = 0 then (if s0_0.size + a2.size ≤ 9223372036854775807 then (some (true, s0_0 ++ a2, s0_1, s0_2, s0_3, s0_4, s0_5, s0_6, s0_7, s0_8)) else none) else (if a1 = 1 then (if s0_3.size + a2.size ≤ 9223372036854775807 then (some (true, s0_0, s0_1, s0_2, s0_3 ++ a2, s0_4, s0_5, s0_6, s0_7, s0_8)) else none) else (if a1 = 2 then (if s0_6.size + a2.size ≤ 9223372036854775807 then (some (true, s0_0, s0_1, s0_2, s0_3, s0_4, s0_5, s0_6 ++ a2, s0_7, s0_8)) else none) else (some (false, s0_0, s0_1, s0_2, s0_3, s0_4, s0_5, s0_6, s0_7, s0_8))))
theorem wire_Wire_Push.calls (g : Nat) (s0_0 : ByteArray) (s0_1 : ByteArray) (s0_2 : ByteArray) (s0_3 : ByteArray) (s0_4 : ByteArray) (s0_5 : ByteArray) (s0_6 : ByteArray) (s0_7 : ByteArray) (s0_8 : ByteArray) (a1 : Int) (a2 : ByteArray) (r1 : Bool) (r2 : ByteArray) (r3 : ByteArray) (r4 : ByteArray) (r5 : ByteArray) (r6 : ByteArray) (r7 : ByteArray) (r8 : ByteArray) (r9 : ByteArray) (r10 : ByteArray) (w0 w : World) (hI : IsS69 w0 w g s0_0 s0_1 s0_2 s0_3 s0_4 s0_5 s0_6 s0_7 s0_8) (hB : Below w0.heap.size w0 w) (h : wire_Wire_Push.f s0_0 s0_1 s0_2 s0_3 s0_4 s0_5 s0_6 s0_7 s0_8 a1 a2 = some (r1, r2, r3, r4, r5, r6, r7, r8, r9, r10)) :
    Calls Try.prog 18 #[.pointer (some ⟨g, 0, none⟩), .int .i64 a1, .string a2] w fun e w' => e = .returned (.bool r1) ∧ IsS69 w0 w' g r2 r3 r4 r5 r6 r7 r8 r9 r10 ∧ Below w0.heap.size w0 w' ∧ KeepBut w w' g none := by
  obtain ⟨HG, hg⟩ := hI
  unfold wire_Wire_Push.f at h
  by_cases h0 : a1 = 0
  · subst h0; rw [if_pos rfl] at h
    by_cases k : s0_0.size + a2.size ≤ 9223372036854775807
    · rw [if_pos k] at h; simp only [Option.some.injEq, Prod.mk.injEq] at h; obtain ⟨rfl, rfl, rfl, rfl, rfl, rfl, rfl, rfl, rfl, rfl⟩ := h
      refine (push_in g 0 w (by omega) _ _ (cellS69_0 HG) (blk_frozen HG 0) k).mono ?_
      rintro e w' ⟨rfl, n, rfl⟩
      exact ⟨rfl, IsS69.set_0 (IsS69.drewN ⟨HG, hg⟩ n) _, below_set (pw_below_drewN hB _) hg, KeepBut.set_ (keep_drewN (KeepBut.refl w g none) _) _ _⟩
    · rw [if_neg k] at h; cases h
  rw [if_neg h0] at h
  by_cases h1 : a1 = 1
  · subst h1; rw [if_pos rfl] at h
    by_cases k : s0_3.size + a2.size ≤ 9223372036854775807
    · rw [if_pos k] at h; simp only [Option.some.injEq, Prod.mk.injEq] at h; obtain ⟨rfl, rfl, rfl, rfl, rfl, rfl, rfl, rfl, rfl, rfl⟩ := h
      refine (push_in g 1 w (by omega) _ _ (cellS69_3 HG) (blk_frozen HG 3) k).mono ?_
      rintro e w' ⟨rfl, n, rfl⟩
      exact ⟨rfl, IsS69.set_3 (IsS69.drewN ⟨HG, hg⟩ n) _, below_set (pw_below_drewN hB _) hg, KeepBut.set_ (keep_drewN (KeepBut.refl w g none) _) _ _⟩
    · rw [if_neg k] at h; cases h
  rw [if_neg h1] at h
  by_cases h2 : a1 = 2
  · subst h2; rw [if_pos rfl] at h
    by_cases k : s0_6.size + a2.size ≤ 9223372036854775807
    · rw [if_pos k] at h; simp only [Option.some.injEq, Prod.mk.injEq] at h; obtain ⟨rfl, rfl, rfl, rfl, rfl, rfl, rfl, rfl, rfl, rfl⟩ := h
      refine (push_in g 2 w (by omega) _ _ (cellS69_6 HG) (blk_frozen HG 6) k).mono ?_
      rintro e w' ⟨rfl, n, rfl⟩
      exact ⟨rfl, IsS69.set_6 (IsS69.drewN ⟨HG, hg⟩ n) _, below_set (pw_below_drewN hB _) hg, KeepBut.set_ (keep_drewN (KeepBut.refl w g none) _) _ _⟩
    · rw [if_neg k] at h; cases h
  rw [if_neg h2] at h
  simp only [Option.some.injEq, Prod.mk.injEq] at h; obtain ⟨rfl, rfl, rfl, rfl, rfl, rfl, rfl, rfl, rfl, rfl⟩ := h
  refine (push_out g a1 w (by omega) _).mono ?_
  rintro e w' ⟨rfl, n, rfl⟩
  exact ⟨rfl, IsS69.drewN ⟨HG, hg⟩ n, pw_below_drewN hB _, keep_drewN (KeepBut.refl w g none) _⟩

/-! ### wire_Wire_Pump: function 19 -/
set_option maxHeartbeats 3200000 in
set_option maxRecDepth 100000 in
theorem pump_a (g k : Nat) (w : World) (hk : k < 3) (x y : ByteArray) (hx : w.cell? ⟨g, k * 3, none⟩ = some (.string x)) (hy : w.cell? ⟨g, k * 3 + 1, none⟩ = some (.string y))
    (fx : w.frozen? ⟨g, k * 3, none⟩ = false) (fy : w.frozen? ⟨g, k * 3 + 1, none⟩ = false) (hq : y.size ≤ 8) (hn : x.size < 8 - y.size) :
    Calls Try.prog 19 #[.pointer (some ⟨g, 0, none⟩), .int .i64 (k : Int)] w fun e w' => e = .returned (.int .i64 (x.size : Int)) ∧ ∃ m, w' = ((w.drewN m).setCell ⟨g, k * 3 + 1, none⟩ (.string (y ++ x))).setCell ⟨g, k * 3, none⟩ (.string ByteArray.empty) := by
  have hu66 := Try.underlying66
  have hu9 := Try.underlying9
  have A := at_in g k
  have c0 : ((x.size : Int) < 8 - (y.size : Int)) = True := eq_true (by omega)
  have hz : (x.extract 0 x.size).size = x.size := by rw [ByteArray.size_extract]; omega
  have c1 : (y.size + x.size ≤ 9223372036854775807) = True := eq_true (by omega)
  have c2 : (9223372036854775807 < y.size + x.size) = False := eq_false (by omega)
  have n1 : (⟨g, k * 3 + 1, none⟩ : Addr) ≠ ⟨g, k * 3, none⟩ := by intro e; injection e; omega
  have n2 : (⟨g, k * 3, none⟩ : Addr) ≠ ⟨g, k * 3 + 1, none⟩ := by intro e; injection e; omega
  go_enter Try.func19, Try.ntmps19
  go_wp2_with (go_at_call 44; (with_reducible refine (A _ hk).mono ?_); rintro e w' ⟨rfl, ⟨nd, rfl⟩⟩)
  go_region
  go_wp2
  go_region
  go_wp2
  go_ret
  exact ⟨rfl, _, rfl⟩
set_option maxHeartbeats 3200000 in
set_option maxRecDepth 100000 in
theorem pump_b (g k : Nat) (w : World) (hk : k < 3) (x y : ByteArray) (hx : w.cell? ⟨g, k * 3, none⟩ = some (.string x)) (hy : w.cell? ⟨g, k * 3 + 1, none⟩ = some (.string y))
    (fx : w.frozen? ⟨g, k * 3, none⟩ = false) (fy : w.frozen? ⟨g, k * 3 + 1, none⟩ = false) (n : Nat) (hq : y.size + n = 8) (hn : n ≤ x.size) :
    Calls Try.prog 19 #[.pointer (some ⟨g, 0, none⟩), .int .i64 (k : Int)] w fun e w' => e = .returned (.int .i64 (n : Int)) ∧ ∃ m, w' = ((w.drewN m).setCell ⟨g, k * 3 + 1, none⟩ (.string (y ++ x.extract 0 n))).setCell ⟨g, k * 3, none⟩ (.string (x.extract n x.size)) := by
  have hu66 := Try.underlying66
  have hu9 := Try.underlying9
  have A := at_in g k
  have e0 : (8 : Int) - (y.size : Int) = (n : Int) := by omega
  have c0 : ((x.size : Int) < (n : Int)) = False := eq_false (by omega)
  have c0' : (x.size < n) = False := eq_false (by omega)
  have hz : (x.extract 0 n).size = n := by rw [ByteArray.size_extract]; omega
  have c1 : (y.size + n ≤ 9223372036854775807) = True := eq_true (by omega)
  have c2 : (9223372036854775807 < y.size + n) = False := eq_false (by omega)
  have c3 : (n ≤ x.size) = True := eq_true hn
  have n1 : (⟨g, k * 3 + 1, none⟩ : Addr) ≠ ⟨g, k * 3, none⟩ := by intro e; injection e; omega
  have n2 : (⟨g, k * 3, none⟩ : Addr) ≠ ⟨g, k * 3 + 1, none⟩ := by intro e; injection e; omega
  clear hq hn
  go_enter Try.func19, Try.ntmps19
  go_wp2_with (go_at_call 44; (with_reducible refine (A _ hk).mono ?_); rintro e w' ⟨rfl, ⟨nd, rfl⟩⟩)
  go_region
  go_wp2
  go_region
  go_wp2
  go_ret
  exact ⟨rfl, _, rfl⟩
def pumpN (y x : ByteArray) : Nat := min (8 - y.size) x.size
theorem pump_in (g k : Nat) (w : World) (hk : k < 3) (x y : ByteArray) (hx : w.cell? ⟨g, k * 3, none⟩ = some (.string x)) (hy : w.cell? ⟨g, k * 3 + 1, none⟩ = some (.string y))
    (fx : w.frozen? ⟨g, k * 3, none⟩ = false) (fy : w.frozen? ⟨g, k * 3 + 1, none⟩ = false) (hq : y.size ≤ 8) :
    Calls Try.prog 19 #[.pointer (some ⟨g, 0, none⟩), .int .i64 (k : Int)] w fun e w' => e = .returned (.int .i64 (pumpN y x : Int)) ∧ ∃ m, w' = ((w.drewN m).setCell ⟨g, k * 3 + 1, none⟩ (.string (y ++ x.extract 0 (pumpN y x)))).setCell ⟨g, k * 3, none⟩ (.string (x.extract (pumpN y x) x.size)) := by
  unfold pumpN
  by_cases h : x.size < 8 - y.size
  · rw [show min (8 - y.size) x.size = x.size by omega, show x.extract 0 x.size = x by simp, show x.extract x.size x.size = ByteArray.empty by simp]
    exact pump_a g k w hk x y hx hy fx fy hq h
  · rw [show min (8 - y.size) x.size = 8 - y.size by omega]
    exact pump_b g k w hk x y hx hy fx fy (8 - y.size) (by omega) (by omega)
set_option maxHeartbeats 800000 in
set_option maxRecDepth 100000 in
theorem pump_out (g : Nat) (a : Int) (w : World) (hk : ¬ (0 ≤ a ∧ a < 3)) :
    Calls Try.prog 19 #[.pointer (some ⟨g, 0, none⟩), .int .i64 a] w fun e w' => e = .returned (.int .i64 0) ∧ ∃ n, w' = w.drewN n := by
  have A := at_out g a
  go_enter Try.func19, Try.ntmps19
  go_wp2_with (go_at_call 44; (with_reducible refine (A _ hk).mono ?_); rintro e w' ⟨rfl, ⟨nd, rfl⟩⟩)
  go_ret
  exact ⟨rfl, _, rfl⟩
set_option maxHeartbeats 800000 in
set_option maxRecDepth 100000 in
theorem pump_nil (a : Int) (w : World) :
    Calls Try.prog 19 #[.pointer none, .int .i64 a] w fun e w' => e = .returned (.int .i64 0) ∧ ∃ n, w' = w.drewN n := by
  have A := at_nil a
  go_enter Try.func19, Try.ntmps19
  go_wp2_with (go_at_call 44; (with_reducible refine (A _).mono ?_); rintro e w' ⟨rfl, ⟨nd, rfl⟩⟩)
  go_ret
  exact ⟨rfl, _, rfl⟩
def wire_Wire_Pump.f (s0_0 : ByteArray) (s0_1 : ByteArray) (s0_2 : ByteArray) (s0_3 : ByteArray) (s0_4 : ByteArray) (s0_5 : ByteArray) (s0_6 : ByteArray) (s0_7 : ByteArray) (s0_8 : ByteArray) (a1 : Int) : Option (Int × ByteArray × ByteArray × ByteArray × ByteArray × ByteArray × ByteArray × ByteArray × ByteArray × ByteArray) := if a1 = 0 then (if s0_1.size ≤ 8 then (some ((pumpN s0_1 s0_0 : Int), s0_0.extract (pumpN s0_1 s0_0) s0_0.size, s0_1 ++ s0_0.extract 0 (pumpN s0_1 s0_0), s0_2, s0_3, s0_4, s0_5, s0_6, s0_7, s0_8)) else none) else (if a1 = 1 then (if s0_4.size ≤ 8 then (some ((pumpN s0_4 s0_3 : Int), s0_0, s0_1, s0_2, s0_3.extract (pumpN s0_4 s0_3) s0_3.size, s0_4 ++ s0_3.extract 0 (pumpN s0_4 s0_3), s0_5, s0_6, s0_7, s0_8)) else none) else (if a1 = 2 then (if s0_7.size ≤ 8 then (some ((pumpN s0_7 s0_6 : Int), s0_0, s0_1, s0_2, s0_3, s0_4, s0_5, s0_6.extract (pumpN s0_7 s0_6) s0_6.size, s0_7 ++ s0_6.extract 0 (pumpN s0_7 s0_6), s0_8)) else none) else (some (0, s0_0, s0_1, s0_2, s0_3, s0_4, s0_5, s0_6, s0_7, s0_8))))
theorem wire_Wire_Pump.calls (g : Nat) (s0_0 : ByteArray) (s0_1 : ByteArray) (s0_2 : ByteArray) (s0_3 : ByteArray) (s0_4 : ByteArray) (s0_5 : ByteArray) (s0_6 : ByteArray) (s0_7 : ByteArray) (s0_8 : ByteArray) (a1 : Int) (r1 : Int) (r2 : ByteArray) (r3 : ByteArray) (r4 : ByteArray) (r5 : ByteArray) (r6 : ByteArray) (r7 : ByteArray) (r8 : ByteArray) (r9 : ByteArray) (r10 : ByteArray) (w0 w : World) (hI : IsS69 w0 w g s0_0 s0_1 s0_2 s0_3 s0_4 s0_5 s0_6 s0_7 s0_8) (hB : Below w0.heap.size w0 w) (h : wire_Wire_Pump.f s0_0 s0_1 s0_2 s0_3 s0_4 s0_5 s0_6 s0_7 s0_8 a1 = some (r1, r2, r3, r4, r5, r6, r7, r8, r9, r10)) :
    Calls Try.prog 19 #[.pointer (some ⟨g, 0, none⟩), .int .i64 a1] w fun e w' => e = .returned (.int .i64 r1) ∧ IsS69 w0 w' g r2 r3 r4 r5 r6 r7 r8 r9 r10 ∧ Below w0.heap.size w0 w' ∧ KeepBut w w' g none := by
  obtain ⟨HG, hg⟩ := hI
  unfold wire_Wire_Pump.f at h
  by_cases h0 : a1 = 0
  · subst h0; rw [if_pos rfl] at h
    by_cases k : s0_1.size ≤ 8
    · rw [if_pos k] at h; simp only [Option.some.injEq, Prod.mk.injEq] at h; obtain ⟨rfl, rfl, rfl, rfl, rfl, rfl, rfl, rfl, rfl, rfl⟩ := h
      refine (pump_in g 0 w (by omega) _ _ (cellS69_0 HG) (cellS69_1 HG) (blk_frozen HG 0) (blk_frozen HG 1) k).mono ?_
      rintro e w' ⟨rfl, n, rfl⟩
      exact ⟨rfl, IsS69.set_0 (IsS69.set_1 (IsS69.drewN ⟨HG, hg⟩ n) _) _, below_set (below_set (pw_below_drewN hB _) hg) hg, KeepBut.set_ (KeepBut.set_ (keep_drewN (KeepBut.refl w g none) _) _ _) _ _⟩
    · rw [if_neg k] at h; cases h
  rw [if_neg h0] at h
  by_cases h1 : a1 = 1
  · subst h1; rw [if_pos rfl] at h
    by_cases k : s0_4.size ≤ 8
    · rw [if_pos k] at h; simp only [Option.some.injEq, Prod.mk.injEq] at h; obtain ⟨rfl, rfl, rfl, rfl, rfl, rfl, rfl, rfl, rfl, rfl⟩ := h
      refine (pump_in g 1 w (by omega) _ _ (cellS69_3 HG) (cellS69_4 HG) (blk_frozen HG 3) (blk_frozen HG 4) k).mono ?_
      rintro e w' ⟨rfl, n, rfl⟩
      exact ⟨rfl, IsS69.set_3 (IsS69.set_4 (IsS69.drewN ⟨HG, hg⟩ n) _) _, below_set (below_set (pw_below_drewN hB _) hg) hg, KeepBut.set_ (KeepBut.set_ (keep_drewN (KeepBut.refl w g none) _) _ _) _ _⟩
    · rw [if_neg k] at h; cases h
  rw [if_neg h1] at h
  by_cases h2 : a1 = 2
  · subst h2; rw [if_pos rfl] at h
    by_cases k : s0_7.size ≤ 8
    · rw [if_pos k] at h; simp only [Option.some.injEq, Prod.mk.injEq] at h; obtain ⟨rfl, rfl, rfl, rfl, rfl, rfl, rfl, rfl, rfl, rfl⟩ := h
      refine (pump_in g 2 w (by omega) _ _ (cellS69_6 HG) (cellS69_7 HG) (blk_frozen HG 6) (blk_frozen HG 7) k).mono ?_
      rintro e w' ⟨rfl, n, rfl⟩
      exact ⟨rfl, IsS69.set_6 (IsS69.set_7 (IsS69.drewN ⟨HG, hg⟩ n) _) _, below_set (below_set (pw_below_drewN hB _) hg) hg, KeepBut.set_ (KeepBut.set_ (keep_drewN (KeepBut.refl w g none) _) _ _) _ _⟩
    · rw [if_neg k] at h; cases h
  rw [if_neg h2] at h
  simp only [Option.some.injEq, Prod.mk.injEq] at h; obtain ⟨rfl, rfl, rfl, rfl, rfl, rfl, rfl, rfl, rfl, rfl⟩ := h
  refine (pump_out g a1 w (by omega)).mono ?_
  rintro e w' ⟨rfl, n, rfl⟩
  exact ⟨rfl, IsS69.drewN ⟨HG, hg⟩ n, pw_below_drewN hB _, keep_drewN (KeepBut.refl w g none) _⟩

/-! ### wire_Wire_Take: function 20 -/
set_option maxHeartbeats 3200000 in
set_option maxRecDepth 100000 in
theorem take_b (g k : Nat) (w : World) (hk : k < 3) (y z : ByteArray) (hy : w.cell? ⟨g, k * 3 + 1, none⟩ = some (.string y)) (hz : w.cell? ⟨g, k * 3 + 2, none⟩ = some (.string z))
    (fy : w.frozen? ⟨g, k * 3 + 1, none⟩ = false) (fz : w.frozen? ⟨g, k * 3 + 2, none⟩ = false) (a : Int) (ha : 0 < a) (n : Nat) (hn : (n : Int) = if (y.size : Int) < a then (y.size : Int) else a) (hs : z.size + n ≤ 9223372036854775807) :
    Calls Try.prog 20 #[.pointer (some ⟨g, 0, none⟩), .int .i64 (k : Int), .int .i64 a] w fun e w' => e = .returned (.string (y.extract 0 n)) ∧ ∃ m, w' = ((w.drewN m).setCell ⟨g, k * 3 + 1, none⟩ (.string (y.extract n y.size))).setCell ⟨g, k * 3 + 2, none⟩ (.string (z ++ y.extract 0 n)) := by
  have hu66 := Try.underlying66
  have hu9 := Try.underlying9
  have A := at_in g k
  have g0 : decide (a ≤ 0) = false := decide_eq_false (by omega)
  have g1 : (a ≤ 0) = False := eq_false (by omega)
  have e0 : (if (y.size : Int) < a then (y.size : Int) else a) = (n : Int) := hn.symm
  have hle : n ≤ y.size := by split at hn <;> omega
  have hz' : (y.extract 0 n).size = n := by rw [ByteArray.size_extract]; omega
  have c1 : (z.size + n ≤ 9223372036854775807) = True := eq_true (by omega)
  have c2 : (9223372036854775807 < z.size + n) = False := eq_false (by omega)
  have c3 : (n ≤ y.size) = True := eq_true hle
  have n1 : (⟨g, k * 3 + 1, none⟩ : Addr) ≠ ⟨g, k * 3 + 2, none⟩ := by intro e; injection e; omega
  have n2 : (⟨g, k * 3 + 2, none⟩ : Addr) ≠ ⟨g, k * 3 + 1, none⟩ := by intro e; injection e; omega
  have hm : ∀ kk kk' : IntKind, Builtin.min2 (.int kk a) (.int kk' (y.size : Int)) = pure (.int kk (n : Int)) := fun kk kk' => by rw [min2_int, e0]
  clear hs hn ha hle e0
  go_enter Try.func20, Try.ntmps20
  go_wp2_with (go_at_call 44; (with_reducible refine (A _ hk).mono ?_); rintro e w' ⟨rfl, ⟨nd, rfl⟩⟩)
  go_region
  go_wp2
  go_region
  go_wp2
  go_ret
  exact ⟨rfl, _, rfl⟩
set_option maxHeartbeats 800000 in
set_option maxRecDepth 100000 in
theorem take_a (g k : Nat) (w : World) (hk : k < 3) (a : Int) (ha : a ≤ 0) :
    Calls Try.prog 20 #[.pointer (some ⟨g, 0, none⟩), .int .i64 (k : Int), .int .i64 a] w fun e w' => e = .returned (.string (⟨#[]⟩ : ByteArray)) ∧ ∃ m, w' = w.drewN m := by
  have A := at_in g k
  have g0 : decide (a ≤ 0) = true := decide_eq_true ha
  have g1 : (a ≤ 0) = True := eq_true ha
  go_enter Try.func20, Try.ntmps20
  go_wp2_with (go_at_call 44; (with_reducible refine (A _ hk).mono ?_); rintro e w' ⟨rfl, ⟨nd, rfl⟩⟩)
  go_ret
  exact ⟨rfl, _, rfl⟩
def takeN (y : ByteArray) (a : Int) : Nat := min a.toNat y.size
theorem take_in (g k : Nat) (w : World) (hk : k < 3) (y z : ByteArray) (hy : w.cell? ⟨g, k * 3 + 1, none⟩ = some (.string y)) (hz : w.cell? ⟨g, k * 3 + 2, none⟩ = some (.string z))
    (fy : w.frozen? ⟨g, k * 3 + 1, none⟩ = false) (fz : w.frozen? ⟨g, k * 3 + 2, none⟩ = false) (a : Int) (ha : 0 < a) (hs : z.size + takeN y a ≤ 9223372036854775807) :
    Calls Try.prog 20 #[.pointer (some ⟨g, 0, none⟩), .int .i64 (k : Int), .int .i64 a] w fun e w' => e = .returned (.string (y.extract 0 (takeN y a))) ∧ ∃ m, w' = ((w.drewN m).setCell ⟨g, k * 3 + 1, none⟩ (.string (y.extract (takeN y a) y.size))).setCell ⟨g, k * 3 + 2, none⟩ (.string (z ++ y.extract 0 (takeN y a))) := by
  refine take_b g k w hk y z hy hz fy fz a ha (takeN y a) ?_ hs
  unfold takeN
  split <;> omega
set_option maxHeartbeats 800000 in
set_option maxRecDepth 100000 in
theorem take_out (g : Nat) (a : Int) (w : World) (hk : ¬ (0 ≤ a ∧ a < 3)) (b : Int) :
    Calls Try.prog 20 #[.pointer (some ⟨g, 0, none⟩), .int .i64 a, .int .i64 b] w fun e w' => e = .returned (.string (⟨#[]⟩ : ByteArray)) ∧ ∃ n, w' = w.drewN n := by
  have A := at_out g a
  go_enter Try.func20, Try.ntmps20
  go_wp2_with (go_at_call 44; (with_reducible refine (A _ hk).mono ?_); rintro e w' ⟨rfl, ⟨nd, rfl⟩⟩)
  go_ret
  exact ⟨rfl, _, rfl⟩
set_option maxHeartbeats 800000 in
set_option maxRecDepth 100000 in
theorem take_nil (a : Int) (w : World) (b : Int) :
    Calls Try.prog 20 #[.pointer none, .int .i64 a, .int .i64 b] w fun e w' => e = .returned (.string (⟨#[]⟩ : ByteArray)) ∧ ∃ n, w' = w.drewN n := by
  have A := at_nil a
  go_enter Try.func20, Try.ntmps20
  go_wp2_with (go_at_call 44; (with_reducible refine (A _).mono ?_); rintro e w' ⟨rfl, ⟨nd, rfl⟩⟩)
  go_ret
  exact ⟨rfl, _, rfl⟩
def wire_Wire_Take.f (s0_0 : ByteArray) (s0_1 : ByteArray) (s0_2 : ByteArray) (s0_3 : ByteArray) (s0_4 : ByteArray) (s0_5 : ByteArray) (s0_6 : ByteArray) (s0_7 : ByteArray) (s0_8 : ByteArray) (a1 : Int) (a2 : Int) : Option (ByteArray × ByteArray × ByteArray × ByteArray × ByteArray × ByteArray × ByteArray × ByteArray × ByteArray × ByteArray) := if a1 = 0 then (if a2 ≤ 0 then (some ((⟨#[]⟩ : ByteArray), s0_0, s0_1, s0_2, s0_3, s0_4, s0_5, s0_6, s0_7, s0_8)) else (if s0_2.size + takeN s0_1 a2 ≤ 9223372036854775807 then (some (s0_1.extract 0 (takeN s0_1 a2), s0_0, s0_1.extract (takeN s0_1 a2) s0_1.size, s0_2 ++ s0_1.extract 0 (takeN s0_1 a2), s0_3, s0_4, s0_5, s0_6, s0_7, s0_8)) else none)) else (if a1 = 1 then (if a2 ≤ 0 then (some ((⟨#[]⟩ : ByteArray), s0_0, s0_1, s0_2, s0_3, s0_4, s0_5, s0_6, s0_7, s0_8)) else (if s0_5.size + takeN s0_4 a2 ≤ 9223372036854775807 then (some (s0_4.extract 0 (takeN s0_4 a2), s0_0, s0_1, s0_2, s0_3, s0_4.extract (takeN s0_4 a2) s0_4.size, s0_5 ++ s0_4.extract 0 (takeN s0_4 a2), s0_6, s0_7, s0_8)) else none)) else (if a1 = 2 then (if a2 ≤ 0 then (some ((⟨#[]⟩ : ByteArray), s0_0, s0_1, s0_2, s0_3, s0_4, s0_5, s0_6, s0_7, s0_8)) else (if s0_8.size + takeN s0_7 a2 ≤ 9223372036854775807 then (some (s0_7.extract 0 (takeN s0_7 a2), s0_0, s0_1, s0_2, s0_3, s0_4, s0_5, s0_6, s0_7.extract (takeN s0_7 a2) s0_7.size, s0_8 ++ s0_7.extract 0 (takeN s0_7 a2))) else none)) else (some ((⟨#[]⟩ : ByteArray), s0_0, s0_1, s0_2, s0_3, s0_4, s0_5, s0_6, s0_7, s0_8))))
theorem wire_Wire_Take.calls (g : Nat) (s0_0 : ByteArray) (s0_1 : ByteArray) (s0_2 : ByteArray) (s0_3 : ByteArray) (s0_4 : ByteArray) (s0_5 : ByteArray) (s0_6 : ByteArray) (s0_7 : ByteArray) (s0_8 : ByteArray) (a1 : Int) (a2 : Int) (r1 : ByteArray) (r2 : ByteArray) (r3 : ByteArray) (r4 : ByteArray) (r5 : ByteArray) (r6 : ByteArray) (r7 : ByteArray) (r8 : ByteArray) (r9 : ByteArray) (r10 : ByteArray) (w0 w : World) (hI : IsS69 w0 w g s0_0 s0_1 s0_2 s0_3 s0_4 s0_5 s0_6 s0_7 s0_8) (hB : Below w0.heap.size w0 w) (h : wire_Wire_Take.f s0_0 s0_1 s0_2 s0_3 s0_4 s0_5 s0_6 s0_7 s0_8 a1 a2 = some (r1, r2, r3, r4, r5, r6, r7, r8, r9, r10)) :
    Calls Try.prog 20 #[.pointer (some ⟨g, 0, none⟩), .int .i64 a1, .int .i64 a2] w fun e w' => e = .returned (.string r1) ∧ IsS69 w0 w' g r2 r3 r4 r5 r6 r7 r8 r9 r10 ∧ Below w0.heap.size w0 w' ∧ KeepBut w w' g none := by
  obtain ⟨HG, hg⟩ := hI
  unfold wire_Wire_Take.f at h
  by_cases h0 : a1 = 0
  · subst h0; rw [if_pos rfl] at h
    by_cases q : a2 ≤ 0
    · rw [if_pos q] at h; simp only [Option.some.injEq, Prod.mk.injEq] at h; obtain ⟨rfl, rfl, rfl, rfl, rfl, rfl, rfl, rfl, rfl, rfl⟩ := h
      refine (take_a g 0 w (by omega) _ q).mono ?_
      rintro e w' ⟨rfl, n, rfl⟩
      exact ⟨rfl, IsS69.drewN ⟨HG, hg⟩ n, pw_below_drewN hB _, keep_drewN (KeepBut.refl w g none) _⟩
    rw [if_neg q] at h
    by_cases k : s0_2.size + takeN s0_1 a2 ≤ 9223372036854775807
    · rw [if_pos k] at h; simp only [Option.some.injEq, Prod.mk.injEq] at h; obtain ⟨rfl, rfl, rfl, rfl, rfl, rfl, rfl, rfl, rfl, rfl⟩ := h
      refine (take_in g 0 w (by omega) _ _ (cellS69_1 HG) (cellS69_2 HG) (blk_frozen HG 1) (blk_frozen HG 2) _ (by omega) k).mono ?_
      rintro e w' ⟨rfl, n, rfl⟩
      exact ⟨rfl, IsS69.set_2 (IsS69.set_1 (IsS69.drewN ⟨HG, hg⟩ n) _) _, below_set (below_set (pw_below_drewN hB _) hg) hg, KeepBut.set_ (KeepBut.set_ (keep_drewN (KeepBut.refl w g none) _) _ _) _ _⟩
    · rw [if_neg k] at h; cases h
  rw [if_neg h0] at h
  by_cases h1 : a1 = 1
  · subst h1; rw [if_pos rfl] at h
    by_cases q : a2 ≤ 0
    · rw [if_pos q] at h; simp only [Option.some.injEq, Prod.mk.injEq] at h; obtain ⟨rfl, rfl, rfl, rfl, rfl, rfl, rfl, rfl, rfl, rfl⟩ := h
      refine (take_a g 1 w (by omega) _ q).mono ?_
      rintro e w' ⟨rfl, n, rfl⟩
      exact ⟨rfl, IsS69.drewN ⟨HG, hg⟩ n, pw_below_drewN hB _, keep_drewN (KeepBut.refl w g none) _⟩
    rw [if_neg q] at h
    by_cases k : s0_5.size + takeN s0_4 a2 ≤ 9223372036854775807
    · rw [if_pos k] at h; simp only [Option.some.injEq, Prod.mk.injEq] at h; obtain ⟨rfl, rfl, rfl, rfl, rfl, rfl, rfl, rfl, rfl, rfl⟩ := h
      refine (take_in g 1 w (by omega) _ _ (cellS69_4 HG) (cellS69_5 HG) (blk_frozen HG 4) (blk_frozen HG 5) _ (by omega) k).mono ?_
      rintro e w' ⟨rfl, n, rfl⟩
      exact ⟨rfl, IsS69.set_5 (IsS69.set_4 (IsS69.drewN ⟨HG, hg⟩ n) _) _, below_set (below_set (pw_below_drewN hB _) hg) hg, KeepBut.set_ (KeepBut.set_ (keep_drewN (KeepBut.refl w g none) _) _ _) _ _⟩
    · rw [if_neg k] at h; cases h
  rw [if_neg h1] at h
  by_cases h2 : a1 = 2
  · subst h2; rw [if_pos rfl] at h
    by_cases q : a2 ≤ 0
    · rw [if_pos q] at h; simp only [Option.some.injEq, Prod.mk.injEq] at h; obtain ⟨rfl, rfl, rfl, rfl, rfl, rfl, rfl, rfl, rfl, rfl⟩ := h
      refine (take_a g 2 w (by omega) _ q).mono ?_
      rintro e w' ⟨rfl, n, rfl⟩
      exact ⟨rfl, IsS69.drewN ⟨HG, hg⟩ n, pw_below_drewN hB _, keep_drewN (KeepBut.refl w g none) _⟩
    rw [if_neg q] at h
    by_cases k : s0_8.size + takeN s0_7 a2 ≤ 9223372036854775807
    · rw [if_pos k] at h; simp only [Option.some.injEq, Prod.mk.injEq] at h; obtain ⟨rfl, rfl, rfl, rfl, rfl, rfl, rfl, rfl, rfl, rfl⟩ := h
      refine (take_in g 2 w (by omega) _ _ (cellS69_7 HG) (cellS69_8 HG) (blk_frozen HG 7) (blk_frozen HG 8) _ (by omega) k).mono ?_
      rintro e w' ⟨rfl, n, rfl⟩
      exact ⟨rfl, IsS69.set_8 (IsS69.set_7 (IsS69.drewN ⟨HG, hg⟩ n) _) _, below_set (below_set (pw_below_drewN hB _) hg) hg, KeepBut.set_ (KeepBut.set_ (keep_drewN (KeepBut.refl w g none) _) _ _) _ _⟩
    · rw [if_neg k] at h; cases h
  rw [if_neg h2] at h
  simp only [Option.some.injEq, Prod.mk.injEq] at h; obtain ⟨rfl, rfl, rfl, rfl, rfl, rfl, rfl, rfl, rfl, rfl⟩ := h
  refine (take_out g a1 w (by omega) _).mono ?_
  rintro e w' ⟨rfl, n, rfl⟩
  exact ⟨rfl, IsS69.drewN ⟨HG, hg⟩ n, pw_below_drewN hB _, keep_drewN (KeepBut.refl w g none) _⟩

/-! ### wire_Wire_Trace: function 21 -/
set_option maxHeartbeats 800000 in
set_option maxRecDepth 100000 in
theorem trace_in (g k : Nat) (w : World) (hk : k < 3) (x : ByteArray) (hc : w.cell? ⟨g, k * 3 + 2, none⟩ = some (.string x)) :
    Calls Try.prog 21 #[.pointer (some ⟨g, 0, none⟩), .int .i64 (k : Int)] w fun e w' => e = .returned (.string x) ∧ ∃ n, w' = w.drewN n := by
  have hu66 := Try.underlying66
  have A := at_in g k
  go_enter Try.func21, Try.ntmps21
  go_wp2_with (go_at_call 44; (with_reducible refine (A _ hk).mono ?_); rintro e w' ⟨rfl, ⟨nd, rfl⟩⟩)
  go_ret
  exact ⟨rfl, _, rfl⟩
set_option maxHeartbeats 800000 in
set_option maxRecDepth 100000 in
theorem trace_out (g : Nat) (a : Int) (w : World) (hk : ¬ (0 ≤ a ∧ a < 3)) :
    Calls Try.prog 21 #[.pointer (some ⟨g, 0, none⟩), .int .i64 a] w fun e w' => e = .returned (.string (⟨#[]⟩ : ByteArray)) ∧ ∃ n, w' = w.drewN n := by
  have A := at_out g a
  go_enter Try.func21, Try.ntmps21
  go_wp2_with (go_at_call 44; (with_reducible refine (A _ hk).mono ?_); rintro e w' ⟨rfl, ⟨nd, rfl⟩⟩)
  go_ret
  exact ⟨rfl, _, rfl⟩
set_option maxHeartbeats 800000 in
set_option maxRecDepth 100000 in
theorem trace_nil (a : Int) (w : World) :
    Calls Try.prog 21 #[.pointer none, .int .i64 a] w fun e w' => e = .returned (.string (⟨#[]⟩ : ByteArray)) ∧ ∃ n, w' = w.drewN n := by
  have A := at_nil a
  go_enter Try.func21, Try.ntmps21
  go_wp2_with (go_at_call 44; (with_reducible refine (A _).mono ?_); rintro e w' ⟨rfl, ⟨nd, rfl⟩⟩)
  go_ret
  exact ⟨rfl, _, rfl⟩
def wire_Wire_Trace.f (s0_0 : ByteArray) (s0_1 : ByteArray) (s0_2 : ByteArray) (s0_3 : ByteArray) (s0_4 : ByteArray) (s0_5 : ByteArray) (s0_6 : ByteArray) (s0_7 : ByteArray) (s0_8 : ByteArray) (a1 : Int) : Option (ByteArray × ByteArray × ByteArray × ByteArray × ByteArray × ByteArray × ByteArray × ByteArray × ByteArray × ByteArray) := if a1 = 0 then (some (s0_2, s0_0, s0_1, s0_2, s0_3, s0_4, s0_5, s0_6, s0_7, s0_8)) else (if a1 = 1 then (some (s0_5, s0_0, s0_1, s0_2, s0_3, s0_4, s0_5, s0_6, s0_7, s0_8)) else (if a1 = 2 then (some (s0_8, s0_0, s0_1, s0_2, s0_3, s0_4, s0_5, s0_6, s0_7, s0_8)) else (some ((⟨#[]⟩ : ByteArray), s0_0, s0_1, s0_2, s0_3, s0_4, s0_5, s0_6, s0_7, s0_8))))
theorem wire_Wire_Trace.calls (g : Nat) (s0_0 : ByteArray) (s0_1 : ByteArray) (s0_2 : ByteArray) (s0_3 : ByteArray) (s0_4 : ByteArray) (s0_5 : ByteArray) (s0_6 : ByteArray) (s0_7 : ByteArray) (s0_8 : ByteArray) (a1 : Int) (r1 : ByteArray) (r2 : ByteArray) (r3 : ByteArray) (r4 : ByteArray) (r5 : ByteArray) (r6 : ByteArray) (r7 : ByteArray) (r8 : ByteArray) (r9 : ByteArray) (r10 : ByteArray) (w0 w : World) (hI : IsS69 w0 w g s0_0 s0_1 s0_2 s0_3 s0_4 s0_5 s0_6 s0_7 s0_8) (hB : Below w0.heap.size w0 w) (h : wire_Wire_Trace.f s0_0 s0_1 s0_2 s0_3 s0_4 s0_5 s0_6 s0_7 s0_8 a1 = some (r1, r2, r3, r4, r5, r6, r7, r8, r9, r10)) :
    Calls Try.prog 21 #[.pointer (some ⟨g, 0, none⟩), .int .i64 a1] w fun e w' => e = .returned (.string r1) ∧ IsS69 w0 w' g r2 r3 r4 r5 r6 r7 r8 r9 r10 ∧ Below w0.heap.size w0 w' ∧ KeepBut w w' g none := by
  obtain ⟨HG, hg⟩ := hI
  unfold wire_Wire_Trace.f at h
  by_cases h0 : a1 = 0
  · subst h0; rw [if_pos rfl] at h
    simp only [Option.some.injEq, Prod.mk.injEq] at h; obtain ⟨rfl, rfl, rfl, rfl, rfl, rfl, rfl, rfl, rfl, rfl⟩ := h
    refine (trace_in g 0 w (by omega) _ (cellS69_2 HG)).mono ?_
    rintro e w' ⟨rfl, n, rfl⟩
    exact ⟨rfl, IsS69.drewN ⟨HG, hg⟩ n, pw_below_drewN hB _, keep_drewN (KeepBut.refl w g none) _⟩
  rw [if_neg h0] at h
  by_cases h1 : a1 = 1
  · subst h1; rw [if_pos rfl] at h
    simp only [Option.some.injEq, Prod.mk.injEq] at h; obtain ⟨rfl, rfl, rfl, rfl, rfl, rfl, rfl, rfl, rfl, rfl⟩ := h
    refine (trace_in g 1 w (by omega) _ (cellS69_5 HG)).mono ?_
    rintro e w' ⟨rfl, n, rfl⟩
    exact ⟨rfl, IsS69.drewN ⟨HG, hg⟩ n, pw_below_drewN hB _, keep_drewN (KeepBut.refl w g none) _⟩
  rw [if_neg h1] at h
  by_cases h2 : a1 = 2
  · subst h2; rw [if_pos rfl] at h
    simp only [Option.some.injEq, Prod.mk.injEq] at h; obtain ⟨rfl, rfl, rfl, rfl, rfl, rfl, rfl, rfl, rfl, rfl⟩ := h
    refine (trace_in g 2 w (by omega) _ (cellS69_8 HG)).mono ?_
    rintro e w' ⟨rfl, n, rfl⟩
    exact ⟨rfl, IsS69.drewN ⟨HG, hg⟩ n, pw_below_drewN hB _, keep_drewN (KeepBut.refl w g none) _⟩
  rw [if_neg h2] at h
  simp only [Option.some.injEq, Prod.mk.injEq] at h; obtain ⟨rfl, rfl, rfl, rfl, rfl, rfl, rfl, rfl, rfl, rfl⟩ := h
  refine (trace_out g a1 w (by omega)).mono ?_
  rintro e w' ⟨rfl, n, rfl⟩
  exact ⟨rfl, IsS69.drewN ⟨HG, hg⟩ n, pw_below_drewN hB _, keep_drewN (KeepBut.refl w g none) _⟩

/-! ### wire_Wire_All: function 22 -/
set_option maxHeartbeats 800000 in
set_option maxRecDepth 100000 in
theorem all_in (g k : Nat) (w : World) (hk : k < 3) (x y z : ByteArray) (hx : w.cell? ⟨g, k * 3, none⟩ = some (.string x)) (hy : w.cell? ⟨g, k * 3 + 1, none⟩ = some (.string y)) (hz : w.cell? ⟨g, k * 3 + 2, none⟩ = some (.string z))
    (h1 : z.size + y.size ≤ 9223372036854775807) (h2 : z.size + y.size + x.size ≤ 9223372036854775807) :
    Calls Try.prog 22 #[.pointer (some ⟨g, 0, none⟩), .int .i64 (k : Int)] w fun e w' => e = .returned (.string (z ++ y ++ x)) ∧ ∃ n, w' = w.drewN n := by
  have hu66 := Try.underlying66
  have A := at_in g k
  have b0 := eq_true h1
  have b1 : (9223372036854775807 < z.size + y.size) = False := eq_false (Nat.not_lt.2 h1)
  have b2 := eq_true h2
  have b3 : (9223372036854775807 < z.size + y.size + x.size) = False := eq_false (Nat.not_lt.2 h2)
  go_enter Try.func22, Try.ntmps22
  go_wp2_with (go_at_call 44; (with_reducible refine (A _ hk).mono ?_); rintro e w' ⟨rfl, ⟨nd, rfl⟩⟩)
  go_region
  go_wp2
  go_ret
  exact ⟨rfl, _, rfl⟩
set_option maxHeartbeats 800000 in
set_option maxRecDepth 100000 in
theorem all_out (g : Nat) (a : Int) (w : World) (hk : ¬ (0 ≤ a ∧ a < 3)) :
    Calls Try.prog 22 #[.pointer (some ⟨g, 0, none⟩), .int .i64 a] w fun e w' => e = .returned (.string (⟨#[]⟩ : ByteArray)) ∧ ∃ n, w' = w.drewN n := by
  have A := at_out g a
  go_enter Try.func22, Try.ntmps22
  go_wp2_with (go_at_call 44; (with_reducible refine (A _ hk).mono ?_); rintro e w' ⟨rfl, ⟨nd, rfl⟩⟩)
  go_ret
  exact ⟨rfl, _, rfl⟩
set_option maxHeartbeats 800000 in
set_option maxRecDepth 100000 in
theorem all_nil (a : Int) (w : World) :
    Calls Try.prog 22 #[.pointer none, .int .i64 a] w fun e w' => e = .returned (.string (⟨#[]⟩ : ByteArray)) ∧ ∃ n, w' = w.drewN n := by
  have A := at_nil a
  go_enter Try.func22, Try.ntmps22
  go_wp2_with (go_at_call 44; (with_reducible refine (A _).mono ?_); rintro e w' ⟨rfl, ⟨nd, rfl⟩⟩)
  go_ret
  exact ⟨rfl, _, rfl⟩
def wire_Wire_All.f (s0_0 : ByteArray) (s0_1 : ByteArray) (s0_2 : ByteArray) (s0_3 : ByteArray) (s0_4 : ByteArray) (s0_5 : ByteArray) (s0_6 : ByteArray) (s0_7 : ByteArray) (s0_8 : ByteArray) (a1 : Int) : Option (ByteArray × ByteArray × ByteArray × ByteArray × ByteArray × ByteArray × ByteArray × ByteArray × ByteArray × ByteArray) := if a1 = 0 then (if s0_2.size + s0_1.size + s0_0.size ≤ 9223372036854775807 then (some (s0_2 ++ s0_1 ++ s0_0, s0_0, s0_1, s0_2, s0_3, s0_4, s0_5, s0_6, s0_7, s0_8)) else none) else (if a1 = 1 then (if s0_5.size + s0_4.size + s0_3.size ≤ 9223372036854775807 then (some (s0_5 ++ s0_4 ++ s0_3, s0_0, s0_1, s0_2, s0_3, s0_4, s0_5, s0_6, s0_7, s0_8)) else none) else (if a1 = 2 then (if s0_8.size + s0_7.size + s0_6.size ≤ 9223372036854775807 then (some (s0_8 ++ s0_7 ++ s0_6, s0_0, s0_1, s0_2, s0_3, s0_4, s0_5, s0_6, s0_7, s0_8)) else none) else (some ((⟨#[]⟩ : ByteArray), s0_0, s0_1, s0_2, s0_3, s0_4, s0_5, s0_6, s0_7, s0_8))))
theorem wire_Wire_All.calls (g : Nat) (s0_0 : ByteArray) (s0_1 : ByteArray) (s0_2 : ByteArray) (s0_3 : ByteArray) (s0_4 : ByteArray) (s0_5 : ByteArray) (s0_6 : ByteArray) (s0_7 : ByteArray) (s0_8 : ByteArray) (a1 : Int) (r1 : ByteArray) (r2 : ByteArray) (r3 : ByteArray) (r4 : ByteArray) (r5 : ByteArray) (r6 : ByteArray) (r7 : ByteArray) (r8 : ByteArray) (r9 : ByteArray) (r10 : ByteArray) (w0 w : World) (hI : IsS69 w0 w g s0_0 s0_1 s0_2 s0_3 s0_4 s0_5 s0_6 s0_7 s0_8) (hB : Below w0.heap.size w0 w) (h : wire_Wire_All.f s0_0 s0_1 s0_2 s0_3 s0_4 s0_5 s0_6 s0_7 s0_8 a1 = some (r1, r2, r3, r4, r5, r6, r7, r8, r9, r10)) :
    Calls Try.prog 22 #[.pointer (some ⟨g, 0, none⟩), .int .i64 a1] w fun e w' => e = .returned (.string r1) ∧ IsS69 w0 w' g r2 r3 r4 r5 r6 r7 r8 r9 r10 ∧ Below w0.heap.size w0 w' ∧ KeepBut w w' g none := by
  obtain ⟨HG, hg⟩ := hI
  unfold wire_Wire_All.f at h
  by_cases h0 : a1 = 0
  · subst h0; rw [if_pos rfl] at h
    by_cases k : s0_2.size + s0_1.size + s0_0.size ≤ 9223372036854775807
    · rw [if_pos k] at h; simp only [Option.some.injEq, Prod.mk.injEq] at h; obtain ⟨rfl, rfl, rfl, rfl, rfl, rfl, rfl, rfl, rfl, rfl⟩ := h
      refine (all_in g 0 w (by omega) _ _ _ (cellS69_0 HG) (cellS69_1 HG) (cellS69_2 HG) (by omega) k).mono ?_
      rintro e w' ⟨rfl, n, rfl⟩
      exact ⟨rfl, IsS69.drewN ⟨HG, hg⟩ n, pw_below_drewN hB _, keep_drewN (KeepBut.refl w g none) _⟩
    · rw [if_neg k] at h; cases h
  rw [if_neg h0] at h
  by_cases h1 : a1 = 1
  · subst h1; rw [if_pos rfl] at h
    by_cases k : s0_5.size + s0_4.size + s0_3.size ≤ 9223372036854775807
    · rw [if_pos k] at h; simp only [Option.some.injEq, Prod.mk.injEq] at h; obtain ⟨rfl, rfl, rfl, rfl, rfl, rfl, rfl, rfl, rfl, rfl⟩ := h
      refine (all_in g 1 w (by omega) _ _ _ (cellS69_3 HG) (cellS69_4 HG) (cellS69_5 HG) (by omega) k).mono ?_
      rintro e w' ⟨rfl, n, rfl⟩
      exact ⟨rfl, IsS69.drewN ⟨HG, hg⟩ n, pw_below_drewN hB _, keep_drewN (KeepBut.refl w g none) _⟩
    · rw [if_neg k] at h; cases h
  rw [if_neg h1] at h
  by_cases h2 : a1 = 2
  · subst h2; rw [if_pos rfl] at h
    by_cases k : s0_8.size + s0_7.size + s0_6.size ≤ 9223372036854775807
    · rw [if_pos k] at h; simp only [Option.some.injEq, Prod.mk.injEq] at h; obtain ⟨rfl, rfl, rfl, rfl, rfl, rfl, rfl, rfl, rfl, rfl⟩ := h
      refine (all_in g 2 w (by omega) _ _ _ (cellS69_6 HG) (cellS69_7 HG) (cellS69_8 HG) (by omega) k).mono ?_
      rintro e w' ⟨rfl, n, rfl⟩
      exact ⟨rfl, IsS69.drewN ⟨HG, hg⟩ n, pw_below_drewN hB _, keep_drewN (KeepBut.refl w g none) _⟩
    · rw [if_neg k] at h; cases h
  rw [if_neg h2] at h
  simp only [Option.some.injEq, Prod.mk.injEq] at h; obtain ⟨rfl, rfl, rfl, rfl, rfl, rfl, rfl, rfl, rfl, rfl⟩ := h
  refine (all_out g a1 w (by omega)).mono ?_
  rintro e w' ⟨rfl, n, rfl⟩
  exact ⟨rfl, IsS69.drewN ⟨HG, hg⟩ n, pw_below_drewN hB _, keep_drewN (KeepBut.refl w g none) _⟩

/-! ### wire_Wire_Left: function 23 -/
def wire_Wire_Left.f (s0_0 : ByteArray) (s0_1 : ByteArray) (s0_2 : ByteArray) (s0_3 : ByteArray) (s0_4 : ByteArray) (s0_5 : ByteArray) (s0_6 : ByteArray) (s0_7 : ByteArray) (s0_8 : ByteArray) (a1 : Int) : Option (Int × ByteArray × ByteArray × ByteArray × ByteArray × ByteArray × ByteArray × ByteArray × ByteArray × ByteArray) := (wire_Wire_All.f s0_0 s0_1 s0_2 s0_3 s0_4 s0_5 s0_6 s0_7 s0_8 a1).bind fun bt102 => ((wire_Wire_Trace.f bt102.2.1 bt102.2.2.1 bt102.2.2.2.1 bt102.2.2.2.2.1 bt102.2.2.2.2.2.1 bt102.2.2.2.2.2.2.1 bt102.2.2.2.2.2.2.2.1 bt102.2.2.2.2.2.2.2.2.1 bt102.2.2.2.2.2.2.2.2.2 a1).bind fun bt112 => (some (wrap64 ((bt102.1.size : Int) - (bt112.1.size : Int)), bt112.2.1, bt112.2.2.1, bt112.2.2.2.1, bt112.2.2.2.2.1, bt112.2.2.2.2.2.1, bt112.2.2.2.2.2.2.1, bt112.2.2.2.2.2.2.2.1, bt112.2.2.2.2.2.2.2.2.1, bt112.2.2.2.2.2.2.2.2.2)))
set_option maxHeartbeats 8000000 in
set_option maxRecDepth 100000 in
theorem wire_Wire_Left.calls (g : Nat) (s0_0 : ByteArray) (s0_1 : ByteArray) (s0_2 : ByteArray) (s0_3 : ByteArray) (s0_4 : ByteArray) (s0_5 : ByteArray) (s0_6 : ByteArray) (s0_7 : ByteArray) (s0_8 : ByteArray) (a1 : Int) (r1 : Int) (r2 : ByteArray) (r3 : ByteArray) (r4 : ByteArray) (r5 : ByteArray) (r6 : ByteArray) (r7 : ByteArray) (r8 : ByteArray) (r9 : ByteArray) (r10 : ByteArray) (w0 w : World) (hI : IsS69 w0 w g s0_0 s0_1 s0_2 s0_3 s0_4 s0_5 s0_6 s0_7 s0_8) (hB : Below w0.heap.size w0 w) (h : wire_Wire_Left.f s0_0 s0_1 s0_2 s0_3 s0_4 s0_5 s0_6 s0_7 s0_8 a1 = some (r1, r2, r3, r4, r5, r6, r7, r8, r9, r10)) :
    Calls Try.prog 23 #[.pointer (some ⟨g, 0, none⟩), .int .i64 a1] w fun e w' => e = .returned (.int .i64 r1) ∧ IsS69 w0 w' g r2 r3 r4 r5 r6 r7 r8 r9 r10 ∧ Below w0.heap.size w0 w' ∧ KeepBut w w' g none := by
  have HI0 := Aside0.mk hI
  have HK := Aside0.mk (KeepBut.refl w g none)
  have HL := Aside0.mk hB.size
  clear hI
  have HW0 := Aside0.mk hB.size
  have HB := Aside0.mk hB
  clear hB
  have H : ((wire_Wire_All.f s0_0 s0_1 s0_2 s0_3 s0_4 s0_5 s0_6 s0_7 s0_8 a1).bind fun bt102 => ((wire_Wire_Trace.f bt102.2.1 bt102.2.2.1 bt102.2.2.2.1 bt102.2.2.2.2.1 bt102.2.2.2.2.2.1 bt102.2.2.2.2.2.2.1 bt102.2.2.2.2.2.2.2.1 bt102.2.2.2.2.2.2.2.2.1 bt102.2.2.2.2.2.2.2.2.2 a1).bind fun bt112 => (some (wrap64 ((bt102.1.size : Int) - (bt112.1.size : Int)), bt112.2.1, bt112.2.2.1, bt112.2.2.2.1, bt112.2.2.2.2.1, bt112.2.2.2.2.2.1, bt112.2.2.2.2.2.2.1, bt112.2.2.2.2.2.2.2.1, bt112.2.2.2.2.2.2.2.2.1, bt112.2.2.2.2.2.2.2.2.2)))) = some (r1, r2, r3, r4, r5, r6, r7, r8, r9, r10) := h
  clear h
  replace H := Option.bind_eq_some_iff.mp H
  obtain ⟨⟨t102, t103, t104, t105, t106, t107, t108, t109, t110, t111⟩, A30, H⟩ := H
  replace H : ((wire_Wire_Trace.f t103 t104 t105 t106 t107 t108 t109 t110 t111 a1).bind fun bt112 => (some (wrap64 ((t102.size : Int) - (bt112.1.size : Int)), bt112.2.1, bt112.2.2.1, bt112.2.2.2.1, bt112.2.2.2.2.1, bt112.2.2.2.2.2.1, bt112.2.2.2.2.2.2.1, bt112.2.2.2.2.2.2.2.1, bt112.2.2.2.2.2.2.2.2.1, bt112.2.2.2.2.2.2.2.2.2))) = some (r1, r2, r3, r4, r5, r6, r7, r8, r9, r10) := H
  have A3 := Aside0.mk A30
  clear A30
  replace H := Option.bind_eq_some_iff.mp H
  obtain ⟨⟨t112, t113, t114, t115, t116, t117, t118, t119, t120, t121⟩, A40, H⟩ := H
  replace H : (some (wrap64 ((t102.size : Int) - (t112.size : Int)), t113, t114, t115, t116, t117, t118, t119, t120, t121)) = some (r1, r2, r3, r4, r5, r6, r7, r8, r9, r10) := H
  have A4 := Aside0.mk A40
  clear A40
  simp only [Option.some.injEq, Prod.mk.injEq] at H
  obtain ⟨rfl, rfl, rfl, rfl, rfl, rfl, rfl, rfl, rfl, rfl⟩ := H
  go_enter Try.func23, Try.ntmps23
  go_wp2_with (first | ((with_reducible refine gate_callee (f := 22) rfl ?_); refine goesL_ (some 7) rfl rfl Try.func22 (by kernel_rfl) rfl #[.pointer (some ⟨g, 0, none⟩), .int .i64 a1] rfl (by (try simp only [List.map_toArray, List.map_cons, List.map_nil]); first | done | rfl | (simp only [List.length_drop, List.length_take]; rfl)) ?_; (with_reducible refine (wire_Wire_All.calls g s0_0 s0_1 s0_2 s0_3 s0_4 s0_5 s0_6 s0_7 s0_8 a1 t102 t103 t104 t105 t106 t107 t108 t109 t110 t111 w0 _ ?side1 ?side2 A3.out).mono ?_); (case side1 => repeat (first | (with_reducible first | exact HI0.out | apply IsS69.alloc | apply IsS69.drewN | apply IsS69.drew | apply IsS69.set_0 | apply IsS69.set_1 | apply IsS69.set_2 | apply IsS69.set_3 | apply IsS69.set_4 | apply IsS69.set_5 | apply IsS69.set_6 | apply IsS69.set_7 | apply IsS69.set_8) | exact HI0.out)); (case side2 => repeat (first | (with_reducible first | exact HB.out | apply below_alloc | apply pw_below_drewN | apply below_drew1 | refine below_set ?_ (IsS69.ge HI0.out)) | exact HB.out)); rintro e w5 ⟨rfl, hi, hb, hk⟩; refine ⟨_, rfl, ?_⟩; have n0_ := Aside0.mk (KeepBut.trans (by repeat (first | (with_reducible first | exact HK.out | apply KeepBut.set_ | apply keep_drewN | apply keep_drew | apply keep_alloc) | exact HK.out)) hk (.inl rfl)); have n1_ := Aside0.mk (hb); have n2_ := Aside0.mk (hi); clear HK; clear HB; clear HI0; have HK := n0_; have HB := n1_; have HI0 := n2_; clear n0_ n1_ n2_; (try clear hb); (try clear hb2); (try clear hk); (try clear hi)) | ((with_reducible refine gate_callee (f := 21) rfl ?_); refine goesL_ (some 11) rfl rfl Try.func21 (by kernel_rfl) rfl #[.pointer (some ⟨g, 0, none⟩), .int .i64 a1] rfl (by (try simp only [List.map_toArray, List.map_cons, List.map_nil]); first | done | rfl | (simp only [List.length_drop, List.length_take]; rfl)) ?_; (with_reducible refine (wire_Wire_Trace.calls g t103 t104 t105 t106 t107 t108 t109 t110 t111 a1 t112 t113 t114 t115 t116 t117 t118 t119 t120 t121 w0 _ ?side1 ?side2 A4.out).mono ?_); (case side1 => repeat (first | (with_reducible first | exact HI0.out | apply IsS69.alloc | apply IsS69.drewN | apply IsS69.drew | apply IsS69.set_0 | apply IsS69.set_1 | apply IsS69.set_2 | apply IsS69.set_3 | apply IsS69.set_4 | apply IsS69.set_5 | apply IsS69.set_6 | apply IsS69.set_7 | apply IsS69.set_8) | exact HI0.out)); (case side2 => repeat (first | (with_reducible first | exact HB.out | apply below_alloc | apply pw_below_drewN | apply below_drew1 | refine below_set ?_ (IsS69.ge HI0.out)) | exact HB.out)); rintro e w6 ⟨rfl, hi, hb, hk⟩; refine ⟨_, rfl, ?_⟩; have n0_ := Aside0.mk (KeepBut.trans (by repeat (first | (with_reducible first | exact HK.out | apply KeepBut.set_ | apply keep_drewN | apply keep_drew | apply keep_alloc) | exact HK.out)) hk (.inl rfl)); have n1_ := Aside0.mk (hb); have n2_ := Aside0.mk (hi); clear HK; clear HB; clear HI0; have HK := n0_; have HB := n1_; have HI0 := n2_; clear n0_ n1_ n2_; (try clear hb); (try clear hb2); (try clear hk); (try clear hi)))
  go_ret
  exact ⟨by first | rfl | (simp [errW_none, errW_some] <;> rfl) | (simp [*, errW_none, errW_some] <;> rfl), by repeat (first | (with_reducible first | exact HI0.out | apply IsS69.alloc | apply IsS69.drewN | apply IsS69.drew | apply IsS69.set_0 | apply IsS69.set_1 | apply IsS69.set_2 | apply IsS69.set_3 | apply IsS69.set_4 | apply IsS69.set_5 | apply IsS69.set_6 | apply IsS69.set_7 | apply IsS69.set_8) | exact HI0.out), by repeat (first | (with_reducible first | exact HB.out | apply below_alloc | apply pw_below_drewN | apply below_drew1 | refine below_set ?_ (IsS69.ge HI0.out)) | exact HB.out), by repeat (first | (with_reducible first | exact HK.out | apply KeepBut.set_ | apply keep_drewN | apply keep_drew | apply keep_alloc) | exact HK.out)⟩

/-! ### countermandlaw06_alive: function 14 -/
def countermandlaw06_alive.f  : Option (Bool) := (wire_New.f).bind fun bt122 => ((wire_Wire_Push.f bt122.1 bt122.2.1 bt122.2.2.1 bt122.2.2.2.1 bt122.2.2.2.2.1 bt122.2.2.2.2.2.1 bt122.2.2.2.2.2.2.1 bt122.2.2.2.2.2.2.2.1 bt122.2.2.2.2.2.2.2.2 0 (⟨#[48, 49, 50, 51, 52, 53, 54, 55, 56, 57]⟩ : ByteArray)).bind fun bt132 => (if bt132.1 = true then ((wire_Wire_Pump.f bt132.2.1 bt132.2.2.1 bt132.2.2.2.1 bt132.2.2.2.2.1 bt132.2.2.2.2.2.1 bt132.2.2.2.2.2.2.1 bt132.2.2.2.2.2.2.2.1 bt132.2.2.2.2.2.2.2.2.1 bt132.2.2.2.2.2.2.2.2.2 0).bind fun bt142 => (if bt142.1 = 8 then ((wire_Wire_Take.f bt142.2.1 bt142.2.2.1 bt142.2.2.2.1 bt142.2.2.2.2.1 bt142.2.2.2.2.2.1 bt142.2.2.2.2.2.2.1 bt142.2.2.2.2.2.2.2.1 bt142.2.2.2.2.2.2.2.2.1 bt142.2.2.2.2.2.2.2.2.2 0 3).bind fun bt152 => (if bt152.1.toList = ([48, 49, 50] : List UInt8) then ((wire_Wire_Left.f bt152.2.1 bt152.2.2.1 bt152.2.2.2.1 bt152.2.2.2.2.1 bt152.2.2.2.2.2.1 bt152.2.2.2.2.2.2.1 bt152.2.2.2.2.2.2.2.1 bt152.2.2.2.2.2.2.2.2.1 bt152.2.2.2.2.2.2.2.2.2 0).bind fun bt162 => (some (bt162.1 == 7))) else (some false))) else (some false))) else (some false)))
set_option maxHeartbeats 8000000 in
set_option maxRecDepth 100000 in
theorem countermandlaw06_alive.calls  (r : Bool) (w : World) (h : countermandlaw06_alive.f  = some r) :
    Calls Try.prog 14 #[] w fun e w' => e = .returned (.bool r) ∧ Below w.heap.size w w' := by
  have HB := Aside0.mk (Below.refl w.heap.size w)
  have H : ((wire_New.f).bind fun bt122 => ((wire_Wire_Push.f bt122.1 bt122.2.1 bt122.2.2.1 bt122.2.2.2.1 bt122.2.2.2.2.1 bt122.2.2.2.2.2.1 bt122.2.2.2.2.2.2.1 bt122.2.2.2.2.2.2.2.1 bt122.2.2.2.2.2.2.2.2 0 (⟨#[48, 49, 50, 51, 52, 53, 54, 55, 56, 57]⟩ : ByteArray)).bind fun bt132 => (if bt132.1 = true then ((wire_Wire_Pump.f bt132.2.1 bt132.2.2.1 bt132.2.2.2.1 bt132.2.2.2.2.1 bt132.2.2.2.2.2.1 bt132.2.2.2.2.2.2.1 bt132.2.2.2.2.2.2.2.1 bt132.2.2.2.2.2.2.2.2.1 bt132.2.2.2.2.2.2.2.2.2 0).bind fun bt142 => (if bt142.1 = 8 then ((wire_Wire_Take.f bt142.2.1 bt142.2.2.1 bt142.2.2.2.1 bt142.2.2.2.2.1 bt142.2.2.2.2.2.1 bt142.2.2.2.2.2.2.1 bt142.2.2.2.2.2.2.2.1 bt142.2.2.2.2.2.2.2.2.1 bt142.2.2.2.2.2.2.2.2.2 0 3).bind fun bt152 => (if bt152.1.toList = ([48, 49, 50] : List UInt8) then ((wire_Wire_Left.f bt152.2.1 bt152.2.2.1 bt152.2.2.2.1 bt152.2.2.2.2.1 bt152.2.2.2.2.2.1 bt152.2.2.2.2.2.2.1 bt152.2.2.2.2.2.2.2.1 bt152.2.2.2.2.2.2.2.2.1 bt152.2.2.2.2.2.2.2.2.2 0).bind fun bt162 => (some (bt162.1 == 7))) else (some false))) else (some false))) else (some false)))) = some r := h
  clear h
  replace H := Option.bind_eq_some_iff.mp H
  obtain ⟨⟨t122, t123, t124, t125, t126, t127, t128, t129, t130⟩, A10, H⟩ := H
  replace H : ((wire_Wire_Push.f t122 t123 t124 t125 t126 t127 t128 t129 t130 0 (⟨#[48, 49, 50, 51, 52, 53, 54, 55, 56, 57]⟩ : ByteArray)).bind fun bt132 => (if bt132.1 = true then ((wire_Wire_Pump.f bt132.2.1 bt132.2.2.1 bt132.2.2.2.1 bt132.2.2.2.2.1 bt132.2.2.2.2.2.1 bt132.2.2.2.2.2.2.1 bt132.2.2.2.2.2.2.2.1 bt132.2.2.2.2.2.2.2.2.1 bt132.2.2.2.2.2.2.2.2.2 0).bind fun bt142 => (if bt142.1 = 8 then ((wire_Wire_Take.f bt142.2.1 bt142.2.2.1 bt142.2.2.2.1 bt142.2.2.2.2.1 bt142.2.2.2.2.2.1 bt142.2.2.2.2.2.2.1 bt142.2.2.2.2.2.2.2.1 bt142.2.2.2.2.2.2.2.2.1 bt142.2.2.2.2.2.2.2.2.2 0 3).bind fun bt152 => (if bt152.1.toList = ([48, 49, 50] : List UInt8) then ((wire_Wire_Left.f bt152.2.1 bt152.2.2.1 bt152.2.2.2.1 bt152.2.2.2.2.1 bt152.2.2.2.2.2.1 bt152.2.2.2.2.2.2.1 bt152.2.2.2.2.2.2.2.1 bt152.2.2.2.2.2.2.2.2.1 bt152.2.2.2.2.2.2.2.2.2 0).bind fun bt162 => (some (bt162.1 == 7))) else (some false))) else (some false))) else (some false))) = some r := H
  have A1 := Aside0.mk A10
  clear A10
  replace H := Option.bind_eq_some_iff.mp H
  obtain ⟨⟨t132, t133, t134, t135, t136, t137, t138, t139, t140, t141⟩, A20, H⟩ := H
  replace H : (if t132 = true then ((wire_Wire_Pump.f t133 t134 t135 t136 t137 t138 t139 t140 t141 0).bind fun bt142 => (if bt142.1 = 8 then ((wire_Wire_Take.f bt142.2.1 bt142.2.2.1 bt142.2.2.2.1 bt142.2.2.2.2.1 bt142.2.2.2.2.2.1 bt142.2.2.2.2.2.2.1 bt142.2.2.2.2.2.2.2.1 bt142.2.2.2.2.2.2.2.2.1 bt142.2.2.2.2.2.2.2.2.2 0 3).bind fun bt152 => (if bt152.1.toList = ([48, 49, 50] : List UInt8) then ((wire_Wire_Left.f bt152.2.1 bt152.2.2.1 bt152.2.2.2.1 bt152.2.2.2.2.1 bt152.2.2.2.2.2.1 bt152.2.2.2.2.2.2.1 bt152.2.2.2.2.2.2.2.1 bt152.2.2.2.2.2.2.2.2.1 bt152.2.2.2.2.2.2.2.2.2 0).bind fun bt162 => (some (bt162.1 == 7))) else (some false))) else (some false))) else (some false)) = some r := H
  have A2 := Aside0.mk A20
  clear A20
  by_cases c3 : t132 = true
  · subst c3
    have H1 : ((wire_Wire_Pump.f t133 t134 t135 t136 t137 t138 t139 t140 t141 0).bind fun bt142 => (if bt142.1 = 8 then ((wire_Wire_Take.f bt142.2.1 bt142.2.2.1 bt142.2.2.2.1 bt142.2.2.2.2.1 bt142.2.2.2.2.2.1 bt142.2.2.2.2.2.2.1 bt142.2.2.2.2.2.2.2.1 bt142.2.2.2.2.2.2.2.2.1 bt142.2.2.2.2.2.2.2.2.2 0 3).bind fun bt152 => (if bt152.1.toList = ([48, 49, 50] : List UInt8) then ((wire_Wire_Left.f bt152.2.1 bt152.2.2.1 bt152.2.2.2.1 bt152.2.2.2.2.1 bt152.2.2.2.2.2.1 bt152.2.2.2.2.2.2.1 bt152.2.2.2.2.2.2.2.1 bt152.2.2.2.2.2.2.2.2.1 bt152.2.2.2.2.2.2.2.2.2 0).bind fun bt162 => (some (bt162.1 == 7))) else (some false))) else (some false))) = some r := by rw [if_pos rfl] at H; exact H
    clear H
    have H := H1
    clear H1
    replace H := Option.bind_eq_some_iff.mp H
    obtain ⟨⟨t142, t143, t144, t145, t146, t147, t148, t149, t150, t151⟩, A40, H⟩ := H
    replace H : (if t142 = 8 then ((wire_Wire_Take.f t143 t144 t145 t146 t147 t148 t149 t150 t151 0 3).bind fun bt152 => (if bt152.1.toList = ([48, 49, 50] : List UInt8) then ((wire_Wire_Left.f bt152.2.1 bt152.2.2.1 bt152.2.2.2.1 bt152.2.2.2.2.1 bt152.2.2.2.2.2.1 bt152.2.2.2.2.2.2.1 bt152.2.2.2.2.2.2.2.1 bt152.2.2.2.2.2.2.2.2.1 bt152.2.2.2.2.2.2.2.2.2 0).bind fun bt162 => (some (bt162.1 == 7))) else (some false))) else (some false)) = some r := H
    have A4 := Aside0.mk A40
    clear A40
    by_cases c5 : t142 = 8
    · rw [if_pos c5] at H
      have c5b0 : (t142 == 8) = true := beq_iff_eq.mpr c5
      have c5b1 : (t142 != 8) = false := bne_eq_false_iff_eq.mpr c5
      clear c5
      replace H := Option.bind_eq_some_iff.mp H
      obtain ⟨⟨t152, t153, t154, t155, t156, t157, t158, t159, t160, t161⟩, A60, H⟩ := H
      replace H : (if t152.toList = ([48, 49, 50] : List UInt8) then ((wire_Wire_Left.f t153 t154 t155 t156 t157 t158 t159 t160 t161 0).bind fun bt162 => (some (bt162.1 == 7))) else (some false)) = some r := H
      have A6 := Aside0.mk A60
      clear A60
      by_cases c7 : t152.toList = ([48, 49, 50] : List UInt8)
      · rw [if_pos c7] at H
        have c7b0 : (t152.toList == ([48, 49, 50] : List UInt8)) = true := beq_iff_eq.mpr c7
        have c7b1 : (t152.toList != ([48, 49, 50] : List UInt8)) = false := bne_eq_false_iff_eq.mpr c7
        clear c7
        replace H := Option.bind_eq_some_iff.mp H
        obtain ⟨⟨t162, t163, t164, t165, t166, t167, t168, t169, t170, t171⟩, A80, H⟩ := H
        replace H : (some (t162 == 7)) = some r := H
        have A8 := Aside0.mk A80
        clear A80
        obtain rfl := Option.some.inj H
        simp only [Option.some.injEq, Prod.mk.injEq] at H
        obtain ⟨rfl⟩ := H
        go_enter Try.func14, Try.ntmps14
        go_wp2_with (first | ((with_reducible refine gate_callee (f := 17) rfl ?_); refine goesL_ (some 2) rfl rfl Try.func17 (by kernel_rfl) rfl #[] rfl (by (try simp only [List.map_toArray, List.map_cons, List.map_nil]); first | done | rfl | (simp only [List.length_drop, List.length_take]; rfl)) ?_; (with_reducible refine (wire_New.calls  t122 t123 t124 t125 t126 t127 t128 t129 t130 w _ ?side1 A1.out).mono ?_); (case side1 => repeat (first | (with_reducible first | exact HB.out | apply below_alloc | apply pw_below_drewN | apply below_drew1) | exact HB.out)); rintro e w9 ⟨g131, rfl, hi, hb, hb2⟩; refine ⟨_, rfl, ?_⟩; have n0_ := Aside0.mk (hb); have n1_ := Aside0.mk (hi); clear HB; have HB := n0_; have HI131 := n1_; clear n0_ n1_; (try clear hb); (try clear hb2); (try clear hk); (try clear hi)) | ((with_reducible refine gate_callee (f := 18) rfl ?_); refine goesL_ (some 4) rfl rfl Try.func18 (by kernel_rfl) rfl #[.pointer (some ⟨g131, 0, none⟩), .int .i64 0, .string (⟨#[48, 49, 50, 51, 52, 53, 54, 55, 56, 57]⟩ : ByteArray)] rfl (by (try simp only [List.map_toArray, List.map_cons, List.map_nil]); first | done | rfl | (simp only [List.length_drop, List.length_take]; rfl)) ?_; (with_reducible refine (wire_Wire_Push.calls g131 t122 t123 t124 t125 t126 t127 t128 t129 t130 0 (⟨#[48, 49, 50, 51, 52, 53, 54, 55, 56, 57]⟩ : ByteArray) true t133 t134 t135 t136 t137 t138 t139 t140 t141 w _ ?side1 ?side2 A2.out).mono ?_); (case side1 => repeat (first | (with_reducible first | exact HI131.out | apply IsS69.alloc | apply IsS69.drewN | apply IsS69.drew | apply IsS69.set_0 | apply IsS69.set_1 | apply IsS69.set_2 | apply IsS69.set_3 | apply IsS69.set_4 | apply IsS69.set_5 | apply IsS69.set_6 | apply IsS69.set_7 | apply IsS69.set_8) | exact HI131.out)); (case side2 => repeat (first | (with_reducible first | exact HB.out | apply below_alloc | apply pw_below_drewN | apply below_drew1 | refine below_set ?_ (IsS69.ge HI131.out)) | exact HB.out)); rintro e w10 ⟨rfl, hi, hb, hk⟩; refine ⟨_, rfl, ?_⟩; have n0_ := Aside0.mk (hb); have n1_ := Aside0.mk (hi); clear HB; clear HI131; have HB := n0_; have HI131 := n1_; clear n0_ n1_; (try clear hb); (try clear hb2); (try clear hk); (try clear hi)) | (go_at_call 19; (with_reducible refine (wire_Wire_Pump.calls g131 t133 t134 t135 t136 t137 t138 t139 t140 t141 0 t142 t143 t144 t145 t146 t147 t148 t149 t150 t151 w _ ?side1 ?side2 A4.out).mono ?_); (case side1 => repeat (first | (with_reducible first | exact HI131.out | apply IsS69.alloc | apply IsS69.drewN | apply IsS69.drew | apply IsS69.set_0 | apply IsS69.set_1 | apply IsS69.set_2 | apply IsS69.set_3 | apply IsS69.set_4 | apply IsS69.set_5 | apply IsS69.set_6 | apply IsS69.set_7 | apply IsS69.set_8) | exact HI131.out)); (case side2 => repeat (first | (with_reducible first | exact HB.out | apply below_alloc | apply pw_below_drewN | apply below_drew1 | refine below_set ?_ (IsS69.ge HI131.out)) | exact HB.out)); rintro e w11 ⟨rfl, hi, hb, hk⟩; have n0_ := Aside0.mk (hb); have n1_ := Aside0.mk (hi); clear HB; clear HI131; have HB := n0_; have HI131 := n1_; clear n0_ n1_; (try clear hb); (try clear hb2); (try clear hk); (try clear hi)) | (go_at_call 20; (with_reducible refine (wire_Wire_Take.calls g131 t143 t144 t145 t146 t147 t148 t149 t150 t151 0 3 t152 t153 t154 t155 t156 t157 t158 t159 t160 t161 w _ ?side1 ?side2 A6.out).mono ?_); (case side1 => repeat (first | (with_reducible first | exact HI131.out | apply IsS69.alloc | apply IsS69.drewN | apply IsS69.drew | apply IsS69.set_0 | apply IsS69.set_1 | apply IsS69.set_2 | apply IsS69.set_3 | apply IsS69.set_4 | apply IsS69.set_5 | apply IsS69.set_6 | apply IsS69.set_7 | apply IsS69.set_8) | exact HI131.out)); (case side2 => repeat (first | (with_reducible first | exact HB.out | apply below_alloc | apply pw_below_drewN | apply below_drew1 | refine below_set ?_ (IsS69.ge HI131.out)) | exact HB.out)); rintro e w12 ⟨rfl, hi, hb, hk⟩; have n0_ := Aside0.mk (hb); have n1_ := Aside0.mk (hi); clear HB; clear HI131; have HB := n0_; have HI131 := n1_; clear n0_ n1_; (try clear hb); (try clear hb2); (try clear hk); (try clear hi)) | (go_at_call 23; (with_reducible refine (wire_Wire_Left.calls g131 t153 t154 t155 t156 t157 t158 t159 t160 t161 0 t162 t163 t164 t165 t166 t167 t168 t169 t170 t171 w _ ?side1 ?side2 A8.out).mono ?_); (case side1 => repeat (first | (with_reducible first | exact HI131.out | apply IsS69.alloc | apply IsS69.drewN | apply IsS69.drew | apply IsS69.set_0 | apply IsS69.set_1 | apply IsS69.set_2 | apply IsS69.set_3 | apply IsS69.set_4 | apply IsS69.set_5 | apply IsS69.set_6 | apply IsS69.set_7 | apply IsS69.set_8) | exact HI131.out)); (case side2 => repeat (first | (with_reducible first | exact HB.out | apply below_alloc | apply pw_below_drewN | apply below_drew1 | refine below_set ?_ (IsS69.ge HI131.out)) | exact HB.out)); rintro e w13 ⟨rfl, hi, hb, hk⟩; have n0_ := Aside0.mk (hb); have n1_ := Aside0.mk (hi); clear HB; clear HI131; have HB := n0_; have HI131 := n1_; clear n0_ n1_; (try clear hb); (try clear hb2); (try clear hk); (try clear hi)))
        go_ret
        exact ⟨by first | rfl | (simp [errW_none, errW_some] <;> rfl) | (simp [*, errW_none, errW_some] <;> rfl), by repeat (first | (with_reducible first | exact HB.out | apply below_alloc | apply pw_below_drewN | apply below_drew1 | refine below_set ?_ (IsS69.ge HI131.out)) | exact HB.out)⟩
      · rw [if_neg c7] at H
        have c7b0 : (t152.toList == ([48, 49, 50] : List UInt8)) = false := beq_eq_false_iff_ne.mpr c7
        have c7b1 : (t152.toList != ([48, 49, 50] : List UInt8)) = true := bne_iff_ne.mpr c7
        obtain rfl := Option.some.inj H
        simp only [Option.some.injEq, Prod.mk.injEq] at H
        obtain ⟨rfl⟩ := H
        go_enter Try.func14, Try.ntmps14
        go_wp2_with (first | ((with_reducible refine gate_callee (f := 17) rfl ?_); refine goesL_ (some 2) rfl rfl Try.func17 (by kernel_rfl) rfl #[] rfl (by (try simp only [List.map_toArray, List.map_cons, List.map_nil]); first | done | rfl | (simp only [List.length_drop, List.length_take]; rfl)) ?_; (with_reducible refine (wire_New.calls  t122 t123 t124 t125 t126 t127 t128 t129 t130 w _ ?side1 A1.out).mono ?_); (case side1 => repeat (first | (with_reducible first | exact HB.out | apply below_alloc | apply pw_below_drewN | apply below_drew1) | exact HB.out)); rintro e w14 ⟨g131, rfl, hi, hb, hb2⟩; refine ⟨_, rfl, ?_⟩; have n0_ := Aside0.mk (hb); have n1_ := Aside0.mk (hi); clear HB; have HB := n0_; have HI131 := n1_; clear n0_ n1_; (try clear hb); (try clear hb2); (try clear hk); (try clear hi)) | ((with_reducible refine gate_callee (f := 18) rfl ?_); refine goesL_ (some 4) rfl rfl Try.func18 (by kernel_rfl) rfl #[.pointer (some ⟨g131, 0, none⟩), .int .i64 0, .string (⟨#[48, 49, 50, 51, 52, 53, 54, 55, 56, 57]⟩ : ByteArray)] rfl (by (try simp only [List.map_toArray, List.map_cons, List.map_nil]); first | done | rfl | (simp only [List.length_drop, List.length_take]; rfl)) ?_; (with_reducible refine (wire_Wire_Push.calls g131 t122 t123 t124 t125 t126 t127 t128 t129 t130 0 (⟨#[48, 49, 50, 51, 52, 53, 54, 55, 56, 57]⟩ : ByteArray) true t133 t134 t135 t136 t137 t138 t139 t140 t141 w _ ?side1 ?side2 A2.out).mono ?_); (case side1 => repeat (first | (with_reducible first | exact HI131.out | apply IsS69.alloc | apply IsS69.drewN | apply IsS69.drew | apply IsS69.set_0 | apply IsS69.set_1 | apply IsS69.set_2 | apply IsS69.set_3 | apply IsS69.set_4 | apply IsS69.set_5 | apply IsS69.set_6 | apply IsS69.set_7 | apply IsS69.set_8) | exact HI131.out)); (case side2 => repeat (first | (with_reducible first | exact HB.out | apply below_alloc | apply pw_below_drewN | apply below_drew1 | refine below_set ?_ (IsS69.ge HI131.out)) | exact HB.out)); rintro e w15 ⟨rfl, hi, hb, hk⟩; refine ⟨_, rfl, ?_⟩; have n0_ := Aside0.mk (hb); have n1_ := Aside0.mk (hi); clear HB; clear HI131; have HB := n0_; have HI131 := n1_; clear n0_ n1_; (try clear hb); (try clear hb2); (try clear hk); (try clear hi)) | (go_at_call 19; (with_reducible refine (wire_Wire_Pump.calls g131 t133 t134 t135 t136 t137 t138 t139 t140 t141 0 t142 t143 t144 t145 t146 t147 t148 t149 t150 t151 w _ ?side1 ?side2 A4.out).mono ?_); (case side1 => repeat (first | (with_reducible first | exact HI131.out | apply IsS69.alloc | apply IsS69.drewN | apply IsS69.drew | apply IsS69.set_0 | apply IsS69.set_1 | apply IsS69.set_2 | apply IsS69.set_3 | apply IsS69.set_4 | apply IsS69.set_5 | apply IsS69.set_6 | apply IsS69.set_7 | apply IsS69.set_8) | exact HI131.out)); (case side2 => repeat (first | (with_reducible first | exact HB.out | apply below_alloc | apply pw_below_drewN | apply below_drew1 | refine below_set ?_ (IsS69.ge HI131.out)) | exact HB.out)); rintro e w16 ⟨rfl, hi, hb, hk⟩; have n0_ := Aside0.mk (hb); have n1_ := Aside0.mk (hi); clear HB; clear HI131; have HB := n0_; have HI131 := n1_; clear n0_ n1_; (try clear hb); (try clear hb2); (try clear hk); (try clear hi)) | (go_at_call 20; (with_reducible refine (wire_Wire_Take.calls g131 t143 t144 t145 t146 t147 t148 t149 t150 t151 0 3 t152 t153 t154 t155 t156 t157 t158 t159 t160 t161 w _ ?side1 ?side2 A6.out).mono ?_); (case side1 => repeat (first | (with_reducible first | exact HI131.out | apply IsS69.alloc | apply IsS69.drewN | apply IsS69.drew | apply IsS69.set_0 | apply IsS69.set_1 | apply IsS69.set_2 | apply IsS69.set_3 | apply IsS69.set_4 | apply IsS69.set_5 | apply IsS69.set_6 | apply IsS69.set_7 | apply IsS69.set_8) | exact HI131.out)); (case side2 => repeat (first | (with_reducible first | exact HB.out | apply below_alloc | apply pw_below_drewN | apply below_drew1 | refine below_set ?_ (IsS69.ge HI131.out)) | exact HB.out)); rintro e w17 ⟨rfl, hi, hb, hk⟩; have n0_ := Aside0.mk (hb); have n1_ := Aside0.mk (hi); clear HB; clear HI131; have HB := n0_; have HI131 := n1_; clear n0_ n1_; (try clear hb); (try clear hb2); (try clear hk); (try clear hi)))
        go_ret
        exact ⟨by first | rfl | (simp [errW_none, errW_some] <;> rfl) | (simp [*, errW_none, errW_some] <;> rfl), by repeat (first | (with_reducible first | exact HB.out | apply below_alloc | apply pw_below_drewN | apply below_drew1 | refine below_set ?_ (IsS69.ge HI131.out)) | exact HB.out)⟩
    · rw [if_neg c5] at H
      have c5b0 : (t142 == 8) = false := beq_eq_false_iff_ne.mpr c5
      have c5b1 : (t142 != 8) = true := bne_iff_ne.mpr c5
      obtain rfl := Option.some.inj H
      simp only [Option.some.injEq, Prod.mk.injEq] at H
      obtain ⟨rfl⟩ := H
      go_enter Try.func14, Try.ntmps14
      go_wp2_with (first | ((with_reducible refine gate_callee (f := 17) rfl ?_); refine goesL_ (some 2) rfl rfl Try.func17 (by kernel_rfl) rfl #[] rfl (by (try simp only [List.map_toArray, List.map_cons, List.map_nil]); first | done | rfl | (simp only [List.length_drop, List.length_take]; rfl)) ?_; (with_reducible refine (wire_New.calls  t122 t123 t124 t125 t126 t127 t128 t129 t130 w _ ?side1 A1.out).mono ?_); (case side1 => repeat (first | (with_reducible first | exact HB.out | apply below_alloc | apply pw_below_drewN | apply below_drew1) | exact HB.out)); rintro e w18 ⟨g131, rfl, hi, hb, hb2⟩; refine ⟨_, rfl, ?_⟩; have n0_ := Aside0.mk (hb); have n1_ := Aside0.mk (hi); clear HB; have HB := n0_; have HI131 := n1_; clear n0_ n1_; (try clear hb); (try clear hb2); (try clear hk); (try clear hi)) | ((with_reducible refine gate_callee (f := 18) rfl ?_); refine goesL_ (some 4) rfl rfl Try.func18 (by kernel_rfl) rfl #[.pointer (some ⟨g131, 0, none⟩), .int .i64 0, .string (⟨#[48, 49, 50, 51, 52, 53, 54, 55, 56, 57]⟩ : ByteArray)] rfl (by (try simp only [List.map_toArray, List.map_cons, List.map_nil]); first | done | rfl | (simp only [List.length_drop, List.length_take]; rfl)) ?_; (with_reducible refine (wire_Wire_Push.calls g131 t122 t123 t124 t125 t126 t127 t128 t129 t130 0 (⟨#[48, 49, 50, 51, 52, 53, 54, 55, 56, 57]⟩ : ByteArray) true t133 t134 t135 t136 t137 t138 t139 t140 t141 w _ ?side1 ?side2 A2.out).mono ?_); (case side1 => repeat (first | (with_reducible first | exact HI131.out | apply IsS69.alloc | apply IsS69.drewN | apply IsS69.drew | apply IsS69.set_0 | apply IsS69.set_1 | apply IsS69.set_2 | apply IsS69.set_3 | apply IsS69.set_4 | apply IsS69.set_5 | apply IsS69.set_6 | apply IsS69.set_7 | apply IsS69.set_8) | exact HI131.out)); (case side2 => repeat (first | (with_reducible first | exact HB.out | apply below_alloc | apply pw_below_drewN | apply below_drew1 | refine below_set ?_ (IsS69.ge HI131.out)) | exact HB.out)); rintro e w19 ⟨rfl, hi, hb, hk⟩; refine ⟨_, rfl, ?_⟩; have n0_ := Aside0.mk (hb); have n1_ := Aside0.mk (hi); clear HB; clear HI131; have HB := n0_; have HI131 := n1_; clear n0_ n1_; (try clear hb); (try clear hb2); (try clear hk); (try clear hi)) | (go_at_call 19; (with_reducible refine (wire_Wire_Pump.calls g131 t133 t134 t135 t136 t137 t138 t139 t140 t141 0 t142 t143 t144 t145 t146 t147 t148 t149 t150 t151 w _ ?side1 ?side2 A4.out).mono ?_); (case side1 => repeat (first | (with_reducible first | exact HI131.out | apply IsS69.alloc | apply IsS69.drewN | apply IsS69.drew | apply IsS69.set_0 | apply IsS69.set_1 | apply IsS69.set_2 | apply IsS69.set_3 | apply IsS69.set_4 | apply IsS69.set_5 | apply IsS69.set_6 | apply IsS69.set_7 | apply IsS69.set_8) | exact HI131.out)); (case side2 => repeat (first | (with_reducible first | exact HB.out | apply below_alloc | apply pw_below_drewN | apply below_drew1 | refine below_set ?_ (IsS69.ge HI131.out)) | exact HB.out)); rintro e w20 ⟨rfl, hi, hb, hk⟩; have n0_ := Aside0.mk (hb); have n1_ := Aside0.mk (hi); clear HB; clear HI131; have HB := n0_; have HI131 := n1_; clear n0_ n1_; (try clear hb); (try clear hb2); (try clear hk); (try clear hi)))
      go_ret
      exact ⟨by first | rfl | (simp [errW_none, errW_some] <;> rfl) | (simp [*, errW_none, errW_some] <;> rfl), by repeat (first | (with_reducible first | exact HB.out | apply below_alloc | apply pw_below_drewN | apply below_drew1 | refine below_set ?_ (IsS69.ge HI131.out)) | exact HB.out)⟩
  · replace c3 := Bool.eq_false_iff.mpr c3
    subst c3
    have H1 : (some false) = some r := by rw [if_neg (show ¬ (false = true) by decide)] at H; exact H
    clear H
    have H := H1
    clear H1
    obtain rfl := Option.some.inj H
    simp only [Option.some.injEq, Prod.mk.injEq] at H
    obtain ⟨rfl⟩ := H
    go_enter Try.func14, Try.ntmps14
    go_wp2_with (first | ((with_reducible refine gate_callee (f := 17) rfl ?_); refine goesL_ (some 2) rfl rfl Try.func17 (by kernel_rfl) rfl #[] rfl (by (try simp only [List.map_toArray, List.map_cons, List.map_nil]); first | done | rfl | (simp only [List.length_drop, List.length_take]; rfl)) ?_; (with_reducible refine (wire_New.calls  t122 t123 t124 t125 t126 t127 t128 t129 t130 w _ ?side1 A1.out).mono ?_); (case side1 => repeat (first | (with_reducible first | exact HB.out | apply below_alloc | apply pw_below_drewN | apply below_drew1) | exact HB.out)); rintro e w21 ⟨g131, rfl, hi, hb, hb2⟩; refine ⟨_, rfl, ?_⟩; have n0_ := Aside0.mk (hb); have n1_ := Aside0.mk (hi); clear HB; have HB := n0_; have HI131 := n1_; clear n0_ n1_; (try clear hb); (try clear hb2); (try clear hk); (try clear hi)) | ((with_reducible refine gate_callee (f := 18) rfl ?_); refine goesL_ (some 4) rfl rfl Try.func18 (by kernel_rfl) rfl #[.pointer (some ⟨g131, 0, none⟩), .int .i64 0, .string (⟨#[48, 49, 50, 51, 52, 53, 54, 55, 56, 57]⟩ : ByteArray)] rfl (by (try simp only [List.map_toArray, List.map_cons, List.map_nil]); first | done | rfl | (simp only [List.length_drop, List.length_take]; rfl)) ?_; (with_reducible refine (wire_Wire_Push.calls g131 t122 t123 t124 t125 t126 t127 t128 t129 t130 0 (⟨#[48, 49, 50, 51, 52, 53, 54, 55, 56, 57]⟩ : ByteArray) false t133 t134 t135 t136 t137 t138 t139 t140 t141 w _ ?side1 ?side2 A2.out).mono ?_); (case side1 => repeat (first | (with_reducible first | exact HI131.out | apply IsS69.alloc | apply IsS69.drewN | apply IsS69.drew | apply IsS69.set_0 | apply IsS69.set_1 | apply IsS69.set_2 | apply IsS69.set_3 | apply IsS69.set_4 | apply IsS69.set_5 | apply IsS69.set_6 | apply IsS69.set_7 | apply IsS69.set_8) | exact HI131.out)); (case side2 => repeat (first | (with_reducible first | exact HB.out | apply below_alloc | apply pw_below_drewN | apply below_drew1 | refine below_set ?_ (IsS69.ge HI131.out)) | exact HB.out)); rintro e w22 ⟨rfl, hi, hb, hk⟩; refine ⟨_, rfl, ?_⟩; have n0_ := Aside0.mk (hb); have n1_ := Aside0.mk (hi); clear HB; clear HI131; have HB := n0_; have HI131 := n1_; clear n0_ n1_; (try clear hb); (try clear hb2); (try clear hk); (try clear hi)))
    go_ret
    exact ⟨by first | rfl | (simp [errW_none, errW_some] <;> rfl) | (simp [*, errW_none, errW_some] <;> rfl), by repeat (first | (with_reducible first | exact HB.out | apply below_alloc | apply pw_below_drewN | apply below_drew1 | refine below_set ?_ (IsS69.ge HI131.out)) | exact HB.out)⟩

end Go.Proofs.Ytodffnchcbapcaa.PWireDoes
