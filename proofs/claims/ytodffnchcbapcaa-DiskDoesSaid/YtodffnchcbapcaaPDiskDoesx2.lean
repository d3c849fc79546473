/- Written by a program of this session, which began as the kit's print and is turned in wip/printer: the plain form of each function, and that the Go code comes to it. -/
import Derived.Test.YtodffnchcbapcaaPDiskDoesx0
import Derived.Test.YtodffnchcbapcaaPDiskDoesx1
import Derived.BigRegion
import Derived.Deep.RegionHeld3
import Derived.IntWalk
import Derived.Lib.SliceRun
namespace Go.Proofs.Ytodffnchcbapcaa.PDiskDoes
open Go.RowKit Go.Proofs.YtodffnchcbapcaaW.PrintWords Go.Proofs.YtodffnchcbapcaaW.PrintLast Go.Proofs.YtodffnchcbapcaaW.PrintMore
attribute [local go_sem] max2_int min2_int max_two min_two max_three min_three max_four min_four   -- for this text's walks alone
set_option linter.unusedVariables false
set_option linter.unusedSimpArgs false

/-! ### countermandlaw03_DiskDoes: function 11 -/
--IMPORT Derived.BigRegion
--IMPORT Derived.Lib.SliceRun
--IMPORT Derived.Deep.RegionHeld3
--IMPORT Derived.IntWalk
--ROUNDS
theorem old_cell {w : World} {g j : Nat} {u : Value} (h : w.cell? ⟨g, j, none⟩ = some u) (o : Obj) : (w.alloc o).cell? ⟨g, j, none⟩ = some u := by
  have := World.block_lt_of_cell? w _ h
  simp only [World.cell?] at h ⊢
  rw [Below.heap_alloc w o g this]; exact h
theorem old_frozen {w : World} {g j : Nat} {u : Value} (h : w.cell? ⟨g, j, none⟩ = some u) (hf : w.frozen? ⟨g, j, none⟩ = false) (o : Obj) : (w.alloc o).frozen? ⟨g, j, none⟩ = false := by
  have := World.block_lt_of_cell? w _ h
  simp only [World.frozen?] at hf ⊢
  rw [Below.heap_alloc w o g this]; exact hf
def chg (a : Int) (b : Bool) (s : ByteArray) : Array Value := #[.int .i64 a, .bool b, .string s]
theorem new_chg (w : World) (a : Int) (b : Bool) (s : ByteArray) : (w.alloc (.cells (chg a b s) 79)).cell? ⟨w.heap.size, 0, none⟩ = some (.int .i64 a) ∧ (w.alloc (.cells (chg a b s) 79)).cell? ⟨w.heap.size, 1, none⟩ = some (.bool b) ∧ (w.alloc (.cells (chg a b s) 79)).cell? ⟨w.heap.size, 2, none⟩ = some (.string s) := by
  have h := heap_alloc_new w (.cells (chg a b s) 79)
  exact ⟨(blk_cell h 0).trans rfl, (blk_cell h 1).trans rfl, (blk_cell h 2).trans rfl⟩
set_option maxHeartbeats 1600000 in
set_option maxRecDepth 100000 in
theorem land_a (g a : Nat) (ha : a < 2) (x s : ByteArray) (w : World) (hx : w.cell? ⟨g, a * 2 + 1, none⟩ = some (.string x)) (fx : w.frozen? ⟨g, a * 2 + 1, none⟩ = false) (hs : x.size + s.size ≤ 9223372036854775807) :
    Calls Try.prog 47 #[.pointer (some ⟨g, 0, none⟩), .agg (chg (a : Int) false s)] w fun e w' => e = .returned (.tuple #[]) ∧ ∃ n, w' = ((w.alloc (.cells (chg (a : Int) false s) 79)).drewN n).setCell ⟨g, a * 2 + 1, none⟩ (.string (x ++ s)) := by
  have hu79 := Try.underlying79
  have hu77 := Try.underlying77
  have hu74 := Try.underlying74
  have hu73 := Try.underlying73
  have hu9 := Try.underlying9
  have q0 : decide ((a : Int) < 2) = true := decide_eq_true (by omega)
  have q1 : decide ((0 : Int) ≤ (a : Int)) = true := decide_eq_true (by omega)
  obtain ⟨n0, n1, n2⟩ := new_chg w (a : Int) false s
  have hx' := old_cell hx (.cells (chg (a : Int) false s) 79)
  have fx' := old_frozen hx fx (.cells (chg (a : Int) false s) 79)
  have b0 := eq_true hs
  have b2 : (9223372036854775807 < x.size + s.size) = False := eq_false (Nat.not_lt.2 hs)
  unfold chg at n0 n1 n2 hx' fx' ⊢
  go_enter Try.func47, Try.ntmps47
  go_wp2
  go_region
  go_wp2
  go_end0
  exact ⟨rfl, _, rfl⟩
set_option maxHeartbeats 1600000 in
set_option maxRecDepth 100000 in
theorem land_r (g a : Nat) (ha : a < 2) (x s : ByteArray) (w : World) (hx : w.cell? ⟨g, a * 2 + 1, none⟩ = some (.string x)) (fx : w.frozen? ⟨g, a * 2 + 1, none⟩ = false) :
    Calls Try.prog 47 #[.pointer (some ⟨g, 0, none⟩), .agg (chg (a : Int) true s)] w fun e w' => e = .returned (.tuple #[]) ∧ ∃ n, w' = ((w.alloc (.cells (chg (a : Int) true s) 79)).drewN n).setCell ⟨g, a * 2 + 1, none⟩ (.string (⟨#[]⟩ : ByteArray)) := by
  have hu79 := Try.underlying79
  have hu77 := Try.underlying77
  have hu74 := Try.underlying74
  have hu73 := Try.underlying73
  have hu9 := Try.underlying9
  have q0 : decide ((a : Int) < 2) = true := decide_eq_true (by omega)
  have q1 : decide ((0 : Int) ≤ (a : Int)) = true := decide_eq_true (by omega)
  obtain ⟨n0, n1, n2⟩ := new_chg w (a : Int) true s
  have hx' := old_cell hx (.cells (chg (a : Int) true s) 79)
  have fx' := old_frozen hx fx (.cells (chg (a : Int) true s) 79)
  unfold chg at n0 n1 n2 hx' fx' ⊢
  go_enter Try.func47, Try.ntmps47
  go_wp2
  go_region
  go_wp2
  go_end0
  exact ⟨rfl, _, rfl⟩
/-! ### the disk's state -/
theorem info79D : (Try.prog.info? 79).map (fun i => (i.zero, i.size, i.bytes)) = some (some (.agg #[(.int .i64 0), (.bool false), (.string (⟨#[]⟩ : ByteArray))]), 3, 32) := by kernel_rfl
structure Dk where
  n0 : ByteArray
  s0 : ByteArray
  n1 : ByteArray
  s1 : ByteArray
  l : List S79
def dkCells (D : Dk) (v : Value) : Array Value := #[.string D.n0, .string D.s0, .string D.n1, .string D.s1, v]
def IsD (w0 W : World) (g : Nat) (D : Dk) (v : Value) : Prop := W.heap[g]? = some (.cells (dkCells D v) 77 (0, 0)) ∧ w0.heap.size ≤ g ∧ k79.R 79 W w0.heap.size (fun k => v.ownBlock = some k) v D.l
def Nx (w : World) (v v' : Value) : Prop := ∀ b, v'.ownBlock = some b → v.ownBlock = some b ∨ w.heap.size ≤ b
theorem R_exact {e : TypeId} {w : World} {base : Nat} {ok : Nat → Prop} {v : Value} {xs : List S79} (h : k79.R e w base ok v xs) : k79.R e w base (fun k => v.ownBlock = some k) v xs :=
  ⟨fun k hk => hk, h.2.imp_ (fun x cs hp => by rw [k79_openM hp]; exact k79_mkM _ _ _ x)⟩
theorem IsD.keep {w0 W W' : World} {g g' : Nat} {D : Dk} {v : Value} {row : Option Nat} (h : IsD w0 W g D v) (k : KeepBut W W' g' row) (h1 : g ≠ g') (h2 : some g ≠ row) (h3 : ∀ b, v.ownBlock = some b → b ≠ g' ∧ some b ≠ row) : IsD w0 W' g D v :=
  ⟨k.blk h.1 h1 h2, h.2.1, Kd.R_step h.2.2 (fun b hb hlt => k.2 b hlt (h3 b hb).1 (h3 b hb).2)⟩
theorem IsD.below {w0 W W' : World} {g : Nat} {D : Dk} {v : Value} (h : IsD w0 W g D v) (k : Below W.heap.size W W') : IsD w0 W' g D v :=
  ⟨(k.block g (blk_lt h.1)).trans h.1, h.2.1, Kd.R_below h.2.2 k⟩
theorem IsD.own {w0 W : World} {g : Nat} {D : Dk} {v : Value} (h : IsD w0 W g D v) : some g ≠ v.ownBlock := Kd.R_ne h.2.2 h.1 (by decide)
def appD (D : Dk) (a : Int) (s : ByteArray) : Dk := if a = 0 then { D with n0 := D.n0 ++ s, l := D.l ++ [⟨a, false, s⟩] } else { D with n1 := D.n1 ++ s, l := D.l ++ [⟨a, false, s⟩] }
def rstD (D : Dk) (a : Int) : Dk := if a = 0 then { D with n0 := (⟨#[]⟩ : ByteArray), l := D.l ++ [⟨a, true, (⟨#[]⟩ : ByteArray)⟩] } else { D with n1 := (⟨#[]⟩ : ByteArray), l := D.l ++ [⟨a, true, (⟨#[]⟩ : ByteArray)⟩] }
def nowD (D : Dk) (a : Int) : ByteArray := if a = 0 then D.n0 else D.n1
def safeD (D : Dk) (a : Int) : ByteArray := if a = 0 then D.s0 else D.s1
theorem goodA {a : Int} (ha : a = 0 ∨ a = 1) : disk_good.f a = some true := by
  rcases ha with rfl | rfl <;> rfl
theorem goodN {a : Int} (ha : ¬ (a = 0 ∨ a = 1)) : disk_good.f a = some false := by
  unfold disk_good.f
  rw [if_neg (by omega), show (a == 1) = false by simp; omega]
set_option maxHeartbeats 6400000 in
set_option maxRecDepth 100000 in
theorem append_ok (g : Nat) (a : Int) (D : Dk) (v : Value) (s : ByteArray) (w0 w : World) (hI : IsD w0 w g D v) (hB : Below w0.heap.size w0 w) (ha : a = 0 ∨ a = 1) (hs : s.size + (nowD D a).size ≤ 16384) (hl : D.l.length ≤ 100000) :
    Calls Try.prog 30 #[.pointer (some ⟨g, 0, none⟩), .int .i64 a, .string s] w fun e w' => e = .returned (.int .i64 0) ∧ ∃ v', IsD w0 w' g (appD D a s) v' ∧ Below w0.heap.size w0 w' ∧ KeepBut w w' g v.ownBlock ∧ Nx w v v' := by
  have hu79 := Try.underlying79
  have hu77 := Try.underlying77
  have hu75 := Try.underlying75
  have hu74 := Try.underlying74
  have hu73 := Try.underlying73
  have hu9 := Try.underlying9
  have hu44 := Try.underlying44
  have G := disk_good.calls a true
  have hga := goodA ha
  have hown := hI.own
  obtain ⟨A, c, rfl⟩ := Kd.R_slice hI.2.2
  obtain ⟨n0, s0, n1, s1, l⟩ := D
  have c0 : w.cell? ⟨g, 0, none⟩ = some (.string n0) := (blk_cell hI.1 0).trans rfl
  have c1 : w.cell? ⟨g, 1, none⟩ = some (.string s0) := (blk_cell hI.1 1).trans rfl
  have c2 : w.cell? ⟨g, 2, none⟩ = some (.string n1) := (blk_cell hI.1 2).trans rfl
  have c3 : w.cell? ⟨g, 3, none⟩ = some (.string s1) := (blk_cell hI.1 3).trans rfl
  have c4 : w.cell? ⟨g, 4, none⟩ = some (.slice A l.length c) := (blk_cell hI.1 4).trans rfl
  have fz := blk_frozen hI.1
  have hl : l.length ≤ 100000 := hl
  have H := Aside0.mk (show IsD w0 w g ⟨n0, s0, n1, s1, l⟩ (.slice A l.length c) ∧ Below w0.heap.size w0 w from ⟨hI, hB⟩)
  clear hI hB
  rcases ha with rfl | rfl
  · have hs0 : s.size + n0.size ≤ 16384 := hs
    have q0 : decide ((16384 : Int) - (n0.size : Int) < (s.size : Int)) = false := decide_eq_false (by omega)
    have b0 : (n0.size + s.size ≤ 9223372036854775807) = True := eq_true (by omega)
    have b2 : (9223372036854775807 < n0.size + s.size) = False := eq_false (by omega)
    go_enter Try.func30, Try.ntmps30
    go_wp2_with (go_at_call 45; (with_reducible refine (G _ hga).mono ?_); rintro e w1 ⟨rfl, ⟨nd, rfl⟩⟩)
    go_region
    obtain ⟨W2, hW2⟩ : ∃ W2, W2 = (w.drewN (nd + 1)).setCell ⟨g, 0, none⟩ (.string (n0 ++ s)) := ⟨_, rfl⟩
    rw [← hW2]
    have h2 : W2.heap[g]? = some (.cells #[.string (n0 ++ s), .string s0, .string n1, .string s1, .slice A l.length c] 77 (0, 0)) := by rw [hW2]; simpa [dkCells] using blk_set (blk_drewN H.out.1.1 _) 0 (.string (n0 ++ s))
    have hk2 : KeepBut w W2 g none := by rw [hW2]; exact KeepBut.set_ (keep_drewN (KeepBut.refl w g none) _) _ _
    have hB2 : Below w0.heap.size w0 W2 := by rw [hW2]; exact below_set (pw_below_drewN H.out.2 _) H.out.1.2.1
    have hR2 : k79.R 79 W2 w0.heap.size (fun q => (Value.slice A l.length c).ownBlock = some q ∨ W2.heap.size ≤ q) (.slice A l.length c) l :=
      Kd.R_mono (Kd.R_step H.out.1.2.2 (fun q hq hlt => hk2.2 q hlt (fun e => hown (by rw [← e]; exact hq.symm)) (by simp))) (fun _ hq => .inl hq)
    have hsz : w.heap.size ≤ W2.heap.size := hk2.1
    clear hW2 c0 c1 c2 c3 c4
    have c4 : W2.cell? ⟨g, 4, none⟩ = some (.slice A l.length c) := (blk_cell h2 4).trans rfl
    have hlt2 := blk_lt h2
    have ho2 : some g ≠ (Value.slice A l.length c).ownBlock := hown
    go_wp2_with ((with_reducible refine gate_builtin (b := .append) (xs := #[.tmp 44, .tmp 48]) rfl ?_); (try (refine gate_guard (by rfl) ?_; dsimp only)); at_builtin; refine Kd.R_append k79 (w0 := w0) (W := W2) w0.heap.size rfl (.tmp 44) (.tmp 48) 75 79 (.agg #[(.int .i64 0), (.bool false), (.string (⟨#[]⟩ : ByteArray))]) 32 rfl hu75 info79D rfl (by decide) (by omega) (.slice A l.length c) l (⟨0, false, s⟩ : S79) [.int .i64 0, .bool false, .string s] (fun q => (Value.slice A l.length c).ownBlock = some q ∨ W2.heap.size ≤ q) (fun _ => False) (by first | (go_simp; done) | (go_simp; rfl)) (by first | (go_simp; done) | (go_simp; rfl)) (k79_mkM _ _ _ (⟨0, false, s⟩ : S79)) (fun _ hk => hk.elim) (fun _ hk => .inr hk) hR2 hB2 hB2.size (by omega) ?_; intro v7 w7 hO7 hB7 hg7 hat7; have h7 := (hg7.block g hlt2 ho2).trans h2; have d4 : w7.cell? ⟨g, 4, none⟩ = some (.slice A l.length c) := (blk_cell h7 4).trans rfl; have f4 := blk_frozen h7 4; obtain ⟨A7, c7, rfl⟩ := Kd.R_slice hO7)
    go_ret
    have hgo : some g ≠ (Value.slice A7 (l ++ [(⟨0, false, s⟩ : S79)]).length c7).ownBlock := Kd.R_ne hO7 h7 (by decide)
    refine ⟨rfl, .slice A7 (l ++ [(⟨0, false, s⟩ : S79)]).length c7, ⟨?_, H.out.1.2.1, ?_⟩, below_set hB7 H.out.1.2.1, ?_, ?_⟩
    · simpa [dkCells, appD] using blk_set h7 4 (.slice A7 (l ++ [(⟨0, false, s⟩ : S79)]).length c7)
    · exact R_exact (Kd.R_far hO7 (p := ⟨g, 4, none⟩) (by
        intro q hq e
        rcases hq with hq | hq
        · exact hown (by have e' : q = g := e; rw [← e']; exact hq.symm)
        · have : q = g := e
          omega) _)
    · refine KeepBut.set_ ⟨Nat.le_trans hsz hg7.size, fun i hi hi1 hi2 => (hg7.block i (by omega) hi2).trans (hk2.2 i hi hi1 (by simp))⟩ _ _
    · intro b hb
      rcases hat7 with e | ⟨b', e, hb'⟩
      · exact .inl (by rw [← e]; exact hb)
      · rw [e] at hb
        injection hb with hb
        exact .inr (by omega)
  · have hs0 : s.size + n1.size ≤ 16384 := hs
    have q0 : decide ((16384 : Int) - (n1.size : Int) < (s.size : Int)) = false := decide_eq_false (by omega)
    have b0 : (n1.size + s.size ≤ 9223372036854775807) = True := eq_true (by omega)
    have b2 : (9223372036854775807 < n1.size + s.size) = False := eq_false (by omega)
    go_enter Try.func30, Try.ntmps30
    go_wp2_with (go_at_call 45; (with_reducible refine (G _ hga).mono ?_); rintro e w1 ⟨rfl, ⟨nd, rfl⟩⟩)
    go_region
    obtain ⟨W2, hW2⟩ : ∃ W2, W2 = (w.drewN (nd + 1)).setCell ⟨g, 2, none⟩ (.string (n1 ++ s)) := ⟨_, rfl⟩
    rw [← hW2]
    have h2 : W2.heap[g]? = some (.cells #[.string n0, .string s0, .string (n1 ++ s), .string s1, .slice A l.length c] 77 (0, 0)) := by rw [hW2]; simpa [dkCells] using blk_set (blk_drewN H.out.1.1 _) 2 (.string (n1 ++ s))
    have hk2 : KeepBut w W2 g none := by rw [hW2]; exact KeepBut.set_ (keep_drewN (KeepBut.refl w g none) _) _ _
    have hB2 : Below w0.heap.size w0 W2 := by rw [hW2]; exact below_set (pw_below_drewN H.out.2 _) H.out.1.2.1
    have hR2 : k79.R 79 W2 w0.heap.size (fun q => (Value.slice A l.length c).ownBlock = some q ∨ W2.heap.size ≤ q) (.slice A l.length c) l :=
      Kd.R_mono (Kd.R_step H.out.1.2.2 (fun q hq hlt => hk2.2 q hlt (fun e => hown (by rw [← e]; exact hq.symm)) (by simp))) (fun _ hq => .inl hq)
    have hsz : w.heap.size ≤ W2.heap.size := hk2.1
    clear hW2 c0 c1 c2 c3 c4
    have c4 : W2.cell? ⟨g, 4, none⟩ = some (.slice A l.length c) := (blk_cell h2 4).trans rfl
    have hlt2 := blk_lt h2
    have ho2 : some g ≠ (Value.slice A l.length c).ownBlock := hown
    go_wp2_with ((with_reducible refine gate_builtin (b := .append) (xs := #[.tmp 44, .tmp 48]) rfl ?_); (try (refine gate_guard (by rfl) ?_; dsimp only)); at_builtin; refine Kd.R_append k79 (w0 := w0) (W := W2) w0.heap.size rfl (.tmp 44) (.tmp 48) 75 79 (.agg #[(.int .i64 0), (.bool false), (.string (⟨#[]⟩ : ByteArray))]) 32 rfl hu75 info79D rfl (by decide) (by omega) (.slice A l.length c) l (⟨1, false, s⟩ : S79) [.int .i64 1, .bool false, .string s] (fun q => (Value.slice A l.length c).ownBlock = some q ∨ W2.heap.size ≤ q) (fun _ => False) (by first | (go_simp; done) | (go_simp; rfl)) (by first | (go_simp; done) | (go_simp; rfl)) (k79_mkM _ _ _ (⟨1, false, s⟩ : S79)) (fun _ hk => hk.elim) (fun _ hk => .inr hk) hR2 hB2 hB2.size (by omega) ?_; intro v7 w7 hO7 hB7 hg7 hat7; have h7 := (hg7.block g hlt2 ho2).trans h2; have d4 : w7.cell? ⟨g, 4, none⟩ = some (.slice A l.length c) := (blk_cell h7 4).trans rfl; have f4 := blk_frozen h7 4; obtain ⟨A7, c7, rfl⟩ := Kd.R_slice hO7)
    go_ret
    have hgo : some g ≠ (Value.slice A7 (l ++ [(⟨1, false, s⟩ : S79)]).length c7).ownBlock := Kd.R_ne hO7 h7 (by decide)
    refine ⟨rfl, .slice A7 (l ++ [(⟨1, false, s⟩ : S79)]).length c7, ⟨?_, H.out.1.2.1, ?_⟩, below_set hB7 H.out.1.2.1, ?_, ?_⟩
    · simpa [dkCells, appD] using blk_set h7 4 (.slice A7 (l ++ [(⟨1, false, s⟩ : S79)]).length c7)
    · exact R_exact (Kd.R_far hO7 (p := ⟨g, 4, none⟩) (by
        intro q hq e
        rcases hq with hq | hq
        · exact hown (by have e' : q = g := e; rw [← e']; exact hq.symm)
        · have : q = g := e
          omega) _)
    · refine KeepBut.set_ ⟨Nat.le_trans hsz hg7.size, fun i hi hi1 hi2 => (hg7.block i (by omega) hi2).trans (hk2.2 i hi hi1 (by simp))⟩ _ _
    · intro b hb
      rcases hat7 with e | ⟨b', e, hb'⟩
      · exact .inl (by rw [← e]; exact hb)
      · rw [e] at hb
        injection hb with hb
        exact .inr (by omega)
set_option maxHeartbeats 6400000 in
set_option maxRecDepth 100000 in
theorem reset_ok (g : Nat) (a : Int) (D : Dk) (v : Value) (w0 w : World) (hI : IsD w0 w g D v) (hB : Below w0.heap.size w0 w) (ha : a = 0 ∨ a = 1) (hl : D.l.length ≤ 100000) :
    Calls Try.prog 43 #[.pointer (some ⟨g, 0, none⟩), .int .i64 a] w fun e w' => e = .returned (.int .i64 0) ∧ ∃ v', IsD w0 w' g (rstD D a) v' ∧ Below w0.heap.size w0 w' ∧ KeepBut w w' g v.ownBlock ∧ Nx w v v' := by
  have hu79 := Try.underlying79
  have hu77 := Try.underlying77
  have hu75 := Try.underlying75
  have hu74 := Try.underlying74
  have hu73 := Try.underlying73
  have hu9 := Try.underlying9
  have hu44 := Try.underlying44
  have G := disk_good.calls a true
  have hga := goodA ha
  have hown := hI.own
  obtain ⟨A, c, rfl⟩ := Kd.R_slice hI.2.2
  obtain ⟨n0, s0, n1, s1, l⟩ := D
  have c0 : w.cell? ⟨g, 0, none⟩ = some (.string n0) := (blk_cell hI.1 0).trans rfl
  have c1 : w.cell? ⟨g, 1, none⟩ = some (.string s0) := (blk_cell hI.1 1).trans rfl
  have c2 : w.cell? ⟨g, 2, none⟩ = some (.string n1) := (blk_cell hI.1 2).trans rfl
  have c3 : w.cell? ⟨g, 3, none⟩ = some (.string s1) := (blk_cell hI.1 3).trans rfl
  have c4 : w.cell? ⟨g, 4, none⟩ = some (.slice A l.length c) := (blk_cell hI.1 4).trans rfl
  have fz := blk_frozen hI.1
  have hl : l.length ≤ 100000 := hl
  have H := Aside0.mk (show IsD w0 w g ⟨n0, s0, n1, s1, l⟩ (.slice A l.length c) ∧ Below w0.heap.size w0 w from ⟨hI, hB⟩)
  clear hI hB
  rcases ha with rfl | rfl
  · go_enter Try.func43, Try.ntmps43
    go_upto_region 6 with (go_at_call 45; (with_reducible refine (G _ hga).mono ?_); rintro e w1 ⟨rfl, ⟨nd, rfl⟩⟩)
    obtain ⟨W2, hW2⟩ : ∃ W2, W2 = (w.drewN nd).setCell ⟨g, 0, none⟩ (.string (⟨#[]⟩ : ByteArray)) := ⟨_, rfl⟩
    rw [← hW2]
    have h2 : W2.heap[g]? = some (.cells #[.string (⟨#[]⟩ : ByteArray), .string s0, .string n1, .string s1, .slice A l.length c] 77 (0, 0)) := by rw [hW2]; simpa [dkCells] using blk_set (blk_drewN H.out.1.1 _) 0 (.string (⟨#[]⟩ : ByteArray))
    have hk2 : KeepBut w W2 g none := by rw [hW2]; exact KeepBut.set_ (keep_drewN (KeepBut.refl w g none) _) _ _
    have hB2 : Below w0.heap.size w0 W2 := by rw [hW2]; exact below_set (pw_below_drewN H.out.2 _) H.out.1.2.1
    have hR2 : k79.R 79 W2 w0.heap.size (fun q => (Value.slice A l.length c).ownBlock = some q ∨ W2.heap.size ≤ q) (.slice A l.length c) l :=
      Kd.R_mono (Kd.R_step H.out.1.2.2 (fun q hq hlt => hk2.2 q hlt (fun e => hown (by rw [← e]; exact hq.symm)) (by simp))) (fun _ hq => .inl hq)
    have hsz : w.heap.size ≤ W2.heap.size := hk2.1
    clear hW2 c0 c1 c2 c3 c4
    have c4 : W2.cell? ⟨g, 4, none⟩ = some (.slice A l.length c) := (blk_cell h2 4).trans rfl
    have hlt2 := blk_lt h2
    have ho2 : some g ≠ (Value.slice A l.length c).ownBlock := hown
    (try simp only [Act.put, List.setIfInBounds_toArray, List.set_cons_zero, List.set_cons_succ])
    go_wp2_with ((with_reducible refine gate_builtin (b := .append) (xs := #[.tmp 22, .tmp 25]) rfl ?_); (try (refine gate_guard (by rfl) ?_; dsimp only)); at_builtin; refine Kd.R_append k79 (w0 := w0) (W := W2) w0.heap.size rfl (.tmp 22) (.tmp 25) 75 79 (.agg #[(.int .i64 0), (.bool false), (.string (⟨#[]⟩ : ByteArray))]) 32 rfl hu75 info79D rfl (by decide) (by omega) (.slice A l.length c) l (⟨0, true, (⟨#[]⟩ : ByteArray)⟩ : S79) [.int .i64 0, .bool true, .string (⟨#[]⟩ : ByteArray)] (fun q => (Value.slice A l.length c).ownBlock = some q ∨ W2.heap.size ≤ q) (fun _ => False) (by first | (go_simp; done) | (go_simp; rfl)) (by first | (go_simp; done) | (go_simp; rfl)) (k79_mkM _ _ _ (⟨0, true, (⟨#[]⟩ : ByteArray)⟩ : S79)) (fun _ hk => hk.elim) (fun _ hk => .inr hk) hR2 hB2 hB2.size (by omega) ?_; intro v7 w7 hO7 hB7 hg7 hat7; have h7 := (hg7.block g hlt2 ho2).trans h2; have d4 : w7.cell? ⟨g, 4, none⟩ = some (.slice A l.length c) := (blk_cell h7 4).trans rfl; have f4 := blk_frozen h7 4; obtain ⟨A7, c7, rfl⟩ := Kd.R_slice hO7)
    go_ret
    have hgo : some g ≠ (Value.slice A7 (l ++ [(⟨0, true, (⟨#[]⟩ : ByteArray)⟩ : S79)]).length c7).ownBlock := Kd.R_ne hO7 h7 (by decide)
    refine ⟨rfl, .slice A7 (l ++ [(⟨0, true, (⟨#[]⟩ : ByteArray)⟩ : S79)]).length c7, ⟨?_, H.out.1.2.1, ?_⟩, below_set hB7 H.out.1.2.1, ?_, ?_⟩
    · simpa [dkCells, rstD] using blk_set h7 4 (.slice A7 (l ++ [(⟨0, true, (⟨#[]⟩ : ByteArray)⟩ : S79)]).length c7)
    · exact R_exact (Kd.R_far hO7 (p := ⟨g, 4, none⟩) (by
        intro q hq e
        rcases hq with hq | hq
        · exact hown (by have e' : q = g := e; rw [← e']; exact hq.symm)
        · have : q = g := e
          omega) _)
    · refine KeepBut.set_ ⟨Nat.le_trans hsz hg7.size, fun i hi hi1 hi2 => (hg7.block i (by omega) hi2).trans (hk2.2 i hi hi1 (by simp))⟩ _ _
    · intro b hb
      rcases hat7 with e | ⟨b', e, hb'⟩
      · exact .inl (by rw [← e]; exact hb)
      · rw [e] at hb
        injection hb with hb
        exact .inr (by omega)
  · go_enter Try.func43, Try.ntmps43
    go_upto_region 6 with (go_at_call 45; (with_reducible refine (G _ hga).mono ?_); rintro e w1 ⟨rfl, ⟨nd, rfl⟩⟩)
    obtain ⟨W2, hW2⟩ : ∃ W2, W2 = (w.drewN nd).setCell ⟨g, 2, none⟩ (.string (⟨#[]⟩ : ByteArray)) := ⟨_, rfl⟩
    rw [← hW2]
    have h2 : W2.heap[g]? = some (.cells #[.string n0, .string s0, .string (⟨#[]⟩ : ByteArray), .string s1, .slice A l.length c] 77 (0, 0)) := by rw [hW2]; simpa [dkCells] using blk_set (blk_drewN H.out.1.1 _) 2 (.string (⟨#[]⟩ : ByteArray))
    have hk2 : KeepBut w W2 g none := by rw [hW2]; exact KeepBut.set_ (keep_drewN (KeepBut.refl w g none) _) _ _
    have hB2 : Below w0.heap.size w0 W2 := by rw [hW2]; exact below_set (pw_below_drewN H.out.2 _) H.out.1.2.1
    have hR2 : k79.R 79 W2 w0.heap.size (fun q => (Value.slice A l.length c).ownBlock = some q ∨ W2.heap.size ≤ q) (.slice A l.length c) l :=
      Kd.R_mono (Kd.R_step H.out.1.2.2 (fun q hq hlt => hk2.2 q hlt (fun e => hown (by rw [← e]; exact hq.symm)) (by simp))) (fun _ hq => .inl hq)
    have hsz : w.heap.size ≤ W2.heap.size := hk2.1
    clear hW2 c0 c1 c2 c3 c4
    have c4 : W2.cell? ⟨g, 4, none⟩ = some (.slice A l.length c) := (blk_cell h2 4).trans rfl
    have hlt2 := blk_lt h2
    have ho2 : some g ≠ (Value.slice A l.length c).ownBlock := hown
    (try simp only [Act.put, List.setIfInBounds_toArray, List.set_cons_zero, List.set_cons_succ])
    go_wp2_with ((with_reducible refine gate_builtin (b := .append) (xs := #[.tmp 22, .tmp 25]) rfl ?_); (try (refine gate_guard (by rfl) ?_; dsimp only)); at_builtin; refine Kd.R_append k79 (w0 := w0) (W := W2) w0.heap.size rfl (.tmp 22) (.tmp 25) 75 79 (.agg #[(.int .i64 0), (.bool false), (.string (⟨#[]⟩ : ByteArray))]) 32 rfl hu75 info79D rfl (by decide) (by omega) (.slice A l.length c) l (⟨1, true, (⟨#[]⟩ : ByteArray)⟩ : S79) [.int .i64 1, .bool true, .string (⟨#[]⟩ : ByteArray)] (fun q => (Value.slice A l.length c).ownBlock = some q ∨ W2.heap.size ≤ q) (fun _ => False) (by first | (go_simp; done) | (go_simp; rfl)) (by first | (go_simp; done) | (go_simp; rfl)) (k79_mkM _ _ _ (⟨1, true, (⟨#[]⟩ : ByteArray)⟩ : S79)) (fun _ hk => hk.elim) (fun _ hk => .inr hk) hR2 hB2 hB2.size (by omega) ?_; intro v7 w7 hO7 hB7 hg7 hat7; have h7 := (hg7.block g hlt2 ho2).trans h2; have d4 : w7.cell? ⟨g, 4, none⟩ = some (.slice A l.length c) := (blk_cell h7 4).trans rfl; have f4 := blk_frozen h7 4; obtain ⟨A7, c7, rfl⟩ := Kd.R_slice hO7)
    go_ret
    have hgo : some g ≠ (Value.slice A7 (l ++ [(⟨1, true, (⟨#[]⟩ : ByteArray)⟩ : S79)]).length c7).ownBlock := Kd.R_ne hO7 h7 (by decide)
    refine ⟨rfl, .slice A7 (l ++ [(⟨1, true, (⟨#[]⟩ : ByteArray)⟩ : S79)]).length c7, ⟨?_, H.out.1.2.1, ?_⟩, below_set hB7 H.out.1.2.1, ?_, ?_⟩
    · simpa [dkCells, rstD] using blk_set h7 4 (.slice A7 (l ++ [(⟨1, true, (⟨#[]⟩ : ByteArray)⟩ : S79)]).length c7)
    · exact R_exact (Kd.R_far hO7 (p := ⟨g, 4, none⟩) (by
        intro q hq e
        rcases hq with hq | hq
        · exact hown (by have e' : q = g := e; rw [← e']; exact hq.symm)
        · have : q = g := e
          omega) _)
    · refine KeepBut.set_ ⟨Nat.le_trans hsz hg7.size, fun i hi hi1 hi2 => (hg7.block i (by omega) hi2).trans (hk2.2 i hi hi1 (by simp))⟩ _ _
    · intro b hb
      rcases hat7 with e | ⟨b', e, hb'⟩
      · exact .inl (by rw [← e]; exact hb)
      · rw [e] at hb
        injection hb with hb
        exact .inr (by omega)
set_option maxHeartbeats 1600000 in
set_option maxRecDepth 100000 in
theorem append_bad (g : Nat) (a : Int) (s : ByteArray) (w : World) (ha : ¬ (a = 0 ∨ a = 1)) :
    Calls Try.prog 30 #[.pointer (some ⟨g, 0, none⟩), .int .i64 a, .string s] w fun e w' => e = .returned (.int .i64 1) ∧ ∃ n, w' = w.drewN n := by
  have hu44 := Try.underlying44
  have G := disk_good.calls a false
  have hga := goodN ha
  go_enter Try.func30, Try.ntmps30
  go_wp2_with (go_at_call 45; (with_reducible refine (G _ hga).mono ?_); rintro e w1 ⟨rfl, ⟨nd, rfl⟩⟩)
  go_ret
  exact ⟨rfl, _, rfl⟩
set_option maxHeartbeats 1600000 in
set_option maxRecDepth 100000 in
theorem reset_bad (g : Nat) (a : Int) (w : World) (ha : ¬ (a = 0 ∨ a = 1)) :
    Calls Try.prog 43 #[.pointer (some ⟨g, 0, none⟩), .int .i64 a] w fun e w' => e = .returned (.int .i64 1) ∧ ∃ n, w' = w.drewN n := by
  have hu44 := Try.underlying44
  have G := disk_good.calls a false
  have hga := goodN ha
  go_enter Try.func43, Try.ntmps43
  go_wp2_with (go_at_call 45; (with_reducible refine (G _ hga).mono ?_); rintro e w1 ⟨rfl, ⟨nd, rfl⟩⟩)
  go_ret
  exact ⟨rfl, _, rfl⟩
set_option maxHeartbeats 1600000 in
set_option maxRecDepth 100000 in
theorem append_full (g : Nat) (a : Int) (D : Dk) (v : Value) (s : ByteArray) (w0 w : World) (hI : IsD w0 w g D v) (ha : a = 0 ∨ a = 1) (hs : ¬ s.size + (nowD D a).size ≤ 16384) (hb : s.size ≤ 1099511627776) (hb2 : (nowD D a).size ≤ 1099511627776) :
    Calls Try.prog 30 #[.pointer (some ⟨g, 0, none⟩), .int .i64 a, .string s] w fun e w' => e = .returned (.int .i64 6) ∧ ∃ n, w' = w.drewN n := by
  have hu77 := Try.underlying77
  have hu74 := Try.underlying74
  have hu73 := Try.underlying73
  have hu9 := Try.underlying9
  have hu44 := Try.underlying44
  have G := disk_good.calls a true
  have hga := goodA ha
  obtain ⟨n0, s0, n1, s1, l⟩ := D
  have c0 : w.cell? ⟨g, 0, none⟩ = some (.string n0) := (blk_cell hI.1 0).trans rfl
  have c2 : w.cell? ⟨g, 2, none⟩ = some (.string n1) := (blk_cell hI.1 2).trans rfl
  clear hI
  rcases ha with rfl | rfl
  · have hs0 : ¬ s.size + n0.size ≤ 16384 := hs
    have hb0 : n0.size ≤ 1099511627776 := hb2
    have q0 : decide ((16384 : Int) - (n0.size : Int) < (s.size : Int)) = true := decide_eq_true (by omega)
    go_enter Try.func30, Try.ntmps30
    go_wp2_with (go_at_call 45; (with_reducible refine (G _ hga).mono ?_); rintro e w1 ⟨rfl, ⟨nd, rfl⟩⟩)
    go_ret
    exact ⟨rfl, _, rfl⟩
  · have hs0 : ¬ s.size + n1.size ≤ 16384 := hs
    have hb0 : n1.size ≤ 1099511627776 := hb2
    have q0 : decide ((16384 : Int) - (n1.size : Int) < (s.size : Int)) = true := decide_eq_true (by omega)
    go_enter Try.func30, Try.ntmps30
    go_wp2_with (go_at_call 45; (with_reducible refine (G _ hga).mono ?_); rintro e w1 ⟨rfl, ⟨nd, rfl⟩⟩)
    go_ret
    exact ⟨rfl, _, rfl⟩
/-! ### changes that land -/
def landS (x : ByteArray) (c : S79) : ByteArray := if c.f1 = true then (⟨#[]⟩ : ByteArray) else x ++ c.f2
def landD (D : Dk) (c : S79) : Dk := if c.f0 = 0 then { D with s0 := landS D.s0 c } else { D with s1 := landS D.s1 c }
theorem landD_l (D : Dk) (c : S79) : (landD D c).l = D.l := by unfold landD; split <;> rfl
theorem land_ok (g : Nat) (c : S79) (D : Dk) (v : Value) (w0 w : World) (hI : IsD w0 w g D v) (hB : Below w0.heap.size w0 w) (hc : c.f0 = 0 ∨ c.f0 = 1) (hs : (safeD D c.f0).size + c.f2.size ≤ 9223372036854775807) :
    Calls Try.prog 47 #[.pointer (some ⟨g, 0, none⟩), .agg #[.int .i64 c.f0, .bool c.f1, .string c.f2]] w fun e w' => e = .returned (.tuple #[]) ∧ IsD w0 w' g (landD D c) v ∧ Below w0.heap.size w0 w' ∧ KeepBut w w' g none := by
  obtain ⟨a, b, s⟩ := c
  have hown := hI.own
  have key : ∀ (k : Nat) (u : ByteArray) (o : Obj) (n : Nat) (D' : Dk), D'.l = D.l → (∀ W : World, W.heap[g]? = some (.cells (dkCells D v) 77 (0, 0)) → (W.setCell ⟨g, k, none⟩ (.string u)).heap[g]? = some (.cells (dkCells D' v) 77 (0, 0))) →
      IsD w0 (((w.alloc o).drewN n).setCell ⟨g, k, none⟩ (.string u)) g D' v ∧ Below w0.heap.size w0 (((w.alloc o).drewN n).setCell ⟨g, k, none⟩ (.string u)) ∧ KeepBut w (((w.alloc o).drewN n).setCell ⟨g, k, none⟩ (.string u)) g none := by
    intro k u o n D' hl hset
    have hk : KeepBut w (((w.alloc o).drewN n).setCell ⟨g, k, none⟩ (.string u)) g none := KeepBut.set_ (keep_drewN (keep_alloc (KeepBut.refl w g none) o) n) _ _
    refine ⟨⟨hset _ ?_, hI.2.1, ?_⟩, below_set (pw_below_drewN (below_alloc hB o) n) hI.2.1, hk⟩
    · exact blk_drewN (blk_alloc hI.1 o) n
    · rw [hl]
      exact Kd.R_step hI.2.2 (fun q hq hlt => hk.2 q hlt (fun e => hown (by rw [← e]; exact hq.symm)) (by simp))
  obtain ⟨n0, s0, n1, s1, l⟩ := D
  rcases hc with hc | hc
  · have hc : a = 0 := hc
    subst hc
    cases b
    · refine (land_a g 0 (by omega) s0 s w ((blk_cell hI.1 1).trans rfl) (blk_frozen hI.1 1) hs).mono ?_
      rintro e w' ⟨rfl, n, rfl⟩
      exact ⟨rfl, key 1 _ _ n ⟨n0, s0 ++ s, n1, s1, l⟩ rfl (fun W h => by simpa [dkCells] using blk_set h 1 (.string (s0 ++ s)))⟩
    · refine (land_r g 0 (by omega) s0 s w ((blk_cell hI.1 1).trans rfl) (blk_frozen hI.1 1)).mono ?_
      rintro e w' ⟨rfl, n, rfl⟩
      exact ⟨rfl, key 1 _ _ n ⟨n0, (⟨#[]⟩ : ByteArray), n1, s1, l⟩ rfl (fun W h => by simpa [dkCells] using blk_set h 1 (.string (⟨#[]⟩ : ByteArray)))⟩
  · have hc : a = 1 := hc
    subst hc
    cases b
    · refine (land_a g 1 (by omega) s1 s w ((blk_cell hI.1 3).trans rfl) (blk_frozen hI.1 3) hs).mono ?_
      rintro e w' ⟨rfl, n, rfl⟩
      exact ⟨rfl, key 3 _ _ n ⟨n0, s0, n1, s1 ++ s, l⟩ rfl (fun W h => by simpa [dkCells] using blk_set h 3 (.string (s1 ++ s)))⟩
    · refine (land_r g 1 (by omega) s1 s w ((blk_cell hI.1 3).trans rfl) (blk_frozen hI.1 3)).mono ?_
      rintro e w' ⟨rfl, n, rfl⟩
      exact ⟨rfl, key 3 _ _ n ⟨n0, s0, n1, (⟨#[]⟩ : ByteArray), l⟩ rfl (fun W h => by simpa [dkCells] using blk_set h 3 (.string (⟨#[]⟩ : ByteArray)))⟩
/-- what lies under a disk's waiting changes -/
def sizeD (D : Dk) : Nat := D.s0.size + D.s1.size + (D.l.map fun c => c.f2.size).sum
def OkD (D : Dk) : Prop := (∀ c ∈ D.l, c.f0 = 0 ∨ c.f0 = 1) ∧ sizeD D ≤ 1099511627776
def foldD (D : Dk) (r : List S79) : Dk := r.foldl landD D
theorem foldD_l (r : List S79) : ∀ (D : Dk), (foldD D r).l = D.l := by
  induction r with
  | nil => intro D; rfl
  | cons c r ih => intro D; show (foldD (landD D c) r).l = _; rw [ih, landD_l]
theorem landS_size (x : ByteArray) (c : S79) : (landS x c).size ≤ x.size + c.f2.size := by
  unfold landS; split
  · exact Nat.zero_le _
  · rw [ByteArray.size_append]; omega
theorem landD_size (D : Dk) (c : S79) : (landD D c).s0.size + (landD D c).s1.size ≤ D.s0.size + D.s1.size + c.f2.size := by
  unfold landD
  have h0 := landS_size D.s0 c
  have h1 := landS_size D.s1 c
  split <;> dsimp only <;> omega
theorem safe_le (D : Dk) (a : Int) : (safeD D a).size ≤ D.s0.size + D.s1.size := by unfold safeD; split <;> omega
def syncD (D : Dk) : Dk := { foldD D D.l with l := [] }
theorem rd79 {l : List S79} {i : Nat} {x : S79} {r : List S79} (h : l.drop i = x :: r) : rd_T79 l (i : Int) = x ∧ i < l.length ∧ l.drop (i + 1) = r ∧ x ∈ l := by
  have hi : i < l.length := by
    rcases Nat.lt_or_ge i l.length with h' | h'
    · exact h'
    · rw [List.drop_eq_nil_of_le h'] at h; cases h
  have hm : x ∈ l := by
    have : x ∈ l.drop i := by rw [h]; exact List.mem_cons_self
    exact List.mem_of_mem_drop this
  rw [List.drop_eq_getElem_cons hi] at h
  injection h with h1 h2
  refine ⟨?_, hi, h2, hm⟩
  unfold rd_T79
  rw [Int.toNat_natCast, List.getD_eq_getElem?_getD, List.getElem?_eq_getElem hi]
  exact h1
theorem dk_read {w0 W : World} {g : Nat} {D : Dk} {A : Option Addr} {n c : Nat} (h : IsD w0 W g D (.slice A n c)) {j : Nat} {x : S79} {r : List S79} (hx : D.l.drop j = x :: r) :
    ∃ ad, A = some ad ∧ W.cell? (ad.add (j * 3)) = some (.int .i64 x.f0) ∧ W.cell? ⟨(ad.add (j * 3)).block, (ad.add (j * 3)).off + 1, none⟩ = some (.bool x.f1) ∧ W.cell? ⟨(ad.add (j * 3)).block, (ad.add (j * 3)).off + 2, none⟩ = some (.string x.f2) := by
  obtain ⟨hrd, hlt, _, _⟩ := rd79 hx
  obtain ⟨rfl, _, hC⟩ := Kd.R_reads' h.2.2
  obtain ⟨ad, rfl, x0, x1, x2⟩ := at_T79 hC (j : Int) (by omega) (by omega)
  rw [hrd] at x0 x1 x2
  simp only [Int.toNat_natCast] at x0 x1 x2
  exact ⟨ad, rfl, x0, x1, x2⟩
theorem sum_drop (l : List S79) (j : Nat) (x : S79) (r : List S79) (h : l.drop j = x :: r) : ((l.drop j).map fun c => c.f2.size).sum = x.f2.size + ((l.drop (j + 1)).map fun c => c.f2.size).sum := by
  have := (rd79 h).2.2.1
  rw [h, this]; simp
set_option maxHeartbeats 6400000 in
set_option maxRecDepth 100000 in
theorem sync_ok (g : Nat) (D : Dk) (v : Value) (w0 w : World) (hI : IsD w0 w g D v) (hB : Below w0.heap.size w0 w) (hO : OkD D) (hl : D.l.length ≤ 100000) :
    Calls Try.prog 36 #[.pointer (some ⟨g, 0, none⟩)] w fun e w' => e = .returned (.tuple #[]) ∧ IsD w0 w' g (syncD D) (.slice none 0 0) ∧ Below w0.heap.size w0 w' ∧ KeepBut w w' g none := by
  have hu79 := Try.underlying79
  have hu77 := Try.underlying77
  have hu75 := Try.underlying75
  have hu44 := Try.underlying44
  have hown := hI.own
  obtain ⟨A, c, rfl⟩ := Kd.R_slice hI.2.2
  have c4 : w.cell? ⟨g, 4, none⟩ = some (.slice A D.l.length c) := (blk_cell hI.1 4).trans rfl
  have H := Aside0.mk (And.intro hI (And.intro hB (KeepBut.refl w g none)))
  clear hI hB
  go_enter Try.func36, Try.ntmps36
  go_wp2
  go_loopg [11] D.l.length (fun m v wr => ∃ (j : Nat) (E : Dk), v = .int .i64 (j : Int) ∧ m + j = D.l.length ∧ Aside0 (E.l = D.l ∧ foldD E (D.l.drop j) = foldD D D.l ∧ E.s0.size + E.s1.size + ((D.l.drop j).map fun c => c.f2.size).sum ≤ 1099511627776 ∧ IsD w0 wr g E (.slice A D.l.length c) ∧ Below w0.heap.size w0 wr ∧ KeepBut w wr g none))
  case atStart => exact ⟨0, D, rfl, by omega, ⟨rfl, by rw [List.drop_zero], hO.2, H.out.1, H.out.2.1, H.out.2.2⟩⟩
  case round =>
    clear c4
    obtain ⟨j, E, rfl, hj, HC⟩ := hrel
    by_cases hlt : j < D.l.length
    · have q0 : decide ((j : Int) < (D.l.length : Int)) = true := decide_eq_true (by omega)
      obtain ⟨x, r, hx⟩ : ∃ x r, D.l.drop j = x :: r := ⟨_, _, List.drop_eq_getElem_cons hlt⟩
      obtain ⟨_, _, hr, hmem⟩ := rd79 hx
      obtain ⟨ad, rfl, x0, x1, x2⟩ := dk_read HC.out.2.2.2.1 (by rw [HC.out.1]; exact hx)
      have p0 : ((0 : Int) ≤ (j : Int)) = True := eq_true (by omega)
      have p1 : ((j : Int) < (D.l.length : Int)) = True := eq_true (by omega)
      have hsum := sum_drop D.l j x r hx
      have hsz := HC.out.2.2.1
      have hsf := safe_le E x.f0
      go_wp2_with (fail)
      have hk1 : ∀ o, KeepBut w _ g none := fun o => keep_alloc HC.out.2.2.2.2.2 o
      have hI1 := HC.out.2.2.2.1.below (below_alloc (Below.refl _ _) (.cells #[.int .i64 x.f0, .bool x.f1, .string x.f2] 79))
      have hB1 := below_alloc HC.out.2.2.2.2.1 (.cells #[.int .i64 x.f0, .bool x.f1, .string x.f2] 79)
      refine (land_ok g x E _ w0 _ hI1 hB1 (hO.1 x hmem) (by omega)).mono ?_
      rintro e w7 ⟨rfl, hI7, hB7, hk7⟩
      go_wp2
      go_roundg (D.l.length - (j + 1))
      case rel =>
        refine ⟨j + 1, landD E x, (by rw [Int.natCast_add]; rfl), (by omega), ⟨(by rw [landD_l, HC.out.1]), ?_, ?_, hI7, hB7, (hk1 _).trans hk7 (.inl rfl)⟩⟩
        · rw [hr, ← HC.out.2.1, hx]; rfl
        · have := landD_size E x
          omega
      case measure => omega
    · obtain rfl : j = D.l.length := by omega
      have q0 : decide ((D.l.length : Int) < (D.l.length : Int)) = false := decide_eq_false (by omega)
      have hI8 := HC.out.2.2.2.1
      have c4 := (blk_cell hI8.1 4).trans rfl
      have f4 := blk_frozen hI8.1 4
      go_wp2
      go_end0
      have hE : foldD D D.l = E := by
        have := HC.out.2.1
        rw [List.drop_length] at this
        exact this.symm
      refine ⟨rfl, ⟨?_, hI8.2.1, Kd.R_nil _ _ _ _ _⟩, below_set HC.out.2.2.2.2.1 hI8.2.1, KeepBut.set_ HC.out.2.2.2.2.2 _ _⟩
      have := blk_set hI8.1 4 (.slice none 0 0)
      unfold syncD
      rw [hE]
      simpa [dkCells] using this
/-- what of a change lands, whose bytes are kept in part -/
def partC (c : S79) (part : Int) : S79 := ⟨c.f0, false, c.f2.extract 0 (min part.toNat c.f2.size)⟩
def crashL (keep part : Int) : List S79 → Nat → Dk → Dk
  | [], _, E => E
  | c :: r, i, E => if keep ≤ (i : Int) then (if c.f1 = true then E else landD E (partC c part)) else crashL keep part r (i + 1) (landD E c)
theorem crashL_cons (keep part : Int) (c : S79) (r : List S79) (i : Nat) (E : Dk) : crashL keep part (c :: r) i E = if keep ≤ (i : Int) then (if c.f1 = true then E else landD E (partC c part)) else crashL keep part r (i + 1) (landD E c) := rfl
def flat (E : Dk) : Dk := ⟨E.s0, E.s0, E.s1, E.s1, []⟩
def flatN (i : Nat) (E : Dk) : Dk := ⟨if i = 0 then E.n0 else E.s0, E.s0, if i ≤ 1 then E.n1 else E.s1, E.s1, []⟩
def crashD (D : Dk) (keep part : Int) : Dk := flat (crashL keep part D.l 0 D)
set_option maxHeartbeats 6400000 in
set_option maxRecDepth 100000 in
theorem crash_ok (g : Nat) (D : Dk) (v : Value) (keep part : Int) (w0 w : World) (hI : IsD w0 w g D v) (hB : Below w0.heap.size w0 w) (hO : OkD D) (hl : D.l.length ≤ 100000) :
    Calls Try.prog 32 #[.pointer (some ⟨g, 0, none⟩), .int .i64 keep, .int .i64 part] w fun e w' => e = .returned (.tuple #[]) ∧ IsD w0 w' g (crashD D keep part) (.slice none 0 0) ∧ Below w0.heap.size w0 w' ∧ KeepBut w w' g none := by
  have hu79 := Try.underlying79
  have hu77 := Try.underlying77
  have hu75 := Try.underlying75
  have hu74 := Try.underlying74
  have hu73 := Try.underlying73
  have hu9 := Try.underlying9
  have hu44 := Try.underlying44
  obtain ⟨A, c, rfl⟩ := Kd.R_slice hI.2.2
  have c4 : w.cell? ⟨g, 4, none⟩ = some (.slice A D.l.length c) := (blk_cell hI.1 4).trans rfl
  have H := Aside0.mk (And.intro hI (And.intro hB (KeepBut.refl w g none)))
  clear hI hB
  go_enter Try.func32, Try.ntmps32
  go_upto_block 0 with (fail)
  go_cut [] (fun wc => ∃ E : Dk, Aside0 (crashD D keep part = flat E ∧ (∃ v, IsD w0 wc g E v) ∧ Below w0.heap.size w0 wc ∧ KeepBut w wc g none))
  case first =>
    go_wp2
    go_loopg [16] D.l.length (fun m v wr => ∃ (j : Nat) (E : Dk), v = .int .i64 (j : Int) ∧ m + j = D.l.length ∧ Aside0 (E.l = D.l ∧ crashL keep part (D.l.drop j) j E = crashL keep part D.l 0 D ∧ E.s0.size + E.s1.size + ((D.l.drop j).map fun c => c.f2.size).sum ≤ 1099511627776 ∧ IsD w0 wr g E (.slice A D.l.length c) ∧ Below w0.heap.size w0 wr ∧ KeepBut w wr g none))
    case atStart => exact ⟨0, D, rfl, by omega, ⟨rfl, by rw [List.drop_zero], hO.2, H.out.1, H.out.2.1, H.out.2.2⟩⟩
    case round =>
      clear c4
      obtain ⟨j, E, rfl, hj, HC⟩ := hrel
      by_cases hlt : j < D.l.length
      · have q0 : decide ((j : Int) < (D.l.length : Int)) = true := decide_eq_true (by omega)
        obtain ⟨x, r, hx⟩ : ∃ x r, D.l.drop j = x :: r := ⟨_, _, List.drop_eq_getElem_cons hlt⟩
        obtain ⟨_, _, hr, hmem⟩ := rd79 hx
        obtain ⟨ad, rfl, x0, x1, x2⟩ := dk_read HC.out.2.2.2.1 (by rw [HC.out.1]; exact hx)
        have p0 : ((0 : Int) ≤ (j : Int)) = True := eq_true (by omega)
        have p1 : ((j : Int) < (D.l.length : Int)) = True := eq_true (by omega)
        have hsum := sum_drop D.l j x r hx
        have hsz := HC.out.2.2.1
        have hsf := safe_le E x.f0
        have hcr := HC.out.2.1
        rw [hx] at hcr
        by_cases hk : keep ≤ (j : Int)
        · have q1 : decide (keep ≤ (j : Int)) = true := decide_eq_true hk
          rw [crashL_cons, if_pos hk] at hcr
          by_cases hb : x.f1 = true
          · rw [if_pos hb] at hcr
            rw [hb] at x1
            go_wp2
            go_meet
            case rel =>
              have bl := fun o => below_alloc (Below.refl wr.heap.size wr) o
              exact ⟨E, ⟨by unfold crashD; rw [← hcr], ⟨_, HC.out.2.2.2.1.below (bl _)⟩, below_alloc HC.out.2.2.2.2.1 _, keep_alloc HC.out.2.2.2.2.2 _⟩⟩
          · have hb : x.f1 = false := by simpa using hb
            rw [hb] at x1
            rw [if_neg (by simp [hb])] at hcr
            by_cases hp : part < 0
            · have e1 : (part < 0) = True := eq_true hp
              have e2 : ((x.f2.size : Int) < 0) = False := eq_false (by omega)
              go_wp2_with (fail)
              have hpc : partC x part = ⟨x.f0, false, ByteArray.empty⟩ := by unfold partC; rw [show min part.toNat x.f2.size = 0 by omega]; simp
              have hps : (ByteArray.empty).size ≤ x.f2.size := Nat.zero_le _
              have bl := fun o => below_alloc (Below.refl wr.heap.size wr) o
              refine (land_ok g ⟨x.f0, false, ByteArray.empty⟩ E _ w0 _ (HC.out.2.2.2.1.below (bl _)) (below_alloc HC.out.2.2.2.2.1 _) (hO.1 x hmem) (by show (safeD E x.f0).size + (ByteArray.empty).size ≤ _; omega)).mono ?_
              rintro e w7 ⟨rfl, hI7, hB7, hk7⟩
              go_wp2
              go_meet
              case rel => exact ⟨landD E ⟨x.f0, false, ByteArray.empty⟩, ⟨by unfold crashD; rw [← hcr, hpc], ⟨_, hI7⟩, hB7, (keep_alloc HC.out.2.2.2.2.2 _).trans hk7 (.inl rfl)⟩⟩
            have e1 : (part < 0) = False := eq_false hp
            by_cases hm : (x.f2.size : Int) < part
            · have e2 : ((x.f2.size : Int) < part) = True := eq_true hm
              go_wp2_with (fail)
              have hpc : partC x part = ⟨x.f0, false, x.f2⟩ := by unfold partC; rw [show min part.toNat x.f2.size = x.f2.size by omega, ByteArray.extract_zero_size]
              have hps : (x.f2).size ≤ x.f2.size := Nat.le_refl _
              have bl := fun o => below_alloc (Below.refl wr.heap.size wr) o
              refine (land_ok g ⟨x.f0, false, x.f2⟩ E _ w0 _ (HC.out.2.2.2.1.below (bl _)) (below_alloc HC.out.2.2.2.2.1 _) (hO.1 x hmem) (by show (safeD E x.f0).size + (x.f2).size ≤ _; omega)).mono ?_
              rintro e w7 ⟨rfl, hI7, hB7, hk7⟩
              go_wp2
              go_meet
              case rel => exact ⟨landD E ⟨x.f0, false, x.f2⟩, ⟨by unfold crashD; rw [← hcr, hpc], ⟨_, hI7⟩, hB7, (keep_alloc HC.out.2.2.2.2.2 _).trans hk7 (.inl rfl)⟩⟩
            have e2 : ((x.f2.size : Int) < part) = False := eq_false hm
            have e3 : (part ≤ (x.f2.size : Int)) = True := eq_true (by omega)
            have e4 : ((0 : Int) ≤ part) = True := eq_true (by omega)
            go_wp2_with (fail)
            have hpc : partC x part = ⟨x.f0, false, x.f2.extract 0 part.toNat⟩ := by unfold partC; rw [show min part.toNat x.f2.size = part.toNat by omega]
            have hps : (x.f2.extract 0 part.toNat).size ≤ x.f2.size := by rw [ByteArray.size_extract]; omega
            have bl := fun o => below_alloc (Below.refl wr.heap.size wr) o
            refine (land_ok g ⟨x.f0, false, x.f2.extract 0 part.toNat⟩ E _ w0 _ (HC.out.2.2.2.1.below (bl _)) (below_alloc HC.out.2.2.2.2.1 _) (hO.1 x hmem) (by show (safeD E x.f0).size + (x.f2.extract 0 part.toNat).size ≤ _; omega)).mono ?_
            rintro e w7 ⟨rfl, hI7, hB7, hk7⟩
            go_wp2
            go_meet
            case rel => exact ⟨landD E ⟨x.f0, false, x.f2.extract 0 part.toNat⟩, ⟨by unfold crashD; rw [← hcr, hpc], ⟨_, hI7⟩, hB7, (keep_alloc HC.out.2.2.2.2.2 _).trans hk7 (.inl rfl)⟩⟩
        · have q1 : decide (keep ≤ (j : Int)) = false := decide_eq_false hk
          rw [crashL_cons, if_neg hk] at hcr
          have bl := fun o => below_alloc (Below.refl wr.heap.size wr) o
          go_wp2_with (fail)
          refine (land_ok g x E _ w0 _ (HC.out.2.2.2.1.below (bl _)) (below_alloc HC.out.2.2.2.2.1 _) (hO.1 x hmem) (by omega)).mono ?_
          rintro e w7 ⟨rfl, hI7, hB7, hk7⟩
          go_wp2
          go_roundg (D.l.length - (j + 1))
          case rel =>
            refine ⟨j + 1, landD E x, (by rw [Int.natCast_add]; rfl), (by omega), ⟨(by rw [landD_l, HC.out.1]), (by rw [hr]; exact hcr), ?_, hI7, hB7, (keep_alloc HC.out.2.2.2.2.2 _).trans hk7 (.inl rfl)⟩⟩
            have := landD_size E x
            omega
          case measure => omega
      · obtain rfl : j = D.l.length := by omega
        have q0 : decide ((D.l.length : Int) < (D.l.length : Int)) = false := decide_eq_false (by omega)
        have hcr := HC.out.2.1
        rw [List.drop_length] at hcr
        go_wp2
        go_meet
        case rel => exact ⟨E, ⟨by unfold crashD; rw [← hcr]; rfl, ⟨_, HC.out.2.2.2.1⟩, HC.out.2.2.2.2.1, HC.out.2.2.2.2.2⟩⟩
  case rest =>
    clear c4 H
    obtain ⟨E, HE⟩ := hcut
    obtain ⟨u, hE⟩ := HE.out.2.1
    have hge := hE.2.1
    have c4 := (blk_cell hE.1 4).trans rfl
    have f4 := blk_frozen hE.1 4
    have h5 := blk_set hE.1 4 (.slice none 0 0)
    have hS := Aside0.mk (show IsD w0 (wc.setCell ⟨g, 4, none⟩ (.slice none 0 0)) g (flatN 0 E) (.slice none 0 0) ∧ Below w0.heap.size w0 (wc.setCell ⟨g, 4, none⟩ (.slice none 0 0)) ∧ KeepBut w (wc.setCell ⟨g, 4, none⟩ (.slice none 0 0)) g none from ⟨⟨by simpa [dkCells, flatN] using h5, hge, Kd.R_nil _ _ _ _ _⟩, below_set HE.out.2.2.1 hge, KeepBut.set_ HE.out.2.2.2 _ _⟩)
    clear h5 hE
    go_wp2
    go_loopg [47] 2 (fun m v wr => ∃ i : Nat, v = .int .i64 (i : Int) ∧ m + i = 2 ∧ Aside0 (IsD w0 wr g (flatN i E) (.slice none 0 0) ∧ Below w0.heap.size w0 wr ∧ KeepBut w wr g none))
    case atStart => exact ⟨0, rfl, rfl, hS⟩
    case round =>
      clear c4 f4 hS
      obtain ⟨i, rfl, hi, HC⟩ := hrel
      have hI8 := HC.out.1
      have fz := blk_frozen hI8.1
      have : i = 0 ∨ i = 1 ∨ i = 2 := by omega
      rcases this with rfl | rfl | rfl
      · have c0 : wr.cell? ⟨g, 0, none⟩ = some (.string E.n0) := (blk_cell hI8.1 0).trans rfl
        have c1 : wr.cell? ⟨g, 1, none⟩ = some (.string E.s0) := (blk_cell hI8.1 1).trans rfl
        go_wp2
        go_region
        go_wp2
        go_roundg 1
        case rel =>
          refine ⟨1, rfl, rfl, ⟨⟨?_, hge, Kd.R_nil _ _ _ _ _⟩, below_set (pw_below_drewN HC.out.2.1 _) hge, KeepBut.set_ (keep_drewN HC.out.2.2 _) _ _⟩⟩
          have q := blk_set (blk_drewN hI8.1 1) 0 (.string E.s0)
          simp only [dkCells, flatN] at q
          exact q
        case measure => omega
      · have c2 : wr.cell? ⟨g, 2, none⟩ = some (.string E.n1) := (blk_cell hI8.1 2).trans rfl
        have c3 : wr.cell? ⟨g, 3, none⟩ = some (.string E.s1) := (blk_cell hI8.1 3).trans rfl
        go_wp2
        go_region
        go_wp2
        go_roundg 0
        case rel =>
          refine ⟨2, rfl, rfl, ⟨⟨?_, hge, Kd.R_nil _ _ _ _ _⟩, below_set (pw_below_drewN HC.out.2.1 _) hge, KeepBut.set_ (keep_drewN HC.out.2.2 _) _ _⟩⟩
          have q := blk_set (blk_drewN hI8.1 1) 2 (.string E.s1)
          simp only [dkCells, flatN] at q
          exact q
        case measure => omega
      · go_wp2
        go_end0
        refine ⟨rfl, ?_, HC.out.2.1, HC.out.2.2⟩
        rw [HE.out.1]
        exact HC.out.1
theorem KeepBut.weak {w w' : World} {g : Nat} {row : Option Nat} (h : KeepBut w w' g none) : KeepBut w w' g row := ⟨h.1, fun i hi h1 _ => h.2 i hi h1 (by simp)⟩
theorem KeepBut.drawn (w : World) (n g : Nat) (row : Option Nat) : KeepBut w (w.drewN n) g row := KeepBut.weak (keep_drewN (KeepBut.refl w g none) n)
def zeroDk : Dk := ⟨⟨#[]⟩, ⟨#[]⟩, ⟨#[]⟩, ⟨#[]⟩, []⟩
set_option maxHeartbeats 1600000 in
set_option maxRecDepth 100000 in
theorem new_ok (w : World) : Calls Try.prog 29 #[] w fun e w' => e = .returned (.pointer (some ⟨w.heap.size, 0, none⟩)) ∧ w' = w.alloc (.cells (dkCells zeroDk (.slice none 0 0)) 77) := by
  have hu77 := Try.underlying77
  go_enter Try.func29, Try.ntmps29
  go_wp2
  go_ret
  exact ⟨rfl, rfl⟩
theorem new_isD (w0 w : World) (hB : Below w0.heap.size w0 w) : IsD w0 (w.alloc (.cells (dkCells zeroDk (.slice none 0 0)) 77)) w.heap.size zeroDk (.slice none 0 0) :=
  ⟨heap_alloc_new w _, hB.size, Kd.R_nil _ _ _ _ _⟩
set_option maxHeartbeats 1600000 in
set_option maxRecDepth 100000 in
theorem read_ok (g : Nat) (a : Int) (D : Dk) (v : Value) (w0 w : World) (hI : IsD w0 w g D v) (ha : a = 0 ∨ a = 1) :
    Calls Try.prog 33 #[.pointer (some ⟨g, 0, none⟩), .int .i64 a] w fun e w' => e = .returned (.string (nowD D a)) ∧ ∃ n, w' = w.drewN n := by
  have hu77 := Try.underlying77
  have hu74 := Try.underlying74
  have hu73 := Try.underlying73
  have hu44 := Try.underlying44
  have G := disk_good.calls a true
  have hga := goodA ha
  have c0 : w.cell? ⟨g, 0, none⟩ = some (.string D.n0) := (blk_cell hI.1 0).trans rfl
  have c2 : w.cell? ⟨g, 2, none⟩ = some (.string D.n1) := (blk_cell hI.1 2).trans rfl
  rcases ha with rfl | rfl
  · go_enter Try.func33, Try.ntmps33
    go_wp2_with (go_at_call 45; (with_reducible refine (G _ hga).mono ?_); rintro e w1 ⟨rfl, ⟨nd, rfl⟩⟩)
    go_ret
    exact ⟨rfl, _, rfl⟩
  · go_enter Try.func33, Try.ntmps33
    go_wp2_with (go_at_call 45; (with_reducible refine (G _ hga).mono ?_); rintro e w1 ⟨rfl, ⟨nd, rfl⟩⟩)
    go_ret
    exact ⟨rfl, _, rfl⟩
set_option maxHeartbeats 1600000 in
set_option maxRecDepth 100000 in
theorem safe_ok (g : Nat) (a : Int) (D : Dk) (v : Value) (w0 w : World) (hI : IsD w0 w g D v) (ha : a = 0 ∨ a = 1) :
    Calls Try.prog 37 #[.pointer (some ⟨g, 0, none⟩), .int .i64 a] w fun e w' => e = .returned (.string (safeD D a)) ∧ ∃ n, w' = w.drewN n := by
  have hu77 := Try.underlying77
  have hu74 := Try.underlying74
  have hu73 := Try.underlying73
  have hu44 := Try.underlying44
  have G := disk_good.calls a true
  have hga := goodA ha
  have c1 : w.cell? ⟨g, 1, none⟩ = some (.string D.s0) := (blk_cell hI.1 1).trans rfl
  have c3 : w.cell? ⟨g, 3, none⟩ = some (.string D.s1) := (blk_cell hI.1 3).trans rfl
  rcases ha with rfl | rfl
  · go_enter Try.func37, Try.ntmps37
    go_wp2_with (go_at_call 45; (with_reducible refine (G _ hga).mono ?_); rintro e w1 ⟨rfl, ⟨nd, rfl⟩⟩)
    go_ret
    exact ⟨rfl, _, rfl⟩
  · go_enter Try.func37, Try.ntmps37
    go_wp2_with (go_at_call 45; (with_reducible refine (G _ hga).mono ?_); rintro e w1 ⟨rfl, ⟨nd, rfl⟩⟩)
    go_ret
    exact ⟨rfl, _, rfl⟩
set_option maxHeartbeats 1600000 in
set_option maxRecDepth 100000 in
theorem waits_ok (g : Nat) (D : Dk) (v : Value) (w0 w : World) (hI : IsD w0 w g D v) :
    Calls Try.prog 41 #[.pointer (some ⟨g, 0, none⟩)] w fun e w' => e = .returned (.int .i64 (D.l.length : Int)) ∧ ∃ n, w' = w.drewN n := by
  have hu77 := Try.underlying77
  have hu75 := Try.underlying75
  have hu44 := Try.underlying44
  obtain ⟨A, c, rfl⟩ := Kd.R_slice hI.2.2
  have c4 : w.cell? ⟨g, 4, none⟩ = some (.slice A D.l.length c) := (blk_cell hI.1 4).trans rfl
  go_enter Try.func41, Try.ntmps41
  go_wp2
  go_ret
  exact ⟨rfl, 0, rfl⟩
/-! ### what stays small -/
def Good (D : Dk) (N m : Nat) : Prop := (∀ c ∈ D.l, c.f0 = 0 ∨ c.f0 = 1) ∧ sizeD D ≤ N ∧ D.n0.size ≤ 16384 + N ∧ D.n1.size ≤ 16384 + N ∧ D.l.length ≤ m
theorem good_zero : Good zeroDk 0 0 := ⟨(by intro c h; simp [zeroDk] at h), Nat.le_refl _, Nat.zero_le _, Nat.zero_le _, Nat.le_refl _⟩
theorem good_mono {D : Dk} {N N' m m' : Nat} (h : Good D N m) (h1 : N ≤ N') (h2 : m ≤ m') : Good D N' m' := ⟨h.1, Nat.le_trans h.2.1 h1, by have := h.2.2.1; omega, by have := h.2.2.2.1; omega, Nat.le_trans h.2.2.2.2 h2⟩
theorem Good.ok {D : Dk} {N m : Nat} (h : Good D N m) (hN : N ≤ 1099511627776) : OkD D := ⟨h.1, Nat.le_trans h.2.1 hN⟩
theorem good_app {D : Dk} {N m : Nat} (h : Good D N m) (a : Int) (s : ByteArray) (ha : a = 0 ∨ a = 1) (hs : s.size + (nowD D a).size ≤ 16384) : Good (appD D a s) (N + s.size) (m + 1) := by
  obtain ⟨h1, h2, h3, h4, h5⟩ := h
  have hm : ∀ c ∈ D.l ++ [(⟨a, false, s⟩ : S79)], c.f0 = 0 ∨ c.f0 = 1 := by
    intro c hc
    rcases List.mem_append.1 hc with hc | hc
    · exact h1 c hc
    · rw [List.mem_singleton.1 hc]; exact ha
  unfold sizeD at h2
  unfold appD nowD at *
  split at hs
  · rename_i e
    rw [if_pos e]
    refine ⟨hm, ?_, ?_, ?_, ?_⟩
    · unfold sizeD; simp; omega
    · simp only [ByteArray.size_append]; omega
    · dsimp only; omega
    · simp; omega
  · rename_i e
    rw [if_neg e]
    refine ⟨hm, ?_, ?_, ?_, ?_⟩
    · unfold sizeD; simp; omega
    · dsimp only; omega
    · simp only [ByteArray.size_append]; omega
    · simp; omega
theorem good_rst {D : Dk} {N m : Nat} (h : Good D N m) (a : Int) (ha : a = 0 ∨ a = 1) : Good (rstD D a) N (m + 1) := by
  obtain ⟨h1, h2, h3, h4, h5⟩ := h
  have hm : ∀ c ∈ D.l ++ [(⟨a, true, (⟨#[]⟩ : ByteArray)⟩ : S79)], c.f0 = 0 ∨ c.f0 = 1 := by
    intro c hc
    rcases List.mem_append.1 hc with hc | hc
    · exact h1 c hc
    · rw [List.mem_singleton.1 hc]; exact ha
  have he : (⟨#[]⟩ : ByteArray).size = 0 := rfl
  unfold sizeD at h2
  unfold rstD
  split
  · refine ⟨hm, ?_, ?_, ?_, ?_⟩
    · unfold sizeD; simp [he]; omega
    · dsimp only; omega
    · dsimp only; omega
    · simp; omega
  · refine ⟨hm, ?_, ?_, ?_, ?_⟩
    · unfold sizeD; simp [he]; omega
    · dsimp only; omega
    · dsimp only; omega
    · simp; omega
theorem foldD_size : ∀ (r : List S79) (D : Dk), (foldD D r).s0.size + (foldD D r).s1.size ≤ D.s0.size + D.s1.size + (r.map fun c => c.f2.size).sum
  | [], D => by simp [foldD]
  | c :: r, D => by
    have h := foldD_size r (landD D c)
    have h2 := landD_size D c
    show (foldD (landD D c) r).s0.size + (foldD (landD D c) r).s1.size ≤ _
    simp; omega
theorem foldD_n : ∀ (r : List S79) (D : Dk), (foldD D r).n0 = D.n0 ∧ (foldD D r).n1 = D.n1
  | [], D => ⟨rfl, rfl⟩
  | c :: r, D => by
    have h := foldD_n r (landD D c)
    show (foldD (landD D c) r).n0 = _ ∧ (foldD (landD D c) r).n1 = _
    rw [h.1, h.2]
    unfold landD; split <;> exact ⟨rfl, rfl⟩
theorem good_sync {D : Dk} {N m : Nat} (h : Good D N m) : Good (syncD D) N m := by
  obtain ⟨h1, h2, h3, h4, h5⟩ := h
  have hs := foldD_size D.l D
  have hn := foldD_n D.l D
  unfold syncD
  refine ⟨(by intro c hc; simp at hc), ?_, ?_, ?_, Nat.zero_le _⟩
  · unfold sizeD at h2 ⊢; simp; omega
  · dsimp only; rw [hn.1]; exact h3
  · dsimp only; rw [hn.2]; exact h4
theorem crashL_size (keep part : Int) : ∀ (r : List S79) (i : Nat) (E : Dk), (crashL keep part r i E).s0.size + (crashL keep part r i E).s1.size ≤ E.s0.size + E.s1.size + (r.map fun c => c.f2.size).sum
  | [], i, E => by simp [crashL]
  | c :: r, i, E => by
    rw [crashL_cons]
    split
    · split
      · simp <;> omega
      · have := landD_size E (partC c part)
        have hp : (partC c part).f2.size ≤ c.f2.size := by unfold partC; dsimp only; rw [ByteArray.size_extract]; omega
        simp; omega
    · have h := crashL_size keep part r (i + 1) (landD E c)
      have := landD_size E c
      simp; omega
theorem good_crash {D : Dk} {N m : Nat} (h : Good D N m) (keep part : Int) : Good (crashD D keep part) N m := by
  obtain ⟨h1, h2, h3, h4, h5⟩ := h
  have hs := crashL_size keep part D.l 0 D
  unfold crashD flat
  unfold sizeD at h2
  refine ⟨(by intro c hc; simp at hc), ?_, ?_, ?_, Nat.zero_le _⟩
  · unfold sizeD; simp <;> omega
  · dsimp only; omega
  · dsimp only; omega
/-- what a call does to a disk -/
def doesD (D : Dk) (c : S53) : Dk := if c.f0 = 0 then (if (c.f1 = 0 ∨ c.f1 = 1) ∧ c.f2.size + (nowD D c.f1).size ≤ 16384 then appD D c.f1 c.f2 else D) else if c.f0 = 1 then (if c.f1 = 0 ∨ c.f1 = 1 then rstD D c.f1 else D) else if c.f0 = 2 then syncD D else if c.f0 = 3 then crashD D c.f3 c.f4 else D
theorem good_does {D : Dk} {N m : Nat} (h : Good D N m) (c : S53) : Good (doesD D c) (N + c.f2.size) (m + 1) := by
  unfold doesD
  split
  · split
    · rename_i q
      exact good_app h _ _ q.1 q.2
    · exact good_mono h (by omega) (by omega)
  split
  · split
    · rename_i q
      exact good_mono (good_rst h _ q) (by omega) (Nat.le_refl _)
    · exact good_mono h (by omega) (by omega)
  split
  · exact good_mono (good_sync h) (by omega) (by omega)
  split
  · exact good_mono (good_crash h _ _) (by omega) (by omega)
  · exact good_mono h (by omega) (by omega)
theorem now_small {D : Dk} {N m : Nat} (h : Good D N m) (a : Int) : (nowD D a).size ≤ 16384 + N := by
  unfold nowD; split
  · exact h.2.2.1
  · exact h.2.2.2.1
def callCells (c : S53) : Array Value := #[.int .i64 c.f0, .int .i64 c.f1, .string c.f2, .int .i64 c.f3, .int .i64 c.f4]
set_option maxHeartbeats 3200000 in
set_option maxRecDepth 100000 in
theorem does_ok (g : Nat) (D : Dk) (v : Value) (c : S53) (N m : Nat) (w0 w : World) (hI : IsD w0 w g D v) (hB : Below w0.heap.size w0 w) (hG : Good D N m) (hN : N ≤ 1000000000) (hm : m ≤ 100000) (hs : c.f2.size ≤ 1099511627776) :
    Calls Try.prog 35 #[.pointer (some ⟨g, 0, none⟩), .agg (callCells c)] w fun e w' => (∃ n, e = .returned (.int .i64 n)) ∧ ∃ v', IsD w0 w' g (doesD D c) v' ∧ Below w0.heap.size w0 w' ∧ KeepBut w w' g v.ownBlock ∧ Nx w v v' := by
  have hu53 := Try.underlying53
  have bl := below_alloc (Below.refl w.heap.size w) (.cells (callCells c) 53)
  have hI1 := hI.below bl
  have hB1 := below_alloc hB (.cells (callCells c) 53)
  have hn := heap_alloc_new w (.cells (callCells c) 53)
  have c0 : (w.alloc (.cells (callCells c) 53)).cell? ⟨w.heap.size, 0, none⟩ = some (.int .i64 c.f0) := (blk_cell hn 0).trans rfl
  have c1 : (w.alloc (.cells (callCells c) 53)).cell? ⟨w.heap.size, 1, none⟩ = some (.int .i64 c.f1) := (blk_cell hn 1).trans rfl
  have c2 : (w.alloc (.cells (callCells c) 53)).cell? ⟨w.heap.size, 2, none⟩ = some (.string c.f2) := (blk_cell hn 2).trans rfl
  have c3 : (w.alloc (.cells (callCells c) 53)).cell? ⟨w.heap.size, 3, none⟩ = some (.int .i64 c.f3) := (blk_cell hn 3).trans rfl
  have c4 : (w.alloc (.cells (callCells c) 53)).cell? ⟨w.heap.size, 4, none⟩ = some (.int .i64 c.f4) := (blk_cell hn 4).trans rfl
  have hsz : w.heap.size ≤ (w.alloc (.cells (callCells c) 53)).heap.size := bl.size
  have hk1 : KeepBut w (w.alloc (.cells (callCells c) 53)) g none := keep_alloc (KeepBut.refl w g none) _
  have comp : ∀ w7 : World, KeepBut (w.alloc (.cells (callCells c) 53)) w7 g v.ownBlock → KeepBut w w7 g v.ownBlock := fun w7 h => ⟨Nat.le_trans hsz h.1, fun i hi h1 h2 => (h.2 i (by omega) h1 h2).trans (hk1.2 i hi h1 (by simp))⟩
  have nx : ∀ v', Nx (w.alloc (.cells (callCells c) 53)) v v' → Nx w v v' := fun v' h b hb => (h b hb).imp id (fun q => Nat.le_trans hsz q)
  have stay : ∀ n, IsD w0 ((w.alloc (.cells (callCells c) 53)).drewN n) g D v ∧ Below w0.heap.size w0 ((w.alloc (.cells (callCells c) 53)).drewN n) ∧ KeepBut w ((w.alloc (.cells (callCells c) 53)).drewN n) g v.ownBlock ∧ Nx w v v := fun n => ⟨hI1.below (pw_below_drewN (Below.refl _ _) n), pw_below_drewN hB1 n, KeepBut.weak (keep_drewN hk1 n), fun b hb => .inl hb⟩
  have hOk := hG.ok (by omega)
  have hlm := hG.2.2.2.2
  have hnow := now_small hG c.f1
  have HH := Aside0.mk (And.intro hI1 hB1)
  unfold callCells at c0 c1 c2 c3 c4 ⊢
  clear hn hI hB hI1 hB1 bl
  by_cases e0 : c.f0 = 0
  · have b0 : (c.f0 == 0) = true := by simpa using e0
    have hd : doesD D c = if (c.f1 = 0 ∨ c.f1 = 1) ∧ c.f2.size + (nowD D c.f1).size ≤ 16384 then appD D c.f1 c.f2 else D := by unfold doesD; rw [if_pos e0]
    clear e0
    by_cases ha : c.f1 = 0 ∨ c.f1 = 1
    · by_cases hf : c.f2.size + (nowD D c.f1).size ≤ 16384
      · rw [if_pos ⟨ha, hf⟩] at hd
        rw [hd]
        clear hd
        go_enter Try.func35, Try.ntmps35
        go_wp2_with (fail)
        refine (append_ok g c.f1 D v c.f2 w0 _ HH.out.1 HH.out.2 ha hf (by omega)).mono ?_
        rintro e w7 ⟨rfl, v', hI7, hB7, hk7, hx7⟩
        go_wp2
        go_ret
        exact ⟨⟨_, rfl⟩, v', hI7, hB7, comp _ hk7, nx _ hx7⟩
      · rw [if_neg (fun q => hf q.2)] at hd
        rw [hd]
        clear hd
        go_enter Try.func35, Try.ntmps35
        go_wp2_with (fail)
        refine (append_full g c.f1 D v c.f2 w0 _ HH.out.1 ha hf hs (by omega)).mono ?_
        rintro e w7 ⟨rfl, n, rfl⟩
        go_wp2
        go_ret
        exact ⟨⟨_, rfl⟩, v, stay n⟩
    · rw [if_neg (fun q => ha q.1)] at hd
      rw [hd]
      clear hd
      go_enter Try.func35, Try.ntmps35
      go_wp2_with (fail)
      refine (append_bad g c.f1 c.f2 _ ha).mono ?_
      rintro e w7 ⟨rfl, n, rfl⟩
      go_wp2
      go_ret
      exact ⟨⟨_, rfl⟩, v, stay n⟩
  have b0 : (c.f0 == 0) = false := by simpa using e0
  by_cases e1 : c.f0 = 1
  · have b1 : (c.f0 == 1) = true := by simpa using e1
    have hd : doesD D c = if c.f1 = 0 ∨ c.f1 = 1 then rstD D c.f1 else D := by unfold doesD; rw [if_neg e0, if_pos e1]
    clear e0 e1
    by_cases ha : c.f1 = 0 ∨ c.f1 = 1
    · rw [if_pos ha] at hd
      rw [hd]
      clear hd
      go_enter Try.func35, Try.ntmps35
      go_wp2_with (fail)
      refine (reset_ok g c.f1 D v w0 _ HH.out.1 HH.out.2 ha (by omega)).mono ?_
      rintro e w7 ⟨rfl, v', hI7, hB7, hk7, hx7⟩
      go_wp2
      go_ret
      exact ⟨⟨_, rfl⟩, v', hI7, hB7, comp _ hk7, nx _ hx7⟩
    · rw [if_neg ha] at hd
      rw [hd]
      clear hd
      go_enter Try.func35, Try.ntmps35
      go_wp2_with (fail)
      refine (reset_bad g c.f1 _ ha).mono ?_
      rintro e w7 ⟨rfl, n, rfl⟩
      go_wp2
      go_ret
      exact ⟨⟨_, rfl⟩, v, stay n⟩
  have b1 : (c.f0 == 1) = false := by simpa using e1
  by_cases e2 : c.f0 = 2
  · have b2 : (c.f0 == 2) = true := by simpa using e2
    have hd : doesD D c = syncD D := by unfold doesD; rw [if_neg e0, if_neg e1, if_pos e2]
    rw [hd]
    clear e0 e1 e2 hd
    go_enter Try.func35, Try.ntmps35
    go_wp2_with (fail)
    refine (sync_ok g D v w0 _ HH.out.1 HH.out.2 hOk (by omega)).mono ?_
    rintro e w7 ⟨rfl, hI7, hB7, hk7⟩
    go_wp2
    go_ret
    exact ⟨⟨_, rfl⟩, _, hI7, hB7, comp _ (KeepBut.weak hk7), fun b hb => by simp [Value.ownBlock] at hb⟩
  have b2 : (c.f0 == 2) = false := by simpa using e2
  by_cases e3 : c.f0 = 3
  · have b3 : (c.f0 == 3) = true := by simpa using e3
    have hd : doesD D c = crashD D c.f3 c.f4 := by unfold doesD; rw [if_neg e0, if_neg e1, if_neg e2, if_pos e3]
    rw [hd]
    clear e0 e1 e2 e3 hd
    go_enter Try.func35, Try.ntmps35
    go_wp2_with (fail)
    refine (crash_ok g D v c.f3 c.f4 w0 _ HH.out.1 HH.out.2 hOk (by omega)).mono ?_
    rintro e w7 ⟨rfl, hI7, hB7, hk7⟩
    go_wp2
    go_ret
    exact ⟨⟨_, rfl⟩, _, hI7, hB7, comp _ (KeepBut.weak hk7), fun b hb => by simp [Value.ownBlock] at hb⟩
  have b3 : (c.f0 == 3) = false := by simpa using e3
  have hd : doesD D c = D := by unfold doesD; rw [if_neg e0, if_neg e1, if_neg e2, if_neg e3]
  rw [hd]
  clear e0 e1 e2 e3 hd
  go_enter Try.func35, Try.ntmps35
  go_wp2
  go_ret
  exact ⟨⟨_, rfl⟩, v, stay 0⟩
/-! ### what a disk has is what is safe, and the changes that wait -/
def foldS0 (x : ByteArray) (r : List S79) : ByteArray := r.foldl (fun x c => if c.f0 = 0 then landS x c else x) x
def foldS1 (x : ByteArray) (r : List S79) : ByteArray := r.foldl (fun x c => if c.f0 = 0 then x else landS x c) x
theorem foldD_s : ∀ (r : List S79) (D : Dk), (foldD D r).s0 = foldS0 D.s0 r ∧ (foldD D r).s1 = foldS1 D.s1 r
  | [], D => ⟨rfl, rfl⟩
  | c :: r, D => by
    have h := foldD_s r (landD D c)
    show (foldD (landD D c) r).s0 = _ ∧ (foldD (landD D c) r).s1 = _
    rw [h.1, h.2]
    unfold landD foldS0 foldS1
    simp only [List.foldl_cons]
    split <;> exact ⟨rfl, rfl⟩
def Cons (D : Dk) : Prop := foldS0 D.s0 D.l = D.n0 ∧ foldS1 D.s1 D.l = D.n1
theorem cons_zero : Cons zeroDk := ⟨rfl, rfl⟩
theorem foldS0_snoc (x : ByteArray) (r : List S79) (c : S79) : foldS0 x (r ++ [c]) = if c.f0 = 0 then landS (foldS0 x r) c else foldS0 x r := by unfold foldS0; rw [List.foldl_append]; rfl
theorem foldS1_snoc (x : ByteArray) (r : List S79) (c : S79) : foldS1 x (r ++ [c]) = if c.f0 = 0 then foldS1 x r else landS (foldS1 x r) c := by unfold foldS1; rw [List.foldl_append]; rfl
theorem cons_app {D : Dk} (h : Cons D) (a : Int) (s : ByteArray) : Cons (appD D a s) := by
  obtain ⟨h1, h2⟩ := h
  unfold appD Cons
  split
  · rename_i e
    dsimp only
    rw [foldS0_snoc, foldS1_snoc, if_pos e, if_pos e, h1, h2]
    exact ⟨rfl, rfl⟩
  · rename_i e
    dsimp only
    rw [foldS0_snoc, foldS1_snoc, if_neg e, if_neg e, h1, h2]
    exact ⟨rfl, rfl⟩
theorem cons_rst {D : Dk} (h : Cons D) (a : Int) : Cons (rstD D a) := by
  obtain ⟨h1, h2⟩ := h
  unfold rstD Cons
  split
  · rename_i e
    dsimp only
    rw [foldS0_snoc, foldS1_snoc, if_pos e, if_pos e, h1, h2]
    exact ⟨rfl, rfl⟩
  · rename_i e
    dsimp only
    rw [foldS0_snoc, foldS1_snoc, if_neg e, if_neg e, h1, h2]
    exact ⟨rfl, rfl⟩
theorem sync_eq {D : Dk} (h : Cons D) : syncD D = ⟨D.n0, D.n0, D.n1, D.n1, []⟩ := by
  obtain ⟨h1, h2⟩ := h
  have hs := foldD_s D.l D
  have hn := foldD_n D.l D
  show (⟨(foldD D D.l).n0, (foldD D D.l).s0, (foldD D D.l).n1, (foldD D D.l).s1, []⟩ : Dk) = _
  rw [hs.1, hs.2, h1, h2, hn.1, hn.2]
theorem cons_sync {D : Dk} (h : Cons D) : Cons (syncD D) := by rw [sync_eq h]; exact ⟨rfl, rfl⟩
theorem cons_crash (D : Dk) (keep part : Int) : Cons (crashD D keep part) := ⟨rfl, rfl⟩
theorem cons_does {D : Dk} (h : Cons D) (c : S53) : Cons (doesD D c) := by
  unfold doesD
  split
  · split
    · exact cons_app h _ _
    · exact h
  split
  · split
    · exact cons_rst h _
    · exact h
  split
  · exact cons_sync h
  split
  · exact cons_crash _ _ _
  · exact h
def tot53 : List S53 → Nat
  | [] => 0
  | x :: r => x.f2.size + tot53 r
theorem rd53 {l : List S53} {i : Nat} {x : S53} {r : List S53} (h : l.drop i = x :: r) : rd_T53 l (i : Int) = x ∧ i < l.length ∧ l.drop (i + 1) = r := by
  have hi : i < l.length := by
    rcases Nat.lt_or_ge i l.length with h' | h'
    · exact h'
    · rw [List.drop_eq_nil_of_le h'] at h; cases h
  rw [List.drop_eq_getElem_cons hi] at h
  injection h with h1 h2
  refine ⟨?_, hi, h2⟩
  unfold rd_T53
  rw [Int.toNat_natCast, List.getD_eq_getElem?_getD, List.getElem?_eq_getElem hi]
  exact h1
def abc : ByteArray := ⟨#[97, 98, 99]⟩
def D1 : Dk := ⟨abc, ⟨#[]⟩, ⟨#[]⟩, ⟨#[]⟩, [⟨0, false, abc⟩]⟩
theorem d1_eq : appD zeroDk 0 abc = D1 := by
  unfold appD; rw [if_pos rfl]
  show (⟨(⟨#[]⟩ : ByteArray) ++ abc, _, _, _, _⟩ : Dk) = _
  rw [show (⟨#[]⟩ : ByteArray) ++ abc = abc from ByteArray.empty_append]; rfl
theorem d2_now : nowD (crashD D1 0 2) 0 = ⟨#[97, 98]⟩ := by decide +kernel
set_option maxHeartbeats 1600000 in
set_option maxRecDepth 100000 in
theorem alive_ok (w : World) : Calls Try.prog 28 #[] w fun e w' => e = .returned (.bool true) ∧ Below w.heap.size w w' := by
  go_enter Try.func28, Try.ntmps28
  go_wp2_with (fail)
  refine (new_ok w).mono ?_
  rintro e w1 ⟨rfl, rfl⟩
  have hI := new_isD w w (Below.refl _ _)
  have hB : Below w.heap.size w (w.alloc (.cells (dkCells zeroDk (.slice none 0 0)) 77)) := below_alloc (Below.refl _ _) _
  generalize w.alloc (.cells (dkCells zeroDk (.slice none 0 0)) 77) = w1 at hI hB ⊢
  go_wp2_with (fail)
  refine (append_ok w.heap.size 0 zeroDk (.slice none 0 0) abc w w1 hI hB (.inl rfl) (by decide) (Nat.zero_le _)).mono ?_
  rintro e w2 ⟨rfl, v2, hI2, hB2, _, _⟩
  rw [d1_eq] at hI2
  go_wp2_with (fail)
  refine (crash_ok w.heap.size D1 v2 0 2 w w2 hI2 hB2 ⟨by intro c hc; simp [D1] at hc; rw [hc]; exact .inl rfl, by decide⟩ (by decide)).mono ?_
  rintro e w3 ⟨rfl, hI3, hB3, _⟩
  go_wp2_with (fail)
  refine (read_ok w.heap.size 0 _ _ w w3 hI3 (.inl rfl)).mono ?_
  rintro e w4 ⟨rfl, n4, rfl⟩
  rw [d2_now]
  have hI4 := hI3.below (pw_below_drewN (Below.refl _ _) n4)
  go_wp2_with (fail)
  refine (waits_ok w.heap.size _ _ w _ hI4).mono ?_
  rintro e w5 ⟨rfl, n5, rfl⟩
  go_wp2
  go_ret
  exact ⟨rfl, pw_below_drewN hB3 _⟩
theorem IsD.lt {w0 W : World} {g : Nat} {D : Dk} {v : Value} (h : IsD w0 W g D v) (b : Nat) (hb : v.ownBlock = some b) : b < W.heap.size := by
  obtain ⟨inner, ho, _⟩ := h.2.2.2
  exact own_lt ho b hb
theorem IsD.ne77 {w0 W : World} {g g' : Nat} {D D' : Dk} {v v' : Value} (h : IsD w0 W g D v) (h' : IsD w0 W g' D' v') : some g' ≠ v.ownBlock := Kd.R_ne h.2.2 h'.1 (by decide)
theorem crashL_all (keep part : Int) : ∀ (r : List S79) (i : Nat) (E : Dk), ((i + r.length : Nat) : Int) ≤ keep → crashL keep part r i E = foldD E r
  | [], i, E, h => rfl
  | c :: r, i, E, h => by
    rw [List.length_cons] at h
    rw [crashL_cons, if_neg (by omega), crashL_all keep part r (i + 1) (landD E c) (by omega)]
    rfl
theorem crash_all {D : Dk} (hC : Cons D) (keep part : Int) (h : (D.l.length : Int) ≤ keep) : crashD D keep part = syncD D := by
  have hs := foldD_s D.l D
  unfold crashD
  rw [crashL_all keep part D.l 0 D (by simpa using h), sync_eq hC]
  unfold flat
  rw [hs.1, hs.2, hC.1, hC.2]
theorem IsD.past0 {w0 W W' : World} {g g' : Nat} {D D' : Dk} {v v' : Value} (h : IsD w0 W g D v) (h' : IsD w0 W g' D' v') (k : KeepBut W W' g' none) (hg : g ≠ g') : IsD w0 W' g D v :=
  h.keep k hg (by simp) (fun b hb => ⟨fun e => (h.ne77 h') (by rw [hb, e]), by simp⟩)
/-! ### a call's error -/
def errD (D : Dk) (c : S53) : Int := if c.f0 = 0 then (if c.f1 = 0 ∨ c.f1 = 1 then (if c.f2.size + (nowD D c.f1).size ≤ 16384 then 0 else 6) else 1) else if c.f0 = 1 then (if c.f1 = 0 ∨ c.f1 = 1 then 0 else 1) else 0
set_option maxHeartbeats 3200000 in
set_option maxRecDepth 100000 in
theorem does_err (g : Nat) (D : Dk) (v : Value) (c : S53) (N m : Nat) (w0 w : World) (hI : IsD w0 w g D v) (hB : Below w0.heap.size w0 w) (hG : Good D N m) (hN : N ≤ 1000000000) (hm : m ≤ 100000) (hs : c.f2.size ≤ 1099511627776) :
    Calls Try.prog 35 #[.pointer (some ⟨g, 0, none⟩), .agg (callCells c)] w fun e w' => e = .returned (.int .i64 (errD D c)) ∧ ∃ v', IsD w0 w' g (doesD D c) v' ∧ Below w0.heap.size w0 w' ∧ KeepBut w w' g v.ownBlock ∧ Nx w v v' := by
  have hu53 := Try.underlying53
  have bl := below_alloc (Below.refl w.heap.size w) (.cells (callCells c) 53)
  have hI1 := hI.below bl
  have hB1 := below_alloc hB (.cells (callCells c) 53)
  have hn := heap_alloc_new w (.cells (callCells c) 53)
  have c0 : (w.alloc (.cells (callCells c) 53)).cell? ⟨w.heap.size, 0, none⟩ = some (.int .i64 c.f0) := (blk_cell hn 0).trans rfl
  have c1 : (w.alloc (.cells (callCells c) 53)).cell? ⟨w.heap.size, 1, none⟩ = some (.int .i64 c.f1) := (blk_cell hn 1).trans rfl
  have c2 : (w.alloc (.cells (callCells c) 53)).cell? ⟨w.heap.size, 2, none⟩ = some (.string c.f2) := (blk_cell hn 2).trans rfl
  have c3 : (w.alloc (.cells (callCells c) 53)).cell? ⟨w.heap.size, 3, none⟩ = some (.int .i64 c.f3) := (blk_cell hn 3).trans rfl
  have c4 : (w.alloc (.cells (callCells c) 53)).cell? ⟨w.heap.size, 4, none⟩ = some (.int .i64 c.f4) := (blk_cell hn 4).trans rfl
  have hsz : w.heap.size ≤ (w.alloc (.cells (callCells c) 53)).heap.size := bl.size
  have hk1 : KeepBut w (w.alloc (.cells (callCells c) 53)) g none := keep_alloc (KeepBut.refl w g none) _
  have comp : ∀ w7 : World, KeepBut (w.alloc (.cells (callCells c) 53)) w7 g v.ownBlock → KeepBut w w7 g v.ownBlock := fun w7 h => ⟨Nat.le_trans hsz h.1, fun i hi h1 h2 => (h.2 i (by omega) h1 h2).trans (hk1.2 i hi h1 (by simp))⟩
  have nx : ∀ v', Nx (w.alloc (.cells (callCells c) 53)) v v' → Nx w v v' := fun v' h b hb => (h b hb).imp id (fun q => Nat.le_trans hsz q)
  have stay : ∀ n, IsD w0 ((w.alloc (.cells (callCells c) 53)).drewN n) g D v ∧ Below w0.heap.size w0 ((w.alloc (.cells (callCells c) 53)).drewN n) ∧ KeepBut w ((w.alloc (.cells (callCells c) 53)).drewN n) g v.ownBlock ∧ Nx w v v := fun n => ⟨hI1.below (pw_below_drewN (Below.refl _ _) n), pw_below_drewN hB1 n, KeepBut.weak (keep_drewN hk1 n), fun b hb => .inl hb⟩
  have hOk := hG.ok (by omega)
  have hlm := hG.2.2.2.2
  have hnow := now_small hG c.f1
  have HH := Aside0.mk (And.intro hI1 hB1)
  unfold callCells at c0 c1 c2 c3 c4 ⊢
  clear hn hI hB hI1 hB1 bl
  by_cases e0 : c.f0 = 0
  · have b0 : (c.f0 == 0) = true := by simpa using e0
    have hd : doesD D c = if (c.f1 = 0 ∨ c.f1 = 1) ∧ c.f2.size + (nowD D c.f1).size ≤ 16384 then appD D c.f1 c.f2 else D := by unfold doesD; rw [if_pos e0]
    have he : errD D c = if c.f1 = 0 ∨ c.f1 = 1 then (if c.f2.size + (nowD D c.f1).size ≤ 16384 then 0 else 6) else 1 := by unfold errD; rw [if_pos e0]
    clear e0
    by_cases ha : c.f1 = 0 ∨ c.f1 = 1
    · by_cases hf : c.f2.size + (nowD D c.f1).size ≤ 16384
      · rw [if_pos ⟨ha, hf⟩] at hd
        rw [if_pos ha, if_pos hf] at he
        rw [hd]
        clear hd
        go_enter Try.func35, Try.ntmps35
        go_wp2_with (fail)
        refine (append_ok g c.f1 D v c.f2 w0 _ HH.out.1 HH.out.2 ha hf (by omega)).mono ?_
        rintro e w7 ⟨rfl, v', hI7, hB7, hk7, hx7⟩
        go_wp2
        go_ret
        exact ⟨by rw [he] <;> rfl, v', hI7, hB7, comp _ hk7, nx _ hx7⟩
      · rw [if_neg (fun q => hf q.2)] at hd
        rw [if_pos ha, if_neg hf] at he
        rw [hd]
        clear hd
        go_enter Try.func35, Try.ntmps35
        go_wp2_with (fail)
        refine (append_full g c.f1 D v c.f2 w0 _ HH.out.1 ha hf hs (by omega)).mono ?_
        rintro e w7 ⟨rfl, n, rfl⟩
        go_wp2
        go_ret
        exact ⟨by rw [he] <;> rfl, v, stay n⟩
    · rw [if_neg (fun q => ha q.1)] at hd
      rw [if_neg ha] at he
      rw [hd]
      clear hd
      go_enter Try.func35, Try.ntmps35
      go_wp2_with (fail)
      refine (append_bad g c.f1 c.f2 _ ha).mono ?_
      rintro e w7 ⟨rfl, n, rfl⟩
      go_wp2
      go_ret
      exact ⟨by rw [he] <;> rfl, v, stay n⟩
  have b0 : (c.f0 == 0) = false := by simpa using e0
  by_cases e1 : c.f0 = 1
  · have b1 : (c.f0 == 1) = true := by simpa using e1
    have hd : doesD D c = if c.f1 = 0 ∨ c.f1 = 1 then rstD D c.f1 else D := by unfold doesD; rw [if_neg e0, if_pos e1]
    have he : errD D c = if c.f1 = 0 ∨ c.f1 = 1 then 0 else 1 := by unfold errD; rw [if_neg e0, if_pos e1]
    clear e0 e1
    by_cases ha : c.f1 = 0 ∨ c.f1 = 1
    · rw [if_pos ha] at hd
      rw [if_pos ha] at he
      rw [hd]
      clear hd
      go_enter Try.func35, Try.ntmps35
      go_wp2_with (fail)
      refine (reset_ok g c.f1 D v w0 _ HH.out.1 HH.out.2 ha (by omega)).mono ?_
      rintro e w7 ⟨rfl, v', hI7, hB7, hk7, hx7⟩
      go_wp2
      go_ret
      exact ⟨by rw [he] <;> rfl, v', hI7, hB7, comp _ hk7, nx _ hx7⟩
    · rw [if_neg ha] at hd
      rw [if_neg ha] at he
      rw [hd]
      clear hd
      go_enter Try.func35, Try.ntmps35
      go_wp2_with (fail)
      refine (reset_bad g c.f1 _ ha).mono ?_
      rintro e w7 ⟨rfl, n, rfl⟩
      go_wp2
      go_ret
      exact ⟨by rw [he] <;> rfl, v, stay n⟩
  have b1 : (c.f0 == 1) = false := by simpa using e1
  by_cases e2 : c.f0 = 2
  · have b2 : (c.f0 == 2) = true := by simpa using e2
    have hd : doesD D c = syncD D := by unfold doesD; rw [if_neg e0, if_neg e1, if_pos e2]
    rw [hd]
    have he : errD D c = 0 := by unfold errD; rw [if_neg e0, if_neg e1]
    clear e0 e1 e2 hd
    go_enter Try.func35, Try.ntmps35
    go_wp2_with (fail)
    refine (sync_ok g D v w0 _ HH.out.1 HH.out.2 hOk (by omega)).mono ?_
    rintro e w7 ⟨rfl, hI7, hB7, hk7⟩
    go_wp2
    go_ret
    exact ⟨by rw [he] <;> rfl, _, hI7, hB7, comp _ (KeepBut.weak hk7), fun b hb => by simp [Value.ownBlock] at hb⟩
  have b2 : (c.f0 == 2) = false := by simpa using e2
  by_cases e3 : c.f0 = 3
  · have b3 : (c.f0 == 3) = true := by simpa using e3
    have hd : doesD D c = crashD D c.f3 c.f4 := by unfold doesD; rw [if_neg e0, if_neg e1, if_neg e2, if_pos e3]
    rw [hd]
    have he : errD D c = 0 := by unfold errD; rw [if_neg e0, if_neg e1]
    clear e0 e1 e2 e3 hd
    go_enter Try.func35, Try.ntmps35
    go_wp2_with (fail)
    refine (crash_ok g D v c.f3 c.f4 w0 _ HH.out.1 HH.out.2 hOk (by omega)).mono ?_
    rintro e w7 ⟨rfl, hI7, hB7, hk7⟩
    go_wp2
    go_ret
    exact ⟨by rw [he] <;> rfl, _, hI7, hB7, comp _ (KeepBut.weak hk7), fun b hb => by simp [Value.ownBlock] at hb⟩
  have b3 : (c.f0 == 3) = false := by simpa using e3
  have hd : doesD D c = D := by unfold doesD; rw [if_neg e0, if_neg e1, if_neg e2, if_neg e3]
  rw [hd]
  have he : errD D c = 0 := by unfold errD; rw [if_neg e0, if_neg e1]
  clear e0 e1 e2 e3 hd
  go_enter Try.func35, Try.ntmps35
  go_wp2
  go_ret
  exact ⟨by rw [he] <;> rfl, v, stay 0⟩
/-! ### the document's disk: all changes, and how many are safe -/
structure Md where
  all : List S83
  safe : Nat
def IsM (w0 W : World) (g : Nat) (M : Md) (v : Value) : Prop := W.heap[g]? = some (.cells #[v, .int .i64 (M.safe : Int)] 59 (0, 0)) ∧ w0.heap.size ≤ g ∧ k83.R 83 W w0.heap.size (fun k => v.ownBlock = some k) v M.all
theorem IsM.keep {w0 W W' : World} {g g' : Nat} {M : Md} {v : Value} {row : Option Nat} (h : IsM w0 W g M v) (k : KeepBut W W' g' row) (h1 : g ≠ g') (h2 : some g ≠ row) (h3 : ∀ b, v.ownBlock = some b → b ≠ g' ∧ some b ≠ row) : IsM w0 W' g M v :=
  ⟨k.blk h.1 h1 h2, h.2.1, Kd.R_step h.2.2 (fun b hb hlt => k.2 b hlt (h3 b hb).1 (h3 b hb).2)⟩
theorem IsM.below {w0 W W' : World} {g : Nat} {M : Md} {v : Value} (h : IsM w0 W g M v) (k : Below W.heap.size W W') : IsM w0 W' g M v :=
  ⟨(k.block g (blk_lt h.1)).trans h.1, h.2.1, Kd.R_below h.2.2 k⟩
theorem IsM.own {w0 W : World} {g : Nat} {M : Md} {v : Value} (h : IsM w0 W g M v) : some g ≠ v.ownBlock := Kd.R_ne h.2.2 h.1 (by decide)
theorem IsM.lt {w0 W : World} {g : Nat} {M : Md} {v : Value} (h : IsM w0 W g M v) (b : Nat) (hb : v.ownBlock = some b) : b < W.heap.size := by
  obtain ⟨inner, ho, _⟩ := h.2.2.2
  exact own_lt ho b hb
def stepT (a : Int) (s : ByteArray) (c : S83) : ByteArray := if c.f0 = a then (if c.f1 = true then (⟨#[]⟩ : ByteArray) else s ++ c.f2) else s
def textR (l : List S83) (a : Int) : ByteArray := l.foldl (stepT a) (⟨#[]⟩ : ByteArray)
def sumB (l : List S83) : Nat := (l.map fun c => c.f2.size).sum
theorem stepT_size (a : Int) (s : ByteArray) (c : S83) : (stepT a s c).size ≤ s.size + c.f2.size := by
  unfold stepT
  split
  · split
    · exact Nat.zero_le _
    · rw [ByteArray.size_append]; exact Nat.le_refl _
  · omega
theorem foldT_size (a : Int) : ∀ (l : List S83) (s : ByteArray), (l.foldl (stepT a) s).size ≤ s.size + sumB l
  | [], s => by simp [sumB]
  | c :: r, s => by
    have h := foldT_size a r (stepT a s c)
    have h2 := stepT_size a s c
    simp only [List.foldl_cons, sumB, List.map_cons, List.sum_cons] at h ⊢
    omega
theorem sumB_append (p q : List S83) : sumB (p ++ q) = sumB p + sumB q := by simp [sumB]
theorem textR_snoc (l : List S83) (c : S83) (a : Int) : textR (l ++ [c]) a = stepT a (textR l a) c := by unfold textR; rw [List.foldl_append]; rfl
theorem rd83 {l : List S83} {i : Nat} {x : S83} {r : List S83} (h : l.drop i = x :: r) : rd_T83 l (i : Int) = x ∧ i < l.length ∧ l.drop (i + 1) = r ∧ x ∈ l := by
  have hi : i < l.length := by
    rcases Nat.lt_or_ge i l.length with h' | h'
    · exact h'
    · rw [List.drop_eq_nil_of_le h'] at h; cases h
  have hm : x ∈ l := by
    have : x ∈ l.drop i := by rw [h]; exact List.mem_cons_self
    exact List.mem_of_mem_drop this
  rw [List.drop_eq_getElem_cons hi] at h
  injection h with h1 h2
  refine ⟨?_, hi, h2, hm⟩
  unfold rd_T83
  rw [Int.toNat_natCast, List.getD_eq_getElem?_getD, List.getElem?_eq_getElem hi]
  exact h1
theorem m_read {w0 W : World} {g : Nat} {M : Md} {A : Option Addr} {n c : Nat} (h : IsM w0 W g M (.slice A n c)) {j : Nat} {x : S83} {r : List S83} (hx : M.all.drop j = x :: r) :
    ∃ ad, A = some ad ∧ W.cell? (ad.add (j * 3)) = some (.int .i64 x.f0) ∧ W.cell? ⟨(ad.add (j * 3)).block, (ad.add (j * 3)).off + 1, none⟩ = some (.bool x.f1) ∧ W.cell? ⟨(ad.add (j * 3)).block, (ad.add (j * 3)).off + 2, none⟩ = some (.string x.f2) := by
  obtain ⟨hrd, hlt, _, _⟩ := rd83 hx
  obtain ⟨rfl, _, hC⟩ := Kd.R_reads' h.2.2
  obtain ⟨ad, rfl, x0, x1, x2⟩ := at_T83 hC (j : Int) (by omega) (by omega)
  rw [hrd] at x0 x1 x2
  simp only [Int.toNat_natCast] at x0 x1 x2
  exact ⟨ad, rfl, x0, x1, x2⟩
set_option maxHeartbeats 6400000 in
set_option maxRecDepth 100000 in
theorem text_ok (g : Nat) (M : Md) (v : Value) (a : Int) (n : Nat) (w0 w : World) (hM : IsM w0 w g M v) (hn : n ≤ M.all.length) (hl : M.all.length ≤ 100000) (hs : sumB M.all ≤ 1000000000) :
    Calls Try.prog 42 #[.pointer (some ⟨g, 0, none⟩), .int .i64 a, .int .i64 (n : Int)] w fun e w' => e = .returned (.string (textR (M.all.take n) a)) ∧ ∃ k, w' = w.drewN k := by
  have hu83 := Try.underlying83
  have hu59 := Try.underlying59
  have hu57 := Try.underlying57
  have hu56 := Try.underlying56
  have hu9 := Try.underlying9
  obtain ⟨A, c, rfl⟩ := Kd.R_slice hM.2.2
  have c0 : w.cell? ⟨g, 0, none⟩ = some (.slice A M.all.length c) := (blk_cell hM.1 0).trans rfl
  have H := Aside0.mk hM
  clear hM
  go_enter Try.func42, Try.ntmps42
  go_wp2
  go_loopg [7, 8] n (fun m v7 v8 wr => ∃ (j : Nat) (s : ByteArray), v7 = .string s ∧ v8 = .int .i64 (j : Int) ∧ m + j = n ∧ Aside0 ((M.all.drop j |>.take (n - j)).foldl (stepT a) s = textR (M.all.take n) a ∧ s.size + sumB (M.all.drop j) ≤ 1000000000) ∧ wr = w)
  case atStart => exact ⟨0, (⟨#[]⟩ : ByteArray), rfl, rfl, by omega, ⟨by rw [List.drop_zero, Nat.sub_zero]; rfl, by rw [List.drop_zero]; show (0 : Nat) + _ ≤ _; omega⟩, rfl⟩
  case round =>
    obtain ⟨j, s, rfl, rfl, hj, HC, rfl⟩ := hrel
    by_cases hlt : j < n
    · have q0 : decide ((j : Int) < (n : Int)) = true := decide_eq_true (by omega)
      have hja : j < M.all.length := by omega
      obtain ⟨x, r, hx⟩ : ∃ x r, M.all.drop j = x :: r := ⟨_, _, List.drop_eq_getElem_cons hja⟩
      obtain ⟨_, _, hr, _⟩ := rd83 hx
      obtain ⟨ad, rfl, x0, x1, x2⟩ := m_read H.out hx
      have p0 : ((0 : Int) ≤ (j : Int)) = True := eq_true (by omega)
      have p1 : ((j : Int) < (M.all.length : Int)) = True := eq_true (by omega)
      have hf := HC.out.1
      have hz := HC.out.2
      have hsx : sumB (M.all.drop j) = x.f2.size + sumB (M.all.drop (j + 1)) := by rw [hx, hr]; simp [sumB]
      have hst := stepT_size a s x
      rw [hsx] at hz
      rw [hx, show n - j = (n - (j + 1)) + 1 by omega, List.take_succ_cons, List.foldl_cons, ← hr] at hf
      have hmn : n - (j + 1) + (j + 1) = n := by omega
      have hz2 : (stepT a s x).size + sumB (M.all.drop (j + 1)) ≤ 1000000000 := by omega
      by_cases ha : x.f0 = a
      · have b0 : (x.f0 == a) = true := by simpa using ha
        by_cases hb : x.f1 = true
        · have hstep : stepT a s x = (⟨#[]⟩ : ByteArray) := by unfold stepT; rw [if_pos ha, if_pos hb]
          rw [hb] at x1
          rw [hstep] at hf hz2
          clear ha
          go_wp2
          go_roundg (n - (j + 1))
          case rel => exact ⟨j + 1, (⟨#[]⟩ : ByteArray), rfl, (by rw [Int.natCast_add]; rfl), hmn, ⟨hf, hz2⟩, rfl⟩
          case measure => omega
        · have hb : x.f1 = false := by simpa using hb
          have hstep : stepT a s x = s ++ x.f2 := by unfold stepT; rw [if_pos ha, if_neg (by simp [hb])]
          rw [hb] at x1
          rw [hstep] at hf hz2
          have e1 : (s.size + x.f2.size ≤ 9223372036854775807) = True := eq_true (by omega)
          clear ha
          go_wp2
          go_roundg (n - (j + 1))
          case rel => exact ⟨j + 1, s ++ x.f2, rfl, (by rw [Int.natCast_add]; rfl), hmn, ⟨hf, hz2⟩, rfl⟩
          case measure => omega
      · have b0 : (x.f0 == a) = false := by simpa using ha
        have hstep : stepT a s x = s := by unfold stepT; rw [if_neg ha]
        rw [hstep] at hf hz2
        clear ha
        go_wp2
        go_roundg (n - (j + 1))
        case rel => exact ⟨j + 1, s, rfl, (by rw [Int.natCast_add]; rfl), hmn, ⟨hf, hz2⟩, rfl⟩
        case measure => omega
    · obtain rfl : j = n := by omega
      have q0 : decide ((j : Int) < (j : Int)) = false := decide_eq_false (by omega)
      have hf := HC.out.1
      rw [Nat.sub_self, List.take_zero, List.foldl_nil] at hf
      go_wp2
      go_ret
      exact ⟨by subst hf; rfl, 0, rfl⟩
theorem info83D : (Try.prog.info? 83).map (fun i => (i.zero, i.size, i.bytes)) = some (some (.agg #[(.int .i64 0), (.bool false), (.string (⟨#[]⟩ : ByteArray))]), 3, 32) := by kernel_rfl
theorem reps_one83 {w : World} {base : Nat} {ok : Nat → Prop} {l : List S83} {cs : List Value} (h : Reps (k83.M w base ok) k83.sz l cs) : ∀ u ∈ cs, u.oneCell' = true := by
  intro u hu
  obtain ⟨i, hi, rfl⟩ := List.mem_iff_getElem.1 hu
  have hs : k83.sz = 3 := rfl
  have hlen := h.1
  rw [hs] at hlen
  have hj : i / 3 < l.length := by omega
  have hp := h.2 (i / 3) _ (List.getElem?_eq_getElem hj)
  rw [hs] at hp
  refine k83.K_one (k83.K_of_M hp) _ ?_
  rw [List.mem_iff_getElem]
  have hm : i % 3 < 3 := Nat.mod_lt _ (by decide)
  have hd := Nat.div_add_mod i 3
  refine ⟨i % 3, by rw [List.length_take, List.length_drop]; omega, ?_⟩
  rw [List.getElem_take, List.getElem_drop]
  congr 1
  omega
theorem R_exact83 {e : TypeId} {w : World} {base : Nat} {ok : Nat → Prop} {v : Value} {xs : List S83} (h : k83.R e w base ok v xs) : k83.R e w base (fun k => v.ownBlock = some k) v xs :=
  ⟨fun k hk => hk, h.2.imp_ (fun x cs hp => by rw [k83_openM hp]; exact k83_mkM _ _ _ x)⟩
/-- the cells of a row that is owned, by their places -/
theorem own_cells83 {w : World} {base : Nat} {ok : Nat → Prop} {l : List S83} {A : Option Addr} {n c : Nat} (h : k83.R 83 w base ok (.slice A n c) l) :
    (A = none ∧ l = []) ∨ ∃ g inner, A = some ⟨g, 0, none⟩ ∧ inner.length = l.length * 3 ∧ Reps (fun x cs => ∃ w b o, k83.M w b o x cs) 3 l inner ∧ (∀ u ∈ inner, u.oneCell' = true) ∧ ∀ j u, inner[j]? = some u → w.cell? ⟨g, j, none⟩ = some u := by
  obtain ⟨inner, ho, hr⟩ := h.2
  have hone := reps_one83 hr
  rcases ho.2 with ⟨he, hx⟩ | ⟨g, cap, cur, he, hbg, hg, hnc, hcm, hcs, htake⟩
  · injection he with h1 _ _
    exact .inl ⟨h1, List.eq_nil_of_length_eq_zero hx⟩
  · injection he with h1 _ _
    refine .inr ⟨g, inner, h1, ho.1, hr.imp_ (fun x cs hp => ⟨_, _, _, hp⟩), hone, ?_⟩
    intro j u hj
    rw [blk_cell hg]
    have : cur.toList[j]? = some u := by
      rw [← htake] at hj
      rw [List.getElem?_take] at hj
      split at hj
      · exact hj
      · cases hj
    simpa using this
/-- where a row's cells are read from -/
def Src (W : World) (A : Option Addr) (l : List S83) : Prop := (A = none ∧ l = []) ∨ ∃ ad news, A = some ad ∧ news.length = l.length * 3 ∧ Reps (fun x cs => ∃ w b o, k83.M w b o x cs) 3 l news ∧ (∀ u ∈ news, u.oneCell' = true) ∧ ∀ j u, news[j]? = some u → W.cell? (ad.add j) = some u
theorem IsM.src {w0 W : World} {g : Nat} {M : Md} {A : Option Addr} {n c : Nat} (h : IsM w0 W g M (.slice A n c)) : Src W A M.all := by
  rcases own_cells83 h.2.2 with h1 | ⟨g, inner, h1, h2, h3, h4, h5⟩
  · exact .inl h1
  · exact .inr ⟨⟨g, 0, none⟩, inner, h1, h2, h3, h4, fun j u hj => by rw [Addr.add_lit, Nat.zero_add]; exact h5 j u hj⟩
theorem Src.take {W : World} {A : Option Addr} {l : List S83} (h : Src W A l) (n : Nat) : Src W A (l.take n) := by
  rcases h with ⟨h1, h2⟩ | ⟨ad, news, h1, h2, h3, h4, h5⟩
  · exact .inl ⟨h1, by rw [h2, List.take_nil]⟩
  · refine .inr ⟨ad, news.take (n * 3), h1, ?_, ⟨?_, ?_⟩, fun u hu => h4 u (List.mem_of_mem_take hu), ?_⟩
    · rw [List.length_take, List.length_take]; omega
    · rw [List.length_take, List.length_take]; omega
    · intro j p hj
      rw [List.getElem?_take] at hj
      split at hj
      · rename_i hjn
        have h6 := h3.2 j p hj
        rw [List.drop_take, List.take_take, Nat.min_eq_left (by omega)]
        exact h6
      · cases hj
    · intro j u hj
      rw [List.getElem?_take] at hj
      split at hj
      · exact h5 j u hj
      · cases hj
theorem Src.step {W W' : World} {A : Option Addr} {l : List S83} (h : Src W A l) (hc : ∀ p u, W.cell? p = some u → W'.cell? p = some u) : Src W' A l := by
  rcases h with h1 | ⟨ad, news, h1, h2, h3, h4, h5⟩
  · exact .inl h1
  · exact .inr ⟨ad, news, h1, h2, h3, h4, fun j u hj => hc _ _ (h5 j u hj)⟩
theorem reps_R83 {W : World} {base : Nat} {ok : Nat → Prop} {l : List S83} {news : List Value} (h : Reps (fun x cs => ∃ w b o, k83.M w b o x cs) 3 l news) : Reps (k83.M W base ok) k83.sz l news :=
  h.imp_ (fun x cs ⟨_, _, _, hp⟩ => by rw [k83_openM hp]; exact k83_mkM _ _ _ x)
/-- append([]Change{}, l...) -/
theorem wp_copy {o : Oper} {a : Act} {Q : Exit → Act → World → Prop} {K : Act → World → Prop} (s x : Operand) (hop : o.op = .call { callee := .builtin .append, args := #[s, x], argTypes := #[57, 57] }) (W0 W : World) (base g1 : Nat) (A : Option Addr) (m c : Nat) (l : List S83)
    (hB : Below base W0 W) (hbW : base ≤ W.heap.size) (hs : a.eval s = .slice (some ⟨g1, 0, none⟩) 0 0) (hown : W.ownsRow base 83 3 (.slice (some ⟨g1, 0, none⟩) 0 0) 0 []) (hx : a.eval x = .slice A m c) (hAc : A = none → c = 0) (hm : l.length = m) (hl : m ≤ 100000) (hsrc : Src W A l)
    (hK : ∀ A1 c1 w1, k83.R 83 w1 base (fun k => (Value.slice A1 m c1).ownBlock = some k) (.slice A1 m c1) l → Below base W0 w1 → K (a.put o.dst (.slice A1 m c1)) w1) :
    Oper.wp Try.prog o a W K Q := by
  obtain ⟨i0, hi, hz0, hz1, hz2⟩ := info_parts info83D
  rcases hsrc with ⟨rfl, rfl⟩ | ⟨ad, news, rfl, h2, h3, h4, h5⟩
  · obtain rfl := hAc rfl
    obtain rfl : m = 0 := hm.symm
    have hrun := run_append_owned_none (P := Try.prog) W base 57 o.type 83 i0 3 Try.underlying57 hi _ 0 [] hown
    unfold Oper.wp
    simp [execOp, hop, resolve, invoke, builtin, hs, hx, hrun, Result.andThen]
    exact hK _ _ _ ⟨fun k hk => hk, [], show W.ownsRow base 83 3 (.slice (some ⟨g1, 0, none⟩) 0 0) 0 [] from hown, Reps.none _ _⟩ hB
  · refine wp_append_own _ s x 57 hop base 83 i0 _ 3 _ Try.underlying57 hi hz0 hz1 hz2 rfl (by decide) _ 0 [] hs hown ad m c news hx (by rw [h2, hm]) h5 h4 (by simp only [maxLen]; omega) (by omega) hbW ?_
    intro v' w' hown' hg' _
    have hR : k83.R 83 w' base (fun k => v'.ownBlock = some k) v' l := ⟨fun k hk => hk, news, show w'.ownsRow base 83 3 v' l.length news by simpa [hm] using hown', reps_R83 h3⟩
    obtain ⟨A1, c1, rfl⟩ := Kd.R_slice hR
    rw [hm] at hR ⊢
    exact hK A1 c1 w' hR (hB.grown hg' hbW (fun k hk => own_base hown k hk))
theorem step_copy {ops : Array Oper} {o : Oper} {a : Act} {Q : Exit → Act → World → Prop} {K : Act → World → Prop} (hw : Region.wanted o (yielded ops a.tmps) = true) (s x : Operand) (hop : o.op = .call { callee := .builtin .append, args := #[s, x], argTypes := #[57, 57] }) (W0 W : World) (base g1 : Nat) (A : Option Addr) (m c : Nat) (l : List S83)
    (hB : Below base W0 W) (hbW : base ≤ W.heap.size) (hs : a.eval s = .slice (some ⟨g1, 0, none⟩) 0 0) (hown : W.ownsRow base 83 3 (.slice (some ⟨g1, 0, none⟩) 0 0) 0 []) (hx : a.eval x = .slice A m c) (hAc : A = none → c = 0) (hm : l.length = m) (hl : m ≤ 100000) (hsrc : Src W A l)
    (hK : ∀ A1 c1 w1, k83.R 83 w1 base (fun k => (Value.slice A1 m c1).ownBlock = some k) (.slice A1 m c1) l → Below base W0 w1 → K (a.put o.dst (.slice A1 m c1)) w1) :
    if Region.wanted o (yielded ops a.tmps) = true then Oper.wp Try.prog o a W K Q else K (a.put o.dst undef) W := by
  rw [if_pos hw]
  exact wp_copy s x hop W0 W base g1 A m c l hB hbW hs hown hx hAc hm hl hsrc hK
theorem wpList_copy {ops : Array Oper} {rest : List Oper} {o : Oper} {a : Act} {Q : Exit → Act → World → Prop} (hgd : o.guard = none) (s x : Operand) (hop : o.op = .call { callee := .builtin .append, args := #[s, x], argTypes := #[57, 57] }) (W0 : World) (A : Option Addr) (m c : Nat) (l : List S83)
    (hs : a.eval s = .slice (some ⟨W0.heap.size, 0, none⟩) 0 0) (hx : a.eval x = .slice A m c) (hAc : A = none → c = 0) (hm : l.length = m) (hl : m ≤ 100000) (hsrc : Src W0 A l)
    (hK : ∀ A1 c1 w1, k83.R 83 w1 W0.heap.size (fun k => (Value.slice A1 m c1).ownBlock = some k) (.slice A1 m c1) l → Below W0.heap.size W0 w1 → wpList Try.prog ops Q rest (a.put o.dst (.slice A1 m c1)) w1) :
    wpList Try.prog ops Q (o :: rest) a (W0.alloc (.cells #[] 83)) :=
  wpList_plain hgd fun _ hK' => wp_copy s x hop W0 _ W0.heap.size W0.heap.size A m c l (below_alloc (Below.refl _ _) _) (by simp) hs (World.ownsRow_made W0 #[] 0 (Nat.le_refl _) (Nat.zero_le _) (by simp)) hx hAc hm hl (hsrc.step fun p u hp => Lib.cell?_alloc_some _ hp) fun A1 c1 w1 h1 h2 => hK' _ _ (hK A1 c1 w1 h1 h2)
theorem IsM.hAc {w0 W : World} {g : Nat} {M : Md} {A : Option Addr} {n c : Nat} (h : IsM w0 W g M (.slice A n c)) : A = none → c = 0 := by
  intro hA
  obtain ⟨inner, ho, _⟩ := h.2.2.2
  rcases ho.2 with ⟨he, _⟩ | ⟨g, cap, cur, he, _⟩
  · injection he
  · injection he with h1 _ _; rw [hA] at h1; cases h1
set_option maxHeartbeats 6400000 in
set_option maxRecDepth 100000 in
theorem refApp_ok (g : Nat) (M : Md) (v : Value) (a : Int) (s : ByteArray) (w0 w : World) (hM : IsM w0 w g M v) (hB : Below w0.heap.size w0 w) (ha : a = 0 ∨ a = 1) (hl : M.all.length ≤ 99999) (hs : sumB M.all ≤ 1000000000) (hf : (textR M.all a).size + s.size ≤ 16384) :
    Calls Try.prog 38 #[.pointer (some ⟨g, 0, none⟩), .int .i64 a, .string s] w fun e w' => e = .returned (.int .i64 0) ∧ ∃ v', IsM w0 w' g ⟨M.all ++ [⟨a, false, s⟩], M.safe⟩ v' ∧ Below w0.heap.size w0 w' ∧ KeepBut w w' g none ∧ (∀ b, v'.ownBlock = some b → w.heap.size ≤ b) := by
  have hu83 := Try.underlying83
  have hu59 := Try.underlying59
  have hu57 := Try.underlying57
  have hu56 := Try.underlying56
  obtain ⟨A, c, rfl⟩ := Kd.R_slice hM.2.2
  have c0 : w.cell? ⟨g, 0, none⟩ = some (.slice A M.all.length c) := (blk_cell hM.1 0).trans rfl
  have hgl := blk_lt hM.1
  have q1 : ((16384 : Int) < ((textR M.all a).size : Int) + (s.size : Int)) = False := eq_false (by omega)
  have hts : ((textR M.all a).size : Int) + (s.size : Int) ≤ 16384 := by omega
  have H := Aside0.mk (And.intro hM hB)
  clear hM hB
  rcases ha with rfl | rfl
  · go_enter Try.func38, Try.ntmps38
    go_wp2_with (fail)
    refine (text_ok g M _ 0 M.all.length w0 w H.out.1 (Nat.le_refl _) (by omega) hs).mono ?_
    rintro e w1 ⟨rfl, n1, hw1⟩
    have H1 := Aside0.mk (show IsM w0 w1 g M (.slice A M.all.length c) ∧ Below w0.heap.size w0 w1 ∧ KeepBut w w1 g none from by rw [hw1]; exact ⟨H.out.1.below (pw_below_drewN (Below.refl _ _) _), pw_below_drewN H.out.2 _, KeepBut.drawn _ _ _ _⟩)
    have hsz1 : w.heap.size = w1.heap.size := by rw [hw1]; rfl
    clear hw1 H c0
    have c0 : w1.cell? ⟨g, 0, none⟩ = some (.slice A M.all.length c) := (blk_cell H1.out.1.1 0).trans rfl
    have d0 := old_cell c0 (.cells #[] 83)
    rw [List.take_length]
    go_wp2_with (at_builtin; refine wpList_copy rfl _ _ rfl w1 A M.all.length c M.all rfl rfl H1.out.1.hAc rfl (by omega) H1.out.1.src ?_)
    intro A1 c1 w2 hR2 hb2
    have H2 := Aside0.mk (show IsM w0 w2 g M (.slice A M.all.length c) ∧ Below w0.heap.size w0 w2 from ⟨H1.out.1.below hb2, H1.out.2.1.trans (hb2.mono H1.out.2.1.size)⟩)
    have hw2 : w1.heap.size ≤ w2.heap.size := hb2.size
    have hgl1 : g < w1.heap.size := blk_lt H1.out.1.1
    have hR2' : k83.R 83 w2 w1.heap.size (fun q => (Value.slice A1 M.all.length c1).ownBlock = some q ∨ w2.heap.size ≤ q) (.slice A1 M.all.length c1) M.all := Kd.R_mono hR2 (fun _ hq => .inl hq)
    go_wp2_with ((with_reducible refine gate_builtin (b := .append) (xs := #[.tmp 32, .tmp 36]) rfl ?_); (try (refine gate_guard (by rfl) ?_; dsimp only)); at_builtin; refine Kd.R_append k83 (w0 := w1) (W := w2) w1.heap.size rfl (.tmp 32) (.tmp 36) 57 83 (.agg #[(.int .i64 0), (.bool false), (.string (⟨#[]⟩ : ByteArray))]) 32 rfl hu57 info83D rfl (by decide) (by omega) (.slice A1 M.all.length c1) M.all (⟨0, false, s⟩ : S83) [.int .i64 0, .bool false, .string s] (fun q => (Value.slice A1 M.all.length c1).ownBlock = some q ∨ w2.heap.size ≤ q) (fun _ => False) (by first | (go_simp; done) | (go_simp; rfl)) (by first | (go_simp; done) | (go_simp; rfl)) (k83_mkM _ _ _ (⟨0, false, s⟩ : S83)) (fun _ hk => hk.elim) (fun _ hk => .inr hk) hR2' hb2 hb2.size (by omega) ?_; intro v7 w7 hO7 hB7 hg7 hat7; have h7 := (hB7.block g hgl1).trans H1.out.1.1; have d4 := (blk_cell h7 0).trans rfl; have f4 := blk_frozen h7 0; obtain ⟨A7, c7, rfl⟩ := Kd.R_slice hO7)
    go_ret
    have hs7 : w1.heap.size ≤ w7.heap.size := hB7.size
    refine ⟨rfl, .slice A7 (M.all ++ [(⟨0, false, s⟩ : S83)]).length c7, ⟨?_, H1.out.1.2.1, ?_⟩, below_set (H1.out.2.1.trans (hB7.mono H1.out.2.1.size)) H1.out.1.2.1, KeepBut.set_ ⟨by omega, fun i hi h1 h2 => (hB7.block i (by omega)).trans (H1.out.2.2.2 i hi h1 h2)⟩ _ _, ?_⟩
    · simpa using blk_set h7 0 (.slice A7 (M.all ++ [(⟨0, false, s⟩ : S83)]).length c7)
    · exact R_exact83 (Kd.R_lower (Kd.R_far hO7 (p := ⟨g, 0, none⟩) (by
        intro q hq e
        have e' : q = g := e
        rcases hq with hq | hq
        · obtain ⟨inner, ho, _⟩ := hR2.2
          have := own_base ho q hq
          omega
        · omega) _) H1.out.2.1.size)
    · intro b hb
      obtain ⟨inner, ho, _⟩ := hO7.2
      have := own_base ho b hb
      omega
  · go_enter Try.func38, Try.ntmps38
    go_wp2_with (fail)
    refine (text_ok g M _ 1 M.all.length w0 w H.out.1 (Nat.le_refl _) (by omega) hs).mono ?_
    rintro e w1 ⟨rfl, n1, hw1⟩
    have H1 := Aside0.mk (show IsM w0 w1 g M (.slice A M.all.length c) ∧ Below w0.heap.size w0 w1 ∧ KeepBut w w1 g none from by rw [hw1]; exact ⟨H.out.1.below (pw_below_drewN (Below.refl _ _) _), pw_below_drewN H.out.2 _, KeepBut.drawn _ _ _ _⟩)
    have hsz1 : w.heap.size = w1.heap.size := by rw [hw1]; rfl
    clear hw1 H c0
    have c0 : w1.cell? ⟨g, 0, none⟩ = some (.slice A M.all.length c) := (blk_cell H1.out.1.1 0).trans rfl
    have d0 := old_cell c0 (.cells #[] 83)
    rw [List.take_length]
    go_wp2_with (at_builtin; refine wpList_copy rfl _ _ rfl w1 A M.all.length c M.all rfl rfl H1.out.1.hAc rfl (by omega) H1.out.1.src ?_)
    intro A1 c1 w2 hR2 hb2
    have H2 := Aside0.mk (show IsM w0 w2 g M (.slice A M.all.length c) ∧ Below w0.heap.size w0 w2 from ⟨H1.out.1.below hb2, H1.out.2.1.trans (hb2.mono H1.out.2.1.size)⟩)
    have hw2 : w1.heap.size ≤ w2.heap.size := hb2.size
    have hgl1 : g < w1.heap.size := blk_lt H1.out.1.1
    have hR2' : k83.R 83 w2 w1.heap.size (fun q => (Value.slice A1 M.all.length c1).ownBlock = some q ∨ w2.heap.size ≤ q) (.slice A1 M.all.length c1) M.all := Kd.R_mono hR2 (fun _ hq => .inl hq)
    go_wp2_with ((with_reducible refine gate_builtin (b := .append) (xs := #[.tmp 32, .tmp 36]) rfl ?_); (try (refine gate_guard (by rfl) ?_; dsimp only)); at_builtin; refine Kd.R_append k83 (w0 := w1) (W := w2) w1.heap.size rfl (.tmp 32) (.tmp 36) 57 83 (.agg #[(.int .i64 0), (.bool false), (.string (⟨#[]⟩ : ByteArray))]) 32 rfl hu57 info83D rfl (by decide) (by omega) (.slice A1 M.all.length c1) M.all (⟨1, false, s⟩ : S83) [.int .i64 1, .bool false, .string s] (fun q => (Value.slice A1 M.all.length c1).ownBlock = some q ∨ w2.heap.size ≤ q) (fun _ => False) (by first | (go_simp; done) | (go_simp; rfl)) (by first | (go_simp; done) | (go_simp; rfl)) (k83_mkM _ _ _ (⟨1, false, s⟩ : S83)) (fun _ hk => hk.elim) (fun _ hk => .inr hk) hR2' hb2 hb2.size (by omega) ?_; intro v7 w7 hO7 hB7 hg7 hat7; have h7 := (hB7.block g hgl1).trans H1.out.1.1; have d4 := (blk_cell h7 0).trans rfl; have f4 := blk_frozen h7 0; obtain ⟨A7, c7, rfl⟩ := Kd.R_slice hO7)
    go_ret
    have hs7 : w1.heap.size ≤ w7.heap.size := hB7.size
    refine ⟨rfl, .slice A7 (M.all ++ [(⟨1, false, s⟩ : S83)]).length c7, ⟨?_, H1.out.1.2.1, ?_⟩, below_set (H1.out.2.1.trans (hB7.mono H1.out.2.1.size)) H1.out.1.2.1, KeepBut.set_ ⟨by omega, fun i hi h1 h2 => (hB7.block i (by omega)).trans (H1.out.2.2.2 i hi h1 h2)⟩ _ _, ?_⟩
    · simpa using blk_set h7 0 (.slice A7 (M.all ++ [(⟨1, false, s⟩ : S83)]).length c7)
    · exact R_exact83 (Kd.R_lower (Kd.R_far hO7 (p := ⟨g, 0, none⟩) (by
        intro q hq e
        have e' : q = g := e
        rcases hq with hq | hq
        · obtain ⟨inner, ho, _⟩ := hR2.2
          have := own_base ho q hq
          omega
        · omega) _) H1.out.2.1.size)
    · intro b hb
      obtain ⟨inner, ho, _⟩ := hO7.2
      have := own_base ho b hb
      omega
set_option maxHeartbeats 6400000 in
set_option maxRecDepth 100000 in
theorem refRst_ok (g : Nat) (M : Md) (v : Value) (a : Int) (w0 w : World) (hM : IsM w0 w g M v) (hB : Below w0.heap.size w0 w) (ha : a = 0 ∨ a = 1) (hl : M.all.length ≤ 99999) (hs : sumB M.all ≤ 1000000000) :
    Calls Try.prog 39 #[.pointer (some ⟨g, 0, none⟩), .int .i64 a] w fun e w' => e = .returned (.int .i64 0) ∧ ∃ v', IsM w0 w' g ⟨M.all ++ [⟨a, true, (⟨#[]⟩ : ByteArray)⟩], M.safe⟩ v' ∧ Below w0.heap.size w0 w' ∧ KeepBut w w' g none ∧ (∀ b, v'.ownBlock = some b → w.heap.size ≤ b) := by
  have hu83 := Try.underlying83
  have hu59 := Try.underlying59
  have hu57 := Try.underlying57
  have hu56 := Try.underlying56
  obtain ⟨A, c, rfl⟩ := Kd.R_slice hM.2.2
  have c0 : w.cell? ⟨g, 0, none⟩ = some (.slice A M.all.length c) := (blk_cell hM.1 0).trans rfl
  have hgl := blk_lt hM.1
  have H := Aside0.mk (And.intro hM hB)
  clear hM hB
  rcases ha with rfl | rfl
  · go_enter Try.func39, Try.ntmps39
    have d0 := old_cell c0 (.cells #[] 83)
    go_wp2_with (at_builtin; refine wpList_copy rfl _ _ rfl w A M.all.length c M.all rfl rfl H.out.1.hAc rfl (by omega) H.out.1.src ?_)
    intro A1 c1 w2 hR2 hb2
    have H1 := Aside0.mk (show IsM w0 w g M (.slice A M.all.length c) ∧ Below w0.heap.size w0 w ∧ KeepBut w w g none from ⟨H.out.1, H.out.2, KeepBut.refl _ _ _⟩)
    have H2 := Aside0.mk (show IsM w0 w2 g M (.slice A M.all.length c) ∧ Below w0.heap.size w0 w2 from ⟨H1.out.1.below hb2, H1.out.2.1.trans (hb2.mono H1.out.2.1.size)⟩)
    have hw2 : w.heap.size ≤ w2.heap.size := hb2.size
    have hgl1 : g < w.heap.size := blk_lt H1.out.1.1
    have hR2' : k83.R 83 w2 w.heap.size (fun q => (Value.slice A1 M.all.length c1).ownBlock = some q ∨ w2.heap.size ≤ q) (.slice A1 M.all.length c1) M.all := Kd.R_mono hR2 (fun _ hq => .inl hq)
    go_wp2_with ((with_reducible refine gate_builtin (b := .append) (xs := #[.tmp 17, .tmp 20]) rfl ?_); (try (refine gate_guard (by rfl) ?_; dsimp only)); at_builtin; refine Kd.R_append k83 (w0 := w) (W := w2) w.heap.size rfl (.tmp 17) (.tmp 20) 57 83 (.agg #[(.int .i64 0), (.bool false), (.string (⟨#[]⟩ : ByteArray))]) 32 rfl hu57 info83D rfl (by decide) (by omega) (.slice A1 M.all.length c1) M.all (⟨0, true, (⟨#[]⟩ : ByteArray)⟩ : S83) [.int .i64 0, .bool true, .string (⟨#[]⟩ : ByteArray)] (fun q => (Value.slice A1 M.all.length c1).ownBlock = some q ∨ w2.heap.size ≤ q) (fun _ => False) (by first | (go_simp; done) | (go_simp; rfl)) (by first | (go_simp; done) | (go_simp; rfl)) (k83_mkM _ _ _ (⟨0, true, (⟨#[]⟩ : ByteArray)⟩ : S83)) (fun _ hk => hk.elim) (fun _ hk => .inr hk) hR2' hb2 hb2.size (by omega) ?_; intro v7 w7 hO7 hB7 hg7 hat7; have h7 := (hB7.block g hgl1).trans H1.out.1.1; have d4 := (blk_cell h7 0).trans rfl; have f4 := blk_frozen h7 0; obtain ⟨A7, c7, rfl⟩ := Kd.R_slice hO7)
    go_ret
    have hs7 : w.heap.size ≤ w7.heap.size := hB7.size
    refine ⟨rfl, .slice A7 (M.all ++ [(⟨0, true, (⟨#[]⟩ : ByteArray)⟩ : S83)]).length c7, ⟨?_, H1.out.1.2.1, ?_⟩, below_set (H1.out.2.1.trans (hB7.mono H1.out.2.1.size)) H1.out.1.2.1, KeepBut.set_ ⟨by omega, fun i hi h1 h2 => (hB7.block i (by omega)).trans (H1.out.2.2.2 i hi h1 h2)⟩ _ _, ?_⟩
    · simpa using blk_set h7 0 (.slice A7 (M.all ++ [(⟨0, true, (⟨#[]⟩ : ByteArray)⟩ : S83)]).length c7)
    · exact R_exact83 (Kd.R_lower (Kd.R_far hO7 (p := ⟨g, 0, none⟩) (by
        intro q hq e
        have e' : q = g := e
        rcases hq with hq | hq
        · obtain ⟨inner, ho, _⟩ := hR2.2
          have := own_base ho q hq
          omega
        · omega) _) H1.out.2.1.size)
    · intro b hb
      obtain ⟨inner, ho, _⟩ := hO7.2
      have := own_base ho b hb
      omega
  · go_enter Try.func39, Try.ntmps39
    have d0 := old_cell c0 (.cells #[] 83)
    go_wp2_with (at_builtin; refine wpList_copy rfl _ _ rfl w A M.all.length c M.all rfl rfl H.out.1.hAc rfl (by omega) H.out.1.src ?_)
    intro A1 c1 w2 hR2 hb2
    have H1 := Aside0.mk (show IsM w0 w g M (.slice A M.all.length c) ∧ Below w0.heap.size w0 w ∧ KeepBut w w g none from ⟨H.out.1, H.out.2, KeepBut.refl _ _ _⟩)
    have H2 := Aside0.mk (show IsM w0 w2 g M (.slice A M.all.length c) ∧ Below w0.heap.size w0 w2 from ⟨H1.out.1.below hb2, H1.out.2.1.trans (hb2.mono H1.out.2.1.size)⟩)
    have hw2 : w.heap.size ≤ w2.heap.size := hb2.size
    have hgl1 : g < w.heap.size := blk_lt H1.out.1.1
    have hR2' : k83.R 83 w2 w.heap.size (fun q => (Value.slice A1 M.all.length c1).ownBlock = some q ∨ w2.heap.size ≤ q) (.slice A1 M.all.length c1) M.all := Kd.R_mono hR2 (fun _ hq => .inl hq)
    go_wp2_with ((with_reducible refine gate_builtin (b := .append) (xs := #[.tmp 17, .tmp 20]) rfl ?_); (try (refine gate_guard (by rfl) ?_; dsimp only)); at_builtin; refine Kd.R_append k83 (w0 := w) (W := w2) w.heap.size rfl (.tmp 17) (.tmp 20) 57 83 (.agg #[(.int .i64 0), (.bool false), (.string (⟨#[]⟩ : ByteArray))]) 32 rfl hu57 info83D rfl (by decide) (by omega) (.slice A1 M.all.length c1) M.all (⟨1, true, (⟨#[]⟩ : ByteArray)⟩ : S83) [.int .i64 1, .bool true, .string (⟨#[]⟩ : ByteArray)] (fun q => (Value.slice A1 M.all.length c1).ownBlock = some q ∨ w2.heap.size ≤ q) (fun _ => False) (by first | (go_simp; done) | (go_simp; rfl)) (by first | (go_simp; done) | (go_simp; rfl)) (k83_mkM _ _ _ (⟨1, true, (⟨#[]⟩ : ByteArray)⟩ : S83)) (fun _ hk => hk.elim) (fun _ hk => .inr hk) hR2' hb2 hb2.size (by omega) ?_; intro v7 w7 hO7 hB7 hg7 hat7; have h7 := (hB7.block g hgl1).trans H1.out.1.1; have d4 := (blk_cell h7 0).trans rfl; have f4 := blk_frozen h7 0; obtain ⟨A7, c7, rfl⟩ := Kd.R_slice hO7)
    go_ret
    have hs7 : w.heap.size ≤ w7.heap.size := hB7.size
    refine ⟨rfl, .slice A7 (M.all ++ [(⟨1, true, (⟨#[]⟩ : ByteArray)⟩ : S83)]).length c7, ⟨?_, H1.out.1.2.1, ?_⟩, below_set (H1.out.2.1.trans (hB7.mono H1.out.2.1.size)) H1.out.1.2.1, KeepBut.set_ ⟨by omega, fun i hi h1 h2 => (hB7.block i (by omega)).trans (H1.out.2.2.2 i hi h1 h2)⟩ _ _, ?_⟩
    · simpa using blk_set h7 0 (.slice A7 (M.all ++ [(⟨1, true, (⟨#[]⟩ : ByteArray)⟩ : S83)]).length c7)
    · exact R_exact83 (Kd.R_lower (Kd.R_far hO7 (p := ⟨g, 0, none⟩) (by
        intro q hq e
        have e' : q = g := e
        rcases hq with hq | hq
        · obtain ⟨inner, ho, _⟩ := hR2.2
          have := own_base ho q hq
          omega
        · omega) _) H1.out.2.1.size)
    · intro b hb
      obtain ⟨inner, ho, _⟩ := hO7.2
      have := own_base ho b hb
      omega
set_option maxHeartbeats 1600000 in
set_option maxRecDepth 100000 in
theorem refApp_bad (g : Nat) (a : Int) (s : ByteArray) (w : World) (ha : ¬ (a = 0 ∨ a = 1)) :
    Calls Try.prog 38 #[.pointer (some ⟨g, 0, none⟩), .int .i64 a, .string s] w fun e w' => e = .returned (.int .i64 1) ∧ ∃ n, w' = w.drewN n := by
  have b0 : (a != 0) = true := by simp; omega
  have b1 : (a != 1) = true := by simp; omega
  go_enter Try.func38, Try.ntmps38
  go_wp2
  go_ret
  exact ⟨rfl, 0, rfl⟩
set_option maxHeartbeats 1600000 in
set_option maxRecDepth 100000 in
theorem refRst_bad (g : Nat) (a : Int) (w : World) (ha : ¬ (a = 0 ∨ a = 1)) :
    Calls Try.prog 39 #[.pointer (some ⟨g, 0, none⟩), .int .i64 a] w fun e w' => e = .returned (.int .i64 1) ∧ ∃ n, w' = w.drewN n := by
  have b0 : (a != 0) = true := by simp; omega
  have b1 : (a != 1) = true := by simp; omega
  go_enter Try.func39, Try.ntmps39
  go_wp2
  go_ret
  exact ⟨rfl, 0, rfl⟩
set_option maxHeartbeats 3200000 in
set_option maxRecDepth 100000 in
theorem refApp_full (g : Nat) (M : Md) (v : Value) (a : Int) (s : ByteArray) (w0 w : World) (hM : IsM w0 w g M v) (ha : a = 0 ∨ a = 1) (hl : M.all.length ≤ 99999) (hs : sumB M.all ≤ 1000000000) (hb : s.size ≤ 1000000000) (hf : ¬ (textR M.all a).size + s.size ≤ 16384) :
    Calls Try.prog 38 #[.pointer (some ⟨g, 0, none⟩), .int .i64 a, .string s] w fun e w' => e = .returned (.int .i64 6) ∧ ∃ n, w' = w.drewN n := by
  have hu59 := Try.underlying59
  have hu57 := Try.underlying57
  have hu56 := Try.underlying56
  obtain ⟨A, c, rfl⟩ := Kd.R_slice hM.2.2
  have c0 : w.cell? ⟨g, 0, none⟩ = some (.slice A M.all.length c) := (blk_cell hM.1 0).trans rfl
  have hts0 := foldT_size a M.all (⟨#[]⟩ : ByteArray)
  have hts : (textR M.all a).size ≤ 1000000000 := Nat.le_trans hts0 (by show (0 : Nat) + _ ≤ _; omega)
  have q1 : ((16384 : Int) < ((textR M.all a).size : Int) + (s.size : Int)) = True := eq_true (by omega)
  have H := Aside0.mk hM
  clear hM hts0
  rcases ha with rfl | rfl
  · go_enter Try.func38, Try.ntmps38
    go_wp2_with (fail)
    refine (text_ok g M _ 0 M.all.length w0 w H.out (Nat.le_refl _) (by omega) hs).mono ?_
    rintro e w1 ⟨rfl, n1, rfl⟩
    rw [List.take_length]
    go_wp2
    go_ret
    exact ⟨rfl, n1, rfl⟩
  · go_enter Try.func38, Try.ntmps38
    go_wp2_with (fail)
    refine (text_ok g M _ 1 M.all.length w0 w H.out (Nat.le_refl _) (by omega) hs).mono ?_
    rintro e w1 ⟨rfl, n1, rfl⟩
    rw [List.take_length]
    go_wp2
    go_ret
    exact ⟨rfl, n1, rfl⟩
def cutC (c : S83) (part : Int) : S83 := ⟨c.f0, false, c.f2.extract 0 (min part.toNat c.f2.size)⟩
def crashM (M : Md) (keep part : Int) : List S83 :=
  let wait := M.all.drop M.safe
  let k := min keep.toNat wait.length
  M.all.take (M.safe + k) ++ (match wait.drop k with
    | [] => []
    | c :: _ => if c.f1 = true then [] else [cutC c part])
theorem fin_M {w0 w w2 : World} {g : Nat} {M : Md} {v v1 : Value} {l' : List S83} (hM : IsM w0 w g M v) (hB : Below w0.heap.size w0 w) (hb2 : Below w.heap.size w w2) (hR : k83.R 83 w2 w.heap.size (fun k => v1.ownBlock = some k) v1 l') :
    IsM w0 ((w2.setCell ⟨g, 0, none⟩ v1).setCell ⟨g, 1, none⟩ (.int .i64 (l'.length : Int))) g ⟨l', l'.length⟩ v1 ∧ Below w0.heap.size w0 ((w2.setCell ⟨g, 0, none⟩ v1).setCell ⟨g, 1, none⟩ (.int .i64 (l'.length : Int))) ∧ KeepBut w ((w2.setCell ⟨g, 0, none⟩ v1).setCell ⟨g, 1, none⟩ (.int .i64 (l'.length : Int))) g none ∧ (∀ b, v1.ownBlock = some b → w.heap.size ≤ b) := by
  have hgl := blk_lt hM.1
  have hg2 := (hb2.block g hgl).trans hM.1
  have hne : ∀ b, v1.ownBlock = some b → w.heap.size ≤ b := by
    intro b hb
    obtain ⟨inner, ho, _⟩ := hR.2
    exact own_base ho b hb
  have hgo : ∀ (q : Nat), v1.ownBlock = some q → q ≠ g := fun q hq e => by have := hne q hq; omega
  have hB2 : Below w0.heap.size w0 w2 := hB.trans (hb2.mono hB.size)
  refine ⟨⟨?_, hM.2.1, ?_⟩, below_set (below_set hB2 hM.2.1) hM.2.1, KeepBut.set_ (KeepBut.set_ ⟨hb2.size, fun i hi h1 h2 => hb2.block i hi⟩ _ _) _ _, hne⟩
  · have h1 := blk_set hg2 0 v1
    have h2 := blk_set h1 1 (.int .i64 (l'.length : Int))
    simpa using h2
  · refine R_exact83 (Kd.R_lower (Kd.R_far (Kd.R_far hR (p := ⟨g, 0, none⟩) hgo _) (p := ⟨g, 1, none⟩) hgo _) hB.size)
set_option maxHeartbeats 6400000 in
set_option maxRecDepth 100000 in
theorem refCrash_ok (g : Nat) (M : Md) (v : Value) (keep part : Int) (w0 w : World) (hM : IsM w0 w g M v) (hB : Below w0.heap.size w0 w) (hn : M.safe ≤ M.all.length) (hl : M.all.length ≤ 99999) (hs : sumB M.all ≤ 1000000000) :
    Calls Try.prog 40 #[.pointer (some ⟨g, 0, none⟩), .int .i64 keep, .int .i64 part] w fun e w' => e = .returned (.tuple #[]) ∧ ∃ v', IsM w0 w' g ⟨crashM M keep part, (crashM M keep part).length⟩ v' ∧ Below w0.heap.size w0 w' ∧ KeepBut w w' g none ∧ (∀ b, v'.ownBlock = some b → w.heap.size ≤ b) := by
  have hu83 := Try.underlying83
  have hu59 := Try.underlying59
  have hu57 := Try.underlying57
  have hu56 := Try.underlying56
  have hu9 := Try.underlying9
  obtain ⟨A, c, rfl⟩ := Kd.R_slice hM.2.2
  have c0 : w.cell? ⟨g, 0, none⟩ = some (.slice A M.all.length c) := (blk_cell hM.1 0).trans rfl
  have c1 : w.cell? ⟨g, 1, none⟩ = some (.int .i64 (M.safe : Int)) := (blk_cell hM.1 1).trans rfl
  have hgl := blk_lt hM.1
  have hcap : M.all.length ≤ c := (Kd.R_reads' hM.2.2).2.1
  obtain ⟨L, hL⟩ : ∃ L, M.all.length - M.safe = L := ⟨_, rfl⟩
  obtain ⟨k, hk⟩ : ∃ k, min keep.toNat L = k := ⟨_, rfl⟩
  obtain ⟨q, hq⟩ : ∃ q, M.safe + k = q := ⟨_, rfl⟩
  obtain ⟨p, hp⟩ : ∃ p, keep.toNat = p := ⟨_, rfl⟩
  rw [hp] at hk
  have hmx : (if keep < 0 then (0 : Int) else keep) = (p : Int) := by split <;> omega
  have hmx2 : max keep 0 = (p : Int) := by omega
  have hmn : (if (L : Int) < (p : Int) then (L : Int) else (p : Int)) = (k : Int) := by split <;> omega
  have hmn2 : (if L < p then (L : Int) else (p : Int)) = (k : Int) := by split <;> omega
  have hmn3 : min (p : Int) (L : Int) = (k : Int) := by omega
  have hmn4 : min (L : Int) (p : Int) = (k : Int) := by omega
  have p0 : ((0 : Int) ≤ (M.safe : Int)) = True := eq_true (by omega)
  have p1 : ((M.safe : Int) ≤ (M.all.length : Int)) = True := eq_true (by omega)
  have hdw : (M.all.drop M.safe).length = L := by rw [List.length_drop, hL]
  have hqc : q ≤ c := by omega
  have hqm : q ≤ M.all.length := by omega
  have hkL : k ≤ L := by omega
  have hcm : crashM M keep part = M.all.take q ++ (match (M.all.drop M.safe).drop k with
    | [] => []
    | c :: _ => if c.f1 = true then [] else [cutC c part]) := by unfold crashM; dsimp only; rw [hdw, hp, hk, hq]
  rw [List.drop_drop, hq] at hcm
  have wr0 : IntKind.i64.wrap ((M.safe : Int) + (k : Int)) = (q : Int) := by rw [IntKind.wrap_i64]; omega
  have u0 : ((0 : Int) ≤ (q : Int)) = True := eq_true (by omega)
  have u1 : ((q : Int) ≤ (c : Int)) = True := eq_true (by omega)
  have wl : ((q : Int)).toNat = q := Int.toNat_natCast _
  have hAc := hM.hAc
  have H := Aside0.mk (And.intro hM hB)
  clear hM hB hk hp
  by_cases hlt : k < L
  · have hcs : (c = M.safe) = False := eq_false (by omega)
    have v0 : ((k : Int) < (L : Int)) = True := eq_true (by omega)
    have v1 : ((0 : Int) ≤ (k : Int)) = True := eq_true (by omega)
    obtain ⟨x, r, hx⟩ : ∃ x r, M.all.drop q = x :: r := ⟨_, _, List.drop_eq_getElem_cons (show q < M.all.length by omega)⟩
    obtain ⟨ad, rfl, x0, x1, x2⟩ := m_read H.out.1 hx
    obtain ⟨gb, rfl⟩ : ∃ gb, ad = ⟨gb, 0, none⟩ := by
      rcases own_cells83 H.out.1.2.2 with ⟨h, _⟩ | ⟨gb, _, h, _⟩
      · cases h
      · exact ⟨gb, by injection h⟩
    rw [Addr.add_lit, Nat.zero_add, show q * 3 = M.safe * 3 + k * 3 by omega] at x0 x1 x2
    dsimp only at x1 x2
    rw [hx] at hcm
    dsimp only at hcm
    clear hkL hdw hlt hn hcap hqc
    go_enter Try.func40, Try.ntmps40
    go_wp2_with (fail)
    go_region
    go_wp2_with (fail)
    clear hmx hmx2 hmn hmn2 hmn3 hmn4
    go_region_held3 (fun w' => w'.cell? ⟨g, 0, none⟩ = some (.slice (some ⟨gb, 0, none⟩) M.all.length c) ∧ w'.cell? ⟨g, 1, none⟩ = some (.int .i64 (M.safe : Int))) (go_keep)
      (first | (refine step_copy (by rfl) (.tmp 24) (.tmp 35) (by rfl) w _ w.heap.size w.heap.size (some ⟨gb, 0, none⟩) q c (M.all.take q) (by first | exact below_alloc (Below.refl _ _) _ | exact pw_below_drewN (below_alloc (Below.refl _ _) _) 1 | exact pw_below_drewN (below_alloc (Below.refl _ _) _) 2 | exact pw_below_drewN (below_alloc (Below.refl _ _) _) 3) (by simp) (by rfl) (World.ownsRow_made w #[] 0 (Nat.le_refl _) (Nat.zero_le _) (by simp)) (by rfl) (fun e => by cases e) (by rw [List.length_take]; omega) (by omega) ((H.out.1.src.take q).step fun p u hp => Lib.cell?_alloc_some _ hp) ?_; intro A1 e1 w2 hR2 hb2; have d0 := (hb2.cell hgl).trans c0; have d1 := (hb2.cell hgl).trans c1))
    have x0w := x0
    have x2w := x2
    have hgbl : gb < w.heap.size := World.block_lt_of_cell? w _ x0
    replace x0 := (hb2.cell (World.block_lt_of_cell? w _ x0)).trans x0
    replace x1 := (hb2.cell (World.block_lt_of_cell? w _ x1)).trans x1
    replace x2 := (hb2.cell (World.block_lt_of_cell? w _ x2)).trans x2
    have hg2 := (hb2.block g hgl).trans H.out.1.1
    have f0 := blk_frozen hg2
    have hlq : (M.all.take q).length = q := by rw [List.length_take]; omega
    have hF := Aside0.mk (And.intro H.out (And.intro hR2 hb2))
    clear hR2
    by_cases hb : x.f1 = true
    · rw [hb] at x1
      rw [if_pos hb, List.append_nil] at hcm
      clear x0 x2 hb
      go_wp2
      go_end0
      have hz := fin_M H.out.1 H.out.2 hF.out.2.2 hF.out.2.1
      rw [hlq] at hz
      refine ⟨rfl, .slice A1 q e1, ?_⟩
      rw [hcm, hlq]
      exact hz
    · have hb : x.f1 = false := by simpa using hb
      rw [hb] at x1
      rw [if_neg (by simp [hb])] at hcm
      obtain ⟨pt, hpt⟩ : ∃ pt, part.toNat = pt := ⟨_, rfl⟩
      obtain ⟨kn, hkn⟩ : ∃ kn, min pt x.f2.size = kn := ⟨_, rfl⟩
      have hmx : (if part < 0 then (0 : Int) else part) = (pt : Int) := by split <;> omega
      have hmx2 : max part 0 = (pt : Int) := by omega
      have hmn : (if (x.f2.size : Int) < (pt : Int) then (x.f2.size : Int) else (pt : Int)) = (kn : Int) := by split <;> omega
      have hmn2 : (if x.f2.size < pt then (x.f2.size : Int) else (pt : Int)) = (kn : Int) := by split <;> omega
      have hmn3 : min (pt : Int) (x.f2.size : Int) = (kn : Int) := by omega
      have hmn4 : min (x.f2.size : Int) (pt : Int) = (kn : Int) := by omega
      have hcx : cutC x part = ⟨x.f0, false, x.f2.extract 0 kn⟩ := by unfold cutC; rw [hpt, hkn]
      rw [hcx] at hcm
      have s1 : ((0 : Int) ≤ (kn : Int)) = True := eq_true (by omega)
      have s2 : ((kn : Int) ≤ (x.f2.size : Int)) = True := eq_true (by omega)
      have s3 : ((kn : Int)).toNat = kn := Int.toNat_natCast _
      clear hb hpt hkn hcx
      go_wp2_with (fail)
      clear hmx hmx2 hmn hmn2 hmn3 hmn4
      have hqn : q ≤ 99999 := by omega
      go_region_held3 (fun w' => w'.cell? ⟨gb, M.safe * 3 + k * 3, none⟩ = some (.int .i64 x.f0) ∧ w'.cell? ⟨gb, M.safe * 3 + k * 3 + 2, none⟩ = some (.string x.f2)) (first | go_keep | exact ⟨(hB7.cell hgbl).trans x0w, (hB7.cell hgbl).trans x2w⟩)
        (first
          | (refine Kd.R_append_step k83 (w0 := w) (W := (w2.drewN 0)) w.heap.size (by rfl) (.tmp 58) (.tmp 72) 57 83 (.agg #[(.int .i64 0), (.bool false), (.string (⟨#[]⟩ : ByteArray))]) 32 (by rfl) hu57 info83D rfl (by decide) (by omega) (.slice A1 q e1) (M.all.take q) (⟨x.f0, false, x.f2.extract 0 kn⟩ : S83) [.int .i64 x.f0, .bool false, .string (x.f2.extract 0 kn)] (fun z => (Value.slice A1 q e1).ownBlock = some z ∨ w2.heap.size ≤ z) (fun _ => False) (by rfl) (by rfl) (k83_mkM _ _ _ (⟨x.f0, false, x.f2.extract 0 kn⟩ : S83)) (fun _ hk => hk.elim) (fun _ hk => .inr hk) (Kd.R_mono (Kd.R_below hF.out.2.1 (pw_below_drewN (Below.refl _ _) 0)) (fun _ hq => .inl hq)) (pw_below_drewN hF.out.2.2 0) hF.out.2.2.size (by omega) ?_; intro v7 w7 hO7 hB7 hg7 hat7; have hn7 : ∀ z, z < w.heap.size → w7.heap[z]? = w.heap[z]? := (fun z hz => hB7.block z hz); have d0 := (hB7.cell hgl).trans c0; have d1 := (hB7.cell hgl).trans c1; obtain ⟨A7, c7, rfl⟩ := Kd.R_slice hO7)
          | (refine Kd.R_append_step k83 (w0 := w) (W := (w2.drewN 1)) w.heap.size (by rfl) (.tmp 58) (.tmp 72) 57 83 (.agg #[(.int .i64 0), (.bool false), (.string (⟨#[]⟩ : ByteArray))]) 32 (by rfl) hu57 info83D rfl (by decide) (by omega) (.slice A1 q e1) (M.all.take q) (⟨x.f0, false, x.f2.extract 0 kn⟩ : S83) [.int .i64 x.f0, .bool false, .string (x.f2.extract 0 kn)] (fun z => (Value.slice A1 q e1).ownBlock = some z ∨ w2.heap.size ≤ z) (fun _ => False) (by rfl) (by rfl) (k83_mkM _ _ _ (⟨x.f0, false, x.f2.extract 0 kn⟩ : S83)) (fun _ hk => hk.elim) (fun _ hk => .inr hk) (Kd.R_mono (Kd.R_below hF.out.2.1 (pw_below_drewN (Below.refl _ _) 1)) (fun _ hq => .inl hq)) (pw_below_drewN hF.out.2.2 1) hF.out.2.2.size (by omega) ?_; intro v7 w7 hO7 hB7 hg7 hat7; have hn7 : ∀ z, z < w.heap.size → w7.heap[z]? = w.heap[z]? := (fun z hz => hB7.block z hz); have d0 := (hB7.cell hgl).trans c0; have d1 := (hB7.cell hgl).trans c1; obtain ⟨A7, c7, rfl⟩ := Kd.R_slice hO7)
          | (refine Kd.R_append_step k83 (w0 := w) (W := (w2.drewN 2)) w.heap.size (by rfl) (.tmp 58) (.tmp 72) 57 83 (.agg #[(.int .i64 0), (.bool false), (.string (⟨#[]⟩ : ByteArray))]) 32 (by rfl) hu57 info83D rfl (by decide) (by omega) (.slice A1 q e1) (M.all.take q) (⟨x.f0, false, x.f2.extract 0 kn⟩ : S83) [.int .i64 x.f0, .bool false, .string (x.f2.extract 0 kn)] (fun z => (Value.slice A1 q e1).ownBlock = some z ∨ w2.heap.size ≤ z) (fun _ => False) (by rfl) (by rfl) (k83_mkM _ _ _ (⟨x.f0, false, x.f2.extract 0 kn⟩ : S83)) (fun _ hk => hk.elim) (fun _ hk => .inr hk) (Kd.R_mono (Kd.R_below hF.out.2.1 (pw_below_drewN (Below.refl _ _) 2)) (fun _ hq => .inl hq)) (pw_below_drewN hF.out.2.2 2) hF.out.2.2.size (by omega) ?_; intro v7 w7 hO7 hB7 hg7 hat7; have hn7 : ∀ z, z < w.heap.size → w7.heap[z]? = w.heap[z]? := (fun z hz => hB7.block z hz); have d0 := (hB7.cell hgl).trans c0; have d1 := (hB7.cell hgl).trans c1; obtain ⟨A7, c7, rfl⟩ := Kd.R_slice hO7)
          | (refine Kd.R_append_step k83 (w0 := w) (W := (w2.drewN 3)) w.heap.size (by rfl) (.tmp 58) (.tmp 72) 57 83 (.agg #[(.int .i64 0), (.bool false), (.string (⟨#[]⟩ : ByteArray))]) 32 (by rfl) hu57 info83D rfl (by decide) (by omega) (.slice A1 q e1) (M.all.take q) (⟨x.f0, false, x.f2.extract 0 kn⟩ : S83) [.int .i64 x.f0, .bool false, .string (x.f2.extract 0 kn)] (fun z => (Value.slice A1 q e1).ownBlock = some z ∨ w2.heap.size ≤ z) (fun _ => False) (by rfl) (by rfl) (k83_mkM _ _ _ (⟨x.f0, false, x.f2.extract 0 kn⟩ : S83)) (fun _ hk => hk.elim) (fun _ hk => .inr hk) (Kd.R_mono (Kd.R_below hF.out.2.1 (pw_below_drewN (Below.refl _ _) 3)) (fun _ hq => .inl hq)) (pw_below_drewN hF.out.2.2 3) hF.out.2.2.size (by omega) ?_; intro v7 w7 hO7 hB7 hg7 hat7; have hn7 : ∀ z, z < w.heap.size → w7.heap[z]? = w.heap[z]? := (fun z hz => hB7.block z hz); have d0 := (hB7.cell hgl).trans c0; have d1 := (hB7.cell hgl).trans c1; obtain ⟨A7, c7, rfl⟩ := Kd.R_slice hO7))
      have hg7' := (hB7.block g hgl).trans H.out.1.1
      have f7 := blk_frozen hg7'
      have hF7 := Aside0.mk (And.intro hO7 hB7)
      have hl1 : (M.all.take q ++ [(⟨x.f0, false, x.f2.extract 0 kn⟩ : S83)]).length = q + 1 := by rw [List.length_append, hlq]; rfl
      clear hO7 hn7
      go_wp2
      go_end0
      have hz := fin_M H.out.1 H.out.2 hF7.out.2 (R_exact83 hF7.out.1)
      rw [hl1] at hz
      refine ⟨rfl, .slice A7 (q + 1) c7, ?_⟩
      rw [hcm, hl1]
      simpa using hz
  · have v0 : ((k : Int) < (L : Int)) = False := eq_false (by omega)
    have hkE : q = M.all.length := by omega
    rw [List.drop_eq_nil_of_le (by omega)] at hcm
    dsimp only at hcm
    rw [List.append_nil] at hcm
    clear hkE
    by_cases hcs : c = M.safe
    · obtain rfl : c = M.safe := hcs
      go_enter Try.func40, Try.ntmps40
      go_wp2_with (fail)
      go_region
      go_wp2_with (fail)
      clear hmx hmx2 hmn hmn2 hmn3 hmn4
      go_region_held3 (fun w' => w'.cell? ⟨g, 0, none⟩ = some (.slice A M.all.length M.safe) ∧ w'.cell? ⟨g, 1, none⟩ = some (.int .i64 (M.safe : Int))) (go_keep)
        (first | (refine step_copy (by rfl) (.tmp 24) (.tmp 35) (by rfl) w _ w.heap.size w.heap.size A q M.safe (M.all.take q) (by first | exact below_alloc (Below.refl _ _) _ | exact pw_below_drewN (below_alloc (Below.refl _ _) _) 1 | exact pw_below_drewN (below_alloc (Below.refl _ _) _) 2 | exact pw_below_drewN (below_alloc (Below.refl _ _) _) 3) (by simp) (by rfl) (World.ownsRow_made w #[] 0 (Nat.le_refl _) (Nat.zero_le _) (by simp)) (by rfl) hAc (by rw [List.length_take]; omega) (by omega) ((H.out.1.src.take q).step fun p u hp => Lib.cell?_alloc_some _ hp) ?_; intro A1 e1 w2 hR2 hb2; have d0 := (hb2.cell hgl).trans c0; have d1 := (hb2.cell hgl).trans c1))
      have hg2 := (hb2.block g hgl).trans H.out.1.1
      have f0 := blk_frozen hg2
      have hlq : (M.all.take q).length = q := by rw [List.length_take]; omega
      have hF := Aside0.mk (And.intro H.out (And.intro hR2 hb2))
      clear hR2
      go_wp2
      go_end0
      have hz := fin_M H.out.1 H.out.2 hF.out.2.2 hF.out.2.1
      rw [hlq] at hz
      refine ⟨rfl, .slice A1 q e1, ?_⟩
      rw [hcm, hlq]
      exact hz
    have hcs : (c = M.safe) = False := eq_false hcs
    go_enter Try.func40, Try.ntmps40
    go_wp2_with (fail)
    go_region
    go_wp2_with (fail)
    clear hmx hmx2 hmn hmn2 hmn3 hmn4
    go_region_held3 (fun w' => w'.cell? ⟨g, 0, none⟩ = some (.slice A M.all.length c) ∧ w'.cell? ⟨g, 1, none⟩ = some (.int .i64 (M.safe : Int))) (go_keep)
      (first | (refine step_copy (by rfl) (.tmp 24) (.tmp 35) (by rfl) w _ w.heap.size w.heap.size A q c (M.all.take q) (by first | exact below_alloc (Below.refl _ _) _ | exact pw_below_drewN (below_alloc (Below.refl _ _) _) 1 | exact pw_below_drewN (below_alloc (Below.refl _ _) _) 2 | exact pw_below_drewN (below_alloc (Below.refl _ _) _) 3) (by simp) (by rfl) (World.ownsRow_made w #[] 0 (Nat.le_refl _) (Nat.zero_le _) (by simp)) (by rfl) hAc (by rw [List.length_take]; omega) (by omega) ((H.out.1.src.take q).step fun p u hp => Lib.cell?_alloc_some _ hp) ?_; intro A1 e1 w2 hR2 hb2; have d0 := (hb2.cell hgl).trans c0; have d1 := (hb2.cell hgl).trans c1))
    have hg2 := (hb2.block g hgl).trans H.out.1.1
    have f0 := blk_frozen hg2
    have hlq : (M.all.take q).length = q := by rw [List.length_take]; omega
    have hF := Aside0.mk (And.intro H.out (And.intro hR2 hb2))
    clear hR2
    go_wp2
    go_end0
    have hz := fin_M H.out.1 H.out.2 hF.out.2.2 hF.out.2.1
    rw [hlq] at hz
    refine ⟨rfl, .slice A1 q e1, ?_⟩
    rw [hcm, hlq]
    exact hz
/-! ### the disk and the document's -/
def to79 (c : S83) : S79 := ⟨c.f0, c.f1, c.f2⟩
def AreaOk (l : List S83) : Prop := ∀ c ∈ l, c.f0 = 0 ∨ c.f0 = 1
structure Rel (D : Dk) (M : Md) : Prop where
  n0 : D.n0 = textR M.all 0
  n1 : D.n1 = textR M.all 1
  s0 : D.s0 = textR (M.all.take M.safe) 0
  s1 : D.s1 = textR (M.all.take M.safe) 1
  l : D.l = (M.all.drop M.safe).map to79
  le : M.safe ≤ M.all.length
  ok : AreaOk M.all
def GoodM (M : Md) (N m : Nat) : Prop := sumB M.all ≤ N ∧ M.all.length ≤ m
theorem rel_zero : Rel zeroDk ⟨[], 0⟩ := ⟨rfl, rfl, rfl, rfl, rfl, Nat.le_refl _, fun c h => by cases h⟩
theorem land_step {E : Dk} {P : List S83} (h0 : E.s0 = textR P 0) (h1 : E.s1 = textR P 1) (c : S83) (hc : c.f0 = 0 ∨ c.f0 = 1) : (landD E (to79 c)).s0 = textR (P ++ [c]) 0 ∧ (landD E (to79 c)).s1 = textR (P ++ [c]) 1 := by
  rw [textR_snoc, textR_snoc, ← h0, ← h1]
  unfold landD stepT landS to79
  rcases hc with h | h
  · simp [h]
  · simp [h]
theorem cut_step {E : Dk} {P : List S83} (h0 : E.s0 = textR P 0) (h1 : E.s1 = textR P 1) (c : S83) (part : Int) (hc : c.f0 = 0 ∨ c.f0 = 1) : (landD E (partC (to79 c) part)).s0 = textR (P ++ [cutC c part]) 0 ∧ (landD E (partC (to79 c) part)).s1 = textR (P ++ [cutC c part]) 1 :=
  land_step h0 h1 (cutC c part) hc
def tailM (part : Int) : List S83 → List S83
  | [] => []
  | c :: _ => if c.f1 = true then [] else [cutC c part]
theorem crashM_eq (M : Md) (keep part : Int) : crashM M keep part = M.all.take M.safe ++ ((M.all.drop M.safe).take (min keep.toNat (M.all.drop M.safe).length) ++ tailM part ((M.all.drop M.safe).drop (min keep.toNat (M.all.drop M.safe).length))) := by
  unfold crashM
  dsimp only
  rw [List.take_add, List.append_assoc]
  congr 2
theorem crashL_rel (keep part : Int) : ∀ (W P : List S83) (i : Nat) (E : Dk), E.s0 = textR P 0 → E.s1 = textR P 1 → AreaOk W →
    (crashL keep part (W.map to79) i E).s0 = textR (P ++ (W.take (min (keep - i).toNat W.length) ++ tailM part (W.drop (min (keep - i).toNat W.length)))) 0 ∧
    (crashL keep part (W.map to79) i E).s1 = textR (P ++ (W.take (min (keep - i).toNat W.length) ++ tailM part (W.drop (min (keep - i).toNat W.length)))) 1
  | [], P, i, E, h0, h1, hok => by simp [crashL, tailM, h0, h1]
  | c :: r, P, i, E, h0, h1, hok => by
    have hc := hok c List.mem_cons_self
    rw [List.map_cons, crashL_cons]
    by_cases hk : keep ≤ (i : Int)
    · rw [if_pos hk, show min (keep - i).toNat (c :: r).length = 0 by omega]
      simp only [List.take_zero, List.drop_zero, List.nil_append, tailM]
      by_cases hb : c.f1 = true
      · rw [if_pos (show (to79 c).f1 = true from hb), if_pos hb, List.append_nil]
        exact ⟨h0, h1⟩
      · rw [if_neg (show ¬ (to79 c).f1 = true from hb), if_neg hb]
        exact cut_step h0 h1 c part hc
    · rw [if_neg hk]
      have hs := land_step h0 h1 c hc
      have ih := crashL_rel keep part r (P ++ [c]) (i + 1) (landD E (to79 c)) hs.1 hs.2 (fun x hx => hok x (List.mem_cons_of_mem _ hx))
      have he : min (keep - i).toNat (c :: r).length = min (keep - ((i + 1 : Nat) : Int)).toNat r.length + 1 := by rw [List.length_cons]; omega
      rw [he, List.take_succ_cons, List.drop_succ_cons, List.cons_append]
      rw [List.append_assoc, List.singleton_append] at ih
      exact ih
theorem sumB_take (l : List S83) (n : Nat) : sumB (l.take n) ≤ sumB l := by
  have h := sumB_append (l.take n) (l.drop n)
  rw [List.take_append_drop] at h
  omega
theorem tailM_size (part : Int) (l : List S83) : sumB (tailM part l) ≤ sumB l ∧ (tailM part l).length ≤ l.length := by
  cases l with
  | nil => exact ⟨Nat.le_refl _, Nat.le_refl _⟩
  | cons c r =>
    rw [show tailM part (c :: r) = if c.f1 = true then [] else [cutC c part] from rfl]
    split
    · exact ⟨Nat.zero_le _, Nat.zero_le _⟩
    · refine ⟨?_, by simp⟩
      have : (cutC c part).f2.size ≤ c.f2.size := by unfold cutC; dsimp only; rw [ByteArray.size_extract]; omega
      simp only [sumB, List.map_cons, List.map_nil, List.sum_cons, List.sum_nil]
      omega
theorem tailM_ok (part : Int) (l : List S83) (h : AreaOk l) : AreaOk (tailM part l) := by
  cases l with
  | nil => exact h
  | cons c r =>
    rw [show tailM part (c :: r) = if c.f1 = true then [] else [cutC c part] from rfl]
    split
    · intro x hx; cases hx
    · intro x hx
      rw [List.mem_singleton.1 hx]
      exact h c List.mem_cons_self
theorem crashM_good {M : Md} {N m : Nat} (h : GoodM M N m) (keep part : Int) : GoodM ⟨crashM M keep part, (crashM M keep part).length⟩ N m := by
  obtain ⟨h1, h2⟩ := h
  have e := crashM_eq M keep part
  have t := tailM_size part ((M.all.drop M.safe).drop (min keep.toNat (M.all.drop M.safe).length))
  have s1 := sumB_append (M.all.take M.safe) (M.all.drop M.safe)
  have s2 := sumB_append ((M.all.drop M.safe).take (min keep.toNat (M.all.drop M.safe).length)) ((M.all.drop M.safe).drop (min keep.toNat (M.all.drop M.safe).length))
  rw [List.take_append_drop] at s1 s2
  refine ⟨?_, ?_⟩
  · show sumB (crashM M keep part) ≤ N
    rw [e, sumB_append, sumB_append]
    omega
  · show (crashM M keep part).length ≤ m
    rw [e, List.length_append, List.length_append]
    have l1 : (M.all.take M.safe).length + (M.all.drop M.safe).length = M.all.length := by rw [← List.length_append, List.take_append_drop]
    have l2 : ((M.all.drop M.safe).take (min keep.toNat (M.all.drop M.safe).length)).length + ((M.all.drop M.safe).drop (min keep.toNat (M.all.drop M.safe).length)).length = (M.all.drop M.safe).length := by rw [← List.length_append, List.take_append_drop]
    have := t.2
    omega
theorem rel_crash {D : Dk} {M : Md} (h : Rel D M) (keep part : Int) : Rel (crashD D keep part) ⟨crashM M keep part, (crashM M keep part).length⟩ := by
  have hd : AreaOk (M.all.drop M.safe) := fun c hc => h.ok c (List.mem_of_mem_drop hc)
  have hk := crashL_rel keep part (M.all.drop M.safe) (M.all.take M.safe) 0 D h.s0 h.s1 hd
  rw [show keep - ((0 : Nat) : Int) = keep by omega, ← crashM_eq, ← h.l] at hk
  refine ⟨hk.1, hk.2, ?_, ?_, ?_, Nat.le_refl _, ?_⟩
  · show (crashL keep part D.l 0 D).s0 = textR ((crashM M keep part).take _) 0
    rw [List.take_length]; exact hk.1
  · show (crashL keep part D.l 0 D).s1 = textR ((crashM M keep part).take _) 1
    rw [List.take_length]; exact hk.2
  · show [] = ((crashM M keep part).drop _).map to79
    rw [List.drop_length]; rfl
  · show AreaOk (crashM M keep part)
    rw [crashM_eq]
    intro x hx
    rcases List.mem_append.1 hx with hx | hx
    · exact h.ok x (List.mem_of_mem_take hx)
    · rcases List.mem_append.1 hx with hx | hx
      · exact hd x (List.mem_of_mem_take hx)
      · exact tailM_ok part _ (fun y hy => hd y (List.mem_of_mem_drop hy)) x hx
theorem rel_sync {D : Dk} {M : Md} (h : Rel D M) (hC : Cons D) : Rel (syncD D) ⟨M.all, M.all.length⟩ := by
  rw [sync_eq hC]
  refine ⟨h.n0, h.n1, ?_, ?_, ?_, Nat.le_refl _, h.ok⟩
  · show D.n0 = textR (M.all.take _) 0; rw [List.take_length]; exact h.n0
  · show D.n1 = textR (M.all.take _) 1; rw [List.take_length]; exact h.n1
  · show [] = (M.all.drop _).map to79; rw [List.drop_length]; rfl
theorem rel_app {D : Dk} {M : Md} (h : Rel D M) (a : Int) (s : ByteArray) (ha : a = 0 ∨ a = 1) : Rel (appD D a s) ⟨M.all ++ [⟨a, false, s⟩], M.safe⟩ := by
  have ht : (M.all ++ [(⟨a, false, s⟩ : S83)]).take M.safe = M.all.take M.safe := List.take_append_of_le_length h.le
  have hd : (M.all ++ [(⟨a, false, s⟩ : S83)]).drop M.safe = M.all.drop M.safe ++ [⟨a, false, s⟩] := List.drop_append_of_le_length h.le
  have hok : AreaOk (M.all ++ [(⟨a, false, s⟩ : S83)]) := by
    intro x hx
    rcases List.mem_append.1 hx with hx | hx
    · exact h.ok x hx
    · rw [List.mem_singleton.1 hx]; exact ha
  have hle : M.safe ≤ (M.all ++ [(⟨a, false, s⟩ : S83)]).length := by rw [List.length_append]; have := h.le; omega
  have hl : D.l ++ [⟨a, false, s⟩] = ((M.all ++ [(⟨a, false, s⟩ : S83)]).drop M.safe).map to79 := by rw [hd, List.map_append, ← h.l]; rfl
  unfold appD
  rcases ha with rfl | rfl
  · rw [if_pos rfl]
    exact ⟨by dsimp only; rw [textR_snoc, h.n0]; simp [stepT], by dsimp only; rw [textR_snoc, h.n1]; simp [stepT], by dsimp only; rw [ht]; exact h.s0, by dsimp only; rw [ht]; exact h.s1, hl, hle, hok⟩
  · rw [if_neg (by decide)]
    exact ⟨by dsimp only; rw [textR_snoc, h.n0]; simp [stepT], by dsimp only; rw [textR_snoc, h.n1]; simp [stepT], by dsimp only; rw [ht]; exact h.s0, by dsimp only; rw [ht]; exact h.s1, hl, hle, hok⟩
theorem rel_rst {D : Dk} {M : Md} (h : Rel D M) (a : Int) (ha : a = 0 ∨ a = 1) : Rel (rstD D a) ⟨M.all ++ [⟨a, true, (⟨#[]⟩ : ByteArray)⟩], M.safe⟩ := by
  have ht : (M.all ++ [(⟨a, true, (⟨#[]⟩ : ByteArray)⟩ : S83)]).take M.safe = M.all.take M.safe := List.take_append_of_le_length h.le
  have hd : (M.all ++ [(⟨a, true, (⟨#[]⟩ : ByteArray)⟩ : S83)]).drop M.safe = M.all.drop M.safe ++ [⟨a, true, (⟨#[]⟩ : ByteArray)⟩] := List.drop_append_of_le_length h.le
  have hok : AreaOk (M.all ++ [(⟨a, true, (⟨#[]⟩ : ByteArray)⟩ : S83)]) := by
    intro x hx
    rcases List.mem_append.1 hx with hx | hx
    · exact h.ok x hx
    · rw [List.mem_singleton.1 hx]; exact ha
  have hle : M.safe ≤ (M.all ++ [(⟨a, true, (⟨#[]⟩ : ByteArray)⟩ : S83)]).length := by rw [List.length_append]; have := h.le; omega
  have hl : D.l ++ [⟨a, true, (⟨#[]⟩ : ByteArray)⟩] = ((M.all ++ [(⟨a, true, (⟨#[]⟩ : ByteArray)⟩ : S83)]).drop M.safe).map to79 := by rw [hd, List.map_append, ← h.l]; rfl
  unfold rstD
  rcases ha with rfl | rfl
  · rw [if_pos rfl]
    exact ⟨by dsimp only; rw [textR_snoc]; simp [stepT], by dsimp only; rw [textR_snoc, h.n1]; simp [stepT], by dsimp only; rw [ht]; exact h.s0, by dsimp only; rw [ht]; exact h.s1, hl, hle, hok⟩
  · rw [if_neg (by decide)]
    exact ⟨by dsimp only; rw [textR_snoc, h.n0]; simp [stepT], by dsimp only; rw [textR_snoc]; simp [stepT], by dsimp only; rw [ht]; exact h.s0, by dsimp only; rw [ht]; exact h.s1, hl, hle, hok⟩
theorem good_snoc {M : Md} {N m : Nat} (h : GoodM M N m) (c : S83) : GoodM ⟨M.all ++ [c], M.safe⟩ (N + c.f2.size) (m + 1) := by
  refine ⟨?_, ?_⟩
  · show sumB (M.all ++ [c]) ≤ _
    rw [sumB_append]
    have : sumB [c] = c.f2.size := by simp [sumB]
    have := h.1
    omega
  · show (M.all ++ [c]).length ≤ _
    rw [List.length_append]
    have := h.2
    simp; omega
theorem rel_now {D : Dk} {M : Md} (h : Rel D M) {a : Int} (ha : a = 0 ∨ a = 1) : nowD D a = textR M.all a := by
  rcases ha with rfl | rfl
  · exact h.n0
  · exact h.n1
/-! ### two states beside each other -/
theorem IsM.pastD {w0 W W' : World} {g gm : Nat} {D : Dk} {M : Md} {u v : Value} (hM : IsM w0 W gm M v) (hI : IsD w0 W g D u) (k : KeepBut W W' g u.ownBlock) : IsM w0 W' gm M v := by
  have h1 : gm ≠ g := fun e => by
    have a := hM.1
    rw [e, hI.1] at a
    injection a with a
    injection a with _ a _
    exact absurd a (by decide)
  have h2 : some gm ≠ u.ownBlock := Kd.R_ne hI.2.2 hM.1 (by decide)
  have h3 : some g ≠ v.ownBlock := Kd.R_ne hM.2.2 hI.1 (by decide)
  obtain ⟨i1, o1, _⟩ := hM.2.2.2
  obtain ⟨i2, o2, _⟩ := hI.2.2.2
  have h4 : NeRow v u := ne_types o1 o2 (by decide)
  exact hM.keep k h1 h2 (fun b hb => ⟨fun e => h3 (by rw [hb, e]), fun e => h4 b hb e.symm⟩)
theorem IsD.pastM {w0 W W' : World} {g gm : Nat} {D : Dk} {M : Md} {u v : Value} (hI : IsD w0 W g D u) (hM : IsM w0 W gm M v) (k : KeepBut W W' gm none) : IsD w0 W' g D u := by
  have h1 : g ≠ gm := fun e => by
    have a := hM.1
    rw [← e, hI.1] at a
    injection a with a
    injection a with _ a _
    exact absurd a (by decide)
  have h2 : some gm ≠ u.ownBlock := Kd.R_ne hI.2.2 hM.1 (by decide)
  exact hI.keep k h1 (by simp) (fun b hb => ⟨fun e => h2 (by rw [hb, e]), by simp⟩)
def doesM (D : Dk) (M : Md) (c : S53) : Md := if c.f0 = 0 then (if (c.f1 = 0 ∨ c.f1 = 1) ∧ c.f2.size + (nowD D c.f1).size ≤ 16384 then ⟨M.all ++ [⟨c.f1, false, c.f2⟩], M.safe⟩ else M) else if c.f0 = 1 then (if c.f1 = 0 ∨ c.f1 = 1 then ⟨M.all ++ [⟨c.f1, true, (⟨#[]⟩ : ByteArray)⟩], M.safe⟩ else M) else if c.f0 = 2 then ⟨M.all, M.all.length⟩ else if c.f0 = 3 then ⟨crashM M c.f3 c.f4, (crashM M c.f3 c.f4).length⟩ else M
theorem rel_does {D : Dk} {M : Md} (h : Rel D M) (hC : Cons D) (c : S53) : Rel (doesD D c) (doesM D M c) := by
  unfold doesD doesM
  split
  · split
    · rename_i q
      exact rel_app h _ _ q.1
    · exact h
  split
  · split
    · rename_i q
      exact rel_rst h _ q
    · exact h
  split
  · exact rel_sync h hC
  split
  · exact rel_crash h _ _
  · exact h
theorem goodM_mono {M : Md} {N m N' m' : Nat} (h : GoodM M N m) (h1 : N ≤ N') (h2 : m ≤ m') : GoodM M N' m' := ⟨Nat.le_trans h.1 h1, Nat.le_trans h.2 h2⟩
theorem good_doesM {D : Dk} {M : Md} {N m : Nat} (h : GoodM M N m) (c : S53) : GoodM (doesM D M c) (N + c.f2.size) (m + 1) := by
  unfold doesM
  split
  · split
    · exact good_snoc h ⟨c.f1, false, c.f2⟩
    · exact goodM_mono h (by omega) (by omega)
  split
  · split
    · exact goodM_mono (good_snoc h ⟨c.f1, true, (⟨#[]⟩ : ByteArray)⟩) (by show N + 0 ≤ _; omega) (Nat.le_refl _)
    · exact goodM_mono h (by omega) (by omega)
  split
  · exact ⟨Nat.le_trans h.1 (by omega), Nat.le_trans h.2 (by omega)⟩
  split
  · exact goodM_mono (crashM_good h _ _) (by omega) (by omega)
  · exact goodM_mono h (by omega) (by omega)
theorem new_isM (w0 w : World) (hB : Below w0.heap.size w0 w) : IsM w0 (w.alloc (.cells #[.slice none 0 0, .int .i64 0] 59)) w.heap.size ⟨[], 0⟩ (.slice none 0 0) :=
  ⟨heap_alloc_new w _, hB.size, Kd.R_nil _ _ _ _ _⟩
theorem rel_safe {D : Dk} {M : Md} (h : Rel D M) {a : Int} (ha : a = 0 ∨ a = 1) : safeD D a = textR (M.all.take M.safe) a := by
  rcases ha with rfl | rfl
  · exact h.s0
  · exact h.s1
theorem rel_len {D : Dk} {M : Md} (h : Rel D M) : (M.all.length : Int) - (M.safe : Int) = (D.l.length : Int) := by
  have := h.le
  rw [h.l, List.length_map, List.length_drop]
  omega
set_option maxHeartbeats 1600000 in
set_option maxRecDepth 100000 in
theorem read_bad (g : Nat) (a : Int) (w : World) (ha : ¬ (a = 0 ∨ a = 1)) :
    Calls Try.prog 33 #[.pointer (some ⟨g, 0, none⟩), .int .i64 a] w fun e w' => e = .returned (.string (⟨#[]⟩ : ByteArray)) ∧ ∃ n, w' = w.drewN n := by
  have G := disk_good.calls a false
  have hga := goodN ha
  go_enter Try.func33, Try.ntmps33
  go_wp2_with (go_at_call 45; (with_reducible refine (G _ hga).mono ?_); rintro e w1 ⟨rfl, ⟨nd, rfl⟩⟩)
  go_ret
  exact ⟨rfl, _, rfl⟩
set_option maxHeartbeats 1600000 in
set_option maxRecDepth 100000 in
theorem safe_bad (g : Nat) (a : Int) (w : World) (ha : ¬ (a = 0 ∨ a = 1)) :
    Calls Try.prog 37 #[.pointer (some ⟨g, 0, none⟩), .int .i64 a] w fun e w' => e = .returned (.string (⟨#[]⟩ : ByteArray)) ∧ ∃ n, w' = w.drewN n := by
  have G := disk_good.calls a false
  have hga := goodN ha
  go_enter Try.func37, Try.ntmps37
  go_wp2_with (go_at_call 45; (with_reducible refine (G _ hga).mono ?_); rintro e w1 ⟨rfl, ⟨nd, rfl⟩⟩)
  go_ret
  exact ⟨rfl, _, rfl⟩
set_option maxRecDepth 100000 in
theorem nil36 (w : World) : Calls Try.prog 36 #[.pointer none] w fun e w' => e = .returned (.tuple #[]) ∧ w' = w := by
  go_enter Try.func36, Try.ntmps36
  go_wp2
  ((try simp only [Exit.inBlock, Exit.then]); refine bodyPost_ret (results_none rfl _ _ _) rfl ?_)
  exact ⟨rfl, rfl⟩
set_option maxRecDepth 100000 in
theorem nil32 (w : World) : Calls Try.prog 32 #[.pointer none, .int .i64 1, .int .i64 1] w fun e w' => e = .returned (.tuple #[]) ∧ w' = w := by
  go_enter Try.func32, Try.ntmps32
  go_wp2
  ((try simp only [Exit.inBlock, Exit.then]); refine bodyPost_ret (results_none rfl _ _ _) rfl ?_)
  exact ⟨rfl, rfl⟩
set_option maxRecDepth 100000 in
theorem nil30 (w : World) : Calls Try.prog 30 #[.pointer none, .int .i64 0, .string (⟨#[]⟩ : ByteArray)] w fun e w' => e = .returned (.int .i64 2) ∧ w' = w := by
  go_enter Try.func30, Try.ntmps30
  go_wp2
  go_ret
  exact ⟨rfl, rfl⟩
set_option maxRecDepth 100000 in
theorem nil43 (w : World) : Calls Try.prog 43 #[.pointer none, .int .i64 0] w fun e w' => e = .returned (.int .i64 2) ∧ w' = w := by
  go_enter Try.func43, Try.ntmps43
  go_wp2
  go_ret
  exact ⟨rfl, rfl⟩
set_option maxRecDepth 100000 in
theorem nil33 (w : World) : Calls Try.prog 33 #[.pointer none, .int .i64 0] w fun e w' => e = .returned (.string (⟨#[]⟩ : ByteArray)) ∧ w' = w := by
  go_enter Try.func33, Try.ntmps33
  go_wp2
  go_ret
  exact ⟨rfl, rfl⟩
set_option maxRecDepth 100000 in
theorem nil37 (w : World) : Calls Try.prog 37 #[.pointer none, .int .i64 0] w fun e w' => e = .returned (.string (⟨#[]⟩ : ByteArray)) ∧ w' = w := by
  go_enter Try.func37, Try.ntmps37
  go_wp2
  go_ret
  exact ⟨rfl, rfl⟩
set_option maxRecDepth 100000 in
theorem nil41 (w : World) : Calls Try.prog 41 #[.pointer none] w fun e w' => e = .returned (.int .i64 0) ∧ w' = w := by
  go_enter Try.func41, Try.ntmps41
  go_wp2
  go_ret
  exact ⟨rfl, rfl⟩
set_option maxRecDepth 100000 in
theorem nil31 (w : World) : Calls Try.prog 31 #[.pointer none] w fun e w' => e = .returned (.pointer none) ∧ w' = w := by
  go_enter Try.func31, Try.ntmps31
  go_wp2
  go_ret
  exact ⟨rfl, rfl⟩
set_option maxHeartbeats 12800000 in
set_option maxRecDepth 100000 in
theorem ddoes_main (k : Nat) (A0 : Option Addr) (c0 : Nat) (l : List S53) (other : Int) (w : World) (hr0 : Kd.C k53 w A0 l.length l) (hc0 : l.length ≤ c0) (hl : l.length ≤ 60) (ht : tot53 l ≤ 32768) (hg : countermandlaw03_great.f k l = some false) :
    Calls Try.prog 11 #[.slice A0 l.length c0, .int .i64 other] w fun e w' => e = .returned (.bool true) ∧ Below w.heap.size w w' := by
  have hu83 := Try.underlying83
  have hu59 := Try.underlying59
  have hu57 := Try.underlying57
  have hu56 := Try.underlying56
  have hu53 := Try.underlying53
  have hu50 := Try.underlying50
  have hu46 := Try.underlying46
  have hu44 := Try.underlying44
  have hu9 := Try.underlying9
  have hu3 := Try.underlying3
  have H := Aside0.mk (And.intro hr0 hg)
  clear hr0 hg
  go_enter Try.func11, Try.ntmps11
  go_wp2_with (fail)
  refine (alive_ok w).mono ?_
  rintro e w1 ⟨rfl, hB1⟩
  go_wp2_with (fail)
  refine (countermandlaw03_great.calls k A0 c0 l false w1 (Kd.C_below H.out.1 hB1) hc0 H.out.2).mono ?_
  rintro e w2 ⟨rfl, hB2⟩
  have hB2' : Below w.heap.size w w2 := hB1.trans (hB2.mono hB1.size)
  go_wp2_with (fail)
  refine (new_ok w2).mono ?_
  rintro e w3 ⟨rfl, rfl⟩
  have HS := Aside0.mk (And.intro (new_isD w w2 hB2') (below_alloc hB2' (.cells (dkCells zeroDk (.slice none 0 0)) 77)))
  generalize w2.alloc (.cells (dkCells zeroDk (.slice none 0 0)) 77) = w3 at HS ⊢
  generalize w2.heap.size = g at HS ⊢
  clear hB1 hB2 hB2'
  go_wp2
  have HT := Aside0.mk (show IsD w (w3.alloc (.cells #[.slice none 0 0, .int .i64 0] 59)) g zeroDk (.slice none 0 0) ∧ IsM w (w3.alloc (.cells #[.slice none 0 0, .int .i64 0] 59)) w3.heap.size ⟨[], 0⟩ (.slice none 0 0) ∧ Below w.heap.size w (w3.alloc (.cells #[.slice none 0 0, .int .i64 0] 59)) from ⟨HS.out.1.below (below_alloc (Below.refl _ _) _), new_isM w w3 HS.out.2, below_alloc HS.out.2 _⟩)
  generalize w3.alloc (.cells #[.slice none 0 0, .int .i64 0] 59) = w4 at HT ⊢
  generalize w3.heap.size = gm at HT ⊢
  clear HS
  go_loopg [21] l.length (fun m v wr => ∃ (j : Nat) (D : Dk) (M : Md) (u v' : Value) (N : Nat), v = .int .i64 (j : Int) ∧ m + j = l.length ∧ Aside0 (IsD w wr g D u ∧ IsM w wr gm M v' ∧ Good D N j ∧ GoodM M N j ∧ N + tot53 (l.drop j) ≤ 32768 ∧ Cons D ∧ Rel D M ∧ Below w.heap.size w wr))
  case atStart => exact ⟨0, zeroDk, ⟨[], 0⟩, .slice none 0 0, .slice none 0 0, 0, rfl, by omega, ⟨HT.out.1, HT.out.2.1, good_zero, ⟨Nat.le_refl _, Nat.le_refl _⟩, by rw [List.drop_zero]; omega, cons_zero, rel_zero, HT.out.2.2⟩⟩
  case round =>
    clear HT
    obtain ⟨j, D, M, u, v', N, rfl, hj, HC⟩ := hrel
    by_cases hlt : j < l.length
    · have q0 : decide ((j : Int) < (l.length : Int)) = true := decide_eq_true (by omega)
      obtain ⟨ad, rfl, x0, x1, x2, x3, x4⟩ := at_T53 (Kd.C_below H.out.1 HC.out.2.2.2.2.2.2.2) (j : Int) (by omega) (by omega)
      simp only [Int.toNat_natCast] at x0 x1 x2 x3 x4
      obtain ⟨x, r, hx⟩ : ∃ x r, l.drop j = x :: r := ⟨_, _, List.drop_eq_getElem_cons hlt⟩
      obtain ⟨hrd, _, hr⟩ := rd53 hx
      rw [hrd] at x0 x1 x2 x3 x4
      have p0 : ((0 : Int) ≤ (j : Int)) = True := eq_true (by omega)
      have p1 : ((j : Int) < (l.length : Int)) = True := eq_true (by omega)
      have hxt : tot53 (l.drop j) = x.f2.size + tot53 r := by rw [hx]; rfl
      have hNt : N + tot53 (l.drop j) ≤ 32768 := HC.out.2.2.2.2.1
      rw [hxt] at hNt
      have hNt2 : (N + x.f2.size) + tot53 (l.drop (j + 1)) ≤ 32768 := by rw [hr]; omega
      have hN9 : N ≤ 1000000000 := by omega
      have hj5 : j ≤ 60 := by omega
      have hxs : x.f2.size ≤ 32768 := by omega
      have hmn : l.length - (j + 1) + (j + 1) = l.length := by omega
      have hal : M.all.length ≤ 60 := by have := HC.out.2.2.2.1.2; omega
      have hsb : sumB M.all ≤ 32768 := by have := HC.out.2.2.2.1.1; omega
      go_upto_block 2 with (fail)
      have hA := heap_alloc_new wr (.cells (callCells x) 53)
      have K1 := Aside0.mk (show IsD w (wr.alloc (.cells (callCells x) 53)) g D u ∧ IsM w (wr.alloc (.cells (callCells x) 53)) gm M v' ∧ Below w.heap.size w (wr.alloc (.cells (callCells x) 53)) from ⟨HC.out.1.below (below_alloc (Below.refl _ _) _), HC.out.2.1.below (below_alloc (Below.refl _ _) _), below_alloc HC.out.2.2.2.2.2.2.2 _⟩)
      have hgw : g < wr.heap.size := blk_lt HC.out.1.1
      have hgw2 : gm < wr.heap.size := blk_lt HC.out.2.1.1
      have n1 : wr.heap.size ≠ g := by omega
      have n2 : wr.heap.size ≠ gm := by omega
      have n3 : some wr.heap.size ≠ u.ownBlock := fun e => by have := HC.out.1.lt _ e.symm; omega
      have hcc : (callCells x) = #[.int .i64 x.f0, .int .i64 x.f1, .string x.f2, .int .i64 x.f3, .int .i64 x.f4] := rfl
      rw [← hcc]
      generalize wr.alloc (.cells (callCells x) 53) = W1 at hA K1 ⊢
      generalize wr.heap.size = gc at hA hgw hgw2 n1 n2 n3 ⊢
      have d0 : W1.cell? ⟨gc, 0, none⟩ = some (.int .i64 x.f0) := (blk_cell hA 0).trans rfl
      have d1 : W1.cell? ⟨gc, 1, none⟩ = some (.int .i64 x.f1) := (blk_cell hA 1).trans rfl
      have d2 : W1.cell? ⟨gc, 2, none⟩ = some (.string x.f2) := (blk_cell hA 2).trans rfl
      have d3 : W1.cell? ⟨gc, 3, none⟩ = some (.int .i64 x.f3) := (blk_cell hA 3).trans rfl
      have d4 : W1.cell? ⟨gc, 4, none⟩ = some (.int .i64 x.f4) := (blk_cell hA 4).trans rfl
      clear x0 x1 x2 x3 x4 hcc
      go_cut [9] (fun v9 wc => ∃ v2, v9 = .int .i64 (errD D x) ∧ Aside0 (IsD w wc g D u ∧ IsM w wc gm (doesM D M x) v2 ∧ Below w.heap.size w wc ∧ wc.heap[gc]? = some (.cells (callCells x) 53 (0, 0))))
      case first =>
        by_cases e0 : x.f0 = 0
        · have b0 : (x.f0 == 0) = true := by simpa using e0
          have E0 := Aside0.mk e0
          clear e0
          by_cases ha : x.f1 = 0 ∨ x.f1 = 1
          · have hnow := rel_now HC.out.2.2.2.2.2.2.1 ha
            by_cases hf : x.f2.size + (nowD D x.f1).size ≤ 16384
            · have HE := Aside0.mk (show errD D x = 0 from by unfold errD; rw [if_pos E0.out, if_pos ha, if_pos hf])
              have HDM := Aside0.mk (show doesM D M x = ⟨M.all ++ [⟨x.f1, false, x.f2⟩], M.safe⟩ from by unfold doesM; rw [if_pos E0.out, if_pos ⟨ha, hf⟩])
              go_wp2_with (fail)
              refine (refApp_ok gm M v' x.f1 x.f2 w W1 K1.out.2.1 K1.out.2.2 ha (by omega) (by omega) (by rw [← hnow]; omega)).mono ?_
              rintro e w7 ⟨rfl, v2, hM7, hB7, hk7, _⟩
              go_wp2
              go_meet
              case rel =>
                rw [HE.out, HDM.out]
                exact ⟨v2, rfl, ⟨K1.out.1.pastM K1.out.2.1 hk7, hM7, hB7, hk7.blk hA n2 (by simp)⟩⟩
            · have HE := Aside0.mk (show errD D x = 6 from by unfold errD; rw [if_pos E0.out, if_pos ha, if_neg hf])
              have HDM := Aside0.mk (show doesM D M x = M from by unfold doesM; rw [if_pos E0.out, if_neg (fun q => hf q.2)])
              go_wp2_with (fail)
              refine (refApp_full gm M v' x.f1 x.f2 w W1 K1.out.2.1 ha (by omega) (by omega) (by omega) (by rw [← hnow]; omega)).mono ?_
              rintro e w7 ⟨rfl, n7, rfl⟩
              go_wp2
              go_meet
              case rel =>
                rw [HE.out, HDM.out]
                exact ⟨v', rfl, ⟨K1.out.1.below (pw_below_drewN (Below.refl _ _) _), K1.out.2.1.below (pw_below_drewN (Below.refl _ _) _), pw_below_drewN K1.out.2.2 _, hA⟩⟩
          · have HE := Aside0.mk (show errD D x = 1 from by unfold errD; rw [if_pos E0.out, if_neg ha])
            have HDM := Aside0.mk (show doesM D M x = M from by unfold doesM; rw [if_pos E0.out, if_neg (fun q => ha q.1)])
            go_wp2_with (fail)
            refine (refApp_bad gm x.f1 x.f2 W1 ha).mono ?_
            rintro e w7 ⟨rfl, n7, rfl⟩
            go_wp2
            go_meet
            case rel =>
              rw [HE.out, HDM.out]
              exact ⟨v', rfl, ⟨K1.out.1.below (pw_below_drewN (Below.refl _ _) _), K1.out.2.1.below (pw_below_drewN (Below.refl _ _) _), pw_below_drewN K1.out.2.2 _, hA⟩⟩
        have b0 : (x.f0 == 0) = false := by simpa using e0
        by_cases e1 : x.f0 = 1
        · have b1 : (x.f0 == 1) = true := by simpa using e1
          have E1 := Aside0.mk e1
          clear e1
          by_cases ha : x.f1 = 0 ∨ x.f1 = 1
          · have HE := Aside0.mk (show errD D x = 0 from by unfold errD; rw [if_neg e0, if_pos E1.out, if_pos ha])
            have HDM := Aside0.mk (show doesM D M x = ⟨M.all ++ [⟨x.f1, true, (⟨#[]⟩ : ByteArray)⟩], M.safe⟩ from by unfold doesM; rw [if_neg e0, if_pos E1.out, if_pos ha])
            go_wp2_with (fail)
            refine (refRst_ok gm M v' x.f1 w W1 K1.out.2.1 K1.out.2.2 ha (by omega) (by omega)).mono ?_
            rintro e w7 ⟨rfl, v2, hM7, hB7, hk7, _⟩
            go_wp2
            go_meet
            case rel =>
              rw [HE.out, HDM.out]
              exact ⟨v2, rfl, ⟨K1.out.1.pastM K1.out.2.1 hk7, hM7, hB7, hk7.blk hA n2 (by simp)⟩⟩
          · have HE := Aside0.mk (show errD D x = 1 from by unfold errD; rw [if_neg e0, if_pos E1.out, if_neg ha])
            have HDM := Aside0.mk (show doesM D M x = M from by unfold doesM; rw [if_neg e0, if_pos E1.out, if_neg ha])
            go_wp2_with (fail)
            refine (refRst_bad gm x.f1 W1 ha).mono ?_
            rintro e w7 ⟨rfl, n7, rfl⟩
            go_wp2
            go_meet
            case rel =>
              rw [HE.out, HDM.out]
              exact ⟨v', rfl, ⟨K1.out.1.below (pw_below_drewN (Below.refl _ _) _), K1.out.2.1.below (pw_below_drewN (Below.refl _ _) _), pw_below_drewN K1.out.2.2 _, hA⟩⟩
        have b1 : (x.f0 == 1) = false := by simpa using e1
        by_cases e2 : x.f0 = 2
        · have b2 : (x.f0 == 2) = true := by simpa using e2
          have E2 := Aside0.mk e2
          clear e2
          obtain ⟨A, c, rfl⟩ := Kd.R_slice K1.out.2.1.2.2
          have m0 : W1.cell? ⟨gm, 0, none⟩ = some (.slice A M.all.length c) := (blk_cell K1.out.2.1.1 0).trans rfl
          have mf := blk_frozen K1.out.2.1.1
          have m1 : W1.cell? ⟨gm, 1, none⟩ = some (.int .i64 (M.safe : Int)) := (blk_cell K1.out.2.1.1 1).trans rfl
          have hb7 := blk_set K1.out.2.1.1 1 (.int .i64 (M.all.length : Int))
          have hkk : KeepBut W1 (W1.setCell ⟨gm, 1, none⟩ (.int .i64 (M.all.length : Int))) gm none := KeepBut.set_ (KeepBut.refl _ _ _) _ _
          have hM7 : IsM w (W1.setCell ⟨gm, 1, none⟩ (.int .i64 (M.all.length : Int))) gm ⟨M.all, M.all.length⟩ (.slice A M.all.length c) := ⟨by simpa using hb7, K1.out.2.1.2.1, R_exact83 (Kd.R_far K1.out.2.1.2.2 (p := ⟨gm, 1, none⟩) (fun q hq e => K1.out.2.1.own (by have e' : q = gm := e; rw [← e']; exact hq.symm)) _)⟩
          have HF := Aside0.mk (show IsD w (W1.setCell ⟨gm, 1, none⟩ (.int .i64 (M.all.length : Int))) g D u ∧ IsM w (W1.setCell ⟨gm, 1, none⟩ (.int .i64 (M.all.length : Int))) gm ⟨M.all, M.all.length⟩ (.slice A M.all.length c) ∧ Below w.heap.size w (W1.setCell ⟨gm, 1, none⟩ (.int .i64 (M.all.length : Int))) ∧ (W1.setCell ⟨gm, 1, none⟩ (.int .i64 (M.all.length : Int))).heap[gc]? = some (.cells (callCells x) 53 (0, 0)) from ⟨K1.out.1.pastM K1.out.2.1 hkk, hM7, below_set K1.out.2.2 K1.out.2.1.2.1, hkk.blk hA n2 (by simp)⟩)
          clear hb7 hkk hM7
          have HE := Aside0.mk (show errD D x = 0 from by unfold errD; rw [if_neg e0, if_neg e1])
          have HDM := Aside0.mk (show doesM D M x = ⟨M.all, M.all.length⟩ from by unfold doesM; rw [if_neg e0, if_neg e1, if_pos E2.out])
          go_wp2
          go_meet
          case rel =>
            rw [HE.out, HDM.out]
            exact ⟨.slice A M.all.length c, rfl, ⟨HF.out⟩⟩
        have b2 : (x.f0 == 2) = false := by simpa using e2
        by_cases e3 : x.f0 = 3
        · have b3 : (x.f0 == 3) = true := by simpa using e3
          have E3 := Aside0.mk e3
          clear e3
          have HE := Aside0.mk (show errD D x = 0 from by unfold errD; rw [if_neg e0, if_neg e1])
          have HDM := Aside0.mk (show doesM D M x = ⟨crashM M x.f3 x.f4, (crashM M x.f3 x.f4).length⟩ from by unfold doesM; rw [if_neg e0, if_neg e1, if_neg e2, if_pos E3.out])
          go_wp2_with (fail)
          refine (refCrash_ok gm M v' x.f3 x.f4 w W1 K1.out.2.1 K1.out.2.2 HC.out.2.2.2.2.2.2.1.le (by omega) (by omega)).mono ?_
          rintro e w7 ⟨rfl, v2, hM7, hB7, hk7, _⟩
          go_wp2
          go_meet
          case rel =>
            rw [HE.out, HDM.out]
            exact ⟨v2, rfl, ⟨K1.out.1.pastM K1.out.2.1 hk7, hM7, hB7, hk7.blk hA n2 (by simp)⟩⟩
        have b3 : (x.f0 == 3) = false := by simpa using e3
        have HE := Aside0.mk (show errD D x = 0 from by unfold errD; rw [if_neg e0, if_neg e1])
        have HDM := Aside0.mk (show doesM D M x = M from by unfold doesM; rw [if_neg e0, if_neg e1, if_neg e2, if_neg e3])
        go_wp2
        go_meet
        case rel =>
          rw [HE.out, HDM.out]
          exact ⟨v', rfl, ⟨K1.out.1, K1.out.2.1, K1.out.2.2, hA⟩⟩
      case rest =>
        clear d0 d1 d2 d3 d4 K1 hA
        obtain ⟨v2, rfl, HR⟩ := hcut
        have hG2 := HC.out.2.2.1
        have hrl : Rel (doesD D x) (doesM D M x) := rel_does HC.out.2.2.2.2.2.2.1 HC.out.2.2.2.2.2.1 x
        have hgd : Good (doesD D x) (N + x.f2.size) (j + 1) := good_does HC.out.2.2.1 x
        have hgm : GoodM (doesM D M x) (N + x.f2.size) (j + 1) := good_doesM HC.out.2.2.2.1 x
        have hcons : Cons (doesD D x) := cons_does HC.out.2.2.2.2.2.1 x
        have DE := fun W h1 h2 => does_err g D u x N j w W h1 h2 hG2 (by omega) (by omega) (by omega)
        generalize doesM D M x = M2 at HR hrl hgm
        generalize doesD D x = D2 at DE hrl hgd hcons
        generalize errD D x = er at DE
        have hl2 : M2.all.length ≤ 61 := by have := hgm.2; omega
        have hs2 : sumB M2.all ≤ 1000000000 := by have := hgm.1; omega
        have hle2 : M2.safe ≤ M2.all.length := hrl.le
        have hbn : ((D2.l.length : Int) != (M2.all.length : Int) - (M2.safe : Int)) = false := by rw [rel_len hrl]; simp
        have hbw : ((D2.l.length : Int) != IntKind.i64.wrap ((M2.all.length : Int) - (M2.safe : Int))) = false := by rw [IntWalk.i64_in _ (by omega)]; exact hbn
        have hbe : (er != er) = false := by simp
        obtain ⟨A2, c2, rfl⟩ := Kd.R_slice HR.out.2.1.2.2
        have m0 : wc.cell? ⟨gm, 0, none⟩ = some (.slice A2 M2.all.length c2) := (blk_cell HR.out.2.1.1 0).trans rfl
        have m1 : wc.cell? ⟨gm, 1, none⟩ = some (.int .i64 (M2.safe : Int)) := (blk_cell HR.out.2.1.1 1).trans rfl
        have d0 : wc.cell? ⟨gc, 0, none⟩ = some (.int .i64 x.f0) := (blk_cell HR.out.2.2.2 0).trans rfl
        have d1 : wc.cell? ⟨gc, 1, none⟩ = some (.int .i64 x.f1) := (blk_cell HR.out.2.2.2 1).trans rfl
        have d2 : wc.cell? ⟨gc, 2, none⟩ = some (.string x.f2) := (blk_cell HR.out.2.2.2 2).trans rfl
        have d3 : wc.cell? ⟨gc, 3, none⟩ = some (.int .i64 x.f3) := (blk_cell HR.out.2.2.2 3).trans rfl
        have d4 : wc.cell? ⟨gc, 4, none⟩ = some (.int .i64 x.f4) := (blk_cell HR.out.2.2.2 4).trans rfl
        have HQ := Aside0.mk (And.intro hrl (And.intro hgd (And.intro hgm hcons)))
        clear hrl hgd hgm hcons hle2
        go_wp2_with (fail)
        go_region_held3 (fun w' => w'.cell? ⟨gm, 0, none⟩ = some (.slice A2 M2.all.length c2) ∧ w'.cell? ⟨gm, 1, none⟩ = some (.int .i64 (M2.safe : Int)) ∧ w'.cell? ⟨gc, 0, none⟩ = some (.int .i64 x.f0) ∧ w'.cell? ⟨gc, 1, none⟩ = some (.int .i64 x.f1) ∧ w'.cell? ⟨gc, 2, none⟩ = some (.string x.f2) ∧ w'.cell? ⟨gc, 3, none⟩ = some (.int .i64 x.f3) ∧ w'.cell? ⟨gc, 4, none⟩ = some (.int .i64 x.f4)) (go_keep)
          (first
            | (go_at_call 35; refine (DE _ (HR.out.1.below (pw_below_drewN (Below.refl _ _) _)) (pw_below_drewN HR.out.2.2.1 _)).mono ?_; rintro e w7 ⟨rfl, u7, hI7, hB7, hk7, hx7⟩; have K7 := Aside0.mk (show IsD w w7 g D2 u7 ∧ IsM w w7 gm M2 (.slice A2 M2.all.length c2) ∧ Below w.heap.size w w7 from ⟨hI7, (HR.out.2.1.below (pw_below_drewN (Below.refl _ _) _)).pastD (HR.out.1.below (pw_below_drewN (Below.refl _ _) _)) hk7, hB7⟩); have m0 : w7.cell? ⟨gm, 0, none⟩ = some (.slice A2 M2.all.length c2) := (blk_cell K7.out.2.1.1 0).trans rfl; have m1 : w7.cell? ⟨gm, 1, none⟩ = some (.int .i64 (M2.safe : Int)) := (blk_cell K7.out.2.1.1 1).trans rfl; have e7 : w7.heap[gc]? = some (.cells (callCells x) 53 (0, 0)) := hk7.blk HR.out.2.2.2 n1 n3; have d0 : w7.cell? ⟨gc, 0, none⟩ = some (.int .i64 x.f0) := (blk_cell e7 0).trans rfl; have d1 : w7.cell? ⟨gc, 1, none⟩ = some (.int .i64 x.f1) := (blk_cell e7 1).trans rfl; have d2 : w7.cell? ⟨gc, 2, none⟩ = some (.string x.f2) := (blk_cell e7 2).trans rfl; have d3 : w7.cell? ⟨gc, 3, none⟩ = some (.int .i64 x.f3) := (blk_cell e7 3).trans rfl; have d4 : w7.cell? ⟨gc, 4, none⟩ = some (.int .i64 x.f4) := (blk_cell e7 4).trans rfl; clear hI7 hB7 hk7 hx7 e7)
            | (go_at_call 41; refine (waits_ok g _ _ w _ (by first | exact K7.out.1 | exact K7.out.1.below (pw_below_drewN (Below.refl _ _) _))).mono ?_; rintro e wq ⟨rfl, nq, rfl⟩))
        clear DE hbn hbw hbe d0 d1 d2 d3 d4 m0 m1
        have K8 := Aside0.mk (show IsD w (w7.drewN nq) g D2 u7 ∧ IsM w (w7.drewN nq) gm M2 (.slice A2 M2.all.length c2) ∧ Below w.heap.size w (w7.drewN nq) from ⟨K7.out.1.below (pw_below_drewN (Below.refl _ _) _), K7.out.2.1.below (pw_below_drewN (Below.refl _ _) _), pw_below_drewN K7.out.2.2 _⟩)
        go_wp2_with (fail)
        generalize w7.drewN nq = w8 at K8 ⊢
        clear K7 HR
        go_loopg [10] 2 (fun m v wr => ∃ i : Nat, v = .int .i64 (i : Int) ∧ m + i = 2 ∧ Aside0 (IsD w wr g D2 u7 ∧ IsM w wr gm M2 (.slice A2 M2.all.length c2) ∧ Below w.heap.size w wr))
        case atStart => exact ⟨0, rfl, rfl, K8⟩
        case round =>
          clear K8
          obtain ⟨i, rfl, hi, HD⟩ := hrel
          by_cases hi2 : i < 2
          · have p2 : decide ((i : Int) < 2) = true := decide_eq_true (by omega)
            have hia : (i : Int) = 0 ∨ (i : Int) = 1 := by omega
            have RD := fun W h => read_ok g (i : Int) D2 u7 w W h hia
            have SD := fun W h => safe_ok g (i : Int) D2 u7 w W h hia
            have TA := fun W h => text_ok gm M2 (.slice A2 M2.all.length c2) (i : Int) M2.all.length w W h (Nat.le_refl _) (by omega) hs2
            have TS := fun W h => text_ok gm M2 (.slice A2 M2.all.length c2) (i : Int) M2.safe w W h HQ.out.1.le (by omega) hs2
            rw [rel_now HQ.out.1 hia] at RD
            rw [rel_safe HQ.out.1 hia] at SD
            rw [List.take_length] at TA
            generalize textR M2.all (i : Int) = tA at RD TA
            generalize textR (M2.all.take M2.safe) (i : Int) = tS at SD TS
            have m0 : wr.cell? ⟨gm, 0, none⟩ = some (.slice A2 M2.all.length c2) := (blk_cell HD.out.2.1.1 0).trans rfl
            have m1 : wr.cell? ⟨gm, 1, none⟩ = some (.int .i64 (M2.safe : Int)) := (blk_cell HD.out.2.1.1 1).trans rfl
            clear hia
            go_wp2_with (fail)
            go_region_held3 (fun w' => w'.cell? ⟨gm, 0, none⟩ = some (.slice A2 M2.all.length c2) ∧ w'.cell? ⟨gm, 1, none⟩ = some (.int .i64 (M2.safe : Int))) (go_keep)
              (first
                | (go_at_call 33; refine (RD _ (by first | exact HD.out.1 | exact HD.out.1.below (pw_below_drewN (Below.refl _ _) _))).mono ?_; rintro e wq ⟨rfl, nq1, rfl⟩)
                | (go_at_call 37; refine (SD _ (by first | exact HD.out.1 | exact HD.out.1.below (pw_below_drewN (Below.refl _ _) _))).mono ?_; rintro e wq ⟨rfl, nq2, rfl⟩)
                | (go_at_call_of 42 (Value.int IntKind.i64 (M2.all.length : Int)); refine (TA _ (by first | exact HD.out.2.1 | exact HD.out.2.1.below (pw_below_drewN (Below.refl _ _) _))).mono ?_; rintro e wq ⟨rfl, nq3, rfl⟩)
                | (go_at_call_of 42 (Value.int IntKind.i64 (M2.safe : Int)); refine (TS _ (by first | exact HD.out.2.1 | exact HD.out.2.1.below (pw_below_drewN (Below.refl _ _) _))).mono ?_; rintro e wq ⟨rfl, nq4, rfl⟩))
            go_wp2
            go_roundg (2 - (i + 1))
            case rel => exact ⟨i + 1, (by rw [Int.natCast_add]; rfl), (by omega), ⟨HD.out.1.below (pw_below_drewN (Below.refl _ _) _), HD.out.2.1.below (pw_below_drewN (Below.refl _ _) _), pw_below_drewN HD.out.2.2 _⟩⟩
            case measure => omega
          · have p2 : decide ((i : Int) < 2) = false := decide_eq_false (by omega)
            go_wp2
            go_roundg (l.length - (j + 1))
            case rel => exact ⟨j + 1, D2, M2, u7, .slice A2 M2.all.length c2, N + x.f2.size, (by rw [Int.natCast_add]; rfl), (by omega), ⟨HD.out.1, HD.out.2.1, HQ.out.2.1, HQ.out.2.2.1, hNt2, HQ.out.2.2.2, HQ.out.1, HD.out.2.2⟩⟩
            case measure => omega
    · have q0 : decide ((j : Int) < (l.length : Int)) = false := decide_eq_false (by omega)
      have ee : (⟨#[]⟩ : ByteArray) ++ (⟨#[]⟩ : ByteArray) = ⟨#[]⟩ := rfl
      by_cases h0 : other = 0
      · have o0 : (other != 0) = false := by simpa using h0
        clear h0
        go_wp2_with (fail)
        refine (nil36 _).mono ?_
        rintro e wn ⟨rfl, rfl⟩
        go_wp2_with (fail)
        refine (nil32 _).mono ?_
        rintro e wn ⟨rfl, rfl⟩
        go_wp2_with
          (first
            | (go_at_call 30; refine (nil30 _).mono ?_; rintro e wq ⟨rfl, rfl⟩)
            | (go_at_call 43; refine (nil43 _).mono ?_; rintro e wq ⟨rfl, rfl⟩)
            | (go_at_call 33; refine (nil33 _).mono ?_; rintro e wq ⟨rfl, rfl⟩)
            | (go_at_call 37; refine (nil37 _).mono ?_; rintro e wq ⟨rfl, rfl⟩)
            | (go_at_call 41; refine (nil41 _).mono ?_; rintro e wq ⟨rfl, rfl⟩)
            | (go_at_call 31; refine (nil31 _).mono ?_; rintro e wq ⟨rfl, rfl⟩))
        go_ret
        exact ⟨rfl, HC.out.2.2.2.2.2.2.2⟩
      have o0 : (other != 0) = true := by simpa using h0
      by_cases h1 : other = 1
      · have o1 : (other != 1) = false := by simpa using h1
        clear h0 h1
        go_wp2_with (fail)
        refine (nil36 _).mono ?_
        rintro e wn ⟨rfl, rfl⟩
        go_wp2_with (fail)
        refine (nil32 _).mono ?_
        rintro e wn ⟨rfl, rfl⟩
        go_wp2_with
          (first
            | (go_at_call 30; refine (nil30 _).mono ?_; rintro e wq ⟨rfl, rfl⟩)
            | (go_at_call 43; refine (nil43 _).mono ?_; rintro e wq ⟨rfl, rfl⟩)
            | (go_at_call 33; refine (nil33 _).mono ?_; rintro e wq ⟨rfl, rfl⟩)
            | (go_at_call 37; refine (nil37 _).mono ?_; rintro e wq ⟨rfl, rfl⟩)
            | (go_at_call 41; refine (nil41 _).mono ?_; rintro e wq ⟨rfl, rfl⟩)
            | (go_at_call 31; refine (nil31 _).mono ?_; rintro e wq ⟨rfl, rfl⟩))
        go_ret
        exact ⟨rfl, HC.out.2.2.2.2.2.2.2⟩
      have o1 : (other != 1) = true := by simpa using h1
      have RB := fun W => read_bad g other W (by omega)
      have SB := fun W => safe_bad g other W (by omega)
      clear h0 h1
      go_wp2_with
        (first
          | (go_at_call 33; refine (RB _).mono ?_; rintro e wq ⟨rfl, nq1, rfl⟩)
          | (go_at_call 37; refine (SB _).mono ?_; rintro e wq ⟨rfl, nq2, rfl⟩))
      go_wp2_with (fail)
      refine (nil36 _).mono ?_
      rintro e wn ⟨rfl, rfl⟩
      go_wp2_with (fail)
      refine (nil32 _).mono ?_
      rintro e wn ⟨rfl, rfl⟩
      go_wp2_with
        (first
          | (go_at_call 30; refine (nil30 _).mono ?_; rintro e wq ⟨rfl, rfl⟩)
          | (go_at_call 43; refine (nil43 _).mono ?_; rintro e wq ⟨rfl, rfl⟩)
          | (go_at_call 33; refine (nil33 _).mono ?_; rintro e wq ⟨rfl, rfl⟩)
          | (go_at_call 37; refine (nil37 _).mono ?_; rintro e wq ⟨rfl, rfl⟩)
          | (go_at_call 41; refine (nil41 _).mono ?_; rintro e wq ⟨rfl, rfl⟩)
          | (go_at_call 31; refine (nil31 _).mono ?_; rintro e wq ⟨rfl, rfl⟩))
      go_ret
      exact ⟨rfl, pw_below_drewN HC.out.2.2.2.2.2.2.2 _⟩
set_option maxHeartbeats 1600000 in
set_option maxRecDepth 100000 in
theorem ddoes_great (k : Nat) (A0 : Option Addr) (c0 : Nat) (l : List S53) (other : Int) (w : World) (hr0 : Kd.C k53 w A0 l.length l) (hc0 : l.length ≤ c0) (hg : countermandlaw03_great.f k l = some true) :
    Calls Try.prog 11 #[.slice A0 l.length c0, .int .i64 other] w fun e w' => e = .returned (.bool true) ∧ Below w.heap.size w w' := by
  have H := Aside0.mk (And.intro hr0 hg)
  clear hr0 hg
  go_enter Try.func11, Try.ntmps11
  go_wp2_with (fail)
  refine (alive_ok w).mono ?_
  rintro e w1 ⟨rfl, hB1⟩
  go_wp2_with (fail)
  refine (countermandlaw03_great.calls k A0 c0 l true w1 (Kd.C_below H.out.1 hB1) hc0 H.out.2).mono ?_
  rintro e w2 ⟨rfl, hB2⟩
  go_wp2
  go_ret
  exact ⟨rfl, hB1.trans (hB2.mono hB1.size)⟩
def countermandlaw03_DiskDoes.Pure : Prop := ∀ (l0 : List (S53)), ∃ k b, countermandlaw03_great.f k l0 = some b ∧ (b = false → l0.length ≤ 60 ∧ tot53 l0 ≤ 32768)
theorem countermandlaw03_DiskDoes.walk (P : countermandlaw03_DiskDoes.Pure) (a0 : Option Addr) (len0 cap0 : Nat) (z0 : List (S53)) (a1 : Int) (w : World) (w0 : z0.length = len0 ∧ Kd.C k53 w a0 z0.length z0 ∧ z0.length ≤ cap0 ∧ z0.length ≤ maxLen ∧ (∀ x ∈ z0, (Lit.int .i64 x.f0).wf = true ∧ (Lit.int .i64 x.f1).wf = true ∧ x.f2.size ≤ maxLen ∧ (Lit.int .i64 x.f3).wf = true ∧ (Lit.int .i64 x.f4).wf = true)) (w1 : (Lit.int .i64 a1).wf = true) :
    Calls Try.prog 11 #[.slice a0 len0 cap0, .int .i64 a1] w fun e w' => e = .returned (.bool true) ∧ Below w.heap.size w w' := by
  obtain ⟨rfl, hr0, hc0, _⟩ := w0
  obtain ⟨k, b, hg, hb⟩ := P z0
  cases b
  · exact ddoes_main k a0 cap0 z0 a1 w hr0 hc0 (hb rfl).1 (hb rfl).2 hg
  · exact ddoes_great k a0 cap0 z0 a1 w hr0 hc0 hg

end Go.Proofs.Ytodffnchcbapcaa.PDiskDoes
