/- Written by a program of this session, which began as the kit's print and is turned in wip/printer: the plain form of each function, and that the Go code comes to it. -/
import Derived.Test.YtodffnchcbapcaaPDiskCopiesx0
import Derived.Test.YtodffnchcbapcaaPDiskCopiesx1
import Derived.BigRegion
import Derived.Deep.RegionHeld3
import Derived.Lib.SliceRun
namespace Go.Proofs.Ytodffnchcbapcaa.PDiskCopies
open Go.RowKit Go.Proofs.YtodffnchcbapcaaW.PrintWords Go.Proofs.YtodffnchcbapcaaW.PrintLast Go.Proofs.YtodffnchcbapcaaW.PrintMore
attribute [local go_sem] max2_int min2_int max_two min_two max_three min_three max_four min_four   -- for this text's walks alone
set_option linter.unusedVariables false
set_option linter.unusedSimpArgs false

/-! ### countermandlaw03_DiskCopies: function 13 -/
--IMPORT Derived.BigRegion
--IMPORT Derived.Lib.SliceRun
--IMPORT Derived.Deep.RegionHeld3
--ROUNDS
theorem old_cell {w : World} {g j : Nat} {u : Value} (h : w.cell? ⟨g, j, none⟩ = some u) (o : Obj) : (w.alloc o).cell? ⟨g, j, none⟩ = some u := by
  have := World.block_lt_of_cell? w _ h
  simp only [World.cell?] at h ⊢
  rw [Below.heap_alloc w o g this]; exact h
theorem old_frozen {w : World} {g j : Nat} {u : Value} (h : w.cell? ⟨g, j, none⟩ = some u) (hf : w.frozen? ⟨g, j, none⟩ = false) (o : Obj) : (w.alloc o).frozen? ⟨g, j, none⟩ = false := by
  have := World.block_lt_of_cell? w _ h
  simp only [World.frozen?] at hf ⊢
  rw [Below.heap_alloc w o g this]; exact hf
def chg (a : Int) (b : Bool) (s : ByteArray) : Array Value := #[.int .i64 a, .bool b, .string s]
theorem new_chg (w : World) (a : Int) (b : Bool) (s : ByteArray) : (w.alloc (.cells (chg a b s) 79)).cell? ⟨w.heap.size, 0, none⟩ = some (.int .i64 a) ∧ (w.alloc (.cells (chg a b s) 79)).cell? ⟨w.heap.size, 1, none⟩ = some (.bool b) ∧ (w.alloc (.cells (chg a b s) 79)).cell? ⟨w.heap.size, 2, none⟩ = some (.string s) := by
  have h := heap_alloc_new w (.cells (chg a b s) 79)
  exact ⟨(blk_cell h 0).trans rfl, (blk_cell h 1).trans rfl, (blk_cell h 2).trans rfl⟩
set_option maxHeartbeats 1600000 in
set_option maxRecDepth 100000 in
theorem land_a (g a : Nat) (ha : a < 2) (x s : ByteArray) (w : World) (hx : w.cell? ⟨g, a * 2 + 1, none⟩ = some (.string x)) (fx : w.frozen? ⟨g, a * 2 + 1, none⟩ = false) (hs : x.size + s.size ≤ 9223372036854775807) :
    Calls Try.prog 47 #[.pointer (some ⟨g, 0, none⟩), .agg (chg (a : Int) false s)] w fun e w' => e = .returned (.tuple #[]) ∧ ∃ n, w' = ((w.alloc (.cells (chg (a : Int) false s) 79)).drewN n).setCell ⟨g, a * 2 + 1, none⟩ (.string (x ++ s)) := by
  have hu79 := Try.underlying79
  have hu77 := Try.underlying77
  have hu74 := Try.underlying74
  have hu73 := Try.underlying73
  have hu9 := Try.underlying9
  have q0 : decide ((a : Int) < 2) = true := decide_eq_true (by omega)
  have q1 : decide ((0 : Int) ≤ (a : Int)) = true := decide_eq_true (by omega)
  obtain ⟨n0, n1, n2⟩ := new_chg w (a : Int) false s
  have hx' := old_cell hx (.cells (chg (a : Int) false s) 79)
  have fx' := old_frozen hx fx (.cells (chg (a : Int) false s) 79)
  have b0 := eq_true hs
  have b2 : (9223372036854775807 < x.size + s.size) = False := eq_false (Nat.not_lt.2 hs)
  unfold chg at n0 n1 n2 hx' fx' ⊢
  go_enter Try.func47, Try.ntmps47
  go_wp2
  go_region
  go_wp2
  go_end0
  exact ⟨rfl, _, rfl⟩
set_option maxHeartbeats 1600000 in
set_option maxRecDepth 100000 in
theorem land_r (g a : Nat) (ha : a < 2) (x s : ByteArray) (w : World) (hx : w.cell? ⟨g, a * 2 + 1, none⟩ = some (.string x)) (fx : w.frozen? ⟨g, a * 2 + 1, none⟩ = false) :
    Calls Try.prog 47 #[.pointer (some ⟨g, 0, none⟩), .agg (chg (a : Int) true s)] w fun e w' => e = .returned (.tuple #[]) ∧ ∃ n, w' = ((w.alloc (.cells (chg (a : Int) true s) 79)).drewN n).setCell ⟨g, a * 2 + 1, none⟩ (.string (⟨#[]⟩ : ByteArray)) := by
  have hu79 := Try.underlying79
  have hu77 := Try.underlying77
  have hu74 := Try.underlying74
  have hu73 := Try.underlying73
  have hu9 := Try.underlying9
  have q0 : decide ((a : Int) < 2) = true := decide_eq_true (by omega)
  have q1 : decide ((0 : Int) ≤ (a : Int)) = true := decide_eq_true (by omega)
  obtain ⟨n0, n1, n2⟩ := new_chg w (a : Int) true s
  have hx' := old_cell hx (.cells (chg (a : Int) true s) 79)
  have fx' := old_frozen hx fx (.cells (chg (a : Int) true s) 79)
  unfold chg at n0 n1 n2 hx' fx' ⊢
  go_enter Try.func47, Try.ntmps47
  go_wp2
  go_region
  go_wp2
  go_end0
  exact ⟨rfl, _, rfl⟩
/-! ### the disk's state -/
theorem info79D : (Try.prog.info? 79).map (fun i => (i.zero, i.size, i.bytes)) = some (some (.agg #[(.int .i64 0), (.bool false), (.string (⟨#[]⟩ : ByteArray))]), 3, 32) := by kernel_rfl
structure Dk where
  n0 : ByteArray
  s0 : ByteArray
  n1 : ByteArray
  s1 : ByteArray
  l : List S79
def dkCells (D : Dk) (v : Value) : Array Value := #[.string D.n0, .string D.s0, .string D.n1, .string D.s1, v]
def IsD (w0 W : World) (g : Nat) (D : Dk) (v : Value) : Prop := W.heap[g]? = some (.cells (dkCells D v) 77 (0, 0)) ∧ w0.heap.size ≤ g ∧ k79.R 79 W w0.heap.size (fun k => v.ownBlock = some k) v D.l
def Nx (w : World) (v v' : Value) : Prop := ∀ b, v'.ownBlock = some b → v.ownBlock = some b ∨ w.heap.size ≤ b
theorem R_exact {e : TypeId} {w : World} {base : Nat} {ok : Nat → Prop} {v : Value} {xs : List S79} (h : k79.R e w base ok v xs) : k79.R e w base (fun k => v.ownBlock = some k) v xs :=
  ⟨fun k hk => hk, h.2.imp_ (fun x cs hp => by rw [k79_openM hp]; exact k79_mkM _ _ _ x)⟩
theorem IsD.keep {w0 W W' : World} {g g' : Nat} {D : Dk} {v : Value} {row : Option Nat} (h : IsD w0 W g D v) (k : KeepBut W W' g' row) (h1 : g ≠ g') (h2 : some g ≠ row) (h3 : ∀ b, v.ownBlock = some b → b ≠ g' ∧ some b ≠ row) : IsD w0 W' g D v :=
  ⟨k.blk h.1 h1 h2, h.2.1, Kd.R_step h.2.2 (fun b hb hlt => k.2 b hlt (h3 b hb).1 (h3 b hb).2)⟩
theorem IsD.below {w0 W W' : World} {g : Nat} {D : Dk} {v : Value} (h : IsD w0 W g D v) (k : Below W.heap.size W W') : IsD w0 W' g D v :=
  ⟨(k.block g (blk_lt h.1)).trans h.1, h.2.1, Kd.R_below h.2.2 k⟩
theorem IsD.own {w0 W : World} {g : Nat} {D : Dk} {v : Value} (h : IsD w0 W g D v) : some g ≠ v.ownBlock := Kd.R_ne h.2.2 h.1 (by decide)
def appD (D : Dk) (a : Int) (s : ByteArray) : Dk := if a = 0 then { D with n0 := D.n0 ++ s, l := D.l ++ [⟨a, false, s⟩] } else { D with n1 := D.n1 ++ s, l := D.l ++ [⟨a, false, s⟩] }
def rstD (D : Dk) (a : Int) : Dk := if a = 0 then { D with n0 := (⟨#[]⟩ : ByteArray), l := D.l ++ [⟨a, true, (⟨#[]⟩ : ByteArray)⟩] } else { D with n1 := (⟨#[]⟩ : ByteArray), l := D.l ++ [⟨a, true, (⟨#[]⟩ : ByteArray)⟩] }
def nowD (D : Dk) (a : Int) : ByteArray := if a = 0 then D.n0 else D.n1
def safeD (D : Dk) (a : Int) : ByteArray := if a = 0 then D.s0 else D.s1
theorem goodA {a : Int} (ha : a = 0 ∨ a = 1) : disk_good.f a = some true := by
  rcases ha with rfl | rfl <;> rfl
theorem goodN {a : Int} (ha : ¬ (a = 0 ∨ a = 1)) : disk_good.f a = some false := by
  unfold disk_good.f
  rw [if_neg (by omega), show (a == 1) = false by simp; omega]
set_option maxHeartbeats 6400000 in
set_option maxRecDepth 100000 in
theorem append_ok (g : Nat) (a : Int) (D : Dk) (v : Value) (s : ByteArray) (w0 w : World) (hI : IsD w0 w g D v) (hB : Below w0.heap.size w0 w) (ha : a = 0 ∨ a = 1) (hs : s.size + (nowD D a).size ≤ 16384) (hl : D.l.length ≤ 100000) :
    Calls Try.prog 30 #[.pointer (some ⟨g, 0, none⟩), .int .i64 a, .string s] w fun e w' => e = .returned (.int .i64 0) ∧ ∃ v', IsD w0 w' g (appD D a s) v' ∧ Below w0.heap.size w0 w' ∧ KeepBut w w' g v.ownBlock ∧ Nx w v v' := by
  have hu79 := Try.underlying79
  have hu77 := Try.underlying77
  have hu75 := Try.underlying75
  have hu74 := Try.underlying74
  have hu73 := Try.underlying73
  have hu9 := Try.underlying9
  have hu44 := Try.underlying44
  have G := disk_good.calls a true
  have hga := goodA ha
  have hown := hI.own
  obtain ⟨A, c, rfl⟩ := Kd.R_slice hI.2.2
  obtain ⟨n0, s0, n1, s1, l⟩ := D
  have c0 : w.cell? ⟨g, 0, none⟩ = some (.string n0) := (blk_cell hI.1 0).trans rfl
  have c1 : w.cell? ⟨g, 1, none⟩ = some (.string s0) := (blk_cell hI.1 1).trans rfl
  have c2 : w.cell? ⟨g, 2, none⟩ = some (.string n1) := (blk_cell hI.1 2).trans rfl
  have c3 : w.cell? ⟨g, 3, none⟩ = some (.string s1) := (blk_cell hI.1 3).trans rfl
  have c4 : w.cell? ⟨g, 4, none⟩ = some (.slice A l.length c) := (blk_cell hI.1 4).trans rfl
  have fz := blk_frozen hI.1
  have hl : l.length ≤ 100000 := hl
  have H := Aside0.mk (show IsD w0 w g ⟨n0, s0, n1, s1, l⟩ (.slice A l.length c) ∧ Below w0.heap.size w0 w from ⟨hI, hB⟩)
  clear hI hB
  rcases ha with rfl | rfl
  · have hs0 : s.size + n0.size ≤ 16384 := hs
    have q0 : decide ((16384 : Int) - (n0.size : Int) < (s.size : Int)) = false := decide_eq_false (by omega)
    have b0 : (n0.size + s.size ≤ 9223372036854775807) = True := eq_true (by omega)
    have b2 : (9223372036854775807 < n0.size + s.size) = False := eq_false (by omega)
    go_enter Try.func30, Try.ntmps30
    go_wp2_with (go_at_call 45; (with_reducible refine (G _ hga).mono ?_); rintro e w1 ⟨rfl, ⟨nd, rfl⟩⟩)
    go_region
    obtain ⟨W2, hW2⟩ : ∃ W2, W2 = (w.drewN (nd + 1)).setCell ⟨g, 0, none⟩ (.string (n0 ++ s)) := ⟨_, rfl⟩
    rw [← hW2]
    have h2 : W2.heap[g]? = some (.cells #[.string (n0 ++ s), .string s0, .string n1, .string s1, .slice A l.length c] 77 (0, 0)) := by rw [hW2]; simpa [dkCells] using blk_set (blk_drewN H.out.1.1 _) 0 (.string (n0 ++ s))
    have hk2 : KeepBut w W2 g none := by rw [hW2]; exact KeepBut.set_ (keep_drewN (KeepBut.refl w g none) _) _ _
    have hB2 : Below w0.heap.size w0 W2 := by rw [hW2]; exact below_set (pw_below_drewN H.out.2 _) H.out.1.2.1
    have hR2 : k79.R 79 W2 w0.heap.size (fun q => (Value.slice A l.length c).ownBlock = some q ∨ W2.heap.size ≤ q) (.slice A l.length c) l :=
      Kd.R_mono (Kd.R_step H.out.1.2.2 (fun q hq hlt => hk2.2 q hlt (fun e => hown (by rw [← e]; exact hq.symm)) (by simp))) (fun _ hq => .inl hq)
    have hsz : w.heap.size ≤ W2.heap.size := hk2.1
    clear hW2 c0 c1 c2 c3 c4
    have c4 : W2.cell? ⟨g, 4, none⟩ = some (.slice A l.length c) := (blk_cell h2 4).trans rfl
    have hlt2 := blk_lt h2
    have ho2 : some g ≠ (Value.slice A l.length c).ownBlock := hown
    go_wp2_with ((with_reducible refine gate_builtin (b := .append) (xs := #[.tmp 44, .tmp 48]) rfl ?_); (try (refine gate_guard (by rfl) ?_; dsimp only)); at_builtin; refine Kd.R_append k79 (w0 := w0) (W := W2) w0.heap.size rfl (.tmp 44) (.tmp 48) 75 79 (.agg #[(.int .i64 0), (.bool false), (.string (⟨#[]⟩ : ByteArray))]) 32 rfl hu75 info79D rfl (by decide) (by omega) (.slice A l.length c) l (⟨0, false, s⟩ : S79) [.int .i64 0, .bool false, .string s] (fun q => (Value.slice A l.length c).ownBlock = some q ∨ W2.heap.size ≤ q) (fun _ => False) (by first | (go_simp; done) | (go_simp; rfl)) (by first | (go_simp; done) | (go_simp; rfl)) (k79_mkM _ _ _ (⟨0, false, s⟩ : S79)) (fun _ hk => hk.elim) (fun _ hk => .inr hk) hR2 hB2 hB2.size (by omega) ?_; intro v7 w7 hO7 hB7 hg7 hat7; have h7 := (hg7.block g hlt2 ho2).trans h2; have d4 : w7.cell? ⟨g, 4, none⟩ = some (.slice A l.length c) := (blk_cell h7 4).trans rfl; have f4 := blk_frozen h7 4; obtain ⟨A7, c7, rfl⟩ := Kd.R_slice hO7)
    go_ret
    have hgo : some g ≠ (Value.slice A7 (l ++ [(⟨0, false, s⟩ : S79)]).length c7).ownBlock := Kd.R_ne hO7 h7 (by decide)
    refine ⟨rfl, .slice A7 (l ++ [(⟨0, false, s⟩ : S79)]).length c7, ⟨?_, H.out.1.2.1, ?_⟩, below_set hB7 H.out.1.2.1, ?_, ?_⟩
    · simpa [dkCells, appD] using blk_set h7 4 (.slice A7 (l ++ [(⟨0, false, s⟩ : S79)]).length c7)
    · exact R_exact (Kd.R_far hO7 (p := ⟨g, 4, none⟩) (by
        intro q hq e
        rcases hq with hq | hq
        · exact hown (by have e' : q = g := e; rw [← e']; exact hq.symm)
        · have : q = g := e
          omega) _)
    · refine KeepBut.set_ ⟨Nat.le_trans hsz hg7.size, fun i hi hi1 hi2 => (hg7.block i (by omega) hi2).trans (hk2.2 i hi hi1 (by simp))⟩ _ _
    · intro b hb
      rcases hat7 with e | ⟨b', e, hb'⟩
      · exact .inl (by rw [← e]; exact hb)
      · rw [e] at hb
        injection hb with hb
        exact .inr (by omega)
  · have hs0 : s.size + n1.size ≤ 16384 := hs
    have q0 : decide ((16384 : Int) - (n1.size : Int) < (s.size : Int)) = false := decide_eq_false (by omega)
    have b0 : (n1.size + s.size ≤ 9223372036854775807) = True := eq_true (by omega)
    have b2 : (9223372036854775807 < n1.size + s.size) = False := eq_false (by omega)
    go_enter Try.func30, Try.ntmps30
    go_wp2_with (go_at_call 45; (with_reducible refine (G _ hga).mono ?_); rintro e w1 ⟨rfl, ⟨nd, rfl⟩⟩)
    go_region
    obtain ⟨W2, hW2⟩ : ∃ W2, W2 = (w.drewN (nd + 1)).setCell ⟨g, 2, none⟩ (.string (n1 ++ s)) := ⟨_, rfl⟩
    rw [← hW2]
    have h2 : W2.heap[g]? = some (.cells #[.string n0, .string s0, .string (n1 ++ s), .string s1, .slice A l.length c] 77 (0, 0)) := by rw [hW2]; simpa [dkCells] using blk_set (blk_drewN H.out.1.1 _) 2 (.string (n1 ++ s))
    have hk2 : KeepBut w W2 g none := by rw [hW2]; exact KeepBut.set_ (keep_drewN (KeepBut.refl w g none) _) _ _
    have hB2 : Below w0.heap.size w0 W2 := by rw [hW2]; exact below_set (pw_below_drewN H.out.2 _) H.out.1.2.1
    have hR2 : k79.R 79 W2 w0.heap.size (fun q => (Value.slice A l.length c).ownBlock = some q ∨ W2.heap.size ≤ q) (.slice A l.length c) l :=
      Kd.R_mono (Kd.R_step H.out.1.2.2 (fun q hq hlt => hk2.2 q hlt (fun e => hown (by rw [← e]; exact hq.symm)) (by simp))) (fun _ hq => .inl hq)
    have hsz : w.heap.size ≤ W2.heap.size := hk2.1
    clear hW2 c0 c1 c2 c3 c4
    have c4 : W2.cell? ⟨g, 4, none⟩ = some (.slice A l.length c) := (blk_cell h2 4).trans rfl
    have hlt2 := blk_lt h2
    have ho2 : some g ≠ (Value.slice A l.length c).ownBlock := hown
    go_wp2_with ((with_reducible refine gate_builtin (b := .append) (xs := #[.tmp 44, .tmp 48]) rfl ?_); (try (refine gate_guard (by rfl) ?_; dsimp only)); at_builtin; refine Kd.R_append k79 (w0 := w0) (W := W2) w0.heap.size rfl (.tmp 44) (.tmp 48) 75 79 (.agg #[(.int .i64 0), (.bool false), (.string (⟨#[]⟩ : ByteArray))]) 32 rfl hu75 info79D rfl (by decide) (by omega) (.slice A l.length c) l (⟨1, false, s⟩ : S79) [.int .i64 1, .bool false, .string s] (fun q => (Value.slice A l.length c).ownBlock = some q ∨ W2.heap.size ≤ q) (fun _ => False) (by first | (go_simp; done) | (go_simp; rfl)) (by first | (go_simp; done) | (go_simp; rfl)) (k79_mkM _ _ _ (⟨1, false, s⟩ : S79)) (fun _ hk => hk.elim) (fun _ hk => .inr hk) hR2 hB2 hB2.size (by omega) ?_; intro v7 w7 hO7 hB7 hg7 hat7; have h7 := (hg7.block g hlt2 ho2).trans h2; have d4 : w7.cell? ⟨g, 4, none⟩ = some (.slice A l.length c) := (blk_cell h7 4).trans rfl; have f4 := blk_frozen h7 4; obtain ⟨A7, c7, rfl⟩ := Kd.R_slice hO7)
    go_ret
    have hgo : some g ≠ (Value.slice A7 (l ++ [(⟨1, false, s⟩ : S79)]).length c7).ownBlock := Kd.R_ne hO7 h7 (by decide)
    refine ⟨rfl, .slice A7 (l ++ [(⟨1, false, s⟩ : S79)]).length c7, ⟨?_, H.out.1.2.1, ?_⟩, below_set hB7 H.out.1.2.1, ?_, ?_⟩
    · simpa [dkCells, appD] using blk_set h7 4 (.slice A7 (l ++ [(⟨1, false, s⟩ : S79)]).length c7)
    · exact R_exact (Kd.R_far hO7 (p := ⟨g, 4, none⟩) (by
        intro q hq e
        rcases hq with hq | hq
        · exact hown (by have e' : q = g := e; rw [← e']; exact hq.symm)
        · have : q = g := e
          omega) _)
    · refine KeepBut.set_ ⟨Nat.le_trans hsz hg7.size, fun i hi hi1 hi2 => (hg7.block i (by omega) hi2).trans (hk2.2 i hi hi1 (by simp))⟩ _ _
    · intro b hb
      rcases hat7 with e | ⟨b', e, hb'⟩
      · exact .inl (by rw [← e]; exact hb)
      · rw [e] at hb
        injection hb with hb
        exact .inr (by omega)
set_option maxHeartbeats 6400000 in
set_option maxRecDepth 100000 in
theorem reset_ok (g : Nat) (a : Int) (D : Dk) (v : Value) (w0 w : World) (hI : IsD w0 w g D v) (hB : Below w0.heap.size w0 w) (ha : a = 0 ∨ a = 1) (hl : D.l.length ≤ 100000) :
    Calls Try.prog 43 #[.pointer (some ⟨g, 0, none⟩), .int .i64 a] w fun e w' => e = .returned (.int .i64 0) ∧ ∃ v', IsD w0 w' g (rstD D a) v' ∧ Below w0.heap.size w0 w' ∧ KeepBut w w' g v.ownBlock ∧ Nx w v v' := by
  have hu79 := Try.underlying79
  have hu77 := Try.underlying77
  have hu75 := Try.underlying75
  have hu74 := Try.underlying74
  have hu73 := Try.underlying73
  have hu9 := Try.underlying9
  have hu44 := Try.underlying44
  have G := disk_good.calls a true
  have hga := goodA ha
  have hown := hI.own
  obtain ⟨A, c, rfl⟩ := Kd.R_slice hI.2.2
  obtain ⟨n0, s0, n1, s1, l⟩ := D
  have c0 : w.cell? ⟨g, 0, none⟩ = some (.string n0) := (blk_cell hI.1 0).trans rfl
  have c1 : w.cell? ⟨g, 1, none⟩ = some (.string s0) := (blk_cell hI.1 1).trans rfl
  have c2 : w.cell? ⟨g, 2, none⟩ = some (.string n1) := (blk_cell hI.1 2).trans rfl
  have c3 : w.cell? ⟨g, 3, none⟩ = some (.string s1) := (blk_cell hI.1 3).trans rfl
  have c4 : w.cell? ⟨g, 4, none⟩ = some (.slice A l.length c) := (blk_cell hI.1 4).trans rfl
  have fz := blk_frozen hI.1
  have hl : l.length ≤ 100000 := hl
  have H := Aside0.mk (show IsD w0 w g ⟨n0, s0, n1, s1, l⟩ (.slice A l.length c) ∧ Below w0.heap.size w0 w from ⟨hI, hB⟩)
  clear hI hB
  rcases ha with rfl | rfl
  · go_enter Try.func43, Try.ntmps43
    go_upto_region 6 with (go_at_call 45; (with_reducible refine (G _ hga).mono ?_); rintro e w1 ⟨rfl, ⟨nd, rfl⟩⟩)
    obtain ⟨W2, hW2⟩ : ∃ W2, W2 = (w.drewN nd).setCell ⟨g, 0, none⟩ (.string (⟨#[]⟩ : ByteArray)) := ⟨_, rfl⟩
    rw [← hW2]
    have h2 : W2.heap[g]? = some (.cells #[.string (⟨#[]⟩ : ByteArray), .string s0, .string n1, .string s1, .slice A l.length c] 77 (0, 0)) := by rw [hW2]; simpa [dkCells] using blk_set (blk_drewN H.out.1.1 _) 0 (.string (⟨#[]⟩ : ByteArray))
    have hk2 : KeepBut w W2 g none := by rw [hW2]; exact KeepBut.set_ (keep_drewN (KeepBut.refl w g none) _) _ _
    have hB2 : Below w0.heap.size w0 W2 := by rw [hW2]; exact below_set (pw_below_drewN H.out.2 _) H.out.1.2.1
    have hR2 : k79.R 79 W2 w0.heap.size (fun q => (Value.slice A l.length c).ownBlock = some q ∨ W2.heap.size ≤ q) (.slice A l.length c) l :=
      Kd.R_mono (Kd.R_step H.out.1.2.2 (fun q hq hlt => hk2.2 q hlt (fun e => hown (by rw [← e]; exact hq.symm)) (by simp))) (fun _ hq => .inl hq)
    have hsz : w.heap.size ≤ W2.heap.size := hk2.1
    clear hW2 c0 c1 c2 c3 c4
    have c4 : W2.cell? ⟨g, 4, none⟩ = some (.slice A l.length c) := (blk_cell h2 4).trans rfl
    have hlt2 := blk_lt h2
    have ho2 : some g ≠ (Value.slice A l.length c).ownBlock := hown
    (try simp only [Act.put, List.setIfInBounds_toArray, List.set_cons_zero, List.set_cons_succ])
    go_wp2_with ((with_reducible refine gate_builtin (b := .append) (xs := #[.tmp 22, .tmp 25]) rfl ?_); (try (refine gate_guard (by rfl) ?_; dsimp only)); at_builtin; refine Kd.R_append k79 (w0 := w0) (W := W2) w0.heap.size rfl (.tmp 22) (.tmp 25) 75 79 (.agg #[(.int .i64 0), (.bool false), (.string (⟨#[]⟩ : ByteArray))]) 32 rfl hu75 info79D rfl (by decide) (by omega) (.slice A l.length c) l (⟨0, true, (⟨#[]⟩ : ByteArray)⟩ : S79) [.int .i64 0, .bool true, .string (⟨#[]⟩ : ByteArray)] (fun q => (Value.slice A l.length c).ownBlock = some q ∨ W2.heap.size ≤ q) (fun _ => False) (by first | (go_simp; done) | (go_simp; rfl)) (by first | (go_simp; done) | (go_simp; rfl)) (k79_mkM _ _ _ (⟨0, true, (⟨#[]⟩ : ByteArray)⟩ : S79)) (fun _ hk => hk.elim) (fun _ hk => .inr hk) hR2 hB2 hB2.size (by omega) ?_; intro v7 w7 hO7 hB7 hg7 hat7; have h7 := (hg7.block g hlt2 ho2).trans h2; have d4 : w7.cell? ⟨g, 4, none⟩ = some (.slice A l.length c) := (blk_cell h7 4).trans rfl; have f4 := blk_frozen h7 4; obtain ⟨A7, c7, rfl⟩ := Kd.R_slice hO7)
    go_ret
    have hgo : some g ≠ (Value.slice A7 (l ++ [(⟨0, true, (⟨#[]⟩ : ByteArray)⟩ : S79)]).length c7).ownBlock := Kd.R_ne hO7 h7 (by decide)
    refine ⟨rfl, .slice A7 (l ++ [(⟨0, true, (⟨#[]⟩ : ByteArray)⟩ : S79)]).length c7, ⟨?_, H.out.1.2.1, ?_⟩, below_set hB7 H.out.1.2.1, ?_, ?_⟩
    · simpa [dkCells, rstD] using blk_set h7 4 (.slice A7 (l ++ [(⟨0, true, (⟨#[]⟩ : ByteArray)⟩ : S79)]).length c7)
    · exact R_exact (Kd.R_far hO7 (p := ⟨g, 4, none⟩) (by
        intro q hq e
        rcases hq with hq | hq
        · exact hown (by have e' : q = g := e; rw [← e']; exact hq.symm)
        · have : q = g := e
          omega) _)
    · refine KeepBut.set_ ⟨Nat.le_trans hsz hg7.size, fun i hi hi1 hi2 => (hg7.block i (by omega) hi2).trans (hk2.2 i hi hi1 (by simp))⟩ _ _
    · intro b hb
      rcases hat7 with e | ⟨b', e, hb'⟩
      · exact .inl (by rw [← e]; exact hb)
      · rw [e] at hb
        injection hb with hb
        exact .inr (by omega)
  · go_enter Try.func43, Try.ntmps43
    go_upto_region 6 with (go_at_call 45; (with_reducible refine (G _ hga).mono ?_); rintro e w1 ⟨rfl, ⟨nd, rfl⟩⟩)
    obtain ⟨W2, hW2⟩ : ∃ W2, W2 = (w.drewN nd).setCell ⟨g, 2, none⟩ (.string (⟨#[]⟩ : ByteArray)) := ⟨_, rfl⟩
    rw [← hW2]
    have h2 : W2.heap[g]? = some (.cells #[.string n0, .string s0, .string (⟨#[]⟩ : ByteArray), .string s1, .slice A l.length c] 77 (0, 0)) := by rw [hW2]; simpa [dkCells] using blk_set (blk_drewN H.out.1.1 _) 2 (.string (⟨#[]⟩ : ByteArray))
    have hk2 : KeepBut w W2 g none := by rw [hW2]; exact KeepBut.set_ (keep_drewN (KeepBut.refl w g none) _) _ _
    have hB2 : Below w0.heap.size w0 W2 := by rw [hW2]; exact below_set (pw_below_drewN H.out.2 _) H.out.1.2.1
    have hR2 : k79.R 79 W2 w0.heap.size (fun q => (Value.slice A l.length c).ownBlock = some q ∨ W2.heap.size ≤ q) (.slice A l.length c) l :=
      Kd.R_mono (Kd.R_step H.out.1.2.2 (fun q hq hlt => hk2.2 q hlt (fun e => hown (by rw [← e]; exact hq.symm)) (by simp))) (fun _ hq => .inl hq)
    have hsz : w.heap.size ≤ W2.heap.size := hk2.1
    clear hW2 c0 c1 c2 c3 c4
    have c4 : W2.cell? ⟨g, 4, none⟩ = some (.slice A l.length c) := (blk_cell h2 4).trans rfl
    have hlt2 := blk_lt h2
    have ho2 : some g ≠ (Value.slice A l.length c).ownBlock := hown
    (try simp only [Act.put, List.setIfInBounds_toArray, List.set_cons_zero, List.set_cons_succ])
    go_wp2_with ((with_reducible refine gate_builtin (b := .append) (xs := #[.tmp 22, .tmp 25]) rfl ?_); (try (refine gate_guard (by rfl) ?_; dsimp only)); at_builtin; refine Kd.R_append k79 (w0 := w0) (W := W2) w0.heap.size rfl (.tmp 22) (.tmp 25) 75 79 (.agg #[(.int .i64 0), (.bool false), (.string (⟨#[]⟩ : ByteArray))]) 32 rfl hu75 info79D rfl (by decide) (by omega) (.slice A l.length c) l (⟨1, true, (⟨#[]⟩ : ByteArray)⟩ : S79) [.int .i64 1, .bool true, .string (⟨#[]⟩ : ByteArray)] (fun q => (Value.slice A l.length c).ownBlock = some q ∨ W2.heap.size ≤ q) (fun _ => False) (by first | (go_simp; done) | (go_simp; rfl)) (by first | (go_simp; done) | (go_simp; rfl)) (k79_mkM _ _ _ (⟨1, true, (⟨#[]⟩ : ByteArray)⟩ : S79)) (fun _ hk => hk.elim) (fun _ hk => .inr hk) hR2 hB2 hB2.size (by omega) ?_; intro v7 w7 hO7 hB7 hg7 hat7; have h7 := (hg7.block g hlt2 ho2).trans h2; have d4 : w7.cell? ⟨g, 4, none⟩ = some (.slice A l.length c) := (blk_cell h7 4).trans rfl; have f4 := blk_frozen h7 4; obtain ⟨A7, c7, rfl⟩ := Kd.R_slice hO7)
    go_ret
    have hgo : some g ≠ (Value.slice A7 (l ++ [(⟨1, true, (⟨#[]⟩ : ByteArray)⟩ : S79)]).length c7).ownBlock := Kd.R_ne hO7 h7 (by decide)
    refine ⟨rfl, .slice A7 (l ++ [(⟨1, true, (⟨#[]⟩ : ByteArray)⟩ : S79)]).length c7, ⟨?_, H.out.1.2.1, ?_⟩, below_set hB7 H.out.1.2.1, ?_, ?_⟩
    · simpa [dkCells, rstD] using blk_set h7 4 (.slice A7 (l ++ [(⟨1, true, (⟨#[]⟩ : ByteArray)⟩ : S79)]).length c7)
    · exact R_exact (Kd.R_far hO7 (p := ⟨g, 4, none⟩) (by
        intro q hq e
        rcases hq with hq | hq
        · exact hown (by have e' : q = g := e; rw [← e']; exact hq.symm)
        · have : q = g := e
          omega) _)
    · refine KeepBut.set_ ⟨Nat.le_trans hsz hg7.size, fun i hi hi1 hi2 => (hg7.block i (by omega) hi2).trans (hk2.2 i hi hi1 (by simp))⟩ _ _
    · intro b hb
      rcases hat7 with e | ⟨b', e, hb'⟩
      · exact .inl (by rw [← e]; exact hb)
      · rw [e] at hb
        injection hb with hb
        exact .inr (by omega)
set_option maxHeartbeats 1600000 in
set_option maxRecDepth 100000 in
theorem append_bad (g : Nat) (a : Int) (s : ByteArray) (w : World) (ha : ¬ (a = 0 ∨ a = 1)) :
    Calls Try.prog 30 #[.pointer (some ⟨g, 0, none⟩), .int .i64 a, .string s] w fun e w' => e = .returned (.int .i64 1) ∧ ∃ n, w' = w.drewN n := by
  have hu44 := Try.underlying44
  have G := disk_good.calls a false
  have hga := goodN ha
  go_enter Try.func30, Try.ntmps30
  go_wp2_with (go_at_call 45; (with_reducible refine (G _ hga).mono ?_); rintro e w1 ⟨rfl, ⟨nd, rfl⟩⟩)
  go_ret
  exact ⟨rfl, _, rfl⟩
set_option maxHeartbeats 1600000 in
set_option maxRecDepth 100000 in
theorem reset_bad (g : Nat) (a : Int) (w : World) (ha : ¬ (a = 0 ∨ a = 1)) :
    Calls Try.prog 43 #[.pointer (some ⟨g, 0, none⟩), .int .i64 a] w fun e w' => e = .returned (.int .i64 1) ∧ ∃ n, w' = w.drewN n := by
  have hu44 := Try.underlying44
  have G := disk_good.calls a false
  have hga := goodN ha
  go_enter Try.func43, Try.ntmps43
  go_wp2_with (go_at_call 45; (with_reducible refine (G _ hga).mono ?_); rintro e w1 ⟨rfl, ⟨nd, rfl⟩⟩)
  go_ret
  exact ⟨rfl, _, rfl⟩
set_option maxHeartbeats 1600000 in
set_option maxRecDepth 100000 in
theorem append_full (g : Nat) (a : Int) (D : Dk) (v : Value) (s : ByteArray) (w0 w : World) (hI : IsD w0 w g D v) (ha : a = 0 ∨ a = 1) (hs : ¬ s.size + (nowD D a).size ≤ 16384) (hb : s.size ≤ 1099511627776) (hb2 : (nowD D a).size ≤ 1099511627776) :
    Calls Try.prog 30 #[.pointer (some ⟨g, 0, none⟩), .int .i64 a, .string s] w fun e w' => e = .returned (.int .i64 6) ∧ ∃ n, w' = w.drewN n := by
  have hu77 := Try.underlying77
  have hu74 := Try.underlying74
  have hu73 := Try.underlying73
  have hu9 := Try.underlying9
  have hu44 := Try.underlying44
  have G := disk_good.calls a true
  have hga := goodA ha
  obtain ⟨n0, s0, n1, s1, l⟩ := D
  have c0 : w.cell? ⟨g, 0, none⟩ = some (.string n0) := (blk_cell hI.1 0).trans rfl
  have c2 : w.cell? ⟨g, 2, none⟩ = some (.string n1) := (blk_cell hI.1 2).trans rfl
  clear hI
  rcases ha with rfl | rfl
  · have hs0 : ¬ s.size + n0.size ≤ 16384 := hs
    have hb0 : n0.size ≤ 1099511627776 := hb2
    have q0 : decide ((16384 : Int) - (n0.size : Int) < (s.size : Int)) = true := decide_eq_true (by omega)
    go_enter Try.func30, Try.ntmps30
    go_wp2_with (go_at_call 45; (with_reducible refine (G _ hga).mono ?_); rintro e w1 ⟨rfl, ⟨nd, rfl⟩⟩)
    go_ret
    exact ⟨rfl, _, rfl⟩
  · have hs0 : ¬ s.size + n1.size ≤ 16384 := hs
    have hb0 : n1.size ≤ 1099511627776 := hb2
    have q0 : decide ((16384 : Int) - (n1.size : Int) < (s.size : Int)) = true := decide_eq_true (by omega)
    go_enter Try.func30, Try.ntmps30
    go_wp2_with (go_at_call 45; (with_reducible refine (G _ hga).mono ?_); rintro e w1 ⟨rfl, ⟨nd, rfl⟩⟩)
    go_ret
    exact ⟨rfl, _, rfl⟩
/-! ### changes that land -/
def landS (x : ByteArray) (c : S79) : ByteArray := if c.f1 = true then (⟨#[]⟩ : ByteArray) else x ++ c.f2
def landD (D : Dk) (c : S79) : Dk := if c.f0 = 0 then { D with s0 := landS D.s0 c } else { D with s1 := landS D.s1 c }
theorem landD_l (D : Dk) (c : S79) : (landD D c).l = D.l := by unfold landD; split <;> rfl
theorem land_ok (g : Nat) (c : S79) (D : Dk) (v : Value) (w0 w : World) (hI : IsD w0 w g D v) (hB : Below w0.heap.size w0 w) (hc : c.f0 = 0 ∨ c.f0 = 1) (hs : (safeD D c.f0).size + c.f2.size ≤ 9223372036854775807) :
    Calls Try.prog 47 #[.pointer (some ⟨g, 0, none⟩), .agg #[.int .i64 c.f0, .bool c.f1, .string c.f2]] w fun e w' => e = .returned (.tuple #[]) ∧ IsD w0 w' g (landD D c) v ∧ Below w0.heap.size w0 w' ∧ KeepBut w w' g none := by
  obtain ⟨a, b, s⟩ := c
  have hown := hI.own
  have key : ∀ (k : Nat) (u : ByteArray) (o : Obj) (n : Nat) (D' : Dk), D'.l = D.l → (∀ W : World, W.heap[g]? = some (.cells (dkCells D v) 77 (0, 0)) → (W.setCell ⟨g, k, none⟩ (.string u)).heap[g]? = some (.cells (dkCells D' v) 77 (0, 0))) →
      IsD w0 (((w.alloc o).drewN n).setCell ⟨g, k, none⟩ (.string u)) g D' v ∧ Below w0.heap.size w0 (((w.alloc o).drewN n).setCell ⟨g, k, none⟩ (.string u)) ∧ KeepBut w (((w.alloc o).drewN n).setCell ⟨g, k, none⟩ (.string u)) g none := by
    intro k u o n D' hl hset
    have hk : KeepBut w (((w.alloc o).drewN n).setCell ⟨g, k, none⟩ (.string u)) g none := KeepBut.set_ (keep_drewN (keep_alloc (KeepBut.refl w g none) o) n) _ _
    refine ⟨⟨hset _ ?_, hI.2.1, ?_⟩, below_set (pw_below_drewN (below_alloc hB o) n) hI.2.1, hk⟩
    · exact blk_drewN (blk_alloc hI.1 o) n
    · rw [hl]
      exact Kd.R_step hI.2.2 (fun q hq hlt => hk.2 q hlt (fun e => hown (by rw [← e]; exact hq.symm)) (by simp))
  obtain ⟨n0, s0, n1, s1, l⟩ := D
  rcases hc with hc | hc
  · have hc : a = 0 := hc
    subst hc
    cases b
    · refine (land_a g 0 (by omega) s0 s w ((blk_cell hI.1 1).trans rfl) (blk_frozen hI.1 1) hs).mono ?_
      rintro e w' ⟨rfl, n, rfl⟩
      exact ⟨rfl, key 1 _ _ n ⟨n0, s0 ++ s, n1, s1, l⟩ rfl (fun W h => by simpa [dkCells] using blk_set h 1 (.string (s0 ++ s)))⟩
    · refine (land_r g 0 (by omega) s0 s w ((blk_cell hI.1 1).trans rfl) (blk_frozen hI.1 1)).mono ?_
      rintro e w' ⟨rfl, n, rfl⟩
      exact ⟨rfl, key 1 _ _ n ⟨n0, (⟨#[]⟩ : ByteArray), n1, s1, l⟩ rfl (fun W h => by simpa [dkCells] using blk_set h 1 (.string (⟨#[]⟩ : ByteArray)))⟩
  · have hc : a = 1 := hc
    subst hc
    cases b
    · refine (land_a g 1 (by omega) s1 s w ((blk_cell hI.1 3).trans rfl) (blk_frozen hI.1 3) hs).mono ?_
      rintro e w' ⟨rfl, n, rfl⟩
      exact ⟨rfl, key 3 _ _ n ⟨n0, s0, n1, s1 ++ s, l⟩ rfl (fun W h => by simpa [dkCells] using blk_set h 3 (.string (s1 ++ s)))⟩
    · refine (land_r g 1 (by omega) s1 s w ((blk_cell hI.1 3).trans rfl) (blk_frozen hI.1 3)).mono ?_
      rintro e w' ⟨rfl, n, rfl⟩
      exact ⟨rfl, key 3 _ _ n ⟨n0, s0, n1, (⟨#[]⟩ : ByteArray), l⟩ rfl (fun W h => by simpa [dkCells] using blk_set h 3 (.string (⟨#[]⟩ : ByteArray)))⟩
/-- what lies under a disk's waiting changes -/
def sizeD (D : Dk) : Nat := D.s0.size + D.s1.size + (D.l.map fun c => c.f2.size).sum
def OkD (D : Dk) : Prop := (∀ c ∈ D.l, c.f0 = 0 ∨ c.f0 = 1) ∧ sizeD D ≤ 1099511627776
def foldD (D : Dk) (r : List S79) : Dk := r.foldl landD D
theorem foldD_l (r : List S79) : ∀ (D : Dk), (foldD D r).l = D.l := by
  induction r with
  | nil => intro D; rfl
  | cons c r ih => intro D; show (foldD (landD D c) r).l = _; rw [ih, landD_l]
theorem landS_size (x : ByteArray) (c : S79) : (landS x c).size ≤ x.size + c.f2.size := by
  unfold landS; split
  · exact Nat.zero_le _
  · rw [ByteArray.size_append]; omega
theorem landD_size (D : Dk) (c : S79) : (landD D c).s0.size + (landD D c).s1.size ≤ D.s0.size + D.s1.size + c.f2.size := by
  unfold landD
  have h0 := landS_size D.s0 c
  have h1 := landS_size D.s1 c
  split <;> dsimp only <;> omega
theorem safe_le (D : Dk) (a : Int) : (safeD D a).size ≤ D.s0.size + D.s1.size := by unfold safeD; split <;> omega
def syncD (D : Dk) : Dk := { foldD D D.l with l := [] }
theorem rd79 {l : List S79} {i : Nat} {x : S79} {r : List S79} (h : l.drop i = x :: r) : rd_T79 l (i : Int) = x ∧ i < l.length ∧ l.drop (i + 1) = r ∧ x ∈ l := by
  have hi : i < l.length := by
    rcases Nat.lt_or_ge i l.length with h' | h'
    · exact h'
    · rw [List.drop_eq_nil_of_le h'] at h; cases h
  have hm : x ∈ l := by
    have : x ∈ l.drop i := by rw [h]; exact List.mem_cons_self
    exact List.mem_of_mem_drop this
  rw [List.drop_eq_getElem_cons hi] at h
  injection h with h1 h2
  refine ⟨?_, hi, h2, hm⟩
  unfold rd_T79
  rw [Int.toNat_natCast, List.getD_eq_getElem?_getD, List.getElem?_eq_getElem hi]
  exact h1
theorem dk_read {w0 W : World} {g : Nat} {D : Dk} {A : Option Addr} {n c : Nat} (h : IsD w0 W g D (.slice A n c)) {j : Nat} {x : S79} {r : List S79} (hx : D.l.drop j = x :: r) :
    ∃ ad, A = some ad ∧ W.cell? (ad.add (j * 3)) = some (.int .i64 x.f0) ∧ W.cell? ⟨(ad.add (j * 3)).block, (ad.add (j * 3)).off + 1, none⟩ = some (.bool x.f1) ∧ W.cell? ⟨(ad.add (j * 3)).block, (ad.add (j * 3)).off + 2, none⟩ = some (.string x.f2) := by
  obtain ⟨hrd, hlt, _, _⟩ := rd79 hx
  obtain ⟨rfl, _, hC⟩ := Kd.R_reads' h.2.2
  obtain ⟨ad, rfl, x0, x1, x2⟩ := at_T79 hC (j : Int) (by omega) (by omega)
  rw [hrd] at x0 x1 x2
  simp only [Int.toNat_natCast] at x0 x1 x2
  exact ⟨ad, rfl, x0, x1, x2⟩
theorem sum_drop (l : List S79) (j : Nat) (x : S79) (r : List S79) (h : l.drop j = x :: r) : ((l.drop j).map fun c => c.f2.size).sum = x.f2.size + ((l.drop (j + 1)).map fun c => c.f2.size).sum := by
  have := (rd79 h).2.2.1
  rw [h, this]; simp
set_option maxHeartbeats 6400000 in
set_option maxRecDepth 100000 in
theorem sync_ok (g : Nat) (D : Dk) (v : Value) (w0 w : World) (hI : IsD w0 w g D v) (hB : Below w0.heap.size w0 w) (hO : OkD D) (hl : D.l.length ≤ 100000) :
    Calls Try.prog 36 #[.pointer (some ⟨g, 0, none⟩)] w fun e w' => e = .returned (.tuple #[]) ∧ IsD w0 w' g (syncD D) (.slice none 0 0) ∧ Below w0.heap.size w0 w' ∧ KeepBut w w' g none := by
  have hu79 := Try.underlying79
  have hu77 := Try.underlying77
  have hu75 := Try.underlying75
  have hu44 := Try.underlying44
  have hown := hI.own
  obtain ⟨A, c, rfl⟩ := Kd.R_slice hI.2.2
  have c4 : w.cell? ⟨g, 4, none⟩ = some (.slice A D.l.length c) := (blk_cell hI.1 4).trans rfl
  have H := Aside0.mk (And.intro hI (And.intro hB (KeepBut.refl w g none)))
  clear hI hB
  go_enter Try.func36, Try.ntmps36
  go_wp2
  go_loopg [11] D.l.length (fun m v wr => ∃ (j : Nat) (E : Dk), v = .int .i64 (j : Int) ∧ m + j = D.l.length ∧ Aside0 (E.l = D.l ∧ foldD E (D.l.drop j) = foldD D D.l ∧ E.s0.size + E.s1.size + ((D.l.drop j).map fun c => c.f2.size).sum ≤ 1099511627776 ∧ IsD w0 wr g E (.slice A D.l.length c) ∧ Below w0.heap.size w0 wr ∧ KeepBut w wr g none))
  case atStart => exact ⟨0, D, rfl, by omega, ⟨rfl, by rw [List.drop_zero], hO.2, H.out.1, H.out.2.1, H.out.2.2⟩⟩
  case round =>
    clear c4
    obtain ⟨j, E, rfl, hj, HC⟩ := hrel
    by_cases hlt : j < D.l.length
    · have q0 : decide ((j : Int) < (D.l.length : Int)) = true := decide_eq_true (by omega)
      obtain ⟨x, r, hx⟩ : ∃ x r, D.l.drop j = x :: r := ⟨_, _, List.drop_eq_getElem_cons hlt⟩
      obtain ⟨_, _, hr, hmem⟩ := rd79 hx
      obtain ⟨ad, rfl, x0, x1, x2⟩ := dk_read HC.out.2.2.2.1 (by rw [HC.out.1]; exact hx)
      have p0 : ((0 : Int) ≤ (j : Int)) = True := eq_true (by omega)
      have p1 : ((j : Int) < (D.l.length : Int)) = True := eq_true (by omega)
      have hsum := sum_drop D.l j x r hx
      have hsz := HC.out.2.2.1
      have hsf := safe_le E x.f0
      go_wp2_with (fail)
      have hk1 : ∀ o, KeepBut w _ g none := fun o => keep_alloc HC.out.2.2.2.2.2 o
      have hI1 := HC.out.2.2.2.1.below (below_alloc (Below.refl _ _) (.cells #[.int .i64 x.f0, .bool x.f1, .string x.f2] 79))
      have hB1 := below_alloc HC.out.2.2.2.2.1 (.cells #[.int .i64 x.f0, .bool x.f1, .string x.f2] 79)
      refine (land_ok g x E _ w0 _ hI1 hB1 (hO.1 x hmem) (by omega)).mono ?_
      rintro e w7 ⟨rfl, hI7, hB7, hk7⟩
      go_wp2
      go_roundg (D.l.length - (j + 1))
      case rel =>
        refine ⟨j + 1, landD E x, (by rw [Int.natCast_add]; rfl), (by omega), ⟨(by rw [landD_l, HC.out.1]), ?_, ?_, hI7, hB7, (hk1 _).trans hk7 (.inl rfl)⟩⟩
        · rw [hr, ← HC.out.2.1, hx]; rfl
        · have := landD_size E x
          omega
      case measure => omega
    · obtain rfl : j = D.l.length := by omega
      have q0 : decide ((D.l.length : Int) < (D.l.length : Int)) = false := decide_eq_false (by omega)
      have hI8 := HC.out.2.2.2.1
      have c4 := (blk_cell hI8.1 4).trans rfl
      have f4 := blk_frozen hI8.1 4
      go_wp2
      go_end0
      have hE : foldD D D.l = E := by
        have := HC.out.2.1
        rw [List.drop_length] at this
        exact this.symm
      refine ⟨rfl, ⟨?_, hI8.2.1, Kd.R_nil _ _ _ _ _⟩, below_set HC.out.2.2.2.2.1 hI8.2.1, KeepBut.set_ HC.out.2.2.2.2.2 _ _⟩
      have := blk_set hI8.1 4 (.slice none 0 0)
      unfold syncD
      rw [hE]
      simpa [dkCells] using this
/-- what of a change lands, whose bytes are kept in part -/
def partC (c : S79) (part : Int) : S79 := ⟨c.f0, false, c.f2.extract 0 (min part.toNat c.f2.size)⟩
def crashL (keep part : Int) : List S79 → Nat → Dk → Dk
  | [], _, E => E
  | c :: r, i, E => if keep ≤ (i : Int) then (if c.f1 = true then E else landD E (partC c part)) else crashL keep part r (i + 1) (landD E c)
theorem crashL_cons (keep part : Int) (c : S79) (r : List S79) (i : Nat) (E : Dk) : crashL keep part (c :: r) i E = if keep ≤ (i : Int) then (if c.f1 = true then E else landD E (partC c part)) else crashL keep part r (i + 1) (landD E c) := rfl
def flat (E : Dk) : Dk := ⟨E.s0, E.s0, E.s1, E.s1, []⟩
def flatN (i : Nat) (E : Dk) : Dk := ⟨if i = 0 then E.n0 else E.s0, E.s0, if i ≤ 1 then E.n1 else E.s1, E.s1, []⟩
def crashD (D : Dk) (keep part : Int) : Dk := flat (crashL keep part D.l 0 D)
set_option maxHeartbeats 6400000 in
set_option maxRecDepth 100000 in
theorem crash_ok (g : Nat) (D : Dk) (v : Value) (keep part : Int) (w0 w : World) (hI : IsD w0 w g D v) (hB : Below w0.heap.size w0 w) (hO : OkD D) (hl : D.l.length ≤ 100000) :
    Calls Try.prog 32 #[.pointer (some ⟨g, 0, none⟩), .int .i64 keep, .int .i64 part] w fun e w' => e = .returned (.tuple #[]) ∧ IsD w0 w' g (crashD D keep part) (.slice none 0 0) ∧ Below w0.heap.size w0 w' ∧ KeepBut w w' g none := by
  have hu79 := Try.underlying79
  have hu77 := Try.underlying77
  have hu75 := Try.underlying75
  have hu74 := Try.underlying74
  have hu73 := Try.underlying73
  have hu9 := Try.underlying9
  have hu44 := Try.underlying44
  obtain ⟨A, c, rfl⟩ := Kd.R_slice hI.2.2
  have c4 : w.cell? ⟨g, 4, none⟩ = some (.slice A D.l.length c) := (blk_cell hI.1 4).trans rfl
  have H := Aside0.mk (And.intro hI (And.intro hB (KeepBut.refl w g none)))
  clear hI hB
  go_enter Try.func32, Try.ntmps32
  go_upto_block 0 with (fail)
  go_cut [] (fun wc => ∃ E : Dk, Aside0 (crashD D keep part = flat E ∧ (∃ v, IsD w0 wc g E v) ∧ Below w0.heap.size w0 wc ∧ KeepBut w wc g none))
  case first =>
    go_wp2
    go_loopg [16] D.l.length (fun m v wr => ∃ (j : Nat) (E : Dk), v = .int .i64 (j : Int) ∧ m + j = D.l.length ∧ Aside0 (E.l = D.l ∧ crashL keep part (D.l.drop j) j E = crashL keep part D.l 0 D ∧ E.s0.size + E.s1.size + ((D.l.drop j).map fun c => c.f2.size).sum ≤ 1099511627776 ∧ IsD w0 wr g E (.slice A D.l.length c) ∧ Below w0.heap.size w0 wr ∧ KeepBut w wr g none))
    case atStart => exact ⟨0, D, rfl, by omega, ⟨rfl, by rw [List.drop_zero], hO.2, H.out.1, H.out.2.1, H.out.2.2⟩⟩
    case round =>
      clear c4
      obtain ⟨j, E, rfl, hj, HC⟩ := hrel
      by_cases hlt : j < D.l.length
      · have q0 : decide ((j : Int) < (D.l.length : Int)) = true := decide_eq_true (by omega)
        obtain ⟨x, r, hx⟩ : ∃ x r, D.l.drop j = x :: r := ⟨_, _, List.drop_eq_getElem_cons hlt⟩
        obtain ⟨_, _, hr, hmem⟩ := rd79 hx
        obtain ⟨ad, rfl, x0, x1, x2⟩ := dk_read HC.out.2.2.2.1 (by rw [HC.out.1]; exact hx)
        have p0 : ((0 : Int) ≤ (j : Int)) = True := eq_true (by omega)
        have p1 : ((j : Int) < (D.l.length : Int)) = True := eq_true (by omega)
        have hsum := sum_drop D.l j x r hx
        have hsz := HC.out.2.2.1
        have hsf := safe_le E x.f0
        have hcr := HC.out.2.1
        rw [hx] at hcr
        by_cases hk : keep ≤ (j : Int)
        · have q1 : decide (keep ≤ (j : Int)) = true := decide_eq_true hk
          rw [crashL_cons, if_pos hk] at hcr
          by_cases hb : x.f1 = true
          · rw [if_pos hb] at hcr
            rw [hb] at x1
            go_wp2
            go_meet
            case rel =>
              have bl := fun o => below_alloc (Below.refl wr.heap.size wr) o
              exact ⟨E, ⟨by unfold crashD; rw [← hcr], ⟨_, HC.out.2.2.2.1.below (bl _)⟩, below_alloc HC.out.2.2.2.2.1 _, keep_alloc HC.out.2.2.2.2.2 _⟩⟩
          · have hb : x.f1 = false := by simpa using hb
            rw [hb] at x1
            rw [if_neg (by simp [hb])] at hcr
            by_cases hp : part < 0
            · have e1 : (part < 0) = True := eq_true hp
              have e2 : ((x.f2.size : Int) < 0) = False := eq_false (by omega)
              go_wp2_with (fail)
              have hpc : partC x part = ⟨x.f0, false, ByteArray.empty⟩ := by unfold partC; rw [show min part.toNat x.f2.size = 0 by omega]; simp
              have hps : (ByteArray.empty).size ≤ x.f2.size := Nat.zero_le _
              have bl := fun o => below_alloc (Below.refl wr.heap.size wr) o
              refine (land_ok g ⟨x.f0, false, ByteArray.empty⟩ E _ w0 _ (HC.out.2.2.2.1.below (bl _)) (below_alloc HC.out.2.2.2.2.1 _) (hO.1 x hmem) (by show (safeD E x.f0).size + (ByteArray.empty).size ≤ _; omega)).mono ?_
              rintro e w7 ⟨rfl, hI7, hB7, hk7⟩
              go_wp2
              go_meet
              case rel => exact ⟨landD E ⟨x.f0, false, ByteArray.empty⟩, ⟨by unfold crashD; rw [← hcr, hpc], ⟨_, hI7⟩, hB7, (keep_alloc HC.out.2.2.2.2.2 _).trans hk7 (.inl rfl)⟩⟩
            have e1 : (part < 0) = False := eq_false hp
            by_cases hm : (x.f2.size : Int) < part
            · have e2 : ((x.f2.size : Int) < part) = True := eq_true hm
              go_wp2_with (fail)
              have hpc : partC x part = ⟨x.f0, false, x.f2⟩ := by unfold partC; rw [show min part.toNat x.f2.size = x.f2.size by omega, ByteArray.extract_zero_size]
              have hps : (x.f2).size ≤ x.f2.size := Nat.le_refl _
              have bl := fun o => below_alloc (Below.refl wr.heap.size wr) o
              refine (land_ok g ⟨x.f0, false, x.f2⟩ E _ w0 _ (HC.out.2.2.2.1.below (bl _)) (below_alloc HC.out.2.2.2.2.1 _) (hO.1 x hmem) (by show (safeD E x.f0).size + (x.f2).size ≤ _; omega)).mono ?_
              rintro e w7 ⟨rfl, hI7, hB7, hk7⟩
              go_wp2
              go_meet
              case rel => exact ⟨landD E ⟨x.f0, false, x.f2⟩, ⟨by unfold crashD; rw [← hcr, hpc], ⟨_, hI7⟩, hB7, (keep_alloc HC.out.2.2.2.2.2 _).trans hk7 (.inl rfl)⟩⟩
            have e2 : ((x.f2.size : Int) < part) = False := eq_false hm
            have e3 : (part ≤ (x.f2.size : Int)) = True := eq_true (by omega)
            have e4 : ((0 : Int) ≤ part) = True := eq_true (by omega)
            go_wp2_with (fail)
            have hpc : partC x part = ⟨x.f0, false, x.f2.extract 0 part.toNat⟩ := by unfold partC; rw [show min part.toNat x.f2.size = part.toNat by omega]
            have hps : (x.f2.extract 0 part.toNat).size ≤ x.f2.size := by rw [ByteArray.size_extract]; omega
            have bl := fun o => below_alloc (Below.refl wr.heap.size wr) o
            refine (land_ok g ⟨x.f0, false, x.f2.extract 0 part.toNat⟩ E _ w0 _ (HC.out.2.2.2.1.below (bl _)) (below_alloc HC.out.2.2.2.2.1 _) (hO.1 x hmem) (by show (safeD E x.f0).size + (x.f2.extract 0 part.toNat).size ≤ _; omega)).mono ?_
            rintro e w7 ⟨rfl, hI7, hB7, hk7⟩
            go_wp2
            go_meet
            case rel => exact ⟨landD E ⟨x.f0, false, x.f2.extract 0 part.toNat⟩, ⟨by unfold crashD; rw [← hcr, hpc], ⟨_, hI7⟩, hB7, (keep_alloc HC.out.2.2.2.2.2 _).trans hk7 (.inl rfl)⟩⟩
        · have q1 : decide (keep ≤ (j : Int)) = false := decide_eq_false hk
          rw [crashL_cons, if_neg hk] at hcr
          have bl := fun o => below_alloc (Below.refl wr.heap.size wr) o
          go_wp2_with (fail)
          refine (land_ok g x E _ w0 _ (HC.out.2.2.2.1.below (bl _)) (below_alloc HC.out.2.2.2.2.1 _) (hO.1 x hmem) (by omega)).mono ?_
          rintro e w7 ⟨rfl, hI7, hB7, hk7⟩
          go_wp2
          go_roundg (D.l.length - (j + 1))
          case rel =>
            refine ⟨j + 1, landD E x, (by rw [Int.natCast_add]; rfl), (by omega), ⟨(by rw [landD_l, HC.out.1]), (by rw [hr]; exact hcr), ?_, hI7, hB7, (keep_alloc HC.out.2.2.2.2.2 _).trans hk7 (.inl rfl)⟩⟩
            have := landD_size E x
            omega
          case measure => omega
      · obtain rfl : j = D.l.length := by omega
        have q0 : decide ((D.l.length : Int) < (D.l.length : Int)) = false := decide_eq_false (by omega)
        have hcr := HC.out.2.1
        rw [List.drop_length] at hcr
        go_wp2
        go_meet
        case rel => exact ⟨E, ⟨by unfold crashD; rw [← hcr]; rfl, ⟨_, HC.out.2.2.2.1⟩, HC.out.2.2.2.2.1, HC.out.2.2.2.2.2⟩⟩
  case rest =>
    clear c4 H
    obtain ⟨E, HE⟩ := hcut
    obtain ⟨u, hE⟩ := HE.out.2.1
    have hge := hE.2.1
    have c4 := (blk_cell hE.1 4).trans rfl
    have f4 := blk_frozen hE.1 4
    have h5 := blk_set hE.1 4 (.slice none 0 0)
    have hS := Aside0.mk (show IsD w0 (wc.setCell ⟨g, 4, none⟩ (.slice none 0 0)) g (flatN 0 E) (.slice none 0 0) ∧ Below w0.heap.size w0 (wc.setCell ⟨g, 4, none⟩ (.slice none 0 0)) ∧ KeepBut w (wc.setCell ⟨g, 4, none⟩ (.slice none 0 0)) g none from ⟨⟨by simpa [dkCells, flatN] using h5, hge, Kd.R_nil _ _ _ _ _⟩, below_set HE.out.2.2.1 hge, KeepBut.set_ HE.out.2.2.2 _ _⟩)
    clear h5 hE
    go_wp2
    go_loopg [47] 2 (fun m v wr => ∃ i : Nat, v = .int .i64 (i : Int) ∧ m + i = 2 ∧ Aside0 (IsD w0 wr g (flatN i E) (.slice none 0 0) ∧ Below w0.heap.size w0 wr ∧ KeepBut w wr g none))
    case atStart => exact ⟨0, rfl, rfl, hS⟩
    case round =>
      clear c4 f4 hS
      obtain ⟨i, rfl, hi, HC⟩ := hrel
      have hI8 := HC.out.1
      have fz := blk_frozen hI8.1
      have : i = 0 ∨ i = 1 ∨ i = 2 := by omega
      rcases this with rfl | rfl | rfl
      · have c0 : wr.cell? ⟨g, 0, none⟩ = some (.string E.n0) := (blk_cell hI8.1 0).trans rfl
        have c1 : wr.cell? ⟨g, 1, none⟩ = some (.string E.s0) := (blk_cell hI8.1 1).trans rfl
        go_wp2
        go_region
        go_wp2
        go_roundg 1
        case rel =>
          refine ⟨1, rfl, rfl, ⟨⟨?_, hge, Kd.R_nil _ _ _ _ _⟩, below_set (pw_below_drewN HC.out.2.1 _) hge, KeepBut.set_ (keep_drewN HC.out.2.2 _) _ _⟩⟩
          have q := blk_set (blk_drewN hI8.1 1) 0 (.string E.s0)
          simp only [dkCells, flatN] at q
          exact q
        case measure => omega
      · have c2 : wr.cell? ⟨g, 2, none⟩ = some (.string E.n1) := (blk_cell hI8.1 2).trans rfl
        have c3 : wr.cell? ⟨g, 3, none⟩ = some (.string E.s1) := (blk_cell hI8.1 3).trans rfl
        go_wp2
        go_region
        go_wp2
        go_roundg 0
        case rel =>
          refine ⟨2, rfl, rfl, ⟨⟨?_, hge, Kd.R_nil _ _ _ _ _⟩, below_set (pw_below_drewN HC.out.2.1 _) hge, KeepBut.set_ (keep_drewN HC.out.2.2 _) _ _⟩⟩
          have q := blk_set (blk_drewN hI8.1 1) 2 (.string E.s1)
          simp only [dkCells, flatN] at q
          exact q
        case measure => omega
      · go_wp2
        go_end0
        refine ⟨rfl, ?_, HC.out.2.1, HC.out.2.2⟩
        rw [HE.out.1]
        exact HC.out.1
theorem KeepBut.weak {w w' : World} {g : Nat} {row : Option Nat} (h : KeepBut w w' g none) : KeepBut w w' g row := ⟨h.1, fun i hi h1 _ => h.2 i hi h1 (by simp)⟩
theorem KeepBut.drawn (w : World) (n g : Nat) (row : Option Nat) : KeepBut w (w.drewN n) g row := KeepBut.weak (keep_drewN (KeepBut.refl w g none) n)
def zeroDk : Dk := ⟨⟨#[]⟩, ⟨#[]⟩, ⟨#[]⟩, ⟨#[]⟩, []⟩
set_option maxHeartbeats 1600000 in
set_option maxRecDepth 100000 in
theorem new_ok (w : World) : Calls Try.prog 29 #[] w fun e w' => e = .returned (.pointer (some ⟨w.heap.size, 0, none⟩)) ∧ w' = w.alloc (.cells (dkCells zeroDk (.slice none 0 0)) 77) := by
  have hu77 := Try.underlying77
  go_enter Try.func29, Try.ntmps29
  go_wp2
  go_ret
  exact ⟨rfl, rfl⟩
theorem new_isD (w0 w : World) (hB : Below w0.heap.size w0 w) : IsD w0 (w.alloc (.cells (dkCells zeroDk (.slice none 0 0)) 77)) w.heap.size zeroDk (.slice none 0 0) :=
  ⟨heap_alloc_new w _, hB.size, Kd.R_nil _ _ _ _ _⟩
set_option maxHeartbeats 1600000 in
set_option maxRecDepth 100000 in
theorem read_ok (g : Nat) (a : Int) (D : Dk) (v : Value) (w0 w : World) (hI : IsD w0 w g D v) (ha : a = 0 ∨ a = 1) :
    Calls Try.prog 33 #[.pointer (some ⟨g, 0, none⟩), .int .i64 a] w fun e w' => e = .returned (.string (nowD D a)) ∧ ∃ n, w' = w.drewN n := by
  have hu77 := Try.underlying77
  have hu74 := Try.underlying74
  have hu73 := Try.underlying73
  have hu44 := Try.underlying44
  have G := disk_good.calls a true
  have hga := goodA ha
  have c0 : w.cell? ⟨g, 0, none⟩ = some (.string D.n0) := (blk_cell hI.1 0).trans rfl
  have c2 : w.cell? ⟨g, 2, none⟩ = some (.string D.n1) := (blk_cell hI.1 2).trans rfl
  rcases ha with rfl | rfl
  · go_enter Try.func33, Try.ntmps33
    go_wp2_with (go_at_call 45; (with_reducible refine (G _ hga).mono ?_); rintro e w1 ⟨rfl, ⟨nd, rfl⟩⟩)
    go_ret
    exact ⟨rfl, _, rfl⟩
  · go_enter Try.func33, Try.ntmps33
    go_wp2_with (go_at_call 45; (with_reducible refine (G _ hga).mono ?_); rintro e w1 ⟨rfl, ⟨nd, rfl⟩⟩)
    go_ret
    exact ⟨rfl, _, rfl⟩
set_option maxHeartbeats 1600000 in
set_option maxRecDepth 100000 in
theorem safe_ok (g : Nat) (a : Int) (D : Dk) (v : Value) (w0 w : World) (hI : IsD w0 w g D v) (ha : a = 0 ∨ a = 1) :
    Calls Try.prog 37 #[.pointer (some ⟨g, 0, none⟩), .int .i64 a] w fun e w' => e = .returned (.string (safeD D a)) ∧ ∃ n, w' = w.drewN n := by
  have hu77 := Try.underlying77
  have hu74 := Try.underlying74
  have hu73 := Try.underlying73
  have hu44 := Try.underlying44
  have G := disk_good.calls a true
  have hga := goodA ha
  have c1 : w.cell? ⟨g, 1, none⟩ = some (.string D.s0) := (blk_cell hI.1 1).trans rfl
  have c3 : w.cell? ⟨g, 3, none⟩ = some (.string D.s1) := (blk_cell hI.1 3).trans rfl
  rcases ha with rfl | rfl
  · go_enter Try.func37, Try.ntmps37
    go_wp2_with (go_at_call 45; (with_reducible refine (G _ hga).mono ?_); rintro e w1 ⟨rfl, ⟨nd, rfl⟩⟩)
    go_ret
    exact ⟨rfl, _, rfl⟩
  · go_enter Try.func37, Try.ntmps37
    go_wp2_with (go_at_call 45; (with_reducible refine (G _ hga).mono ?_); rintro e w1 ⟨rfl, ⟨nd, rfl⟩⟩)
    go_ret
    exact ⟨rfl, _, rfl⟩
set_option maxHeartbeats 1600000 in
set_option maxRecDepth 100000 in
theorem waits_ok (g : Nat) (D : Dk) (v : Value) (w0 w : World) (hI : IsD w0 w g D v) :
    Calls Try.prog 41 #[.pointer (some ⟨g, 0, none⟩)] w fun e w' => e = .returned (.int .i64 (D.l.length : Int)) ∧ ∃ n, w' = w.drewN n := by
  have hu77 := Try.underlying77
  have hu75 := Try.underlying75
  have hu44 := Try.underlying44
  obtain ⟨A, c, rfl⟩ := Kd.R_slice hI.2.2
  have c4 : w.cell? ⟨g, 4, none⟩ = some (.slice A D.l.length c) := (blk_cell hI.1 4).trans rfl
  go_enter Try.func41, Try.ntmps41
  go_wp2
  go_ret
  exact ⟨rfl, 0, rfl⟩
/-! ### what stays small -/
def Good (D : Dk) (N m : Nat) : Prop := (∀ c ∈ D.l, c.f0 = 0 ∨ c.f0 = 1) ∧ sizeD D ≤ N ∧ D.n0.size ≤ 16384 + N ∧ D.n1.size ≤ 16384 + N ∧ D.l.length ≤ m
theorem good_zero : Good zeroDk 0 0 := ⟨(by intro c h; simp [zeroDk] at h), Nat.le_refl _, Nat.zero_le _, Nat.zero_le _, Nat.le_refl _⟩
theorem good_mono {D : Dk} {N N' m m' : Nat} (h : Good D N m) (h1 : N ≤ N') (h2 : m ≤ m') : Good D N' m' := ⟨h.1, Nat.le_trans h.2.1 h1, by have := h.2.2.1; omega, by have := h.2.2.2.1; omega, Nat.le_trans h.2.2.2.2 h2⟩
theorem Good.ok {D : Dk} {N m : Nat} (h : Good D N m) (hN : N ≤ 1099511627776) : OkD D := ⟨h.1, Nat.le_trans h.2.1 hN⟩
theorem good_app {D : Dk} {N m : Nat} (h : Good D N m) (a : Int) (s : ByteArray) (ha : a = 0 ∨ a = 1) (hs : s.size + (nowD D a).size ≤ 16384) : Good (appD D a s) (N + s.size) (m + 1) := by
  obtain ⟨h1, h2, h3, h4, h5⟩ := h
  have hm : ∀ c ∈ D.l ++ [(⟨a, false, s⟩ : S79)], c.f0 = 0 ∨ c.f0 = 1 := by
    intro c hc
    rcases List.mem_append.1 hc with hc | hc
    · exact h1 c hc
    · rw [List.mem_singleton.1 hc]; exact ha
  unfold sizeD at h2
  unfold appD nowD at *
  split at hs
  · rename_i e
    rw [if_pos e]
    refine ⟨hm, ?_, ?_, ?_, ?_⟩
    · unfold sizeD; simp; omega
    · simp only [ByteArray.size_append]; omega
    · dsimp only; omega
    · simp; omega
  · rename_i e
    rw [if_neg e]
    refine ⟨hm, ?_, ?_, ?_, ?_⟩
    · unfold sizeD; simp; omega
    · dsimp only; omega
    · simp only [ByteArray.size_append]; omega
    · simp; omega
theorem good_rst {D : Dk} {N m : Nat} (h : Good D N m) (a : Int) (ha : a = 0 ∨ a = 1) : Good (rstD D a) N (m + 1) := by
  obtain ⟨h1, h2, h3, h4, h5⟩ := h
  have hm : ∀ c ∈ D.l ++ [(⟨a, true, (⟨#[]⟩ : ByteArray)⟩ : S79)], c.f0 = 0 ∨ c.f0 = 1 := by
    intro c hc
    rcases List.mem_append.1 hc with hc | hc
    · exact h1 c hc
    · rw [List.mem_singleton.1 hc]; exact ha
  have he : (⟨#[]⟩ : ByteArray).size = 0 := rfl
  unfold sizeD at h2
  unfold rstD
  split
  · refine ⟨hm, ?_, ?_, ?_, ?_⟩
    · unfold sizeD; simp [he]; omega
    · dsimp only; omega
    · dsimp only; omega
    · simp; omega
  · refine ⟨hm, ?_, ?_, ?_, ?_⟩
    · unfold sizeD; simp [he]; omega
    · dsimp only; omega
    · dsimp only; omega
    · simp; omega
theorem foldD_size : ∀ (r : List S79) (D : Dk), (foldD D r).s0.size + (foldD D r).s1.size ≤ D.s0.size + D.s1.size + (r.map fun c => c.f2.size).sum
  | [], D => by simp [foldD]
  | c :: r, D => by
    have h := foldD_size r (landD D c)
    have h2 := landD_size D c
    show (foldD (landD D c) r).s0.size + (foldD (landD D c) r).s1.size ≤ _
    simp; omega
theorem foldD_n : ∀ (r : List S79) (D : Dk), (foldD D r).n0 = D.n0 ∧ (foldD D r).n1 = D.n1
  | [], D => ⟨rfl, rfl⟩
  | c :: r, D => by
    have h := foldD_n r (landD D c)
    show (foldD (landD D c) r).n0 = _ ∧ (foldD (landD D c) r).n1 = _
    rw [h.1, h.2]
    unfold landD; split <;> exact ⟨rfl, rfl⟩
theorem good_sync {D : Dk} {N m : Nat} (h : Good D N m) : Good (syncD D) N m := by
  obtain ⟨h1, h2, h3, h4, h5⟩ := h
  have hs := foldD_size D.l D
  have hn := foldD_n D.l D
  unfold syncD
  refine ⟨(by intro c hc; simp at hc), ?_, ?_, ?_, Nat.zero_le _⟩
  · unfold sizeD at h2 ⊢; simp; omega
  · dsimp only; rw [hn.1]; exact h3
  · dsimp only; rw [hn.2]; exact h4
theorem crashL_size (keep part : Int) : ∀ (r : List S79) (i : Nat) (E : Dk), (crashL keep part r i E).s0.size + (crashL keep part r i E).s1.size ≤ E.s0.size + E.s1.size + (r.map fun c => c.f2.size).sum
  | [], i, E => by simp [crashL]
  | c :: r, i, E => by
    rw [crashL_cons]
    split
    · split
      · simp <;> omega
      · have := landD_size E (partC c part)
        have hp : (partC c part).f2.size ≤ c.f2.size := by unfold partC; dsimp only; rw [ByteArray.size_extract]; omega
        simp; omega
    · have h := crashL_size keep part r (i + 1) (landD E c)
      have := landD_size E c
      simp; omega
theorem good_crash {D : Dk} {N m : Nat} (h : Good D N m) (keep part : Int) : Good (crashD D keep part) N m := by
  obtain ⟨h1, h2, h3, h4, h5⟩ := h
  have hs := crashL_size keep part D.l 0 D
  unfold crashD flat
  unfold sizeD at h2
  refine ⟨(by intro c hc; simp at hc), ?_, ?_, ?_, Nat.zero_le _⟩
  · unfold sizeD; simp <;> omega
  · dsimp only; omega
  · dsimp only; omega
/-- what a call does to a disk -/
def doesD (D : Dk) (c : S53) : Dk := if c.f0 = 0 then (if (c.f1 = 0 ∨ c.f1 = 1) ∧ c.f2.size + (nowD D c.f1).size ≤ 16384 then appD D c.f1 c.f2 else D) else if c.f0 = 1 then (if c.f1 = 0 ∨ c.f1 = 1 then rstD D c.f1 else D) else if c.f0 = 2 then syncD D else if c.f0 = 3 then crashD D c.f3 c.f4 else D
theorem good_does {D : Dk} {N m : Nat} (h : Good D N m) (c : S53) : Good (doesD D c) (N + c.f2.size) (m + 1) := by
  unfold doesD
  split
  · split
    · rename_i q
      exact good_app h _ _ q.1 q.2
    · exact good_mono h (by omega) (by omega)
  split
  · split
    · rename_i q
      exact good_mono (good_rst h _ q) (by omega) (Nat.le_refl _)
    · exact good_mono h (by omega) (by omega)
  split
  · exact good_mono (good_sync h) (by omega) (by omega)
  split
  · exact good_mono (good_crash h _ _) (by omega) (by omega)
  · exact good_mono h (by omega) (by omega)
theorem now_small {D : Dk} {N m : Nat} (h : Good D N m) (a : Int) : (nowD D a).size ≤ 16384 + N := by
  unfold nowD; split
  · exact h.2.2.1
  · exact h.2.2.2.1
def callCells (c : S53) : Array Value := #[.int .i64 c.f0, .int .i64 c.f1, .string c.f2, .int .i64 c.f3, .int .i64 c.f4]
set_option maxHeartbeats 3200000 in
set_option maxRecDepth 100000 in
theorem does_ok (g : Nat) (D : Dk) (v : Value) (c : S53) (N m : Nat) (w0 w : World) (hI : IsD w0 w g D v) (hB : Below w0.heap.size w0 w) (hG : Good D N m) (hN : N ≤ 1000000000) (hm : m ≤ 100000) (hs : c.f2.size ≤ 1099511627776) :
    Calls Try.prog 35 #[.pointer (some ⟨g, 0, none⟩), .agg (callCells c)] w fun e w' => (∃ n, e = .returned (.int .i64 n)) ∧ ∃ v', IsD w0 w' g (doesD D c) v' ∧ Below w0.heap.size w0 w' ∧ KeepBut w w' g v.ownBlock ∧ Nx w v v' := by
  have hu53 := Try.underlying53
  have bl := below_alloc (Below.refl w.heap.size w) (.cells (callCells c) 53)
  have hI1 := hI.below bl
  have hB1 := below_alloc hB (.cells (callCells c) 53)
  have hn := heap_alloc_new w (.cells (callCells c) 53)
  have c0 : (w.alloc (.cells (callCells c) 53)).cell? ⟨w.heap.size, 0, none⟩ = some (.int .i64 c.f0) := (blk_cell hn 0).trans rfl
  have c1 : (w.alloc (.cells (callCells c) 53)).cell? ⟨w.heap.size, 1, none⟩ = some (.int .i64 c.f1) := (blk_cell hn 1).trans rfl
  have c2 : (w.alloc (.cells (callCells c) 53)).cell? ⟨w.heap.size, 2, none⟩ = some (.string c.f2) := (blk_cell hn 2).trans rfl
  have c3 : (w.alloc (.cells (callCells c) 53)).cell? ⟨w.heap.size, 3, none⟩ = some (.int .i64 c.f3) := (blk_cell hn 3).trans rfl
  have c4 : (w.alloc (.cells (callCells c) 53)).cell? ⟨w.heap.size, 4, none⟩ = some (.int .i64 c.f4) := (blk_cell hn 4).trans rfl
  have hsz : w.heap.size ≤ (w.alloc (.cells (callCells c) 53)).heap.size := bl.size
  have hk1 : KeepBut w (w.alloc (.cells (callCells c) 53)) g none := keep_alloc (KeepBut.refl w g none) _
  have comp : ∀ w7 : World, KeepBut (w.alloc (.cells (callCells c) 53)) w7 g v.ownBlock → KeepBut w w7 g v.ownBlock := fun w7 h => ⟨Nat.le_trans hsz h.1, fun i hi h1 h2 => (h.2 i (by omega) h1 h2).trans (hk1.2 i hi h1 (by simp))⟩
  have nx : ∀ v', Nx (w.alloc (.cells (callCells c) 53)) v v' → Nx w v v' := fun v' h b hb => (h b hb).imp id (fun q => Nat.le_trans hsz q)
  have stay : ∀ n, IsD w0 ((w.alloc (.cells (callCells c) 53)).drewN n) g D v ∧ Below w0.heap.size w0 ((w.alloc (.cells (callCells c) 53)).drewN n) ∧ KeepBut w ((w.alloc (.cells (callCells c) 53)).drewN n) g v.ownBlock ∧ Nx w v v := fun n => ⟨hI1.below (pw_below_drewN (Below.refl _ _) n), pw_below_drewN hB1 n, KeepBut.weak (keep_drewN hk1 n), fun b hb => .inl hb⟩
  have hOk := hG.ok (by omega)
  have hlm := hG.2.2.2.2
  have hnow := now_small hG c.f1
  have HH := Aside0.mk (And.intro hI1 hB1)
  unfold callCells at c0 c1 c2 c3 c4 ⊢
  clear hn hI hB hI1 hB1 bl
  by_cases e0 : c.f0 = 0
  · have b0 : (c.f0 == 0) = true := by simpa using e0
    have hd : doesD D c = if (c.f1 = 0 ∨ c.f1 = 1) ∧ c.f2.size + (nowD D c.f1).size ≤ 16384 then appD D c.f1 c.f2 else D := by unfold doesD; rw [if_pos e0]
    clear e0
    by_cases ha : c.f1 = 0 ∨ c.f1 = 1
    · by_cases hf : c.f2.size + (nowD D c.f1).size ≤ 16384
      · rw [if_pos ⟨ha, hf⟩] at hd
        rw [hd]
        clear hd
        go_enter Try.func35, Try.ntmps35
        go_wp2_with (fail)
        refine (append_ok g c.f1 D v c.f2 w0 _ HH.out.1 HH.out.2 ha hf (by omega)).mono ?_
        rintro e w7 ⟨rfl, v', hI7, hB7, hk7, hx7⟩
        go_wp2
        go_ret
        exact ⟨⟨_, rfl⟩, v', hI7, hB7, comp _ hk7, nx _ hx7⟩
      · rw [if_neg (fun q => hf q.2)] at hd
        rw [hd]
        clear hd
        go_enter Try.func35, Try.ntmps35
        go_wp2_with (fail)
        refine (append_full g c.f1 D v c.f2 w0 _ HH.out.1 ha hf hs (by omega)).mono ?_
        rintro e w7 ⟨rfl, n, rfl⟩
        go_wp2
        go_ret
        exact ⟨⟨_, rfl⟩, v, stay n⟩
    · rw [if_neg (fun q => ha q.1)] at hd
      rw [hd]
      clear hd
      go_enter Try.func35, Try.ntmps35
      go_wp2_with (fail)
      refine (append_bad g c.f1 c.f2 _ ha).mono ?_
      rintro e w7 ⟨rfl, n, rfl⟩
      go_wp2
      go_ret
      exact ⟨⟨_, rfl⟩, v, stay n⟩
  have b0 : (c.f0 == 0) = false := by simpa using e0
  by_cases e1 : c.f0 = 1
  · have b1 : (c.f0 == 1) = true := by simpa using e1
    have hd : doesD D c = if c.f1 = 0 ∨ c.f1 = 1 then rstD D c.f1 else D := by unfold doesD; rw [if_neg e0, if_pos e1]
    clear e0 e1
    by_cases ha : c.f1 = 0 ∨ c.f1 = 1
    · rw [if_pos ha] at hd
      rw [hd]
      clear hd
      go_enter Try.func35, Try.ntmps35
      go_wp2_with (fail)
      refine (reset_ok g c.f1 D v w0 _ HH.out.1 HH.out.2 ha (by omega)).mono ?_
      rintro e w7 ⟨rfl, v', hI7, hB7, hk7, hx7⟩
      go_wp2
      go_ret
      exact ⟨⟨_, rfl⟩, v', hI7, hB7, comp _ hk7, nx _ hx7⟩
    · rw [if_neg ha] at hd
      rw [hd]
      clear hd
      go_enter Try.func35, Try.ntmps35
      go_wp2_with (fail)
      refine (reset_bad g c.f1 _ ha).mono ?_
      rintro e w7 ⟨rfl, n, rfl⟩
      go_wp2
      go_ret
      exact ⟨⟨_, rfl⟩, v, stay n⟩
  have b1 : (c.f0 == 1) = false := by simpa using e1
  by_cases e2 : c.f0 = 2
  · have b2 : (c.f0 == 2) = true := by simpa using e2
    have hd : doesD D c = syncD D := by unfold doesD; rw [if_neg e0, if_neg e1, if_pos e2]
    rw [hd]
    clear e0 e1 e2 hd
    go_enter Try.func35, Try.ntmps35
    go_wp2_with (fail)
    refine (sync_ok g D v w0 _ HH.out.1 HH.out.2 hOk (by omega)).mono ?_
    rintro e w7 ⟨rfl, hI7, hB7, hk7⟩
    go_wp2
    go_ret
    exact ⟨⟨_, rfl⟩, _, hI7, hB7, comp _ (KeepBut.weak hk7), fun b hb => by simp [Value.ownBlock] at hb⟩
  have b2 : (c.f0 == 2) = false := by simpa using e2
  by_cases e3 : c.f0 = 3
  · have b3 : (c.f0 == 3) = true := by simpa using e3
    have hd : doesD D c = crashD D c.f3 c.f4 := by unfold doesD; rw [if_neg e0, if_neg e1, if_neg e2, if_pos e3]
    rw [hd]
    clear e0 e1 e2 e3 hd
    go_enter Try.func35, Try.ntmps35
    go_wp2_with (fail)
    refine (crash_ok g D v c.f3 c.f4 w0 _ HH.out.1 HH.out.2 hOk (by omega)).mono ?_
    rintro e w7 ⟨rfl, hI7, hB7, hk7⟩
    go_wp2
    go_ret
    exact ⟨⟨_, rfl⟩, _, hI7, hB7, comp _ (KeepBut.weak hk7), fun b hb => by simp [Value.ownBlock] at hb⟩
  have b3 : (c.f0 == 3) = false := by simpa using e3
  have hd : doesD D c = D := by unfold doesD; rw [if_neg e0, if_neg e1, if_neg e2, if_neg e3]
  rw [hd]
  clear e0 e1 e2 e3 hd
  go_enter Try.func35, Try.ntmps35
  go_wp2
  go_ret
  exact ⟨⟨_, rfl⟩, v, stay 0⟩
/-! ### what a disk has is what is safe, and the changes that wait -/
def foldS0 (x : ByteArray) (r : List S79) : ByteArray := r.foldl (fun x c => if c.f0 = 0 then landS x c else x) x
def foldS1 (x : ByteArray) (r : List S79) : ByteArray := r.foldl (fun x c => if c.f0 = 0 then x else landS x c) x
theorem foldD_s : ∀ (r : List S79) (D : Dk), (foldD D r).s0 = foldS0 D.s0 r ∧ (foldD D r).s1 = foldS1 D.s1 r
  | [], D => ⟨rfl, rfl⟩
  | c :: r, D => by
    have h := foldD_s r (landD D c)
    show (foldD (landD D c) r).s0 = _ ∧ (foldD (landD D c) r).s1 = _
    rw [h.1, h.2]
    unfold landD foldS0 foldS1
    simp only [List.foldl_cons]
    split <;> exact ⟨rfl, rfl⟩
def Cons (D : Dk) : Prop := foldS0 D.s0 D.l = D.n0 ∧ foldS1 D.s1 D.l = D.n1
theorem cons_zero : Cons zeroDk := ⟨rfl, rfl⟩
theorem foldS0_snoc (x : ByteArray) (r : List S79) (c : S79) : foldS0 x (r ++ [c]) = if c.f0 = 0 then landS (foldS0 x r) c else foldS0 x r := by unfold foldS0; rw [List.foldl_append]; rfl
theorem foldS1_snoc (x : ByteArray) (r : List S79) (c : S79) : foldS1 x (r ++ [c]) = if c.f0 = 0 then foldS1 x r else landS (foldS1 x r) c := by unfold foldS1; rw [List.foldl_append]; rfl
theorem cons_app {D : Dk} (h : Cons D) (a : Int) (s : ByteArray) : Cons (appD D a s) := by
  obtain ⟨h1, h2⟩ := h
  unfold appD Cons
  split
  · rename_i e
    dsimp only
    rw [foldS0_snoc, foldS1_snoc, if_pos e, if_pos e, h1, h2]
    exact ⟨rfl, rfl⟩
  · rename_i e
    dsimp only
    rw [foldS0_snoc, foldS1_snoc, if_neg e, if_neg e, h1, h2]
    exact ⟨rfl, rfl⟩
theorem cons_rst {D : Dk} (h : Cons D) (a : Int) : Cons (rstD D a) := by
  obtain ⟨h1, h2⟩ := h
  unfold rstD Cons
  split
  · rename_i e
    dsimp only
    rw [foldS0_snoc, foldS1_snoc, if_pos e, if_pos e, h1, h2]
    exact ⟨rfl, rfl⟩
  · rename_i e
    dsimp only
    rw [foldS0_snoc, foldS1_snoc, if_neg e, if_neg e, h1, h2]
    exact ⟨rfl, rfl⟩
theorem sync_eq {D : Dk} (h : Cons D) : syncD D = ⟨D.n0, D.n0, D.n1, D.n1, []⟩ := by
  obtain ⟨h1, h2⟩ := h
  have hs := foldD_s D.l D
  have hn := foldD_n D.l D
  show (⟨(foldD D D.l).n0, (foldD D D.l).s0, (foldD D D.l).n1, (foldD D D.l).s1, []⟩ : Dk) = _
  rw [hs.1, hs.2, h1, h2, hn.1, hn.2]
theorem cons_sync {D : Dk} (h : Cons D) : Cons (syncD D) := by rw [sync_eq h]; exact ⟨rfl, rfl⟩
theorem cons_crash (D : Dk) (keep part : Int) : Cons (crashD D keep part) := ⟨rfl, rfl⟩
theorem cons_does {D : Dk} (h : Cons D) (c : S53) : Cons (doesD D c) := by
  unfold doesD
  split
  · split
    · exact cons_app h _ _
    · exact h
  split
  · split
    · exact cons_rst h _
    · exact h
  split
  · exact cons_sync h
  split
  · exact cons_crash _ _ _
  · exact h
def tot53 : List S53 → Nat
  | [] => 0
  | x :: r => x.f2.size + tot53 r
theorem rd53 {l : List S53} {i : Nat} {x : S53} {r : List S53} (h : l.drop i = x :: r) : rd_T53 l (i : Int) = x ∧ i < l.length ∧ l.drop (i + 1) = r := by
  have hi : i < l.length := by
    rcases Nat.lt_or_ge i l.length with h' | h'
    · exact h'
    · rw [List.drop_eq_nil_of_le h'] at h; cases h
  rw [List.drop_eq_getElem_cons hi] at h
  injection h with h1 h2
  refine ⟨?_, hi, h2⟩
  unfold rd_T53
  rw [Int.toNat_natCast, List.getD_eq_getElem?_getD, List.getElem?_eq_getElem hi]
  exact h1
def abc : ByteArray := ⟨#[97, 98, 99]⟩
def D1 : Dk := ⟨abc, ⟨#[]⟩, ⟨#[]⟩, ⟨#[]⟩, [⟨0, false, abc⟩]⟩
theorem d1_eq : appD zeroDk 0 abc = D1 := by
  unfold appD; rw [if_pos rfl]
  show (⟨(⟨#[]⟩ : ByteArray) ++ abc, _, _, _, _⟩ : Dk) = _
  rw [show (⟨#[]⟩ : ByteArray) ++ abc = abc from ByteArray.empty_append]; rfl
theorem d2_now : nowD (crashD D1 0 2) 0 = ⟨#[97, 98]⟩ := by decide +kernel
set_option maxHeartbeats 1600000 in
set_option maxRecDepth 100000 in
theorem alive_ok (w : World) : Calls Try.prog 28 #[] w fun e w' => e = .returned (.bool true) ∧ Below w.heap.size w w' := by
  go_enter Try.func28, Try.ntmps28
  go_wp2_with (fail)
  refine (new_ok w).mono ?_
  rintro e w1 ⟨rfl, rfl⟩
  have hI := new_isD w w (Below.refl _ _)
  have hB : Below w.heap.size w (w.alloc (.cells (dkCells zeroDk (.slice none 0 0)) 77)) := below_alloc (Below.refl _ _) _
  generalize w.alloc (.cells (dkCells zeroDk (.slice none 0 0)) 77) = w1 at hI hB ⊢
  go_wp2_with (fail)
  refine (append_ok w.heap.size 0 zeroDk (.slice none 0 0) abc w w1 hI hB (.inl rfl) (by decide) (Nat.zero_le _)).mono ?_
  rintro e w2 ⟨rfl, v2, hI2, hB2, _, _⟩
  rw [d1_eq] at hI2
  go_wp2_with (fail)
  refine (crash_ok w.heap.size D1 v2 0 2 w w2 hI2 hB2 ⟨by intro c hc; simp [D1] at hc; rw [hc]; exact .inl rfl, by decide⟩ (by decide)).mono ?_
  rintro e w3 ⟨rfl, hI3, hB3, _⟩
  go_wp2_with (fail)
  refine (read_ok w.heap.size 0 _ _ w w3 hI3 (.inl rfl)).mono ?_
  rintro e w4 ⟨rfl, n4, rfl⟩
  rw [d2_now]
  have hI4 := hI3.below (pw_below_drewN (Below.refl _ _) n4)
  go_wp2_with (fail)
  refine (waits_ok w.heap.size _ _ w _ hI4).mono ?_
  rintro e w5 ⟨rfl, n5, rfl⟩
  go_wp2
  go_ret
  exact ⟨rfl, pw_below_drewN hB3 _⟩
/-! ### Clone, Copy -/
theorem reps_one {w : World} {base : Nat} {ok : Nat → Prop} {l : List S79} {cs : List Value} (h : Reps (k79.M w base ok) k79.sz l cs) : ∀ u ∈ cs, u.oneCell' = true := by
  intro u hu
  obtain ⟨i, hi, rfl⟩ := List.mem_iff_getElem.1 hu
  have hs : k79.sz = 3 := rfl
  have hlen := h.1
  rw [hs] at hlen
  have hj : i / 3 < l.length := by omega
  have hp := h.2 (i / 3) _ (List.getElem?_eq_getElem hj)
  rw [hs] at hp
  refine k79.K_one (k79.K_of_M hp) _ ?_
  rw [List.mem_iff_getElem]
  have hm : i % 3 < 3 := Nat.mod_lt _ (by decide)
  have hd := Nat.div_add_mod i 3
  refine ⟨i % 3, by rw [List.length_take, List.length_drop]; omega, ?_⟩
  rw [List.getElem_take, List.getElem_drop]
  congr 1
  omega
set_option maxHeartbeats 3200000 in
set_option maxRecDepth 100000 in
theorem clone_ok (v : Value) (l : List S79) (base : Nat) (ok : Nat → Prop) (w : World) (h : k79.R 79 w base ok v l) (hl : l.length ≤ 100000) :
    Calls Try.prog 46 #[v] w fun e w' => ∃ v1, e = .returned v1 ∧ k79.R 79 w' w.heap.size (fun k => v1.ownBlock = some k) v1 l ∧ Below w.heap.size w w' := by
  have hu75 := Try.underlying75
  have q22 : ∀ (w : World) (a : Option Addr) (n c n' c' : Nat), (binOp .eql 75 (.slice a n c) (.slice none n' c')).run Try.prog w = .ok (.bool a.isNone) w := fun w a n c n' c' => Lib.run_eql_slice_nil w _ _ a n c n' c' Try.underlying75
  obtain ⟨inner, ho, hr⟩ := h.2
  have hone := reps_one hr
  rcases ho.2 with ⟨rfl, hx⟩ | ⟨g, cap, cur, rfl, hbg, hg, hnc, hcm, hcs, htake⟩
  · have : l = [] := List.eq_nil_of_length_eq_zero hx
    subst this
    go_enter Try.func46, Try.ntmps46
    go_wp2
    go_ret
    exact ⟨_, rfl, Kd.R_nil _ _ _ _ _, Below.refl _ _⟩
  · obtain ⟨i0, hi, hz0, hz1, hz2⟩ := info_parts info79D
    have hcell : ∀ j u, inner[j]? = some u → w.cell? ⟨g, j, none⟩ = some u := by
      intro j u hj
      have hjl : j < inner.length := by
        rcases Nat.lt_or_ge j inner.length with q | q
        · exact q
        · rw [List.getElem?_eq_none q] at hj; cases hj
      rw [blk_cell hg]
      have : cur.toList[j]? = some u := by
        rw [← htake] at hj
        rw [List.getElem?_take] at hj
        split at hj
        · exact hj
        · cases hj
      simpa using this
    have A := Aside0.mk (And.intro hcell (And.intro hr (And.intro hone ho.1)))
    clear hcell hr hone htake hcs hg ho h
    go_enter Try.func46, Try.ntmps46
    go_wp2_with (at_builtin; refine wpList_append_own _ rfl _ _ 75 rfl w.heap.size 79 i0 _ 3 _ hu75 hi hz0 hz1 hz2 rfl (by decide) _ _ _ rfl (World.ownsRow_made w #[] 0 (Nat.le_refl _) (Nat.zero_le _) (by simp)) ⟨g, 0, none⟩ l.length cap inner rfl ?qc1 ?qc2 ?qc3 ?qc4 ?qc5 ?qc6 ?_)
    case qc1 => exact A.out.2.2.2
    case qc2 =>
      intro j u hj
      rw [Addr.add_lit, Nat.zero_add]
      exact Lib.cell?_alloc_some _ (A.out.1 j u hj)
    case qc3 => exact A.out.2.2.1
    case qc4 => simp only [maxLen]; omega
    case qc5 => omega
    case qc6 => simp
    intro v' w1 hown hgrow hnil
    go_wp2
    go_ret
    refine ⟨v', rfl, ?_, ((Below.refl _ w).alloc (Nat.le_refl _) _).grown hgrow (by simp) (by intro k hk; simp [Value.ownBlock] at hk; omega)⟩
    refine ⟨fun k hk => hk, inner, show w1.ownsRow w.heap.size 79 3 v' l.length inner by simpa using hown, A.out.2.1.imp_ fun x cs hp => by rw [k79_openM hp]; exact k79_mkM _ _ _ x⟩
set_option maxHeartbeats 6400000 in
set_option maxRecDepth 100000 in
theorem copy_ok (g : Nat) (D : Dk) (v : Value) (w0 w : World) (hI : IsD w0 w g D v) (hB : Below w0.heap.size w0 w) (hl : D.l.length ≤ 100000) :
    Calls Try.prog 31 #[.pointer (some ⟨g, 0, none⟩)] w fun e w' => ∃ g' v', e = .returned (.pointer (some ⟨g', 0, none⟩)) ∧ w.heap.size ≤ g' ∧ IsD w0 w' g' D v' ∧ (∀ b, v'.ownBlock = some b → w.heap.size ≤ b) ∧ Below w.heap.size w w' := by
  have hu77 := Try.underlying77
  have hu75 := Try.underlying75
  have hu74 := Try.underlying74
  have hu73 := Try.underlying73
  have hu9 := Try.underlying9
  have hu44 := Try.underlying44
  obtain ⟨A, c, rfl⟩ := Kd.R_slice hI.2.2
  obtain ⟨n0, s0, n1, s1, l⟩ := D
  have c0 : w.cell? ⟨g, 0, none⟩ = some (.string n0) := (blk_cell hI.1 0).trans rfl
  have c1 : w.cell? ⟨g, 1, none⟩ = some (.string s0) := (blk_cell hI.1 1).trans rfl
  have c2 : w.cell? ⟨g, 2, none⟩ = some (.string n1) := (blk_cell hI.1 2).trans rfl
  have c3 : w.cell? ⟨g, 3, none⟩ = some (.string s1) := (blk_cell hI.1 3).trans rfl
  have c4 : w.cell? ⟨g, 4, none⟩ = some (.slice A l.length c) := (blk_cell hI.1 4).trans rfl
  have hl : l.length ≤ 100000 := hl
  have hne := blk_lt hI.1
  have H := Aside0.mk (And.intro hI hB)
  clear hI hB
  go_enter Try.func31, Try.ntmps31
  go_wp2_with (fail)
  go_region_held3 (fun w' => w'.cell? ⟨g, 0, none⟩ = some (.string n0) ∧ w'.cell? ⟨g, 1, none⟩ = some (.string s0) ∧ w'.cell? ⟨g, 2, none⟩ = some (.string n1) ∧ w'.cell? ⟨g, 3, none⟩ = some (.string s1) ∧ w'.cell? ⟨g, 4, none⟩ = some (.slice A l.length c)) (go_keep)
    (first | (go_at_call 46; refine (clone_ok (.slice A l.length c) l _ _ w.drew (Kd.R_below H.out.1.2.2 (pw_below_drewN (Below.refl _ _) 1)) hl).mono ?_; rintro e w7 ⟨v1, rfl, hR, hb⟩; obtain ⟨A1, e1, rfl⟩ := Kd.R_slice hR; have d0 := (hb.cell hne).trans c0; have d1 := (hb.cell hne).trans c1; have d2 := (hb.cell hne).trans c2; have d3 := (hb.cell hne).trans c3; have d4 := (hb.cell hne).trans c4))
  go_wp2
  go_ret
  have hlt : w.heap.size ≤ w7.heap.size := hb.size
  have hB7 : Below w.heap.size w w7 := (pw_below_drewN (Below.refl _ w) 1).trans hb
  have ba := fun o => below_alloc (Below.refl w7.heap.size w7) o
  exact ⟨w7.heap.size, .slice A1 l.length e1, rfl, hlt, ⟨heap_alloc_new w7 _, Nat.le_trans H.out.2.size hlt, Kd.R_lower (Kd.R_below hR (ba _)) H.out.2.size⟩, fun b hbo => by obtain ⟨inner, ho, _⟩ := hR.2; exact own_base ho b hbo, below_alloc hB7 _⟩
theorem IsD.lt {w0 W : World} {g : Nat} {D : Dk} {v : Value} (h : IsD w0 W g D v) (b : Nat) (hb : v.ownBlock = some b) : b < W.heap.size := by
  obtain ⟨inner, ho, _⟩ := h.2.2.2
  exact own_lt ho b hb
theorem IsD.ne77 {w0 W : World} {g g' : Nat} {D D' : Dk} {v v' : Value} (h : IsD w0 W g D v) (h' : IsD w0 W g' D' v') : some g' ≠ v.ownBlock := Kd.R_ne h.2.2 h'.1 (by decide)
theorem crashL_all (keep part : Int) : ∀ (r : List S79) (i : Nat) (E : Dk), ((i + r.length : Nat) : Int) ≤ keep → crashL keep part r i E = foldD E r
  | [], i, E, h => rfl
  | c :: r, i, E, h => by
    rw [List.length_cons] at h
    rw [crashL_cons, if_neg (by omega), crashL_all keep part r (i + 1) (landD E c) (by omega)]
    rfl
theorem crash_all {D : Dk} (hC : Cons D) (keep part : Int) (h : (D.l.length : Int) ≤ keep) : crashD D keep part = syncD D := by
  have hs := foldD_s D.l D
  unfold crashD
  rw [crashL_all keep part D.l 0 D (by simpa using h), sync_eq hC]
  unfold flat
  rw [hs.1, hs.2, hC.1, hC.2]
theorem IsD.past0 {w0 W W' : World} {g g' : Nat} {D D' : Dk} {v v' : Value} (h : IsD w0 W g D v) (h' : IsD w0 W g' D' v') (k : KeepBut W W' g' none) (hg : g ≠ g') : IsD w0 W' g D v :=
  h.keep k hg (by simp) (fun b hb => ⟨fun e => (h.ne77 h') (by rw [hb, e]), by simp⟩)
/-! ### a call's error -/
def errD (D : Dk) (c : S53) : Int := if c.f0 = 0 then (if c.f1 = 0 ∨ c.f1 = 1 then (if c.f2.size + (nowD D c.f1).size ≤ 16384 then 0 else 6) else 1) else if c.f0 = 1 then (if c.f1 = 0 ∨ c.f1 = 1 then 0 else 1) else 0
set_option maxHeartbeats 3200000 in
set_option maxRecDepth 100000 in
theorem does_err (g : Nat) (D : Dk) (v : Value) (c : S53) (N m : Nat) (w0 w : World) (hI : IsD w0 w g D v) (hB : Below w0.heap.size w0 w) (hG : Good D N m) (hN : N ≤ 1000000000) (hm : m ≤ 100000) (hs : c.f2.size ≤ 1099511627776) :
    Calls Try.prog 35 #[.pointer (some ⟨g, 0, none⟩), .agg (callCells c)] w fun e w' => e = .returned (.int .i64 (errD D c)) ∧ ∃ v', IsD w0 w' g (doesD D c) v' ∧ Below w0.heap.size w0 w' ∧ KeepBut w w' g v.ownBlock ∧ Nx w v v' := by
  have hu53 := Try.underlying53
  have bl := below_alloc (Below.refl w.heap.size w) (.cells (callCells c) 53)
  have hI1 := hI.below bl
  have hB1 := below_alloc hB (.cells (callCells c) 53)
  have hn := heap_alloc_new w (.cells (callCells c) 53)
  have c0 : (w.alloc (.cells (callCells c) 53)).cell? ⟨w.heap.size, 0, none⟩ = some (.int .i64 c.f0) := (blk_cell hn 0).trans rfl
  have c1 : (w.alloc (.cells (callCells c) 53)).cell? ⟨w.heap.size, 1, none⟩ = some (.int .i64 c.f1) := (blk_cell hn 1).trans rfl
  have c2 : (w.alloc (.cells (callCells c) 53)).cell? ⟨w.heap.size, 2, none⟩ = some (.string c.f2) := (blk_cell hn 2).trans rfl
  have c3 : (w.alloc (.cells (callCells c) 53)).cell? ⟨w.heap.size, 3, none⟩ = some (.int .i64 c.f3) := (blk_cell hn 3).trans rfl
  have c4 : (w.alloc (.cells (callCells c) 53)).cell? ⟨w.heap.size, 4, none⟩ = some (.int .i64 c.f4) := (blk_cell hn 4).trans rfl
  have hsz : w.heap.size ≤ (w.alloc (.cells (callCells c) 53)).heap.size := bl.size
  have hk1 : KeepBut w (w.alloc (.cells (callCells c) 53)) g none := keep_alloc (KeepBut.refl w g none) _
  have comp : ∀ w7 : World, KeepBut (w.alloc (.cells (callCells c) 53)) w7 g v.ownBlock → KeepBut w w7 g v.ownBlock := fun w7 h => ⟨Nat.le_trans hsz h.1, fun i hi h1 h2 => (h.2 i (by omega) h1 h2).trans (hk1.2 i hi h1 (by simp))⟩
  have nx : ∀ v', Nx (w.alloc (.cells (callCells c) 53)) v v' → Nx w v v' := fun v' h b hb => (h b hb).imp id (fun q => Nat.le_trans hsz q)
  have stay : ∀ n, IsD w0 ((w.alloc (.cells (callCells c) 53)).drewN n) g D v ∧ Below w0.heap.size w0 ((w.alloc (.cells (callCells c) 53)).drewN n) ∧ KeepBut w ((w.alloc (.cells (callCells c) 53)).drewN n) g v.ownBlock ∧ Nx w v v := fun n => ⟨hI1.below (pw_below_drewN (Below.refl _ _) n), pw_below_drewN hB1 n, KeepBut.weak (keep_drewN hk1 n), fun b hb => .inl hb⟩
  have hOk := hG.ok (by omega)
  have hlm := hG.2.2.2.2
  have hnow := now_small hG c.f1
  have HH := Aside0.mk (And.intro hI1 hB1)
  unfold callCells at c0 c1 c2 c3 c4 ⊢
  clear hn hI hB hI1 hB1 bl
  by_cases e0 : c.f0 = 0
  · have b0 : (c.f0 == 0) = true := by simpa using e0
    have hd : doesD D c = if (c.f1 = 0 ∨ c.f1 = 1) ∧ c.f2.size + (nowD D c.f1).size ≤ 16384 then appD D c.f1 c.f2 else D := by unfold doesD; rw [if_pos e0]
    have he : errD D c = if c.f1 = 0 ∨ c.f1 = 1 then (if c.f2.size + (nowD D c.f1).size ≤ 16384 then 0 else 6) else 1 := by unfold errD; rw [if_pos e0]
    clear e0
    by_cases ha : c.f1 = 0 ∨ c.f1 = 1
    · by_cases hf : c.f2.size + (nowD D c.f1).size ≤ 16384
      · rw [if_pos ⟨ha, hf⟩] at hd
        rw [if_pos ha, if_pos hf] at he
        rw [hd]
        clear hd
        go_enter Try.func35, Try.ntmps35
        go_wp2_with (fail)
        refine (append_ok g c.f1 D v c.f2 w0 _ HH.out.1 HH.out.2 ha hf (by omega)).mono ?_
        rintro e w7 ⟨rfl, v', hI7, hB7, hk7, hx7⟩
        go_wp2
        go_ret
        exact ⟨by rw [he] <;> rfl, v', hI7, hB7, comp _ hk7, nx _ hx7⟩
      · rw [if_neg (fun q => hf q.2)] at hd
        rw [if_pos ha, if_neg hf] at he
        rw [hd]
        clear hd
        go_enter Try.func35, Try.ntmps35
        go_wp2_with (fail)
        refine (append_full g c.f1 D v c.f2 w0 _ HH.out.1 ha hf hs (by omega)).mono ?_
        rintro e w7 ⟨rfl, n, rfl⟩
        go_wp2
        go_ret
        exact ⟨by rw [he] <;> rfl, v, stay n⟩
    · rw [if_neg (fun q => ha q.1)] at hd
      rw [if_neg ha] at he
      rw [hd]
      clear hd
      go_enter Try.func35, Try.ntmps35
      go_wp2_with (fail)
      refine (append_bad g c.f1 c.f2 _ ha).mono ?_
      rintro e w7 ⟨rfl, n, rfl⟩
      go_wp2
      go_ret
      exact ⟨by rw [he] <;> rfl, v, stay n⟩
  have b0 : (c.f0 == 0) = false := by simpa using e0
  by_cases e1 : c.f0 = 1
  · have b1 : (c.f0 == 1) = true := by simpa using e1
    have hd : doesD D c = if c.f1 = 0 ∨ c.f1 = 1 then rstD D c.f1 else D := by unfold doesD; rw [if_neg e0, if_pos e1]
    have he : errD D c = if c.f1 = 0 ∨ c.f1 = 1 then 0 else 1 := by unfold errD; rw [if_neg e0, if_pos e1]
    clear e0 e1
    by_cases ha : c.f1 = 0 ∨ c.f1 = 1
    · rw [if_pos ha] at hd
      rw [if_pos ha] at he
      rw [hd]
      clear hd
      go_enter Try.func35, Try.ntmps35
      go_wp2_with (fail)
      refine (reset_ok g c.f1 D v w0 _ HH.out.1 HH.out.2 ha (by omega)).mono ?_
      rintro e w7 ⟨rfl, v', hI7, hB7, hk7, hx7⟩
      go_wp2
      go_ret
      exact ⟨by rw [he] <;> rfl, v', hI7, hB7, comp _ hk7, nx _ hx7⟩
    · rw [if_neg ha] at hd
      rw [if_neg ha] at he
      rw [hd]
      clear hd
      go_enter Try.func35, Try.ntmps35
      go_wp2_with (fail)
      refine (reset_bad g c.f1 _ ha).mono ?_
      rintro e w7 ⟨rfl, n, rfl⟩
      go_wp2
      go_ret
      exact ⟨by rw [he] <;> rfl, v, stay n⟩
  have b1 : (c.f0 == 1) = false := by simpa using e1
  by_cases e2 : c.f0 = 2
  · have b2 : (c.f0 == 2) = true := by simpa using e2
    have hd : doesD D c = syncD D := by unfold doesD; rw [if_neg e0, if_neg e1, if_pos e2]
    rw [hd]
    have he : errD D c = 0 := by unfold errD; rw [if_neg e0, if_neg e1]
    clear e0 e1 e2 hd
    go_enter Try.func35, Try.ntmps35
    go_wp2_with (fail)
    refine (sync_ok g D v w0 _ HH.out.1 HH.out.2 hOk (by omega)).mono ?_
    rintro e w7 ⟨rfl, hI7, hB7, hk7⟩
    go_wp2
    go_ret
    exact ⟨by rw [he] <;> rfl, _, hI7, hB7, comp _ (KeepBut.weak hk7), fun b hb => by simp [Value.ownBlock] at hb⟩
  have b2 : (c.f0 == 2) = false := by simpa using e2
  by_cases e3 : c.f0 = 3
  · have b3 : (c.f0 == 3) = true := by simpa using e3
    have hd : doesD D c = crashD D c.f3 c.f4 := by unfold doesD; rw [if_neg e0, if_neg e1, if_neg e2, if_pos e3]
    rw [hd]
    have he : errD D c = 0 := by unfold errD; rw [if_neg e0, if_neg e1]
    clear e0 e1 e2 e3 hd
    go_enter Try.func35, Try.ntmps35
    go_wp2_with (fail)
    refine (crash_ok g D v c.f3 c.f4 w0 _ HH.out.1 HH.out.2 hOk (by omega)).mono ?_
    rintro e w7 ⟨rfl, hI7, hB7, hk7⟩
    go_wp2
    go_ret
    exact ⟨by rw [he] <;> rfl, _, hI7, hB7, comp _ (KeepBut.weak hk7), fun b hb => by simp [Value.ownBlock] at hb⟩
  have b3 : (c.f0 == 3) = false := by simpa using e3
  have hd : doesD D c = D := by unfold doesD; rw [if_neg e0, if_neg e1, if_neg e2, if_neg e3]
  rw [hd]
  have he : errD D c = 0 := by unfold errD; rw [if_neg e0, if_neg e1]
  clear e0 e1 e2 e3 hd
  go_enter Try.func35, Try.ntmps35
  go_wp2
  go_ret
  exact ⟨by rw [he] <;> rfl, v, stay 0⟩
theorem C_one (W : World) (c : S53) : Kd.C k53 (W.alloc (.cells (callCells c) 53)) (some ⟨W.heap.size, 0, none⟩) [c].length [c] := by
  have h := heap_alloc_new W (.cells (callCells c) 53)
  refine ⟨rfl, by simp, fun _ => ⟨_, rfl, fun j p hj => ?_⟩⟩
  cases j with
  | zero =>
    simp only [List.getElem?_cons_zero, Option.some.injEq] at hj
    subst hj
    refine ⟨_, rfl, k53_mk _ c, fun i u hu => ?_⟩
    rw [Addr.add_lit]
    refine (blk_cell h _).trans ?_
    simpa [callCells] using hu
  | succ j => simp at hj
theorem past_ne {w0 W W' : World} {g g' : Nat} {D D' : Dk} {v v' : Value} (h : IsD w0 W g D v) (h' : IsD w0 W g' D' v') (k : KeepBut W W' g' v'.ownBlock) (hg : g ≠ g') (hn : NeRow v v') : IsD w0 W' g D v :=
  h.keep k hg (h'.ne77 h) (fun b hb => ⟨fun e => (h.ne77 h') (by rw [hb, e]), fun e => hn b hb e.symm⟩)
theorem ne_nx {w0 W : World} {g : Nat} {D : Dk} {u v v' : Value} (h : IsD w0 W g D u) (hn : NeRow u v) (hx : Nx W v v') : NeRow u v' := fun b hb hb' => (hx b hb').elim (fun q => hn b hb q) (fun q => by have := h.lt b hb; omega)
def call1 : S53 := ⟨1, 0, ⟨#[]⟩, 0, 0⟩
set_option maxHeartbeats 12800000 in
set_option maxRecDepth 100000 in
theorem copies_main (P : ∀ (l0 : List (S53)), ∃ k b, countermandlaw03_great.f k l0 = some b ∧ (b = false → l0.length ≤ 60 ∧ tot53 l0 ≤ 32768)) (A0 : Option Addr) (c0 : Nat) (l : List S53) (c : S53) (w : World) (hr0 : Kd.C k53 w A0 l.length l) (hc0 : l.length ≤ c0) :
    Calls Try.prog 13 #[.slice A0 l.length c0, .agg (callCells c)] w fun e w' => e = .returned (.bool true) ∧ Below w.heap.size w w' := by
  have hu53 := Try.underlying53
  have hu50 := Try.underlying50
  have hu46 := Try.underlying46
  have hu3 := Try.underlying3
  have hu9 := Try.underlying9
  have bl0 := below_alloc (Below.refl w.heap.size w) (.cells (callCells c) 53)
  have hcA := heap_alloc_new w (.cells (callCells c) 53)
  have hgc := blk_lt hcA
  have k0 : (w.alloc (.cells (callCells c) 53)).cell? ⟨w.heap.size, 0, none⟩ = some (.int .i64 c.f0) := (blk_cell hcA 0).trans rfl
  have k1 : (w.alloc (.cells (callCells c) 53)).cell? ⟨w.heap.size, 1, none⟩ = some (.int .i64 c.f1) := (blk_cell hcA 1).trans rfl
  have k2 : (w.alloc (.cells (callCells c) 53)).cell? ⟨w.heap.size, 2, none⟩ = some (.string c.f2) := (blk_cell hcA 2).trans rfl
  have k3 : (w.alloc (.cells (callCells c) 53)).cell? ⟨w.heap.size, 3, none⟩ = some (.int .i64 c.f3) := (blk_cell hcA 3).trans rfl
  have k4 : (w.alloc (.cells (callCells c) 53)).cell? ⟨w.heap.size, 4, none⟩ = some (.int .i64 c.f4) := (blk_cell hcA 4).trans rfl
  obtain ⟨kk, b, hg, hgb⟩ := P l
  obtain ⟨kc, bc, hgC, hgcb⟩ := P [c]
  have H := Aside0.mk (And.intro (Kd.C_below hr0 bl0) (And.intro hg (And.intro hgC bl0)))
  clear hr0 hg hgC bl0 hcA
  go_enter Try.func13, Try.ntmps13
  go_wp2_with (fail)
  unfold callCells
  unfold callCells at k0 k1 k2 k3 k4 H hgc
  generalize w.alloc (.cells #[.int .i64 c.f0, .int .i64 c.f1, .string c.f2, .int .i64 c.f3, .int .i64 c.f4] 53) = wA at *
  have cells : ∀ W, Below wA.heap.size wA W → W.cell? ⟨w.heap.size, 0, none⟩ = some (.int .i64 c.f0) ∧ W.cell? ⟨w.heap.size, 1, none⟩ = some (.int .i64 c.f1) ∧ W.cell? ⟨w.heap.size, 2, none⟩ = some (.string c.f2) ∧ W.cell? ⟨w.heap.size, 3, none⟩ = some (.int .i64 c.f3) ∧ W.cell? ⟨w.heap.size, 4, none⟩ = some (.int .i64 c.f4) := fun W hB => ⟨(hB.cell hgc).trans k0, (hB.cell hgc).trans k1, (hB.cell hgc).trans k2, (hB.cell hgc).trans k3, (hB.cell hgc).trans k4⟩
  clear k0 k1 k2 k3 k4 hgc
  refine (alive_ok wA).mono ?_
  rintro e w1 ⟨rfl, hB1⟩
  go_wp2_with (fail)
  refine (countermandlaw03_great.calls kk A0 c0 l b w1 (Kd.C_below H.out.1 hB1) hc0 H.out.2.1).mono ?_
  rintro e w2 ⟨rfl, hB2⟩
  have hB2' : Below wA.heap.size wA w2 := hB1.trans (hB2.mono hB1.size)
  clear hB1 hB2
  cases b
  case true =>
    go_wp2
    go_ret
    exact ⟨rfl, H.out.2.2.2.trans (hB2'.mono H.out.2.2.2.size)⟩
  obtain ⟨k0, k1, k2, k3, k4⟩ := cells w2 hB2'
  go_wp2_with (fail)
  refine (countermandlaw03_great.calls kc _ 1 [c] bc _ (C_one w2 c) (Nat.le_refl _) H.out.2.2.1).mono ?_
  rintro e w3 ⟨rfl, hB3⟩
  have hB3' : Below wA.heap.size wA w3 := (below_alloc hB2' _).trans (hB3.mono (below_alloc hB2' _).size)
  clear hB3 k0 k1 k2 k3 k4
  cases bc
  case true =>
    go_wp2
    go_ret
    exact ⟨rfl, H.out.2.2.2.trans (hB3'.mono H.out.2.2.2.size)⟩
  obtain ⟨hl, ht⟩ := hgb (by trivial)
  have hcs : c.f2.size ≤ 32768 := by have := (hgcb (by trivial)).2; simpa [tot53] using this
  clear hB2' P hgb hgcb
  go_wp2_with (fail)
  refine (new_ok w3).mono ?_
  rintro e w4 ⟨rfl, rfl⟩
  have HS := Aside0.mk (And.intro (new_isD wA w3 hB3') (below_alloc hB3' (.cells (dkCells zeroDk (.slice none 0 0)) 77)))
  generalize w3.alloc (.cells (dkCells zeroDk (.slice none 0 0)) 77) = w4 at HS ⊢
  generalize w3.heap.size = g at HS ⊢
  clear hB3'
  go_wp2
  go_loopg [25] l.length (fun m v wr => ∃ (j : Nat) (D : Dk) (u : Value) (N : Nat), v = .int .i64 (j : Int) ∧ m + j = l.length ∧ Aside0 (IsD wA wr g D u ∧ Good D N j ∧ N + tot53 (l.drop j) ≤ 32768 ∧ Cons D ∧ Below wA.heap.size wA wr))
  case atStart => exact ⟨0, zeroDk, .slice none 0 0, 0, rfl, by omega, ⟨HS.out.1, good_zero, by rw [List.drop_zero]; omega, cons_zero, HS.out.2⟩⟩
  case round =>
    clear HS
    obtain ⟨j, D, u, N, rfl, hj, HC⟩ := hrel
    have hNt := HC.out.2.2.1
    by_cases hlt : j < l.length
    · have q0 : decide ((j : Int) < (l.length : Int)) = true := decide_eq_true (by omega)
      obtain ⟨ad, rfl, x0, x1, x2, x3, x4⟩ := at_T53 (Kd.C_below H.out.1 HC.out.2.2.2.2) (j : Int) (by omega) (by omega)
      simp only [Int.toNat_natCast] at x0 x1 x2 x3 x4
      obtain ⟨x, r, hx⟩ : ∃ x r, l.drop j = x :: r := ⟨_, _, List.drop_eq_getElem_cons hlt⟩
      obtain ⟨hrd, _, hr⟩ := rd53 hx
      rw [hrd] at x0 x1 x2 x3 x4
      have p0 : ((0 : Int) ≤ (j : Int)) = True := eq_true (by omega)
      have p1 : ((j : Int) < (l.length : Int)) = True := eq_true (by omega)
      have hxt : tot53 (l.drop j) = x.f2.size + tot53 r := by rw [hx]; rfl
      rw [hxt] at hNt
      go_wp2_with (fail)
      have bl := fun o => below_alloc (Below.refl wr.heap.size wr) o
      refine (does_ok g D u x N j wA _ (HC.out.1.below (bl _)) (below_alloc HC.out.2.2.2.2 _) HC.out.2.1 (by omega) (by omega) (by omega)).mono ?_
      rintro e w7 ⟨⟨n7, rfl⟩, u7, hI7, hB7, _, _⟩
      go_wp2
      go_roundg (l.length - (j + 1))
      case rel => exact ⟨j + 1, doesD D x, u7, N + x.f2.size, (by rw [Int.natCast_add]; rfl), (by omega), ⟨hI7, good_does HC.out.2.1 x, (by rw [hr]; omega), cons_does HC.out.2.2.2.1 x, hB7⟩⟩
      case measure => omega
    · obtain rfl : j = l.length := by omega
      have q0 : decide ((l.length : Int) < (l.length : Int)) = false := decide_eq_false (by omega)
      have hG := HC.out.2.1
      have hl6 := hG.2.2.2.2
      have hgl : g < wr.heap.size := blk_lt HC.out.1.1
      have hN9 : N ≤ 32768 := by omega
      clear hNt hj
      go_wp2_with (fail)
      refine (copy_ok g D u wA wr HC.out.1 HC.out.2.2.2.2 (by omega)).mono ?_
      rintro e w1 ⟨g1, v1, rfl, hg1, hI1, hv1, hb1⟩
      have n1 : g ≠ g1 := by omega
      have nr1 : NeRow v1 u := fun b hb hb' => by have := hv1 b hb; have := HC.out.1.lt b hb'; omega
      have K1 := Aside0.mk (show IsD wA w1 g D u ∧ IsD wA w1 g1 D v1 ∧ Below wA.heap.size wA w1 from ⟨HC.out.1.below hb1, hI1, HC.out.2.2.2.2.trans (hb1.mono HC.out.2.2.2.2.size)⟩)
      clear hI1 hb1 hv1
      go_wp2_with (fail)
      refine (read_ok g 0 _ _ wA _ K1.out.1 (.inl rfl)).mono ?_
      rintro e w5 ⟨rfl, n5, rfl⟩
      go_wp2_with (fail)
      refine (read_ok g 1 _ _ wA _ (K1.out.1.below (pw_below_drewN (Below.refl _ _) _)) (.inr rfl)).mono ?_
      rintro e w6 ⟨rfl, n6, rfl⟩
      go_wp2_with (fail)
      refine (waits_ok g _ _ wA _ (K1.out.1.below (pw_below_drewN (Below.refl _ _) _))).mono ?_
      rintro e w7 ⟨rfl, n7, rfl⟩
      obtain ⟨k0, k1, k2, k3, k4⟩ := cells w1 K1.out.2.2
      go_wp2_with (fail)
      refine (does_ok g1 D v1 c N l.length wA _ (K1.out.2.1.below (pw_below_drewN (Below.refl _ _) _)) (pw_below_drewN K1.out.2.2 _) hG (by omega) (by omega) (by omega)).mono ?_
      rintro e w8 ⟨⟨m8, rfl⟩, v8, hI8, hB8, hk8, hx8⟩
      have K8 := Aside0.mk (show IsD wA w8 g D u ∧ IsD wA w8 g1 (doesD D c) v8 ∧ Below wA.heap.size wA w8 ∧ NeRow u v8 from ⟨past_ne (K1.out.1.below (pw_below_drewN (Below.refl _ _) _)) (K1.out.2.1.below (pw_below_drewN (Below.refl _ _) _)) hk8 n1 (ne_symm nr1), hI8, hB8, ne_nx (K1.out.1.below (pw_below_drewN (Below.refl _ _) _)) (ne_symm nr1) hx8⟩)
      clear hI8 hB8 hk8 hx8 K1 nr1 k0 k1 k2 k3 k4
      go_wp2_with (fail)
      refine (does_ok g1 (doesD D c) v8 call1 (N + c.f2.size) (l.length + 1) wA w8 K8.out.2.1 K8.out.2.2.1 (good_does hG c) (by omega) (by omega) (Nat.zero_le _)).mono ?_
      rintro e w9 ⟨⟨m9, rfl⟩, v9, hI9, hB9, hk9, _⟩
      have K9 := Aside0.mk (show IsD wA w9 g D u ∧ Below wA.heap.size wA w9 from ⟨past_ne K8.out.1 K8.out.2.1 hk9 n1 K8.out.2.2.2, hB9⟩)
      clear hI9 hB9 hk9 K8
      go_wp2_with (fail)
      refine (read_ok g 0 _ _ wA _ K9.out.1 (.inl rfl)).mono ?_
      rintro e w10 ⟨rfl, n10, rfl⟩
      go_wp2_with (fail)
      refine (read_ok g 1 _ _ wA _ (K9.out.1.below (pw_below_drewN (Below.refl _ _) _)) (.inr rfl)).mono ?_
      rintro e w11 ⟨rfl, n11, rfl⟩
      go_wp2_with (fail)
      refine (waits_ok g _ _ wA _ (K9.out.1.below (pw_below_drewN (Below.refl _ _) _))).mono ?_
      rintro e w12 ⟨rfl, n12, rfl⟩
      go_wp2_with (fail)
      have K12 := Aside0.mk (show IsD wA (w9.drewN (n10 + n11 + n12)) g D u ∧ Below wA.heap.size wA (w9.drewN (n10 + n11 + n12)) from ⟨K9.out.1.below (pw_below_drewN (Below.refl _ _) _), pw_below_drewN K9.out.2 _⟩)
      generalize w9.drewN (n10 + n11 + n12) = w12 at K12 ⊢
      refine (copy_ok g D u wA w12 K12.out.1 K12.out.2 (by omega)).mono ?_
      rintro e w13 ⟨g2, v2, rfl, hg2, hI2, hv2, hb2⟩
      have hgl2 : g < w12.heap.size := blk_lt K12.out.1.1
      have n2 : g ≠ g2 := by omega
      have nr2 : NeRow u v2 := fun b hb hb' => by have := hv2 b hb'; have := K12.out.1.lt b hb; omega
      have K13 := Aside0.mk (show IsD wA w13 g D u ∧ IsD wA w13 g2 D v2 ∧ Below wA.heap.size wA w13 from ⟨K12.out.1.below hb2, hI2, K12.out.2.trans (hb2.mono K12.out.2.size)⟩)
      clear hI2 hb2 hv2 K12 K9
      obtain ⟨k0, k1, k2, k3, k4⟩ := cells w13 K13.out.2.2
      go_wp2_with (fail)
      go_region_held3 (fun w' => w'.cell? ⟨w.heap.size, 0, none⟩ = some (.int .i64 c.f0) ∧ w'.cell? ⟨w.heap.size, 1, none⟩ = some (.int .i64 c.f1) ∧ w'.cell? ⟨w.heap.size, 2, none⟩ = some (.string c.f2) ∧ w'.cell? ⟨w.heap.size, 3, none⟩ = some (.int .i64 c.f3) ∧ w'.cell? ⟨w.heap.size, 4, none⟩ = some (.int .i64 c.f4)) (go_keep)
        (first
          | (go_at_call_of 35 (Value.pointer (some ⟨g, 0, none⟩)); refine (does_err g D u c N l.length wA _ (K13.out.1.below (pw_below_drewN (Below.refl _ _) _)) (pw_below_drewN K13.out.2.2 _) hG (by omega) (by omega) (by omega)).mono ?_; rintro e w14 ⟨rfl, u14, hI14, hB14, hk14, hx14⟩; have K14 := Aside0.mk (show IsD wA w14 g (doesD D c) u14 ∧ IsD wA w14 g2 D v2 ∧ NeRow u14 v2 ∧ Below wA.heap.size wA w14 from ⟨hI14, past_ne (K13.out.2.1.below (pw_below_drewN (Below.refl _ _) _)) (K13.out.1.below (pw_below_drewN (Below.refl _ _) _)) hk14 (Ne.symm n2) (ne_symm nr2), ne_symm (ne_nx (K13.out.2.1.below (pw_below_drewN (Below.refl _ _) _)) (ne_symm nr2) hx14), hB14⟩); obtain ⟨k0, k1, k2, k3, k4⟩ := cells w14 hB14; clear hI14 hB14 hk14 hx14)
          | (go_at_call_of 35 (Value.pointer (some ⟨g2, 0, none⟩)); refine (does_err g2 D v2 c N l.length wA _ K14.out.2.1 K14.out.2.2.2 hG (by omega) (by omega) (by omega)).mono ?_; rintro e w15 ⟨rfl, v15, hI15, hB15, hk15, hx15⟩; have K15 := Aside0.mk (show IsD wA w15 g (doesD D c) u14 ∧ IsD wA w15 g2 (doesD D c) v15 ∧ Below wA.heap.size wA w15 from ⟨past_ne K14.out.1 K14.out.2.1 hk15 n2 K14.out.2.2.1, hI15, hB15⟩); obtain ⟨k0, k1, k2, k3, k4⟩ := cells w15 hB15; clear hI15 hB15 hk15 hx15)
          | (go_at_call_of 33 (Value.pointer (some ⟨g, 0, none⟩)); go_at_call_of 33 (Value.int IntKind.i64 0); refine (read_ok g 0 _ _ wA _ (by first | exact K15.out.1 | exact K15.out.1.below (pw_below_drewN (Below.refl _ _) _)) (.inl rfl)).mono ?_; rintro e wq ⟨rfl, nq, rfl⟩)
          | (go_at_call_of 33 (Value.pointer (some ⟨g2, 0, none⟩)); go_at_call_of 33 (Value.int IntKind.i64 0); refine (read_ok g2 0 _ _ wA _ (by first | exact K15.out.2.1 | exact K15.out.2.1.below (pw_below_drewN (Below.refl _ _) _)) (.inl rfl)).mono ?_; rintro e wq ⟨rfl, nq, rfl⟩)
          | (go_at_call_of 33 (Value.pointer (some ⟨g, 0, none⟩)); go_at_call_of 33 (Value.int IntKind.i64 1); refine (read_ok g 1 _ _ wA _ (by first | exact K15.out.1 | exact K15.out.1.below (pw_below_drewN (Below.refl _ _) _)) (.inr rfl)).mono ?_; rintro e wq ⟨rfl, nq, rfl⟩)
          | (go_at_call_of 33 (Value.pointer (some ⟨g2, 0, none⟩)); go_at_call_of 33 (Value.int IntKind.i64 1); refine (read_ok g2 1 _ _ wA _ (by first | exact K15.out.2.1 | exact K15.out.2.1.below (pw_below_drewN (Below.refl _ _) _)) (.inr rfl)).mono ?_; rintro e wq ⟨rfl, nq, rfl⟩)
          | (go_at_call_of 37 (Value.pointer (some ⟨g, 0, none⟩)); refine (safe_ok g 0 _ _ wA _ (by first | exact K15.out.1 | exact K15.out.1.below (pw_below_drewN (Below.refl _ _) _)) (.inl rfl)).mono ?_; rintro e wq ⟨rfl, nq, rfl⟩)
          | (go_at_call_of 37 (Value.pointer (some ⟨g2, 0, none⟩)); refine (safe_ok g2 0 _ _ wA _ (by first | exact K15.out.2.1 | exact K15.out.2.1.below (pw_below_drewN (Below.refl _ _) _)) (.inl rfl)).mono ?_; rintro e wq ⟨rfl, nq, rfl⟩)
          | (go_at_call_of 41 (Value.pointer (some ⟨g, 0, none⟩)); refine (waits_ok g _ _ wA _ (by first | exact K15.out.1 | exact K15.out.1.below (pw_below_drewN (Below.refl _ _) _))).mono ?_; rintro e wq ⟨rfl, nq, rfl⟩)
          | (go_at_call_of 41 (Value.pointer (some ⟨g2, 0, none⟩)); refine (waits_ok g2 _ _ wA _ (by first | exact K15.out.2.1 | exact K15.out.2.1.below (pw_below_drewN (Below.refl _ _) _))).mono ?_; rintro e wq ⟨rfl, nq, rfl⟩))
      go_wp2
      go_ret
      exact ⟨by simp, H.out.2.2.2.trans ((pw_below_drewN K15.out.2.2 _).mono H.out.2.2.2.size)⟩
def countermandlaw03_DiskCopies.Pure : Prop := ∀ (l0 : List (S53)), ∃ k b, countermandlaw03_great.f k l0 = some b ∧ (b = false → l0.length ≤ 60 ∧ tot53 l0 ≤ 32768)
theorem countermandlaw03_DiskCopies.walk (P : countermandlaw03_DiskCopies.Pure) (a0 : Option Addr) (len0 cap0 : Nat) (z0 : List (S53)) (s0_0 : Int) (s0_1 : Int) (s0_2 : ByteArray) (s0_3 : Int) (s0_4 : Int) (w : World) (w0 : z0.length = len0 ∧ Kd.C k53 w a0 z0.length z0 ∧ z0.length ≤ cap0 ∧ z0.length ≤ maxLen ∧ (∀ x ∈ z0, (Lit.int .i64 x.f0).wf = true ∧ (Lit.int .i64 x.f1).wf = true ∧ x.f2.size ≤ maxLen ∧ (Lit.int .i64 x.f3).wf = true ∧ (Lit.int .i64 x.f4).wf = true)) (g0 : (Lit.int .i64 s0_0).wf = true) (g1 : (Lit.int .i64 s0_1).wf = true) (g2 : s0_2.size ≤ maxLen) (g3 : (Lit.int .i64 s0_3).wf = true) (g4 : (Lit.int .i64 s0_4).wf = true) :
    Calls Try.prog 13 #[.slice a0 len0 cap0, .agg (callCells ⟨s0_0, s0_1, s0_2, s0_3, s0_4⟩)] w fun e w' => e = .returned (.bool true) ∧ Below w.heap.size w w' := by
  obtain ⟨rfl, hr0, hc0, _⟩ := w0
  exact copies_main P a0 cap0 z0 ⟨s0_0, s0_1, s0_2, s0_3, s0_4⟩ w hr0 hc0

end Go.Proofs.Ytodffnchcbapcaa.PDiskCopies
