/- Written by a program of this session, which began as the kit's print and is turned in wip/printer: the plain form of each function, and that the Go code comes to it. -/
import Derived.Test.YtfoefgckjaafnaaPReadsNotesx0
import Derived.Test.YtfoefgckjaafnaaPReadsNotesx1
import Derived.BigRegion
import Derived.Deep.RegionLaw
import Derived.IntWalk
import Derived.LoopIn
import Derived.LoopNIn
import Derived.OwnWalkIn
import Derived.RangeFuncBound
import Derived.RangeFuncCalls
import Derived.RangeFuncLeaves
import Derived.RangeFuncNested
import Derived.Shelf.Abstract
import Derived.Shelf.RegionOpen
import Derived.TacticsInMore
import Derived.Test.YtfoefgckjaafnaaWEqStruct
namespace Go.Proofs.Ytfoefgckjaafnaa.PReadsNotes
open Go.RowKit Go.Proofs.YtfoefgckjaafnaaW.PrintWords Go.Proofs.YtfoefgckjaafnaaW.PrintLast Go.Proofs.YtfoefgckjaafnaaW.PrintMore
attribute [local go_sem] max2_int min2_int max_two min_two max_three min_three max_four min_four   -- for this text's walks alone
set_option linter.unusedVariables false
set_option linter.unusedSimpArgs false

/-! ### countermandlaw12_ReadsNotes: function 4 -/
--IMPORT Derived.BigRegion
--IMPORT Derived.IntWalk
--IMPORT Derived.RangeFuncNested
--IMPORT Derived.RangeFuncBound
--IMPORT Derived.RangeFuncCalls
--IMPORT Derived.RangeFuncLeaves
--IMPORT Derived.Deep.RegionLaw
--IMPORT Derived.Shelf.Abstract
--IMPORT Derived.Shelf.RegionOpen
--IMPORT Derived.OwnWalkIn
--IMPORT Derived.TacticsInMore
--IMPORT Derived.LoopNIn
--IMPORT Derived.LoopIn
--IMPORT Derived.Test.YtfoefgckjaafnaaWEqStruct
--ROUNDS
@[go_sem] theorem eqS24 (d : Nat) (w : World) (x0 x1 y0 y1 : Int) :
    (Op.equalIn (d + 2) 24 (.agg #[.int .i64 x0, .int .i64 x1]) (.agg #[.int .i64 y0, .int .i64 y1])).run Try.prog w = .ok (x0 == y0 && (x1 == y1)) w := by
  refine eqA_of Try.underlying24 (by kernel_rfl) ?_
  refine eqf_cons (by rfl) (by go_simp; rfl) (by go_simp; rfl) (by go_simp) ?_
  exact eqf_last (by rfl) (by go_simp; rfl) (by go_simp; rfl) (by go_simp)
theorem info24D : (Try.prog.info? 24).map (fun i => (i.zero, i.size, i.bytes)) = some (some (.agg #[(.int .i64 0), (.int .i64 0)]), 2, 16) := by kernel_rfl
theorem info47D : (Try.prog.info? 47).map (fun i => (i.zero, i.size, i.bytes)) = some (some (.agg #[(.int .i64 0), (.int .i64 0), (.int .i64 0)]), 3, 24) := by kernel_rfl
theorem R_exact24 {e : TypeId} {w : World} {base : Nat} {ok : Nat → Prop} {v : Value} {xs : List S24} (h : k24.R e w base ok v xs) : k24.R e w base (fun k => v.ownBlock = some k) v xs :=
  ⟨fun k hk => hk, h.2.imp_ (fun x cs hp => by rw [k24_openM hp]; exact k24_mkM _ _ _ x)⟩
theorem R_exact47 {e : TypeId} {w : World} {base : Nat} {ok : Nat → Prop} {v : Value} {xs : List S47} (h : k47.R e w base ok v xs) : k47.R e w base (fun k => v.ownBlock = some k) v xs :=
  ⟨fun k hk => hk, h.2.imp_ (fun x cs hp => by rw [k47_openM hp]; exact k47_mkM _ _ _ x)⟩
/-! ### the document's world: all changes -/
def IsWd (w0 W : World) (g : Nat) (l : List S24) (v : Value) : Prop := W.heap[g]? = some (.cells #[v] 30 (0, 0)) ∧ w0.heap.size ≤ g ∧ k24.R 24 W w0.heap.size (fun k => v.ownBlock = some k) v l
theorem IsWd.keep {w0 W W' : World} {g g' : Nat} {l : List S24} {v : Value} {row : Option Nat} (h : IsWd w0 W g l v) (k : KeepBut W W' g' row) (h1 : g ≠ g') (h2 : some g ≠ row) (h3 : ∀ b, v.ownBlock = some b → b ≠ g' ∧ some b ≠ row) : IsWd w0 W' g l v :=
  ⟨k.blk h.1 h1 h2, h.2.1, Kd.R_step h.2.2 (fun b hb hlt => k.2 b hlt (h3 b hb).1 (h3 b hb).2)⟩
theorem IsWd.below {w0 W W' : World} {g : Nat} {l : List S24} {v : Value} (h : IsWd w0 W g l v) (k : Below W.heap.size W W') : IsWd w0 W' g l v :=
  ⟨(k.block g (blk_lt h.1)).trans h.1, h.2.1, Kd.R_below h.2.2 k⟩
theorem IsWd.own {w0 W : World} {g : Nat} {l : List S24} {v : Value} (h : IsWd w0 W g l v) : some g ≠ v.ownBlock := Kd.R_ne h.2.2 h.1 (by decide)
/-! ### the set of what was read -/
def IsSt (w0 W : World) (g : Nat) (l : List S47) (t : Int) (v : Value) : Prop := W.heap[g]? = some (.cells #[v, .int .i64 t] 78 (0, 0)) ∧ w0.heap.size ≤ g ∧ k47.R 47 W w0.heap.size (fun k => v.ownBlock = some k) v l
theorem IsSt.keep {w0 W W' : World} {g g' : Nat} {l : List S47} {t : Int} {v : Value} {row : Option Nat} (h : IsSt w0 W g l t v) (k : KeepBut W W' g' row) (h1 : g ≠ g') (h2 : some g ≠ row) (h3 : ∀ b, v.ownBlock = some b → b ≠ g' ∧ some b ≠ row) : IsSt w0 W' g l t v :=
  ⟨k.blk h.1 h1 h2, h.2.1, Kd.R_step h.2.2 (fun b hb hlt => k.2 b hlt (h3 b hb).1 (h3 b hb).2)⟩
theorem IsSt.below {w0 W W' : World} {g : Nat} {l : List S47} {t : Int} {v : Value} (h : IsSt w0 W g l t v) (k : Below W.heap.size W W') : IsSt w0 W' g l t v :=
  ⟨(k.block g (blk_lt h.1)).trans h.1, h.2.1, Kd.R_below h.2.2 k⟩
theorem IsSt.own {w0 W : World} {g : Nat} {l : List S47} {t : Int} {v : Value} (h : IsSt w0 W g l t v) : some g ≠ v.ownBlock := Kd.R_ne h.2.2 h.1 (by decide)
theorem wd_read {w0 W : World} {g : Nat} {l : List S24} {A : Option Addr} {n c : Nat} (h : IsWd w0 W g l (.slice A n c)) {j : Nat} (hj : j < l.length) :
    ∃ ad, A = some ad ∧ W.cell? (ad.add (j * 2)) = some (.int .i64 (rd_T24 l (j : Int)).f0) ∧ W.cell? ⟨(ad.add (j * 2)).block, (ad.add (j * 2)).off + 1, none⟩ = some (.int .i64 (rd_T24 l (j : Int)).f1) := by
  obtain ⟨rfl, _, hC⟩ := Kd.R_reads' h.2.2
  obtain ⟨ad, rfl, x0, x1⟩ := at_T24 hC (j : Int) (by omega) (by omega)
  simp only [Int.toNat_natCast] at x0 x1
  exact ⟨ad, rfl, x0, x1⟩
theorem st_read {w0 W : World} {g : Nat} {l : List S47} {t : Int} {A : Option Addr} {n c : Nat} (h : IsSt w0 W g l t (.slice A n c)) {j : Nat} (hj : j < l.length) :
    ∃ ad, A = some ad ∧ W.cell? (ad.add (j * 3)) = some (.int .i64 (rd_T47 l (j : Int)).f0) ∧ W.cell? ⟨(ad.add (j * 3)).block, (ad.add (j * 3)).off + 1, none⟩ = some (.int .i64 (rd_T47 l (j : Int)).f1) ∧ W.cell? ⟨(ad.add (j * 3)).block, (ad.add (j * 3)).off + 2, none⟩ = some (.int .i64 (rd_T47 l (j : Int)).f2) := by
  obtain ⟨rfl, _, hC⟩ := Kd.R_reads' h.2.2
  obtain ⟨ad, rfl, x0, x1, x2⟩ := at_T47 hC (j : Int) (by omega) (by omega)
  simp only [Int.toNat_natCast] at x0 x1 x2
  exact ⟨ad, rfl, x0, x1, x2⟩
def eq24 (x y : S24) : Bool := x.f0 == y.f0 && x.f1 == y.f1
/-- the version that a thing had at a time, by the first so many changes -/
def verI (l : List S24) (x : S24) (t : Int) : Nat → Nat
  | 0 => 0
  | i + 1 => if eq24 x (rd_T24 l (i : Int)) = true ∧ (i : Int) + 1 ≤ t then i + 1 else verI l x t i
def ver (l : List S24) (x : S24) (t : Int) : Nat := verI l x t l.length
theorem verI_succ (l : List S24) (x : S24) (t : Int) (i : Nat) : verI l x t (i + 1) = if eq24 x (rd_T24 l (i : Int)) = true ∧ (i : Int) + 1 ≤ t then i + 1 else verI l x t i := rfl
theorem verI_le (l : List S24) (x : S24) (t : Int) (i : Nat) : verI l x t i ≤ i := by
  induction i with
  | zero => exact Nat.le_refl _
  | succ i ih =>
    unfold verI
    split
    · exact Nat.le_refl _
    · omega
set_option maxHeartbeats 6400000 in
set_option maxRecDepth 100000 in
theorem at_ok (g : Nat) (l : List S24) (v : Value) (x : S24) (t : Int) (w0 w : World) (hI : IsWd w0 w g l v) (hl : l.length ≤ 1000) :
    Calls Try.prog 27 #[.pointer (some ⟨g, 0, none⟩), .agg #[.int .i64 x.f0, .int .i64 x.f1], .int .i64 t] w fun e w' => e = .returned (.int .i64 (ver l x t : Int)) ∧ Below w.heap.size w w' := by
  have hu24 := Try.underlying24
  have hu27 := Try.underlying27
  have hu30 := Try.underlying30
  have hu28 := Try.underlying28
  obtain ⟨A, c, rfl⟩ := Kd.R_slice hI.2.2
  obtain ⟨x0, x1⟩ := x
  have hgl : g < w.heap.size := blk_lt hI.1
  have hA := heap_alloc_new w (.cells #[.int .i64 x0, .int .i64 x1] 24)
  have hI1 := hI.below (below_alloc (Below.refl _ _) (.cells #[.int .i64 x0, .int .i64 x1] 24))
  have c0 : (w.alloc (.cells #[.int .i64 x0, .int .i64 x1] 24)).cell? ⟨g, 0, none⟩ = some (.slice A l.length c) := (blk_cell hI1.1 0).trans rfl
  have K0 := Aside0.mk (show IsWd w0 (w.alloc (.cells #[.int .i64 x0, .int .i64 x1] 24)) g l (.slice A l.length c) ∧ Below w.heap.size w (w.alloc (.cells #[.int .i64 x0, .int .i64 x1] 24)) ∧ (w.alloc (.cells #[.int .i64 x0, .int .i64 x1] 24)).heap[w.heap.size]? = some (.cells #[.int .i64 x0, .int .i64 x1] 24 (0, 0)) from ⟨hI1, below_alloc (Below.refl _ _) _, hA⟩)
  clear hI hI1 hA
  go_enter Try.func27, Try.ntmps27
  go_wp2
  clear c0
  have hgw : w.heap.size ≤ w.heap.size := Nat.le_refl _
  obtain ⟨gx, hgx⟩ : ∃ gx, gx = w.heap.size := ⟨_, rfl⟩
  rw [← hgx] at K0 hgw hgl ⊢
  generalize w.alloc (.cells #[.int .i64 x0, .int .i64 x1] 24) = w1 at K0 ⊢
  have HX := Aside0.mk hgx
  clear hgx hgw
  go_loopg [7, 15] l.length (fun m n i wr => ∃ j : Nat, i = .int .i64 (j : Int) ∧ n = .int .i64 (verI l ⟨x0, x1⟩ t j : Int) ∧ m + j = l.length ∧ Aside0 (IsWd w0 wr g l (.slice A l.length c) ∧ Below gx w wr ∧ wr.heap[gx]? = some (.cells #[.int .i64 x0, .int .i64 x1] 24 (0, 0))))
  case atStart => exact ⟨0, rfl, rfl, rfl, K0⟩
  case round =>
    clear K0
    obtain ⟨j, rfl, rfl, hj, HC⟩ := hrel
    by_cases hlt : j < l.length
    · have q0 : decide ((j : Int) < (l.length : Int)) = true := decide_eq_true (by omega)
      obtain ⟨ad, rfl, y0, y1⟩ := wd_read HC.out.1 hlt
      obtain ⟨a, ha⟩ : ∃ a, a = (rd_T24 l (j : Int)).f0 := ⟨_, rfl⟩
      obtain ⟨b, hb⟩ : ∃ b, b = (rd_T24 l (j : Int)).f1 := ⟨_, rfl⟩
      rw [← ha] at y0
      rw [← hb] at y1
      have p0 : ((0 : Int) ≤ (j : Int)) = True := eq_true (by omega)
      have p1 : ((j : Int) < (l.length : Int)) = True := eq_true (by omega)
      have HAB := Aside0.mk (And.intro ha hb)
      clear ha hb
      have hj9 : j ≤ 1000 := by omega
      go_upto_region 5 with (fail)
      have hA := heap_alloc_new wr (.cells #[.int .i64 a, .int .i64 b] 24)
      have hbl := below_alloc (Below.refl wr.heap.size wr) (.cells #[.int .i64 a, .int .i64 b] 24)
      have hwx : gx ≤ wr.heap.size := by have := blk_lt HC.out.2.2; omega
      have K1 := Aside0.mk (show IsWd w0 (wr.alloc (.cells #[.int .i64 a, .int .i64 b] 24)) g l (.slice (some ad) l.length c) ∧ Below gx w (wr.alloc (.cells #[.int .i64 a, .int .i64 b] 24)) ∧ (wr.alloc (.cells #[.int .i64 a, .int .i64 b] 24)).heap[gx]? = some (.cells #[.int .i64 x0, .int .i64 x1] 24 (0, 0)) ∧ (wr.alloc (.cells #[.int .i64 a, .int .i64 b] 24)).heap[wr.heap.size]? = some (.cells #[.int .i64 a, .int .i64 b] 24 (0, 0)) from ⟨HC.out.1.below hbl, HC.out.2.1.alloc hwx _, (hbl.block gx (blk_lt HC.out.2.2)).trans HC.out.2.2, hA⟩)
      clear hA hbl y0 y1 hwx
      generalize wr.alloc (.cells #[.int .i64 a, .int .i64 b] 24) = w2 at K1 ⊢
      generalize wr.heap.size = gy at K1 ⊢
      have d0 : w2.cell? ⟨gx, 0, none⟩ = some (.int .i64 x0) := (blk_cell K1.out.2.2.1 0).trans rfl
      have d1 : w2.cell? ⟨gx, 1, none⟩ = some (.int .i64 x1) := (blk_cell K1.out.2.2.1 1).trans rfl
      have d2 : w2.cell? ⟨gy, 0, none⟩ = some (.int .i64 a) := (blk_cell K1.out.2.2.2 0).trans rfl
      have d3 : w2.cell? ⟨gy, 1, none⟩ = some (.int .i64 b) := (blk_cell K1.out.2.2.2 1).trans rfl
      by_cases e0 : x0 = a
      · have b0 : (x0 == a) = true := by simpa using e0
        by_cases e1 : x1 = b
        · have b1 : (x1 == b) = true := by simpa using e1
          have hE : eq24 ⟨x0, x1⟩ (rd_T24 l (j : Int)) = true := by unfold eq24; rw [← HAB.out.1, ← HAB.out.2]; simp [e0, e1]
          by_cases e2 : (j : Int) + 1 ≤ t
          · have b2 : decide ((j : Int) + 1 ≤ t) = true := decide_eq_true e2
            have HV := Aside0.mk (show verI l ⟨x0, x1⟩ t (j + 1) = j + 1 from by rw [verI_succ, if_pos ⟨hE, e2⟩])
            clear e0 e1 hE
            go_wp2
            go_roundg (l.length - (j + 1))
            case rel =>
              exact ⟨j + 1, (by rw [Int.natCast_add]; rfl), (by rw [HV.out]; rw [Int.natCast_add]; rfl), (by omega), ⟨K1.out.1, K1.out.2.1, K1.out.2.2.1⟩⟩
            case measure => omega
          · have b2 : decide ((j : Int) + 1 ≤ t) = false := decide_eq_false e2
            have HV := Aside0.mk (show verI l ⟨x0, x1⟩ t (j + 1) = verI l ⟨x0, x1⟩ t j from by rw [verI_succ, if_neg (fun q => e2 q.2)])
            clear e0 e1 hE
            go_wp2
            go_roundg (l.length - (j + 1))
            case rel =>
              exact ⟨j + 1, (by rw [Int.natCast_add]; rfl), (by rw [HV.out]), (by omega), ⟨K1.out.1, K1.out.2.1, K1.out.2.2.1⟩⟩
            case measure => omega
        · have b1 : (x1 == b) = false := by simpa using e1
          have HV := Aside0.mk (show verI l ⟨x0, x1⟩ t (j + 1) = verI l ⟨x0, x1⟩ t j from by rw [verI_succ, if_neg (fun q => e1 (by have := q.1; unfold eq24 at this; rw [← HAB.out.1, ← HAB.out.2] at this; simp at this; exact this.2))])
          clear e0 e1
          go_wp2
          go_roundg (l.length - (j + 1))
          case rel =>
            exact ⟨j + 1, (by rw [Int.natCast_add]; rfl), (by rw [HV.out]), (by omega), ⟨K1.out.1, K1.out.2.1, K1.out.2.2.1⟩⟩
          case measure => omega
      · have b0 : (x0 == a) = false := by simpa using e0
        have HV := Aside0.mk (show verI l ⟨x0, x1⟩ t (j + 1) = verI l ⟨x0, x1⟩ t j from by rw [verI_succ, if_neg (fun q => e0 (by have := q.1; unfold eq24 at this; rw [← HAB.out.1, ← HAB.out.2] at this; simp at this; exact this.1))])
        clear e0
        go_wp2
        go_roundg (l.length - (j + 1))
        case rel =>
          exact ⟨j + 1, (by rw [Int.natCast_add]; rfl), (by rw [HV.out]), (by omega), ⟨K1.out.1, K1.out.2.1, K1.out.2.2.1⟩⟩
        case measure => omega
    · have q0 : decide ((j : Int) < (l.length : Int)) = false := decide_eq_false (by omega)
      have jn : j = l.length := by omega
      have HV := Aside0.mk (show verI l ⟨x0, x1⟩ t j = ver l ⟨x0, x1⟩ t from by rw [jn]; rfl)
      clear jn
      go_wp2
      go_ret
      exact ⟨by rw [← HV.out]; rfl, HX.out ▸ HC.out.2.1⟩
def verK (l : List S24) (q : Nat) : Nat := ver l ⟨((q / 8 : Nat) : Int), ((q % 8 : Nat) : Int)⟩ (l.length : Int)
def nowA (l : List S24) (p : Nat) : Array Value := ((List.range 24).map (fun q => if q < p then Value.int .i64 (verK l q : Int) else Value.int .i64 0) ++ [Value.int .i64 (l.length : Int)]).toArray
theorem nowA_zero (l : List S24) : nowA l 0 = #[.int .i64 0, .int .i64 0, .int .i64 0, .int .i64 0, .int .i64 0, .int .i64 0, .int .i64 0, .int .i64 0, .int .i64 0, .int .i64 0, .int .i64 0, .int .i64 0, .int .i64 0, .int .i64 0, .int .i64 0, .int .i64 0, .int .i64 0, .int .i64 0, .int .i64 0, .int .i64 0, .int .i64 0, .int .i64 0, .int .i64 0, .int .i64 0, .int .i64 (l.length : Int)] := rfl
theorem nowA_size (l : List S24) (p : Nat) : (nowA l p).size = 25 := by simp [nowA]
theorem blk_there {W : World} {g : Nat} {C : Array Value} {e : TypeId} (h : W.heap[g]? = some (.cells C e (0, 0))) : W.there g 0 C.size := by
  intro j hj
  rw [Nat.zero_add]
  exact ⟨by rw [blk_cell h j, Array.getElem?_eq_getElem hj]; rfl, blk_frozen h j⟩
theorem store_whole {W : World} {g : Nat} {C : Array Value} {e : TypeId} {vs : Array Value} (h : W.heap[g]? = some (.cells C e (0, 0))) (hs : vs.size = C.size) : (W.setCells g 0 vs.toList).heap[g]? = some (.cells vs e (0, 0)) := by
  obtain ⟨cur, h1, h2, h3⟩ := setCells_row vs.toList 0 W C h (by simp; omega)
  rw [h1]
  have : cur = vs := by
    apply Array.ext'
    rw [h3]
    simp [hs]
  rw [this]
theorem below_cells {base g : Nat} {w : World} (hg : base ≤ g) : ∀ (vs : List Value) (o : Nat) (W : World), Below base w W → Below base w (W.setCells g o vs)
  | [], _, _, h => h
  | v :: r, o, W, h => below_cells hg r (o + 1) _ (h.setCell (p := ⟨g, o, none⟩) hg v)
def zero25 : Array Value := Array.replicate 25 (.int .i64 0)
theorem zero25_eq : zero25 = #[.int .i64 0, .int .i64 0, .int .i64 0, .int .i64 0, .int .i64 0, .int .i64 0, .int .i64 0, .int .i64 0, .int .i64 0, .int .i64 0, .int .i64 0, .int .i64 0, .int .i64 0, .int .i64 0, .int .i64 0, .int .i64 0, .int .i64 0, .int .i64 0, .int .i64 0, .int .i64 0, .int .i64 0, .int .i64 0, .int .i64 0, .int .i64 0, .int .i64 0] := rfl
theorem nowA_one (l : List S24) (p : Nat) : (nowA l p).all (·.oneCell') = true := by
  rw [Array.all_eq_true_iff_forall_mem]
  intro v hv
  simp only [nowA, List.mem_toArray, List.mem_append, List.mem_map, List.mem_singleton] at hv
  rcases hv with ⟨q, _, rfl⟩ | rfl
  · split <;> rfl
  · rfl
theorem nowA_get (l : List S24) (p q : Nat) (hq : q < 24) : (nowA l p)[q]? = some (if q < p then Value.int .i64 (verK l q : Int) else Value.int .i64 0) := by
  simp [nowA, List.getElem?_append_left, hq]
theorem nowA_set (l : List S24) (p : Nat) (hp : p < 24) : (nowA l p).setIfInBounds p (.int .i64 (verK l p : Int)) = nowA l (p + 1) := by
  apply Array.ext
  · simp [nowA]
  · intro q h1 h2
    rw [Array.getElem_setIfInBounds (by simpa using h1)]
    have hq : q < 25 := by rw [nowA_size] at h2; exact h2
    by_cases e : p = q
    · subst e
      rw [if_pos rfl]
      have := nowA_get l (p + 1) p hp
      rw [Array.getElem?_eq_getElem h2] at this
      injection this with this
      rw [this, if_pos (by omega)]
    · rw [if_neg e]
      have h3 : q < (nowA l p).size := by rw [nowA_size]; omega
      by_cases hq4 : q < 24
      · have a1 := nowA_get l (p + 1) q hq4
        have a2 := nowA_get l p q hq4
        rw [Array.getElem?_eq_getElem h2] at a1
        rw [Array.getElem?_eq_getElem h3] at a2
        injection a1 with a1
        injection a2 with a2
        rw [a1, a2]
        by_cases hqp : q < p
        · rw [if_pos hqp, if_pos (by omega)]
        · rw [if_neg hqp, if_neg (by omega)]
      · obtain rfl : q = 24 := by omega
        simp [nowA]
theorem verK_at (l : List S24) (k i : Nat) (hi : i < 8) : verK l (k * 8 + i) = ver l ⟨(k : Int), (i : Int)⟩ (l.length : Int) := by
  unfold verK
  rw [show (k * 8 + i) / 8 = k by omega, show (k * 8 + i) % 8 = i by omega]
theorem size39 : (Try.prog.info? 39).map (·.size) = some 25 := by kernel_rfl
set_option maxHeartbeats 1600000 in
set_option maxRecDepth 100000 in
theorem now_ok (g : Nat) (l : List S24) (v : Value) (w0 w : World) (hI : IsWd w0 w g l v) (hl : l.length ≤ 1000) :
    Calls Try.prog 17 #[.pointer (some ⟨g, 0, none⟩)] w fun e w' => e = .returned (.agg (nowA l 24)) ∧ Below w.heap.size w w' := by
  have hu24 := Try.underlying24
  have hu27 := Try.underlying27
  have hu30 := Try.underlying30
  have hu28 := Try.underlying28
  have hu39 := Try.underlying39
  have hu37 := Try.underlying37
  have hu36 := Try.underlying36
  obtain ⟨A, c, rfl⟩ := Kd.R_slice hI.2.2
  have hgl : g < w.heap.size := blk_lt hI.1
  have c0 : w.cell? ⟨g, 0, none⟩ = some (.slice A l.length c) := (blk_cell hI.1 0).trans rfl
  have H := Aside0.mk hI
  clear hI
  go_enter Try.func17, Try.ntmps17
  go_upto_region 1 with (fail)
  rw [← zero25_eq]
  have hbl1 := below_alloc (Below.refl w.heap.size w) (.cells zero25 39)
  have hA1 := heap_alloc_new w (.cells zero25 39)
  have hI1 := H.out.below hbl1
  have hs1 : (w.alloc (.cells zero25 39)).heap.size = w.heap.size + 1 := by simp
  generalize w.alloc (.cells zero25 39) = w1 at *
  have c1 : w1.cell? ⟨g, 0, none⟩ = some (.slice A l.length c) := (blk_cell hI1.1 0).trans rfl
  have HT : (w1.alloc (.cells zero25 39)).there w1.heap.size 0 25 := blk_there (heap_alloc_new w1 _)
  have hI2 := hI1.below (below_alloc (Below.refl _ _) (.cells zero25 39))
  have hbl2 : Below w.heap.size w (w1.alloc (.cells zero25 39)) := below_alloc hbl1 _
  have hA2 := heap_alloc_new w1 (.cells zero25 39)
  have hA12 : (w1.alloc (.cells zero25 39)).heap[w.heap.size]? = some (.cells zero25 39 (0, 0)) := ((below_alloc (Below.refl w1.heap.size w1) (.cells zero25 39)).block _ (blk_lt hA1)).trans hA1
  have hA3 := store_whole hA2 (vs := nowA l 0) (by rw [nowA_size]; rfl)
  have hA13 : ((w1.alloc (.cells zero25 39)).setCells w1.heap.size 0 (nowA l 0).toList).heap[w.heap.size]? = some (.cells zero25 39 (0, 0)) := (setCells_far _ _ _ (by omega)).trans hA12
  have hI3 : IsWd w0 ((w1.alloc (.cells zero25 39)).setCells w1.heap.size 0 (nowA l 0).toList) g l (.slice A l.length c) := by
    have hk : KeepBut (w1.alloc (.cells zero25 39)) ((w1.alloc (.cells zero25 39)).setCells w1.heap.size 0 (nowA l 0).toList) w1.heap.size none := ⟨by rw [(setCells_same _ _ _ _).2.2.2]; exact Nat.le_refl _, fun i hi h1 h2 => setCells_far _ _ _ h1⟩
    refine hI2.keep hk (by have := blk_lt hI1.1; omega) (by simp) (fun b hb => ⟨fun e => ?_, by simp⟩)
    obtain ⟨inner, ho, _⟩ := hI1.2.2.2
    have := own_lt ho b hb
    omega
  have hbl3 : Below w.heap.size w ((w1.alloc (.cells zero25 39)).setCells w1.heap.size 0 (nowA l 0).toList) := below_cells hbl1.size _ _ _ hbl2
  have K0 := Aside0.mk (And.intro hI3 (And.intro hbl3 (And.intro hA13 hA3)))
  have HB := Aside0.mk (show w.heap.size < w1.heap.size from by omega)
  clear hI1 hI2 hbl1 hbl2 hA1 hA2 hA12 hA13 hA3 hI3 hbl3 hs1 c0
  rw [zero25_eq] at HT
  have HTT := Aside0.mk HT
  clear HT
  go_wp2_with (refine wpList_store_mid rfl 39 (.tmp 3) (.tmp 11) rfl w1.heap.size 0 (nowA l 0) (by rfl) (by rfl) (by rw [nowA_size]; exact HTT.out) (by rw [nowA_size]; exact size39) (nowA_one l 0) ?_)
  rw [← zero25_eq]
  generalize (w1.alloc (.cells zero25 39)).setCells w1.heap.size 0 (nowA l 0).toList = w3 at K0 ⊢
  clear c1 HTT
  generalize w1.heap.size = gn at K0 HB ⊢
  obtain ⟨gr, hgr⟩ : ∃ gr, gr = w.heap.size := ⟨_, rfl⟩
  rw [← hgr] at K0 HB hgl ⊢
  have HX := Aside0.mk hgr
  clear hgr
  go_loopg [12] 3 (fun m v wr => ∃ k : Nat, v = .int .i64 (k : Int) ∧ m + k = 3 ∧ Aside0 (IsWd w0 wr g l (.slice A l.length c) ∧ Below gr w wr ∧ wr.heap[gr]? = some (.cells zero25 39 (0, 0)) ∧ wr.heap[gn]? = some (.cells (nowA l (k * 8)) 39 (0, 0))))
  case atStart => exact ⟨0, rfl, rfl, K0⟩
  case round =>
    clear K0
    obtain ⟨k, rfl, hk, HC⟩ := hrel
    by_cases hk3 : k < 3
    · have q0 : decide ((k : Int) < 3) = true := decide_eq_true (by omega)
      go_wp2
      go_loopg [15] 8 (fun m v wr => ∃ i : Nat, v = .int .i64 (i : Int) ∧ m + i = 8 ∧ Aside0 (IsWd w0 wr g l (.slice A l.length c) ∧ Below gr w wr ∧ wr.heap[gr]? = some (.cells zero25 39 (0, 0)) ∧ wr.heap[gn]? = some (.cells (nowA l (k * 8 + i)) 39 (0, 0))))
      case atStart => exact ⟨0, rfl, rfl, HC⟩
      case round =>
        clear HC
        obtain ⟨i, rfl, hi, HD⟩ := hrel
        by_cases hi8 : i < 8
        · have q1 : decide ((i : Int) < 8) = true := decide_eq_true (by omega)
          have r0 : (0 : Int) ≤ (k : Int) := by omega
          have r1 : (k : Int) < 3 := by omega
          have r2 : (0 : Int) ≤ (i : Int) := by omega
          have r3 : (i : Int) < 8 := by omega
          have c0 : wr.cell? ⟨g, 0, none⟩ = some (.slice A l.length c) := (blk_cell HD.out.1.1 0).trans rfl
          have n1 : g ≠ gn := by have := HB.out; omega
          have n2 : gn ≠ g := fun e => n1 e.symm
          have AT := fun W h => at_ok g l (.slice A l.length c) ⟨(k : Int), (i : Int)⟩ (l.length : Int) w0 W h hl
          rw [← verK_at l k i hi8] at AT
          go_wp2_with (fail)
          go_region_held3 (fun w' => w'.cell? ⟨g, 0, none⟩ = some (.slice A l.length c)) (go_keep)
            (first
              | (go_at_call 27; refine (AT _ (HD.out.1.below (pw_below_drewN (Below.refl _ _) _))).mono ?_; rintro e w7 ⟨rfl, hb7⟩; have K7 := Aside0.mk (show IsWd w0 w7 g l (.slice A l.length c) ∧ Below gr w w7 ∧ w7.heap[gr]? = some (.cells zero25 39 (0, 0)) ∧ w7.heap[gn]? = some (.cells (nowA l (k * 8 + i)) 39 (0, 0)) from ⟨(HD.out.1.below (pw_below_drewN (Below.refl _ _) _)).below hb7, (pw_below_drewN HD.out.2.1 _).trans (hb7.mono (Nat.le_of_lt (blk_lt HD.out.2.2.1))), (hb7.block gr (blk_lt HD.out.2.2.1)).trans HD.out.2.2.1, (hb7.block gn (blk_lt HD.out.2.2.2)).trans HD.out.2.2.2⟩); have c7 : w7.cell? ⟨g, 0, none⟩ = some (.slice A l.length c) := (blk_cell K7.out.1.1 0).trans rfl; have d7 : w7.cell? ⟨gn, k * 8 + i, none⟩ = some (.int .i64 0) := (blk_cell K7.out.2.2.2 _).trans (by rw [nowA_get l _ _ (by omega), if_neg (by omega)]); have f7 := blk_frozen K7.out.2.2.2))
          go_wp2
          go_roundg (8 - (i + 1))
          case rel =>
            have n3 : gr ≠ gn := Nat.ne_of_lt HB.out
            have kb := KeepBut.set_ (KeepBut.refl w7 gn none) (k * 8 + i) (.int .i64 (verK l (k * 8 + i) : Int))
            have hA := blk_set K7.out.2.2.2 (k * 8 + i) (.int .i64 (verK l (k * 8 + i) : Int))
            rw [nowA_set l _ (by omega)] at hA
            exact ⟨i + 1, (by rw [Int.natCast_add]; rfl), (by omega), ⟨(K7.out.1.keep kb n1 (by simp) (fun b hb => ⟨fun e => Kd.R_ne K7.out.1.2.2 K7.out.2.2.2 (by decide) (by rw [← e, hb]), by simp⟩)), K7.out.2.1.setCell (Nat.le_of_lt HB.out) _, kb.blk K7.out.2.2.1 n3 (by simp), hA⟩⟩
          case measure => omega
        · have q1 : decide ((i : Int) < 8) = false := decide_eq_false (by omega)
          have i8 : i = 8 := by omega
          have HD2 := Aside0.mk (show IsWd w0 wr g l (.slice A l.length c) ∧ Below gr w wr ∧ wr.heap[gr]? = some (.cells zero25 39 (0, 0)) ∧ wr.heap[gn]? = some (.cells (nowA l ((k + 1) * 8)) 39 (0, 0)) from by have := HD.out; rw [i8] at this; rw [show (k + 1) * 8 = k * 8 + 8 by omega]; exact this)
          clear i8
          go_wp2
          go_roundg (3 - (k + 1))
          case rel => exact ⟨k + 1, (by rw [Int.natCast_add]; rfl), (by omega), HD2⟩
          case measure => omega
    · have q0 : decide ((k : Int) < 3) = false := decide_eq_false (by omega)
      have k3 : k = 3 := by omega
      have HD2 := Aside0.mk (show IsWd w0 wr g l (.slice A l.length c) ∧ Below gr w wr ∧ wr.heap[gr]? = some (.cells zero25 39 (0, 0)) ∧ wr.heap[gn]? = some (.cells (nowA l 24) 39 (0, 0)) from by have := HC.out; rw [k3] at this; exact this)
      clear k3 HC
      have hT : wr.there gr 0 25 := blk_there HD2.out.2.2.1
      have hR : wr.rangeAt gn 0 (nowA l 24).toList := fun j v hv => by rw [Nat.zero_add]; exact (blk_cell HD2.out.2.2.2 j).trans (by simpa using hv)
      have HTR := Aside0.mk (And.intro hT hR)
      have hst := store_whole HD2.out.2.2.1 (vs := nowA l 24) (by rw [nowA_size]; rfl)
      have hbw := below_cells (Nat.le_refl gr) (nowA l 24).toList 0 _ HD2.out.2.1
      have hR2 : (wr.setCells gr 0 (nowA l 24).toList).rangeAt gr 0 (nowA l 24).toList := fun j v hv => by rw [Nat.zero_add]; exact (blk_cell hst j).trans (by simpa using hv)
      clear hT hR
      go_wp2_with (first | (refine wpList_load_mid rfl 39 (.tmp 3) rfl gn 0 (by rfl) (nowA l 24).toList _ HTR.out.2 hu39 rfl (by rw [Array.length_toList, nowA_size]; exact size39) ?_) | (refine wpList_store_mid rfl 39 (.tmp 2) (.tmp 35) rfl gr 0 (nowA l 24) (by rfl) (by rfl) (by rw [nowA_size]; exact HTR.out.1) (by rw [nowA_size]; exact size39) (nowA_one l 24) ?_))
      exact bodyPost_ret (v := .agg (nowA l 24)) (results_cell_row Try.results17 _ _ gr 39 (nowA l 24) (0, 0) _ (by rfl) hst hu39 rfl (by rw [nowA_size]; exact size39)) rfl ⟨rfl, HX.out ▸ hbw⟩
set_option maxHeartbeats 1600000 in
set_option maxRecDepth 100000 in
theorem of_in (A : Array Value) (k i : Nat) (x : Int) (w : World) (hk : k < 3) (hi : i < 8) (hx : A[k * 8 + i]? = some (.int .i64 x)) :
    Calls Try.prog 25 #[.agg A, .int .i64 (k : Int), .int .i64 (i : Int)] w fun e w' => e = .returned (.int .i64 x) ∧ Below w.heap.size w w' := by
  have hu39 := Try.underlying39
  have hu37 := Try.underlying37
  have hu36 := Try.underlying36
  have hu41 := Try.underlying41
  have hA := heap_alloc_new w (.cells A 39)
  have hb := below_alloc (Below.refl w.heap.size w) (.cells A 39)
  have c0 : (w.alloc (.cells A 39)).cell? ⟨w.heap.size, k * 8 + i, none⟩ = some (.int .i64 x) := (blk_cell hA _).trans hx
  have q0 : decide ((k : Int) < 0) = false := decide_eq_false (by omega)
  have q1 : decide ((2 : Int) < (k : Int)) = false := decide_eq_false (by omega)
  have q2 : decide ((i : Int) < 0) = false := decide_eq_false (by omega)
  have q3 : decide ((8 : Int) ≤ (i : Int)) = false := decide_eq_false (by omega)
  have r0 : (0 : Int) ≤ (k : Int) := by omega
  have r1 : (k : Int) < 3 := by omega
  have r2 : (0 : Int) ≤ (i : Int) := by omega
  have r3 : (i : Int) < 8 := by omega
  have s0 : decide ((k : Int) < 3) = true := decide_eq_true (by omega)
  have s1 : decide ((0 : Int) ≤ (k : Int)) = true := decide_eq_true (by omega)
  have s2 : decide ((i : Int) < 8) = true := decide_eq_true (by omega)
  have s3 : decide ((0 : Int) ≤ (i : Int)) = true := decide_eq_true (by omega)
  clear hA
  go_enter Try.func25, Try.ntmps25
  go_wp2
  go_ret
  exact ⟨rfl, hb⟩
set_option maxHeartbeats 1600000 in
set_option maxRecDepth 100000 in
theorem of_out (A : Array Value) (k i : Int) (w : World) (h : ¬ (0 ≤ k ∧ k ≤ 2 ∧ 0 ≤ i ∧ i ≤ 7)) :
    Calls Try.prog 25 #[.agg A, .int .i64 k, .int .i64 i] w fun e w' => e = .returned (.int .i64 0) ∧ Below w.heap.size w w' := by
  have hu39 := Try.underlying39
  have hb := below_alloc (Below.refl w.heap.size w) (.cells A 39)
  by_cases h0 : k < 0
  · have q0 : decide (k < 0) = true := decide_eq_true h0
    go_enter Try.func25, Try.ntmps25
    go_wp2
    go_ret
    exact ⟨rfl, hb⟩
  have q0 : decide (k < 0) = false := decide_eq_false h0
  by_cases h1 : 2 < k
  · have q1 : decide (2 < k) = true := decide_eq_true h1
    go_enter Try.func25, Try.ntmps25
    go_wp2
    go_ret
    exact ⟨rfl, hb⟩
  have q1 : decide (2 < k) = false := decide_eq_false h1
  by_cases h2 : i < 0
  · have q2 : decide (i < 0) = true := decide_eq_true h2
    go_enter Try.func25, Try.ntmps25
    go_wp2
    go_ret
    exact ⟨rfl, hb⟩
  have q2 : decide (i < 0) = false := decide_eq_false h2
  have q3 : decide (8 ≤ i) = true := decide_eq_true (by omega)
  go_enter Try.func25, Try.ntmps25
  go_wp2
  go_ret
  exact ⟨rfl, hb⟩
/-- what a thing's version is now, as Of tells -/
def verN (l : List S24) (k i : Int) : Int := if 0 ≤ k ∧ k ≤ 2 ∧ 0 ≤ i ∧ i ≤ 7 then (ver l ⟨k, i⟩ (l.length : Int) : Int) else 0
theorem of_now (l : List S24) (k i : Int) (w : World) : Calls Try.prog 25 #[.agg (nowA l 24), .int .i64 k, .int .i64 i] w fun e w' => e = .returned (.int .i64 (verN l k i)) ∧ Below w.heap.size w w' := by
  unfold verN
  by_cases h : 0 ≤ k ∧ k ≤ 2 ∧ 0 ≤ i ∧ i ≤ 7
  · rw [if_pos h]
    obtain ⟨a, rfl⟩ := Int.eq_ofNat_of_zero_le h.1
    obtain ⟨b, rfl⟩ := Int.eq_ofNat_of_zero_le h.2.2.1
    refine of_in _ a b _ w (by omega) (by omega) ?_
    rw [nowA_get l 24 _ (by omega), if_pos (by omega), verK_at l a b (by omega)]
  · rw [if_neg h]
    exact of_out _ k i w h
def okE (wd : List S24) (e : S47) : Bool := verN wd e.f0 e.f1 == e.f2
def validB (wd : List S24) (l : List S47) : Bool := l.all (okE wd)
theorem rd47_mem {l : List S47} {j : Nat} (hj : j < l.length) : l.take (j + 1) = l.take j ++ [rd_T47 l (j : Int)] := by
  rw [List.take_succ_eq_append_getElem hj]
  unfold rd_T47
  rw [Int.toNat_natCast, List.getD_eq_getElem?_getD, List.getElem?_eq_getElem hj]
  rfl
theorem rd47_in {l : List S47} {j : Nat} (hj : j < l.length) : rd_T47 l (j : Int) ∈ l := by
  unfold rd_T47
  rw [Int.toNat_natCast, List.getD_eq_getElem?_getD, List.getElem?_eq_getElem hj]
  exact List.getElem_mem hj
/-- a block that holds a Now, and its cells -/
def IsNow (W : World) (g : Nat) : Prop := ∃ C : Array Value, W.heap[g]? = some (.cells C 39 (0, 0)) ∧ C.size = 25
def nowAt (W : World) (g : Nat) : Array Value := match W.heap[g]? with | some (.cells C _ _) => C | _ => #[]
theorem nowAt_eq {W : World} {g : Nat} {C : Array Value} {e : TypeId} {f : Nat × Nat} (h : W.heap[g]? = some (.cells C e f)) : nowAt W g = C := by unfold nowAt; rw [h]
theorem loadVar39 (W : World) (g : Nat) (h : IsNow W g) : (loadVar 39 ⟨g, 0, none⟩).run Try.prog W = .ok (.agg (nowAt W g)) W := by
  obtain ⟨C, h1, h2⟩ := h
  rw [nowAt_eq h1]
  have := run_loadVar_row (P := Try.prog) W g 39 39 C (0, 0) _ h1 Try.underlying39 rfl (by rw [h2]; exact size39)
  exact this
theorem loadAt39 (W : World) (g : Nat) (h : IsNow W g) : (Instr.loadAt 39 (.pointer (some ⟨g, 0, none⟩))).run Try.prog W = .ok (.agg (nowAt W g)) W := by
  simp only [Instr.loadAt, Instr.sureAddr, Sem.run_bind, Sem.run_pure, Result.andThen_ok, loadVar39 W g h]
def IsNowV (W : World) (v : Value) : Prop := ∃ g, v = .pointer (some ⟨g, 0, none⟩) ∧ IsNow W g
def nowV (W : World) (v : Value) : Array Value := match v with | .pointer (some a) => nowAt W a.block | _ => #[]
theorem exec39 (ρ : Operand → Value) (d : Option Nat) (x : Operand) (ty : TypeId) (pos : String) (af : Array Edge) (gd : Option (Nat × Bool)) (W : World) (h : IsNowV W (ρ x)) :
    (execOp ρ { dst := d, op := .load 39 x, type := ty, pos := pos, after := af, guard := gd }).run Try.prog W = .ok (.value (.agg (nowV W (ρ x)))) W := by
  obtain ⟨g, h1, h2⟩ := h
  unfold execOp
  simp only [h1, nowV, Sem.run_bind, Sem.run_pure, loadAt39 W g h2, Result.andThen_ok]
attribute [local go_sem ↓] exec39
set_option maxHeartbeats 3200000 in
set_option maxRecDepth 100000 in
theorem valid_ok (g : Nat) (l : List S47) (t : Int) (v : Value) (wd : List S24) (w0 w : World) (hI : IsSt w0 w g l t v) (hl : l.length ≤ 1000) :
    Calls Try.prog 18 #[.pointer (some ⟨g, 0, none⟩), .agg (nowA wd 24)] w fun e w' => e = .returned (.bool (validB wd l)) ∧ Below w.heap.size w w' := by
  have hu39 := Try.underlying39
  have hu47 := Try.underlying47
  have hu76 := Try.underlying76
  have hu78 := Try.underlying78
  have hu31 := Try.underlying31
  obtain ⟨A, c, rfl⟩ := Kd.R_slice hI.2.2
  have OF := fun k i W => of_now wd k i W
  have hA := heap_alloc_new w (.cells (nowA wd 24) 39)
  have hb := below_alloc (Below.refl w.heap.size w) (.cells (nowA wd 24) 39)
  have hI1 := hI.below hb
  have hgl : g < w.heap.size := blk_lt hI.1
  have K0 := Aside0.mk (And.intro hI1 (And.intro hb hA))
  have c0 : (w.alloc (.cells (nowA wd 24) 39)).cell? ⟨g, 0, none⟩ = some (.slice A l.length c) := (blk_cell hI1.1 0).trans rfl
  clear hA hb hI1
  go_enter Try.func18, Try.ntmps18
  go_wp2
  clear c0
  obtain ⟨gx, hgx⟩ : ∃ gx, gx = w.heap.size := ⟨_, rfl⟩
  rw [← hgx] at K0 hgl ⊢
  generalize w.alloc (.cells (nowA wd 24) 39) = w1 at K0 ⊢
  have HX := Aside0.mk hgx
  clear hgx
  go_loopg [14] l.length (fun m i wr => ∃ j : Nat, i = .int .i64 (j : Int) ∧ m + j = l.length ∧ Aside0 (IsSt w0 wr g l t (.slice A l.length c) ∧ Below gx w wr ∧ wr.heap[gx]? = some (.cells (nowA wd 24) 39 (0, 0)) ∧ (l.take j).all (okE wd) = true))
  case atStart => exact ⟨0, rfl, rfl, ⟨K0.out.1, K0.out.2.1, K0.out.2.2, by simp⟩⟩
  case round =>
    clear K0
    obtain ⟨j, rfl, hj, HC⟩ := hrel
    by_cases hlt : j < l.length
    · have q0 : decide ((j : Int) < (l.length : Int)) = true := decide_eq_true (by omega)
      obtain ⟨ad, rfl, y0, y1, y2⟩ := st_read HC.out.1 hlt
      obtain ⟨⟨a, b, d⟩, hx⟩ : ∃ x, x = rd_T47 l (j : Int) := ⟨_, rfl⟩
      rw [← hx] at y0 y1 y2
      have p0 : ((0 : Int) ≤ (j : Int)) = True := eq_true (by omega)
      have p1 : ((j : Int) < (l.length : Int)) = True := eq_true (by omega)
      have HE := Aside0.mk hx
      clear hx
      have hj9 : j ≤ 1000 := by omega
      go_upto_region 6 with (fail)
      have hA := heap_alloc_new wr (.cells #[.int .i64 a, .int .i64 b, .int .i64 d] 47)
      have hbl := below_alloc (Below.refl wr.heap.size wr) (.cells #[.int .i64 a, .int .i64 b, .int .i64 d] 47)
      have hwx : gx ≤ wr.heap.size := by have := blk_lt HC.out.2.2.1; omega
      have K1 := Aside0.mk (show IsSt w0 (wr.alloc (.cells #[.int .i64 a, .int .i64 b, .int .i64 d] 47)) g l t (.slice (some ad) l.length c) ∧ Below gx w (wr.alloc (.cells #[.int .i64 a, .int .i64 b, .int .i64 d] 47)) ∧ (wr.alloc (.cells #[.int .i64 a, .int .i64 b, .int .i64 d] 47)).heap[gx]? = some (.cells (nowA wd 24) 39 (0, 0)) ∧ (wr.alloc (.cells #[.int .i64 a, .int .i64 b, .int .i64 d] 47)).heap[wr.heap.size]? = some (.cells #[.int .i64 a, .int .i64 b, .int .i64 d] 47 (0, 0)) from ⟨HC.out.1.below hbl, HC.out.2.1.alloc hwx _, (hbl.block gx (blk_lt HC.out.2.2.1)).trans HC.out.2.2.1, hA⟩)
      clear hA hbl y0 y1 y2 hwx
      generalize wr.alloc (.cells #[.int .i64 a, .int .i64 b, .int .i64 d] 47) = w2 at K1 ⊢
      generalize wr.heap.size = gy at K1 ⊢
      have d0 : w2.cell? ⟨gy, 0, none⟩ = some (.int .i64 a) := (blk_cell K1.out.2.2.2 0).trans rfl
      have d1 : w2.cell? ⟨gy, 1, none⟩ = some (.int .i64 b) := (blk_cell K1.out.2.2.2 1).trans rfl
      have d2 : w2.cell? ⟨gy, 2, none⟩ = some (.int .i64 d) := (blk_cell K1.out.2.2.2 2).trans rfl
      have a0 : IsNowV w2 (.pointer (some ⟨gx, 0, none⟩)) := ⟨gx, rfl, _, K1.out.2.2.1, nowA_size _ _⟩; have a1 : nowV w2 (.pointer (some ⟨gx, 0, none⟩)) = nowA wd 24 := nowAt_eq K1.out.2.2.1
      have OA := OF a b
      by_cases hv : verN wd a b = d
      · have hb1 : (verN wd a b != d) = false := by simpa using hv
        have hok : okE wd (rd_T47 l (j : Int)) = true := by rw [← HE.out]; unfold okE; simpa using hv
        have HOK := Aside0.mk hok
        clear hok hv
        generalize verN wd a b = vn at OA hb1
        go_wp2_with (fail)
        go_region_held3 (fun w' => IsNowV w' (.pointer (some ⟨gx, 0, none⟩)) ∧ nowV w' (.pointer (some ⟨gx, 0, none⟩)) = nowA wd 24 ∧ w'.cell? ⟨gy, 0, none⟩ = some (.int .i64 a) ∧ w'.cell? ⟨gy, 1, none⟩ = some (.int .i64 b) ∧ w'.cell? ⟨gy, 2, none⟩ = some (.int .i64 d)) (first | exact ⟨a0, a1, d0, d1, d2⟩ | go_keep)
          (first
            | (go_at_call 25; refine (OA _).mono ?_; rintro e w7 ⟨rfl, hb7⟩; have K7 := Aside0.mk (show IsSt w0 w7 g l t (.slice (some ad) l.length c) ∧ Below gx w w7 ∧ w7.heap[gx]? = some (.cells (nowA wd 24) 39 (0, 0)) ∧ w7.heap[gy]? = some (.cells #[.int .i64 a, .int .i64 b, .int .i64 d] 47 (0, 0)) from ⟨(K1.out.1.below (pw_below_drewN (Below.refl _ _) _)).below hb7, (pw_below_drewN K1.out.2.1 _).trans (hb7.mono (Nat.le_of_lt (blk_lt K1.out.2.2.1))), (hb7.block gx (blk_lt K1.out.2.2.1)).trans K1.out.2.2.1, (hb7.block gy (blk_lt K1.out.2.2.2)).trans K1.out.2.2.2⟩); have d0 : w7.cell? ⟨gy, 0, none⟩ = some (.int .i64 a) := (blk_cell K7.out.2.2.2 0).trans rfl; have d1 : w7.cell? ⟨gy, 1, none⟩ = some (.int .i64 b) := (blk_cell K7.out.2.2.2 1).trans rfl; have d2 : w7.cell? ⟨gy, 2, none⟩ = some (.int .i64 d) := (blk_cell K7.out.2.2.2 2).trans rfl; have a0 : IsNowV w7 (.pointer (some ⟨gx, 0, none⟩)) := ⟨gx, rfl, _, K7.out.2.2.1, nowA_size _ _⟩; have a1 : nowV w7 (.pointer (some ⟨gx, 0, none⟩)) = nowA wd 24 := nowAt_eq K7.out.2.2.1;  clear hb7))
        go_wp2
        go_roundg (l.length - (j + 1))
        case rel =>
          exact ⟨j + 1, (by rw [Int.natCast_add]; rfl), (by omega), ⟨K7.out.1, K7.out.2.1, K7.out.2.2.1, by rw [rd47_mem hlt, List.all_append, HC.out.2.2.2]; simp [HOK.out]⟩⟩
        case measure => omega
      · have hb1 : (verN wd a b != d) = true := by simpa using hv
        have hno : validB wd l = false := by
          unfold validB
          rw [List.all_eq_false]
          exact ⟨rd_T47 l (j : Int), rd47_in hlt, by rw [← HE.out]; unfold okE; simpa using hv⟩
        have HNO := Aside0.mk hno
        clear hno hv
        generalize verN wd a b = vn at OA hb1
        go_wp2_with (fail)
        go_region_held3 (fun w' => IsNowV w' (.pointer (some ⟨gx, 0, none⟩)) ∧ nowV w' (.pointer (some ⟨gx, 0, none⟩)) = nowA wd 24 ∧ w'.cell? ⟨gy, 0, none⟩ = some (.int .i64 a) ∧ w'.cell? ⟨gy, 1, none⟩ = some (.int .i64 b) ∧ w'.cell? ⟨gy, 2, none⟩ = some (.int .i64 d)) (first | exact ⟨a0, a1, d0, d1, d2⟩ | go_keep)
          (first
            | (go_at_call 25; refine (OA _).mono ?_; rintro e w7 ⟨rfl, hb7⟩; have K7 := Aside0.mk (show IsSt w0 w7 g l t (.slice (some ad) l.length c) ∧ Below gx w w7 ∧ w7.heap[gx]? = some (.cells (nowA wd 24) 39 (0, 0)) ∧ w7.heap[gy]? = some (.cells #[.int .i64 a, .int .i64 b, .int .i64 d] 47 (0, 0)) from ⟨(K1.out.1.below (pw_below_drewN (Below.refl _ _) _)).below hb7, (pw_below_drewN K1.out.2.1 _).trans (hb7.mono (Nat.le_of_lt (blk_lt K1.out.2.2.1))), (hb7.block gx (blk_lt K1.out.2.2.1)).trans K1.out.2.2.1, (hb7.block gy (blk_lt K1.out.2.2.2)).trans K1.out.2.2.2⟩); have d0 : w7.cell? ⟨gy, 0, none⟩ = some (.int .i64 a) := (blk_cell K7.out.2.2.2 0).trans rfl; have d1 : w7.cell? ⟨gy, 1, none⟩ = some (.int .i64 b) := (blk_cell K7.out.2.2.2 1).trans rfl; have d2 : w7.cell? ⟨gy, 2, none⟩ = some (.int .i64 d) := (blk_cell K7.out.2.2.2 2).trans rfl; have a0 : IsNowV w7 (.pointer (some ⟨gx, 0, none⟩)) := ⟨gx, rfl, _, K7.out.2.2.1, nowA_size _ _⟩; have a1 : nowV w7 (.pointer (some ⟨gx, 0, none⟩)) = nowA wd 24 := nowAt_eq K7.out.2.2.1;  clear hb7))
        go_wp2
        go_ret
        exact ⟨by rw [HNO.out]; rfl, HX.out ▸ K7.out.2.1⟩
    · have q0 : decide ((j : Int) < (l.length : Int)) = false := decide_eq_false (by omega)
      have jn : j = l.length := by omega
      have HY := Aside0.mk (show validB wd l = true from by have := HC.out.2.2.2; rw [jn, List.take_length] at this; exact this)
      clear jn
      go_wp2
      go_ret
      exact ⟨by rw [HY.out]; rfl, HX.out ▸ HC.out.2.1⟩
set_option maxRecDepth 100000 in
theorem valid_nil (A : Array Value) (w : World) : Calls Try.prog 18 #[.pointer none, .agg A] w fun e w' => e = .returned (.bool true) ∧ Below w.heap.size w w' := by
  have hb := below_alloc (Below.refl w.heap.size w) (.cells A 39)
  go_enter Try.func18, Try.ntmps18
  go_wp2
  go_ret
  exact ⟨rfl, hb⟩
theorem old_cell {w : World} {g j : Nat} {u : Value} (h : w.cell? ⟨g, j, none⟩ = some u) (o : Obj) : (w.alloc o).cell? ⟨g, j, none⟩ = some u := by
  have := World.block_lt_of_cell? w _ h
  simp only [World.cell?] at h ⊢
  rw [Below.heap_alloc w o g this]; exact h
def hit (k i : Int) (e : S47) : Bool := e.f0 == k && e.f1 == i
def idx (l : List S47) (k i : Int) : Nat := l.findIdx (hit k i)
def placeI (l : List S47) (k i : Int) : Int := if idx l k i < l.length then (idx l k i : Int) else -1
theorem idx_at {l : List S47} {k i : Int} {j : Nat} (hj : j < l.length) (h : ∀ q, q < j → hit k i (rd_T47 l (q : Int)) = false) (hh : hit k i (rd_T47 l (j : Int)) = true) : idx l k i = j := by
  have hr : ∀ q (hq : q < l.length), rd_T47 l (q : Int) = l[q] := fun q hq => by
    unfold rd_T47
    rw [Int.toNat_natCast, List.getD_eq_getElem?_getD, List.getElem?_eq_getElem hq]
    rfl
  unfold idx
  rw [List.findIdx_eq hj]
  refine ⟨by rw [← hr j hj]; exact hh, fun q hq => ?_⟩
  have := h q hq
  rw [hr q (by omega)] at this
  simpa using this
theorem idx_none {l : List S47} {k i : Int} (h : ∀ q, q < l.length → hit k i (rd_T47 l (q : Int)) = false) : idx l k i = l.length := by
  have hr : ∀ q (hq : q < l.length), rd_T47 l (q : Int) = l[q] := fun q hq => by
    unfold rd_T47
    rw [Int.toNat_natCast, List.getD_eq_getElem?_getD, List.getElem?_eq_getElem hq]
    rfl
  unfold idx
  rw [List.findIdx_eq_length]
  intro x hx
  obtain ⟨q, hq, rfl⟩ := List.mem_iff_getElem.1 hx
  rw [← hr q hq]
  exact h q hq
set_option maxHeartbeats 1600000 in
set_option maxRecDepth 100000 in
theorem place1_ok (e : S47) (k i : Int) (g4 g5 : Nat) (w : World) (h4 : w.cell? ⟨g4, 0, none⟩ = some (.int .i64 k)) (h5 : w.cell? ⟨g5, 0, none⟩ = some (.int .i64 i)) :
    Calls Try.prog 45 #[.agg #[.int .i64 e.f0, .int .i64 e.f1, .int .i64 e.f2], .pointer (some ⟨g4, 0, none⟩), .pointer (some ⟨g5, 0, none⟩)] w fun r w' => r = .returned (.bool (hit k i e)) ∧ Below w.heap.size w w' := by
  have hu47 := Try.underlying47
  obtain ⟨a, b, d⟩ := e
  have hA := heap_alloc_new w (.cells #[.int .i64 a, .int .i64 b, .int .i64 d] 47)
  have hb := below_alloc (Below.refl w.heap.size w) (.cells #[.int .i64 a, .int .i64 b, .int .i64 d] 47)
  have c4 : (w.alloc (.cells #[.int .i64 a, .int .i64 b, .int .i64 d] 47)).cell? ⟨g4, 0, none⟩ = some (.int .i64 k) := old_cell h4 _
  have c5 : (w.alloc (.cells #[.int .i64 a, .int .i64 b, .int .i64 d] 47)).cell? ⟨g5, 0, none⟩ = some (.int .i64 i) := old_cell h5 _
  clear hA h4 h5
  by_cases e0 : a = k
  · have b0 : (a == k) = true := by simpa using e0
    by_cases e1 : b = i
    · have b1 : (b == i) = true := by simpa using e1
      have HH := Aside0.mk (show hit k i ⟨a, b, d⟩ = true from by unfold hit; simp [e0, e1])
      clear e0 e1
      go_enter Try.func45, Try.ntmps45
      go_wp2
      go_ret
      exact ⟨by rw [HH.out]; rfl, hb⟩
    · have b1 : (b == i) = false := by simpa using e1
      have HH := Aside0.mk (show hit k i ⟨a, b, d⟩ = false from by unfold hit; simp [e1])
      clear e0 e1
      go_enter Try.func45, Try.ntmps45
      go_wp2
      go_ret
      exact ⟨by rw [HH.out]; rfl, hb⟩
  · have b0 : (a == k) = false := by simpa using e0
    have HH := Aside0.mk (show hit k i ⟨a, b, d⟩ = false from by unfold hit; simp [e0])
    clear e0
    go_enter Try.func45, Try.ntmps45
    go_wp2
    go_ret
    exact ⟨by rw [HH.out]; rfl, hb⟩
set_option maxHeartbeats 3200000 in
set_option maxRecDepth 100000 in
theorem index_ok (g : Nat) (l : List S47) (t : Int) (A : Option Addr) (c : Nat) (k i : Int) (g4 g5 : Nat) (w0 w : World) (hI : IsSt w0 w g l t (.slice A l.length c)) (hl : l.length ≤ 1000)
    (h4 : w.heap[g4]? = some (.cells #[.int .i64 k] 41 (0, 0))) (h5 : w.heap[g5]? = some (.cells #[.int .i64 i] 3 (0, 0))) :
    Calls Try.prog 44 #[.slice A l.length c, .func (.func 45) #[] #[.pointer (some ⟨g4, 0, none⟩), .pointer (some ⟨g5, 0, none⟩)]] w fun r w' => r = .returned (.int .i64 (placeI l k i)) ∧ Below w.heap.size w w' := by
  have hu47 := Try.underlying47
  have hu76 := Try.underlying76
  have K0 := Aside0.mk (And.intro hI (And.intro (Below.refl w.heap.size w) (And.intro h4 h5)))
  clear hI h4 h5
  go_enter Try.func44, Try.ntmps44
  go_wp2
  obtain ⟨gx, hgx⟩ : ∃ gx, gx = w.heap.size := ⟨_, rfl⟩
  have hx4 : g4 < w.heap.size := blk_lt K0.out.2.2.1
  rw [← hgx] at K0 hx4
  have HX := Aside0.mk hgx
  have K0 := Aside0.mk (show IsSt w0 w g l t (.slice A l.length c) ∧ Below gx w w ∧ w.heap[g4]? = some (.cells #[.int .i64 k] 41 (0, 0)) ∧ w.heap[g5]? = some (.cells #[.int .i64 i] 3 (0, 0)) ∧ gx ≤ w.heap.size from ⟨K0.out.1, K0.out.2.1, K0.out.2.2.1, K0.out.2.2.2, by omega⟩)
  clear hgx
  go_loopg [8] l.length (fun m v wr => ∃ j : Nat, v = .int .i64 (j : Int) ∧ m + j = l.length ∧ Aside0 ((IsSt w0 wr g l t (.slice A l.length c) ∧ Below gx w wr ∧ wr.heap[g4]? = some (.cells #[.int .i64 k] 41 (0, 0)) ∧ wr.heap[g5]? = some (.cells #[.int .i64 i] 3 (0, 0)) ∧ gx ≤ wr.heap.size) ∧ ∀ q, q < j → hit k i (rd_T47 l (q : Int)) = false))
  case atStart => exact ⟨0, rfl, rfl, ⟨K0.out, fun q hq => absurd hq (Nat.not_lt_zero q)⟩⟩
  case round =>
    clear K0
    obtain ⟨j, rfl, hj, HC⟩ := hrel
    by_cases hlt : j < l.length
    · have q0 : decide ((j : Int) < (l.length : Int)) = true := decide_eq_true (by omega)
      obtain ⟨ad, rfl, y0, y1, y2⟩ := st_read HC.out.1.1 hlt
      obtain ⟨x, hx⟩ : ∃ x, x = rd_T47 l (j : Int) := ⟨_, rfl⟩
      rw [← hx] at y0 y1 y2
      have p0 : ((0 : Int) ≤ (j : Int)) = True := eq_true (by omega)
      have p1 : ((j : Int) < (l.length : Int)) = True := eq_true (by omega)
      have HE := Aside0.mk hx
      clear hx
      have hj9 : j ≤ 1000 := by omega
      have P1 := fun W h4 h5 => place1_ok x k i g4 g5 W h4 h5
      by_cases hh : hit k i x = true
      · rw [hh] at P1
        have HP := Aside0.mk (show placeI l k i = (j : Int) from by
          have := idx_at hlt HC.out.2 (by rw [← HE.out]; exact hh)
          unfold placeI; rw [this, if_pos hlt])
        clear hh
        go_wp2_with (go_at_call 45; refine (P1 _ ((blk_cell HC.out.1.2.2.1 0).trans rfl) ((blk_cell HC.out.1.2.2.2.1 0).trans rfl)).mono ?_; rintro e w7 ⟨rfl, hb7⟩)
        go_ret
        exact ⟨by rw [HP.out]; rfl, HX.out ▸ HC.out.1.2.1.trans (hb7.mono HC.out.1.2.2.2.2)⟩
      · have hh : hit k i x = false := by simpa using hh
        rw [hh] at P1
        have HN := Aside0.mk hh
        clear hh
        go_wp2_with (go_at_call 45; refine (P1 _ ((blk_cell HC.out.1.2.2.1 0).trans rfl) ((blk_cell HC.out.1.2.2.2.1 0).trans rfl)).mono ?_; rintro e w7 ⟨rfl, hb7⟩)
        go_roundg (l.length - (j + 1))
        case rel =>
          refine ⟨j + 1, (by rw [Int.natCast_add]; rfl), (by omega), ⟨⟨HC.out.1.1.below hb7, HC.out.1.2.1.trans (hb7.mono HC.out.1.2.2.2.2), (hb7.block g4 (blk_lt HC.out.1.2.2.1)).trans HC.out.1.2.2.1, (hb7.block g5 (blk_lt HC.out.1.2.2.2.1)).trans HC.out.1.2.2.2.1, Nat.le_trans HC.out.1.2.2.2.2 hb7.size⟩, fun q hq => ?_⟩⟩
          by_cases hqj : q < j
          · exact HC.out.2 q hqj
          · obtain rfl : q = j := by omega
            rw [← HE.out]
            exact HN.out
        case measure => omega
    · have q0 : decide ((j : Int) < (l.length : Int)) = false := decide_eq_false (by omega)
      have HP := Aside0.mk (show placeI l k i = -1 from by
        have := idx_none (fun q (hq : q < l.length) => HC.out.2 q (by omega))
        unfold placeI; rw [this, if_neg (by omega)])
      go_wp2
      go_ret
      exact ⟨by rw [HP.out]; rfl, HX.out ▸ HC.out.1.2.1⟩
set_option maxHeartbeats 3200000 in
set_option maxRecDepth 100000 in
theorem place_ok (g : Nat) (l : List S47) (t : Int) (v : Value) (k i : Int) (w0 w : World) (hI : IsSt w0 w g l t v) (hl : l.length ≤ 1000) :
    Calls Try.prog 35 #[.pointer (some ⟨g, 0, none⟩), .int .i64 k, .int .i64 i] w fun r w' => r = .returned (.int .i64 (placeI l k i)) ∧ Below w.heap.size w w' := by
  have hu78 := Try.underlying78
  have hu41 := Try.underlying41
  have hu3 := Try.underlying3
  obtain ⟨A, c, rfl⟩ := Kd.R_slice hI.2.2
  have hb1 := below_alloc (Below.refl w.heap.size w) (.cells #[.int .i64 k] 41)
  have hb2 := below_alloc hb1 (.cells #[.int .i64 i] 3)
  have hA1 := heap_alloc_new w (.cells #[.int .i64 k] 41)
  have hA2 := heap_alloc_new (w.alloc (.cells #[.int .i64 k] 41)) (.cells #[.int .i64 i] 3)
  have hs : (w.alloc (.cells #[.int .i64 k] 41)).heap.size = w.heap.size + 1 := by simp
  have hA12 : ((w.alloc (.cells #[.int .i64 k] 41)).alloc (.cells #[.int .i64 i] 3)).heap[w.heap.size]? = some (.cells #[.int .i64 k] 41 (0, 0)) := (Below.heap_alloc _ _ _ (by rw [hs]; omega)).trans hA1
  rw [hs] at hA2
  have hI2 := hI.below hb2
  have c0 : ((w.alloc (.cells #[.int .i64 k] 41)).alloc (.cells #[.int .i64 i] 3)).cell? ⟨g, 0, none⟩ = some (.slice A l.length c) := (blk_cell hI2.1 0).trans rfl
  have K := Aside0.mk (And.intro hI2 (And.intro hb2 (And.intro hA12 hA2)))
  clear hI hb1 hb2 hA1 hA2 hs hA12 hI2
  go_enter Try.func35, Try.ntmps35
  go_wp2_with (go_at_call 44; refine (index_ok g l t A c k i w.heap.size (w.heap.size + 1) w0 _ K.out.1 hl K.out.2.2.1 K.out.2.2.2).mono ?_; rintro e w7 ⟨rfl, hb7⟩)
  go_ret
  exact ⟨rfl, K.out.2.1.trans (hb7.mono K.out.2.1.size)⟩
set_option maxHeartbeats 1600000 in
set_option maxRecDepth 100000 in
theorem has_ok (g : Nat) (l : List S47) (t : Int) (v : Value) (k i : Int) (w0 w : World) (hI : IsSt w0 w g l t v) (hl : l.length ≤ 1000) :
    Calls Try.prog 20 #[.pointer (some ⟨g, 0, none⟩), .int .i64 k, .int .i64 i] w fun r w' => r = .returned (.bool (decide (0 ≤ placeI l k i))) ∧ Below w.heap.size w w' := by
  have P := place_ok g l t v k i w0 w hI hl
  go_enter Try.func20, Try.ntmps20
  go_wp2_with (go_at_call 35; refine P.mono ?_; rintro e w7 ⟨rfl, hb7⟩)
  go_ret
  exact ⟨rfl, hb7⟩
set_option maxRecDepth 100000 in
theorem has_nil (k i : Int) (w : World) : Calls Try.prog 20 #[.pointer none, .int .i64 k, .int .i64 i] w fun r w' => r = .returned (.bool false) ∧ w' = w := by
  go_enter Try.func20, Try.ntmps20
  go_wp2
  go_ret
  exact ⟨rfl, rfl⟩
set_option maxHeartbeats 1600000 in
set_option maxRecDepth 100000 in
theorem stamp_ok (g : Nat) (l : List S47) (t : Int) (v : Value) (w0 w : World) (hI : IsSt w0 w g l t v) :
    Calls Try.prog 23 #[.pointer (some ⟨g, 0, none⟩)] w fun r w' => r = .returned (.int .i64 t) ∧ w' = w := by
  have hu78 := Try.underlying78
  have c1 : w.cell? ⟨g, 1, none⟩ = some (.int .i64 t) := (blk_cell hI.1 1).trans rfl
  go_enter Try.func23, Try.ntmps23
  go_wp2
  go_ret
  exact ⟨rfl, rfl⟩
set_option maxRecDepth 100000 in
theorem stamp_nil (w : World) : Calls Try.prog 23 #[.pointer none] w fun r w' => r = .returned (.int .i64 0) ∧ w' = w := by
  go_enter Try.func23, Try.ntmps23
  go_wp2
  go_ret
  exact ⟨rfl, rfl⟩
set_option maxHeartbeats 1600000 in
set_option maxRecDepth 100000 in
theorem len_ok (g : Nat) (l : List S47) (t : Int) (v : Value) (w0 w : World) (hI : IsSt w0 w g l t v) :
    Calls Try.prog 24 #[.pointer (some ⟨g, 0, none⟩)] w fun r w' => r = .returned (.int .i64 (l.length : Int)) ∧ w' = w := by
  have hu78 := Try.underlying78
  obtain ⟨A, c, rfl⟩ := Kd.R_slice hI.2.2
  have c0 : w.cell? ⟨g, 0, none⟩ = some (.slice A l.length c) := (blk_cell hI.1 0).trans rfl
  go_enter Try.func24, Try.ntmps24
  go_wp2
  go_ret
  exact ⟨rfl, rfl⟩
set_option maxRecDepth 100000 in
theorem len_nil (w : World) : Calls Try.prog 24 #[.pointer none] w fun r w' => r = .returned (.int .i64 0) ∧ w' = w := by
  go_enter Try.func24, Try.ntmps24
  go_wp2
  go_ret
  exact ⟨rfl, rfl⟩
set_option maxHeartbeats 1600000 in
set_option maxRecDepth 100000 in
theorem new_ok (t : Int) (w : World) : Calls Try.prog 15 #[.int .i64 t] w fun r w' => r = .returned (.pointer (some ⟨w.heap.size, 0, none⟩)) ∧ w' = w.alloc (.cells #[.slice none 0 0, .int .i64 t] 78) := by
  have hu78 := Try.underlying78
  go_enter Try.func15, Try.ntmps15
  go_wp2
  go_ret
  exact ⟨rfl, rfl⟩
theorem new_isSt (t : Int) (w0 w : World) (hB : Below w0.heap.size w0 w) : IsSt w0 (w.alloc (.cells #[.slice none 0 0, .int .i64 t] 78)) w.heap.size [] t (.slice none 0 0) :=
  ⟨heap_alloc_new w _, hB.size, Kd.R_nil _ _ _ _ _⟩
def noteB (wd : List S24) (l : List S47) (t k i : Int) : Bool := if 0 ≤ placeI l k i then (rd_T47 l (placeI l k i)).f2 == verN wd k i else if t < verN wd k i then validB wd l else true
def noteL (wd : List S24) (l : List S47) (t k i : Int) : List S47 := if 0 ≤ placeI l k i then l else if t < verN wd k i ∧ validB wd l = false then l else l ++ [⟨k, i, verN wd k i⟩]
def noteT (wd : List S24) (l : List S47) (t k i : Int) : Int := if 0 ≤ placeI l k i then t else if t < verN wd k i ∧ validB wd l = true then (wd.length : Int) else t
theorem nowA_last (wd : List S24) : (nowA wd 24)[24]? = some (.int .i64 (wd.length : Int)) := by simp [nowA]
theorem placeI_lt (l : List S47) (k i : Int) (h : 0 ≤ placeI l k i) : ∃ q : Nat, placeI l k i = (q : Int) ∧ q < l.length := by
  unfold placeI at h ⊢
  split
  · exact ⟨_, rfl, by assumption⟩
  · rename_i hn
    rw [if_neg hn] at h
    omega
def Nx (w : World) (v v' : Value) : Prop := ∀ b, v'.ownBlock = some b → v.ownBlock = some b ∨ w.heap.size ≤ b
set_option maxHeartbeats 6400000 in
set_option maxRecDepth 100000 in
theorem note_ok (g : Nat) (l : List S47) (t : Int) (v : Value) (wd : List S24) (k i : Int) (w0 w : World) (hI : IsSt w0 w g l t v) (hB : Below w0.heap.size w0 w) (hl : l.length ≤ 999) :
    Calls Try.prog 16 #[.pointer (some ⟨g, 0, none⟩), .agg (nowA wd 24), .int .i64 k, .int .i64 i] w fun r w' => r = .returned (.bool (noteB wd l t k i)) ∧ ∃ v', IsSt w0 w' g (noteL wd l t k i) (noteT wd l t k i) v' ∧ Below w0.heap.size w0 w' ∧ KeepBut w w' g v.ownBlock ∧ Nx w v v' := by
  have hu39 := Try.underlying39
  have hu47 := Try.underlying47
  have hu76 := Try.underlying76
  have hu78 := Try.underlying78
  have hu31 := Try.underlying31
  obtain ⟨A, c, rfl⟩ := Kd.R_slice hI.2.2
  have OF := fun W => of_now wd k i W
  have PL := fun W h => place_ok g l t (.slice A l.length c) k i w0 W h (by omega)
  have VA := fun W h => valid_ok g l t (.slice A l.length c) wd w0 W h (by omega)
  have HNB := Aside0.mk (show noteB wd l t k i = _ from rfl)
  have HNL := Aside0.mk (show noteL wd l t k i = _ from rfl)
  have HNT := Aside0.mk (show noteT wd l t k i = _ from rfl)
  unfold noteB at HNB
  unfold noteL at HNL
  unfold noteT at HNT
  by_cases hp : 0 ≤ placeI l k i
  · obtain ⟨q, hq, hql⟩ := placeI_lt l k i hp
    rw [hq] at PL HNB HNL HNT
    have hq0 : (0 : Int) ≤ (q : Int) := by omega
    have p0 : decide ((0 : Int) ≤ (q : Int)) = true := decide_eq_true hq0
    have p1 : ((0 : Int) ≤ (q : Int)) = True := eq_true (by omega)
    have p2 : ((q : Int) < (l.length : Int)) = True := eq_true (by omega)
    replace HNB := Aside0.mk (show noteB wd l t k i = ((rd_T47 l (q : Int)).f2 == verN wd k i) from by unfold noteB; rw [hq, if_pos hq0])
    replace HNL := Aside0.mk (show noteL wd l t k i = l from by unfold noteL; rw [hq, if_pos hq0])
    replace HNT := Aside0.mk (show noteT wd l t k i = t from by unfold noteT; rw [hq, if_pos hq0])
    clear hp hq
    obtain ⟨xq, hxq⟩ : ∃ x, x = rd_T47 l (q : Int) := ⟨_, rfl⟩
    rw [← hxq] at HNB
    have HXQ := Aside0.mk hxq
    clear hxq
    have hN := heap_alloc_new w (.cells (nowA wd 24) 39)
    have hb1 := below_alloc (Below.refl w.heap.size w) (.cells (nowA wd 24) 39)
    have K1 := Aside0.mk (show IsSt w0 (w.alloc (.cells (nowA wd 24) 39)) g l t (.slice A l.length c) ∧ Below w0.heap.size w0 (w.alloc (.cells (nowA wd 24) 39)) ∧ w.heap.size ≤ (w.alloc (.cells (nowA wd 24) 39)).heap.size ∧ (∀ b, b < w.heap.size → b ≠ g → (w.alloc (.cells (nowA wd 24) 39)).heap[b]? = w.heap[b]?) from ⟨hI.below hb1, hB.trans (hb1.mono hB.size), hb1.size, fun b hb9 _ => hb1.block b hb9⟩)
    have N1 := Aside0.mk hN
    have hgw : g < w.heap.size := blk_lt hI.1
    generalize verN wd k i = vn at OF HNB
    clear hI hB hN hb1
    go_enter Try.func16, Try.ntmps16
    go_upto_region 1 with (fail)
    generalize w.alloc (.cells (nowA wd 24) 39) = w1 at K1 N1 ⊢
    generalize w.heap.size = gx at N1 hgw ⊢
    have a1 : IsNowV w1 (.pointer (some ⟨gx, 0, none⟩)) := ⟨gx, rfl, _, N1.out, nowA_size _ _⟩
    have b1 : nowV w1 (.pointer (some ⟨gx, 0, none⟩)) = nowA wd 24 := nowAt_eq N1.out
    go_wp2_with (fail)
    (refine (OF _).mono ?_; rintro e w2 ⟨rfl, hb2⟩; have K2 := Aside0.mk (show IsSt w0 w2 g l t (.slice A l.length c) ∧ Below w0.heap.size w0 w2 ∧ w.heap.size ≤ w2.heap.size ∧ (∀ b, b < w.heap.size → b ≠ g → w2.heap[b]? = w.heap[b]?) from ⟨K1.out.1.below hb2, K1.out.2.1.trans (hb2.mono K1.out.2.1.size), Nat.le_trans K1.out.2.2.1 hb2.size, fun b hb9 hg9 => (hb2.block b (Nat.lt_of_lt_of_le hb9 K1.out.2.2.1)).trans (K1.out.2.2.2 b hb9 hg9)⟩); have N2 := Aside0.mk (show w2.heap[gx]? = some (.cells (nowA wd 24) 39 (0, 0)) from (hb2.block gx (blk_lt N1.out)).trans N1.out); clear hb2)
    go_wp2_with (fail)
    (refine (PL _ K2.out.1).mono ?_; rintro e w3 ⟨rfl, hb3⟩; have K3 := Aside0.mk (show IsSt w0 w3 g l t (.slice A l.length c) ∧ Below w0.heap.size w0 w3 ∧ w.heap.size ≤ w3.heap.size ∧ (∀ b, b < w.heap.size → b ≠ g → w3.heap[b]? = w.heap[b]?) from ⟨K2.out.1.below hb3, K2.out.2.1.trans (hb3.mono K2.out.2.1.size), Nat.le_trans K2.out.2.2.1 hb3.size, fun b hb9 hg9 => (hb3.block b (Nat.lt_of_lt_of_le hb9 K2.out.2.2.1)).trans (K2.out.2.2.2 b hb9 hg9)⟩); have N3 := Aside0.mk (show w3.heap[gx]? = some (.cells (nowA wd 24) 39 (0, 0)) from (hb3.block gx (blk_lt N2.out)).trans N2.out); have a3 : IsNowV w3 (.pointer (some ⟨gx, 0, none⟩)) := ⟨gx, rfl, _, N3.out, nowA_size _ _⟩; have b3 : nowV w3 (.pointer (some ⟨gx, 0, none⟩)) = nowA wd 24 := nowAt_eq N3.out; have s3 : w3.cell? ⟨g, 1, none⟩ = some (.int .i64 t) := (blk_cell K3.out.1.1 1).trans rfl; have l3 : w3.cell? ⟨g, 0, none⟩ = some (.slice A l.length c) := (blk_cell K3.out.1.1 0).trans rfl; obtain ⟨ad, rfl, y0, y1, y2⟩ := st_read K3.out.1 hql; rw [← HXQ.out] at y0 y1 y2; clear hb3)
    go_wp2
    go_ret
    exact ⟨by rw [HNB.out]; rfl, _, by rw [HNL.out, HNT.out]; exact K3.out.1, K3.out.2.1, ⟨K3.out.2.2.1, fun b hb9 hg9 _ => K3.out.2.2.2 b hb9 hg9⟩, fun b hb9 => .inl hb9⟩
  have hpn : ¬ 0 ≤ placeI l k i := hp
  obtain ⟨p, hpp⟩ : ∃ p, p = placeI l k i := ⟨_, rfl⟩
  have p0 : decide ((0 : Int) ≤ p) = false := decide_eq_false (by omega)
  by_cases ht : t < verN wd k i
  · by_cases hv : validB wd l = true
    · replace HNB := Aside0.mk (show noteB wd l t k i = true from by unfold noteB; rw [if_neg hp, if_pos ht]; exact hv)
      replace HNL := Aside0.mk (show noteL wd l t k i = l ++ [⟨k, i, verN wd k i⟩] from by unfold noteL; rw [if_neg hp, if_neg (fun q => by rw [hv] at q; cases q.2)])
      replace HNT := Aside0.mk (show noteT wd l t k i = (wd.length : Int) from by unfold noteT; rw [if_neg hp, if_pos ⟨ht, hv⟩])
      have p1 : decide (t < verN wd k i) = true := decide_eq_true ht
      rw [hv] at VA
      rw [← hpp] at PL
      clear hp hpn hpp hv
      have hN := heap_alloc_new w (.cells (nowA wd 24) 39)
      have hb1 := below_alloc (Below.refl w.heap.size w) (.cells (nowA wd 24) 39)
      have K1 := Aside0.mk (show IsSt w0 (w.alloc (.cells (nowA wd 24) 39)) g l t (.slice A l.length c) ∧ Below w0.heap.size w0 (w.alloc (.cells (nowA wd 24) 39)) ∧ w.heap.size ≤ (w.alloc (.cells (nowA wd 24) 39)).heap.size ∧ (∀ b, b < w.heap.size → b ≠ g → (w.alloc (.cells (nowA wd 24) 39)).heap[b]? = w.heap[b]?) from ⟨hI.below hb1, hB.trans (hb1.mono hB.size), hb1.size, fun b hb9 _ => hb1.block b hb9⟩)
      have N1 := Aside0.mk hN
      have hgw : g < w.heap.size := blk_lt hI.1
      generalize verN wd k i = vn at OF HNL p1 ht
      clear hI hB hN hb1
      go_enter Try.func16, Try.ntmps16
      go_upto_region 1 with (fail)
      generalize w.alloc (.cells (nowA wd 24) 39) = w1 at K1 N1 ⊢
      generalize w.heap.size = gx at N1 hgw ⊢
      have a1 : IsNowV w1 (.pointer (some ⟨gx, 0, none⟩)) := ⟨gx, rfl, _, N1.out, nowA_size _ _⟩
      have b1 : nowV w1 (.pointer (some ⟨gx, 0, none⟩)) = nowA wd 24 := nowAt_eq N1.out
      go_wp2_with (fail)
      (refine (OF _).mono ?_; rintro e w2 ⟨rfl, hb2⟩; have K2 := Aside0.mk (show IsSt w0 w2 g l t (.slice A l.length c) ∧ Below w0.heap.size w0 w2 ∧ w.heap.size ≤ w2.heap.size ∧ (∀ b, b < w.heap.size → b ≠ g → w2.heap[b]? = w.heap[b]?) from ⟨K1.out.1.below hb2, K1.out.2.1.trans (hb2.mono K1.out.2.1.size), Nat.le_trans K1.out.2.2.1 hb2.size, fun b hb9 hg9 => (hb2.block b (Nat.lt_of_lt_of_le hb9 K1.out.2.2.1)).trans (K1.out.2.2.2 b hb9 hg9)⟩); have N2 := Aside0.mk (show w2.heap[gx]? = some (.cells (nowA wd 24) 39 (0, 0)) from (hb2.block gx (blk_lt N1.out)).trans N1.out); clear hb2)
      go_wp2_with (fail)
      (refine (PL _ K2.out.1).mono ?_; rintro e w3 ⟨rfl, hb3⟩; have K3 := Aside0.mk (show IsSt w0 w3 g l t (.slice A l.length c) ∧ Below w0.heap.size w0 w3 ∧ w.heap.size ≤ w3.heap.size ∧ (∀ b, b < w.heap.size → b ≠ g → w3.heap[b]? = w.heap[b]?) from ⟨K2.out.1.below hb3, K2.out.2.1.trans (hb3.mono K2.out.2.1.size), Nat.le_trans K2.out.2.2.1 hb3.size, fun b hb9 hg9 => (hb3.block b (Nat.lt_of_lt_of_le hb9 K2.out.2.2.1)).trans (K2.out.2.2.2 b hb9 hg9)⟩); have N3 := Aside0.mk (show w3.heap[gx]? = some (.cells (nowA wd 24) 39 (0, 0)) from (hb3.block gx (blk_lt N2.out)).trans N2.out); have a3 : IsNowV w3 (.pointer (some ⟨gx, 0, none⟩)) := ⟨gx, rfl, _, N3.out, nowA_size _ _⟩; have b3 : nowV w3 (.pointer (some ⟨gx, 0, none⟩)) = nowA wd 24 := nowAt_eq N3.out; have s3 : w3.cell? ⟨g, 1, none⟩ = some (.int .i64 t) := (blk_cell K3.out.1.1 1).trans rfl; have l3 : w3.cell? ⟨g, 0, none⟩ = some (.slice A l.length c) := (blk_cell K3.out.1.1 0).trans rfl;  clear hb3)
      go_wp2_with (fail)
      (refine (VA _ K3.out.1).mono ?_; rintro e w4 ⟨rfl, hb4⟩; have K4 := Aside0.mk (show IsSt w0 w4 g l t (.slice A l.length c) ∧ Below w0.heap.size w0 w4 ∧ w.heap.size ≤ w4.heap.size ∧ (∀ b, b < w.heap.size → b ≠ g → w4.heap[b]? = w.heap[b]?) from ⟨K3.out.1.below hb4, K3.out.2.1.trans (hb4.mono K3.out.2.1.size), Nat.le_trans K3.out.2.2.1 hb4.size, fun b hb9 hg9 => (hb4.block b (Nat.lt_of_lt_of_le hb9 K3.out.2.2.1)).trans (K3.out.2.2.2 b hb9 hg9)⟩); have N4 : w4.heap[gx]? = some (.cells (nowA wd 24) 39 (0, 0)) := (hb4.block gx (blk_lt N3.out)).trans N3.out; have s4 : w4.cell? ⟨gx, 24, none⟩ = some (.int .i64 (wd.length : Int)) := (blk_cell N4 24).trans (nowA_last wd); have l4 : w4.cell? ⟨g, 0, none⟩ = some (.slice A l.length c) := (blk_cell K4.out.1.1 0).trans rfl; have s5 : w4.cell? ⟨g, 1, none⟩ = some (.int .i64 t) := (blk_cell K4.out.1.1 1).trans rfl; have f5 := blk_frozen K4.out.1.1; clear hb4 N4)
      go_upto_region 11 with (fail)
      have K5 := Aside0.mk (show IsSt w0 (w4.setCell ⟨g, 1, none⟩ (.int .i64 (wd.length : Int))) g l (wd.length : Int) (.slice A l.length c) ∧ Below w0.heap.size w0 (w4.setCell ⟨g, 1, none⟩ (.int .i64 (wd.length : Int))) ∧ w.heap.size ≤ (w4.setCell ⟨g, 1, none⟩ (.int .i64 (wd.length : Int))).heap.size ∧ (∀ b, b < w.heap.size → b ≠ g → (w4.setCell ⟨g, 1, none⟩ (.int .i64 (wd.length : Int))).heap[b]? = w.heap[b]?) from ⟨⟨by simpa using blk_set K4.out.1.1 1 (.int .i64 (wd.length : Int)), K4.out.1.2.1, R_exact47 (Kd.R_far K4.out.1.2.2 (p := ⟨g, 1, none⟩) (fun q hq e => K4.out.1.own (by have e' : q = g := e; rw [← e']; exact hq.symm)) _)⟩, below_set K4.out.2.1 K4.out.1.2.1, by simpa [World.setCell] using K4.out.2.2.1, fun b hb9 hg9 => (Below.heap_setCell w4 ⟨g, 1, none⟩ _ b hg9).trans (K4.out.2.2.2 b hb9 hg9)⟩)
      clear s4 s5 l4 f5
      generalize w4.setCell ⟨g, 1, none⟩ (.int .i64 (wd.length : Int)) = w5 at K5 ⊢
      have d0 : w5.cell? ⟨g, 0, none⟩ = some (.slice A l.length c) := (blk_cell K5.out.1.1 0).trans rfl
      have hR5 : k47.R 47 w5 w0.heap.size (fun q => (Value.slice A l.length c).ownBlock = some q ∨ w5.heap.size ≤ q) (.slice A l.length c) l := Kd.R_mono K5.out.1.2.2 (fun _ hq => .inl hq)
      have hB5 := K5.out.2.1
      have hlt5 : g < w5.heap.size := blk_lt K5.out.1.1
      have ho5 : some g ≠ (Value.slice A l.length c).ownBlock := K5.out.1.own
      go_wp2_with ((with_reducible refine gate_builtin (b := .append) (xs := #[.tmp 52, .tmp 57]) rfl ?_); (try (refine gate_guard (by rfl) ?_; dsimp only)); at_builtin; refine Kd.R_append k47 (w0 := w0) (W := w5) w0.heap.size rfl (.tmp 52) (.tmp 57) 76 47 (.agg #[(.int .i64 0), (.int .i64 0), (.int .i64 0)]) 24 rfl hu76 info47D rfl (by decide) (by omega) (.slice A l.length c) l (⟨k, i, vn⟩ : S47) [.int .i64 k, .int .i64 i, .int .i64 vn] (fun q => (Value.slice A l.length c).ownBlock = some q ∨ w5.heap.size ≤ q) (fun _ => False) (by first | (go_simp; done) | (go_simp; rfl)) (by first | (go_simp; done) | (go_simp; rfl)) (k47_mkM _ _ _ (⟨k, i, vn⟩ : S47)) (fun _ hk => hk.elim) (fun _ hk => .inr hk) hR5 hB5 hB5.size (by omega) ?_; intro v7 w7 hO7 hB7 hg7 hat7; have h7 := (hg7.block g hlt5 ho5).trans K5.out.1.1; have d4 : w7.cell? ⟨g, 0, none⟩ = some (.slice A l.length c) := (blk_cell h7 0).trans rfl; have f4 := blk_frozen h7 0; obtain ⟨A7, c7, rfl⟩ := Kd.R_slice hO7)
      go_ret
      have hgo : some g ≠ (Value.slice A7 (l ++ [(⟨k, i, vn⟩ : S47)]).length c7).ownBlock := Kd.R_ne hO7 h7 (by decide)
      refine ⟨by rw [HNB.out]; rfl, .slice A7 (l ++ [(⟨k, i, vn⟩ : S47)]).length c7, ?_, below_set hB7 K5.out.1.2.1, ?_, ?_⟩
      · rw [HNL.out, HNT.out]
        refine ⟨?_, K5.out.1.2.1, ?_⟩
        · simpa using blk_set h7 0 (.slice A7 (l ++ [(⟨k, i, vn⟩ : S47)]).length c7)
        · exact R_exact47 (Kd.R_far hO7 (p := ⟨g, 0, none⟩) (by
            intro q hq e
            rcases hq with hq | hq
            · exact ho5 (by have e' : q = g := e; rw [← e']; exact hq.symm)
            · have : q = g := e
              omega) _)
      · exact KeepBut.set_ ⟨Nat.le_trans K5.out.2.2.1 hg7.size, fun b hb h1 h2 => (hg7.block b (by have := K5.out.2.2.1; omega) h2).trans (K5.out.2.2.2 b hb h1)⟩ _ _
      · intro b hb
        rcases hat7 with e | ⟨b', e, hb'⟩
        · exact .inl (by rw [← e]; exact hb)
        · rw [e] at hb
          injection hb with hb
          exact .inr (by have := K5.out.2.2.1; omega)
    · have hv : validB wd l = false := by simpa using hv
      replace HNB := Aside0.mk (show noteB wd l t k i = false from by unfold noteB; rw [if_neg hp, if_pos ht]; exact hv)
      replace HNL := Aside0.mk (show noteL wd l t k i = l from by unfold noteL; rw [if_neg hp, if_pos ⟨ht, hv⟩])
      replace HNT := Aside0.mk (show noteT wd l t k i = t from by unfold noteT; rw [if_neg hp, if_neg (fun q => by rw [hv] at q; cases q.2)])
      have p1 : decide (t < verN wd k i) = true := decide_eq_true ht
      rw [hv] at VA
      rw [← hpp] at PL
      clear hp hpn hpp hv
      have hN := heap_alloc_new w (.cells (nowA wd 24) 39)
      have hb1 := below_alloc (Below.refl w.heap.size w) (.cells (nowA wd 24) 39)
      have K1 := Aside0.mk (show IsSt w0 (w.alloc (.cells (nowA wd 24) 39)) g l t (.slice A l.length c) ∧ Below w0.heap.size w0 (w.alloc (.cells (nowA wd 24) 39)) ∧ w.heap.size ≤ (w.alloc (.cells (nowA wd 24) 39)).heap.size ∧ (∀ b, b < w.heap.size → b ≠ g → (w.alloc (.cells (nowA wd 24) 39)).heap[b]? = w.heap[b]?) from ⟨hI.below hb1, hB.trans (hb1.mono hB.size), hb1.size, fun b hb9 _ => hb1.block b hb9⟩)
      have N1 := Aside0.mk hN
      have hgw : g < w.heap.size := blk_lt hI.1
      generalize verN wd k i = vn at OF p1 ht
      clear hI hB hN hb1
      go_enter Try.func16, Try.ntmps16
      go_upto_region 1 with (fail)
      generalize w.alloc (.cells (nowA wd 24) 39) = w1 at K1 N1 ⊢
      generalize w.heap.size = gx at N1 hgw ⊢
      have a1 : IsNowV w1 (.pointer (some ⟨gx, 0, none⟩)) := ⟨gx, rfl, _, N1.out, nowA_size _ _⟩
      have b1 : nowV w1 (.pointer (some ⟨gx, 0, none⟩)) = nowA wd 24 := nowAt_eq N1.out
      go_wp2_with (fail)
      (refine (OF _).mono ?_; rintro e w2 ⟨rfl, hb2⟩; have K2 := Aside0.mk (show IsSt w0 w2 g l t (.slice A l.length c) ∧ Below w0.heap.size w0 w2 ∧ w.heap.size ≤ w2.heap.size ∧ (∀ b, b < w.heap.size → b ≠ g → w2.heap[b]? = w.heap[b]?) from ⟨K1.out.1.below hb2, K1.out.2.1.trans (hb2.mono K1.out.2.1.size), Nat.le_trans K1.out.2.2.1 hb2.size, fun b hb9 hg9 => (hb2.block b (Nat.lt_of_lt_of_le hb9 K1.out.2.2.1)).trans (K1.out.2.2.2 b hb9 hg9)⟩); have N2 := Aside0.mk (show w2.heap[gx]? = some (.cells (nowA wd 24) 39 (0, 0)) from (hb2.block gx (blk_lt N1.out)).trans N1.out); clear hb2)
      go_wp2_with (fail)
      (refine (PL _ K2.out.1).mono ?_; rintro e w3 ⟨rfl, hb3⟩; have K3 := Aside0.mk (show IsSt w0 w3 g l t (.slice A l.length c) ∧ Below w0.heap.size w0 w3 ∧ w.heap.size ≤ w3.heap.size ∧ (∀ b, b < w.heap.size → b ≠ g → w3.heap[b]? = w.heap[b]?) from ⟨K2.out.1.below hb3, K2.out.2.1.trans (hb3.mono K2.out.2.1.size), Nat.le_trans K2.out.2.2.1 hb3.size, fun b hb9 hg9 => (hb3.block b (Nat.lt_of_lt_of_le hb9 K2.out.2.2.1)).trans (K2.out.2.2.2 b hb9 hg9)⟩); have N3 := Aside0.mk (show w3.heap[gx]? = some (.cells (nowA wd 24) 39 (0, 0)) from (hb3.block gx (blk_lt N2.out)).trans N2.out); have a3 : IsNowV w3 (.pointer (some ⟨gx, 0, none⟩)) := ⟨gx, rfl, _, N3.out, nowA_size _ _⟩; have b3 : nowV w3 (.pointer (some ⟨gx, 0, none⟩)) = nowA wd 24 := nowAt_eq N3.out; have s3 : w3.cell? ⟨g, 1, none⟩ = some (.int .i64 t) := (blk_cell K3.out.1.1 1).trans rfl; have l3 : w3.cell? ⟨g, 0, none⟩ = some (.slice A l.length c) := (blk_cell K3.out.1.1 0).trans rfl;  clear hb3)
      go_wp2_with (fail)
      (refine (VA _ K3.out.1).mono ?_; rintro e w4 ⟨rfl, hb4⟩; have K4 := Aside0.mk (show IsSt w0 w4 g l t (.slice A l.length c) ∧ Below w0.heap.size w0 w4 ∧ w.heap.size ≤ w4.heap.size ∧ (∀ b, b < w.heap.size → b ≠ g → w4.heap[b]? = w.heap[b]?) from ⟨K3.out.1.below hb4, K3.out.2.1.trans (hb4.mono K3.out.2.1.size), Nat.le_trans K3.out.2.2.1 hb4.size, fun b hb9 hg9 => (hb4.block b (Nat.lt_of_lt_of_le hb9 K3.out.2.2.1)).trans (K3.out.2.2.2 b hb9 hg9)⟩); have N4 : w4.heap[gx]? = some (.cells (nowA wd 24) 39 (0, 0)) := (hb4.block gx (blk_lt N3.out)).trans N3.out; have s4 : w4.cell? ⟨gx, 24, none⟩ = some (.int .i64 (wd.length : Int)) := (blk_cell N4 24).trans (nowA_last wd); have l4 : w4.cell? ⟨g, 0, none⟩ = some (.slice A l.length c) := (blk_cell K4.out.1.1 0).trans rfl; have s5 : w4.cell? ⟨g, 1, none⟩ = some (.int .i64 t) := (blk_cell K4.out.1.1 1).trans rfl; have f5 := blk_frozen K4.out.1.1; clear hb4 N4)
      go_wp2
      go_ret
      exact ⟨by rw [HNB.out]; rfl, _, by rw [HNL.out, HNT.out]; exact K4.out.1, K4.out.2.1, ⟨K4.out.2.2.1, fun b hb9 hg9 _ => K4.out.2.2.2 b hb9 hg9⟩, fun b hb9 => .inl hb9⟩
  · replace HNB := Aside0.mk (show noteB wd l t k i = true from by unfold noteB; rw [if_neg hp, if_neg ht])
    replace HNL := Aside0.mk (show noteL wd l t k i = l ++ [⟨k, i, verN wd k i⟩] from by unfold noteL; rw [if_neg hp, if_neg (fun q => ht q.1)])
    replace HNT := Aside0.mk (show noteT wd l t k i = t from by unfold noteT; rw [if_neg hp, if_neg (fun q => ht q.1)])
    have p1 : decide (t < verN wd k i) = false := decide_eq_false ht
    rw [← hpp] at PL
    clear hp hpn hpp VA
    have hN := heap_alloc_new w (.cells (nowA wd 24) 39)
    have hb1 := below_alloc (Below.refl w.heap.size w) (.cells (nowA wd 24) 39)
    have K1 := Aside0.mk (show IsSt w0 (w.alloc (.cells (nowA wd 24) 39)) g l t (.slice A l.length c) ∧ Below w0.heap.size w0 (w.alloc (.cells (nowA wd 24) 39)) ∧ w.heap.size ≤ (w.alloc (.cells (nowA wd 24) 39)).heap.size ∧ (∀ b, b < w.heap.size → b ≠ g → (w.alloc (.cells (nowA wd 24) 39)).heap[b]? = w.heap[b]?) from ⟨hI.below hb1, hB.trans (hb1.mono hB.size), hb1.size, fun b hb9 _ => hb1.block b hb9⟩)
    have N1 := Aside0.mk hN
    have hgw : g < w.heap.size := blk_lt hI.1
    generalize verN wd k i = vn at OF HNL p1 ht
    clear hI hB hN hb1
    go_enter Try.func16, Try.ntmps16
    go_upto_region 1 with (fail)
    generalize w.alloc (.cells (nowA wd 24) 39) = w1 at K1 N1 ⊢
    generalize w.heap.size = gx at N1 hgw ⊢
    have a1 : IsNowV w1 (.pointer (some ⟨gx, 0, none⟩)) := ⟨gx, rfl, _, N1.out, nowA_size _ _⟩
    have b1 : nowV w1 (.pointer (some ⟨gx, 0, none⟩)) = nowA wd 24 := nowAt_eq N1.out
    go_wp2_with (fail)
    (refine (OF _).mono ?_; rintro e w2 ⟨rfl, hb2⟩; have K2 := Aside0.mk (show IsSt w0 w2 g l t (.slice A l.length c) ∧ Below w0.heap.size w0 w2 ∧ w.heap.size ≤ w2.heap.size ∧ (∀ b, b < w.heap.size → b ≠ g → w2.heap[b]? = w.heap[b]?) from ⟨K1.out.1.below hb2, K1.out.2.1.trans (hb2.mono K1.out.2.1.size), Nat.le_trans K1.out.2.2.1 hb2.size, fun b hb9 hg9 => (hb2.block b (Nat.lt_of_lt_of_le hb9 K1.out.2.2.1)).trans (K1.out.2.2.2 b hb9 hg9)⟩); have N2 := Aside0.mk (show w2.heap[gx]? = some (.cells (nowA wd 24) 39 (0, 0)) from (hb2.block gx (blk_lt N1.out)).trans N1.out); clear hb2)
    go_wp2_with (fail)
    (refine (PL _ K2.out.1).mono ?_; rintro e w3 ⟨rfl, hb3⟩; have K3 := Aside0.mk (show IsSt w0 w3 g l t (.slice A l.length c) ∧ Below w0.heap.size w0 w3 ∧ w.heap.size ≤ w3.heap.size ∧ (∀ b, b < w.heap.size → b ≠ g → w3.heap[b]? = w.heap[b]?) from ⟨K2.out.1.below hb3, K2.out.2.1.trans (hb3.mono K2.out.2.1.size), Nat.le_trans K2.out.2.2.1 hb3.size, fun b hb9 hg9 => (hb3.block b (Nat.lt_of_lt_of_le hb9 K2.out.2.2.1)).trans (K2.out.2.2.2 b hb9 hg9)⟩); have N3 := Aside0.mk (show w3.heap[gx]? = some (.cells (nowA wd 24) 39 (0, 0)) from (hb3.block gx (blk_lt N2.out)).trans N2.out); have a3 : IsNowV w3 (.pointer (some ⟨gx, 0, none⟩)) := ⟨gx, rfl, _, N3.out, nowA_size _ _⟩; have b3 : nowV w3 (.pointer (some ⟨gx, 0, none⟩)) = nowA wd 24 := nowAt_eq N3.out; have s3 : w3.cell? ⟨g, 1, none⟩ = some (.int .i64 t) := (blk_cell K3.out.1.1 1).trans rfl; have l3 : w3.cell? ⟨g, 0, none⟩ = some (.slice A l.length c) := (blk_cell K3.out.1.1 0).trans rfl;  clear hb3)
    go_upto_region 11 with (fail)
    have K5 := K3
    clear a1 b1 a3 b3 s3 l3
    generalize w3 = w5 at K5 ⊢
    have d0 : w5.cell? ⟨g, 0, none⟩ = some (.slice A l.length c) := (blk_cell K5.out.1.1 0).trans rfl
    have hR5 : k47.R 47 w5 w0.heap.size (fun q => (Value.slice A l.length c).ownBlock = some q ∨ w5.heap.size ≤ q) (.slice A l.length c) l := Kd.R_mono K5.out.1.2.2 (fun _ hq => .inl hq)
    have hB5 := K5.out.2.1
    have hlt5 : g < w5.heap.size := blk_lt K5.out.1.1
    have ho5 : some g ≠ (Value.slice A l.length c).ownBlock := K5.out.1.own
    go_wp2_with ((with_reducible refine gate_builtin (b := .append) (xs := #[.tmp 52, .tmp 57]) rfl ?_); (try (refine gate_guard (by rfl) ?_; dsimp only)); at_builtin; refine Kd.R_append k47 (w0 := w0) (W := w5) w0.heap.size rfl (.tmp 52) (.tmp 57) 76 47 (.agg #[(.int .i64 0), (.int .i64 0), (.int .i64 0)]) 24 rfl hu76 info47D rfl (by decide) (by omega) (.slice A l.length c) l (⟨k, i, vn⟩ : S47) [.int .i64 k, .int .i64 i, .int .i64 vn] (fun q => (Value.slice A l.length c).ownBlock = some q ∨ w5.heap.size ≤ q) (fun _ => False) (by first | (go_simp; done) | (go_simp; rfl)) (by first | (go_simp; done) | (go_simp; rfl)) (k47_mkM _ _ _ (⟨k, i, vn⟩ : S47)) (fun _ hk => hk.elim) (fun _ hk => .inr hk) hR5 hB5 hB5.size (by omega) ?_; intro v7 w7 hO7 hB7 hg7 hat7; have h7 := (hg7.block g hlt5 ho5).trans K5.out.1.1; have d4 : w7.cell? ⟨g, 0, none⟩ = some (.slice A l.length c) := (blk_cell h7 0).trans rfl; have f4 := blk_frozen h7 0; obtain ⟨A7, c7, rfl⟩ := Kd.R_slice hO7)
    go_ret
    have hgo : some g ≠ (Value.slice A7 (l ++ [(⟨k, i, vn⟩ : S47)]).length c7).ownBlock := Kd.R_ne hO7 h7 (by decide)
    refine ⟨by rw [HNB.out]; rfl, .slice A7 (l ++ [(⟨k, i, vn⟩ : S47)]).length c7, ?_, below_set hB7 K5.out.1.2.1, ?_, ?_⟩
    · rw [HNL.out, HNT.out]
      refine ⟨?_, K5.out.1.2.1, ?_⟩
      · simpa using blk_set h7 0 (.slice A7 (l ++ [(⟨k, i, vn⟩ : S47)]).length c7)
      · exact R_exact47 (Kd.R_far hO7 (p := ⟨g, 0, none⟩) (by
          intro q hq e
          rcases hq with hq | hq
          · exact ho5 (by have e' : q = g := e; rw [← e']; exact hq.symm)
          · have : q = g := e
            omega) _)
    · exact KeepBut.set_ ⟨Nat.le_trans K5.out.2.2.1 hg7.size, fun b hb h1 h2 => (hg7.block b (by have := K5.out.2.2.1; omega) h2).trans (K5.out.2.2.2 b hb h1)⟩ _ _
    · intro b hb
      rcases hat7 with e | ⟨b', e, hb'⟩
      · exact .inl (by rw [← e]; exact hb)
      · rw [e] at hb
        injection hb with hb
        exact .inr (by have := K5.out.2.2.1; omega)
set_option maxHeartbeats 1600000 in
set_option maxRecDepth 100000 in
theorem values_ok (A : Option Addr) (n c : Nat) (w : World) : Calls Try.prog 37 #[.slice A n c] w fun e w' => e = .returned (.func (.func 46) #[] #[.pointer (some ⟨w.heap.size, 0, none⟩)]) ∧ w' = w.alloc (.cells #[.slice A n c] 76) := by
  go_enter Try.func37, Try.ntmps37
  go_wp2
  go_ret
  exact ⟨rfl, rfl⟩
set_option maxHeartbeats 1600000 in
set_option maxRecDepth 100000 in
theorem all_ok (g : Nat) (l : List S47) (t : Int) (A : Option Addr) (c : Nat) (w0 w : World) (hI : IsSt w0 w g l t (.slice A l.length c)) :
    Calls Try.prog 19 #[.pointer (some ⟨g, 0, none⟩)] w fun e w' => e = .returned (.func (.func 46) #[] #[.pointer (some ⟨w.heap.size, 0, none⟩)]) ∧ w' = w.alloc (.cells #[.slice A l.length c] 76) := by
  have hu78 := Try.underlying78
  have c0 : w.cell? ⟨g, 0, none⟩ = some (.slice A l.length c) := (blk_cell hI.1 0).trans rfl
  go_enter Try.func19, Try.ntmps19
  go_wp2_with (go_at_call 37; refine (values_ok _ _ _ _).mono ?_; rintro e w7 ⟨rfl, rfl⟩)
  go_ret
  exact ⟨rfl, rfl⟩
set_option maxRecDepth 100000 in
theorem all_nil (w : World) : Calls Try.prog 19 #[.pointer none] w fun e w' => e = .returned (.func (.func 36) #[] #[]) ∧ w' = w := by
  go_enter Try.func19, Try.ntmps19
  go_wp2
  go_ret
  exact ⟨rfl, rfl⟩
def ent (x : S47) : Array Value := #[.int .i64 x.f0, .int .i64 x.f1, .int .i64 x.f2]
section
attribute [local go_sem] Oper.semAt_some
set_option maxHeartbeats 2000000 in
set_option maxRecDepth 100000 in
theorem values_stops (F : Fence) (n : Nat) (h46 : F.fn 46) (hro : F.round = none) (hn : 1 ≤ n) (Bs : Nat) (A : Option Addr) (c : Nat) (l : List S47) (hl : l.length ≤ 1000) (w : World) (n₀ : Nat) (hn0 : n₀ = w.heap.size) (hBs : w.cell? ⟨Bs, 0, none⟩ = some (.slice A l.length c)) (hC : Kd.C k47 w A l.length l) :
    SeqStopsK F n Try.prog 46 #[.pointer (some ⟨Bs, 0, none⟩)] (fun x : S47 => #[Value.agg (ent x)]) (Below n₀) (fun ys => ys = l) (fun pre => pre <+: l) l.length w := fun lp J Jx W hW hJ hJx hY h0 => by
  have hu47 := Try.underlying47
  have hu76 := Try.underlying76
  have hBl := World.block_lt_of_cell? w _ hBs
  have cB : W.cell? ⟨Bs, 0, none⟩ = some (.slice A l.length c) := (hW.cell (p := ⟨Bs, 0, none⟩) hBl).trans hBs
  refine callsIn_of_wp Try.func46 rfl h46 ?_ hro
  simp only [Try.ntmps46, List.size_toArray, List.length_cons, List.length_nil, Nat.reduceAdd, Nat.reduceSub, Array.replicate_succ, Array.replicate_zero, List.push_toArray, List.append_toArray, List.nil_append, List.cons_append]
  gi_wp2
  subst hn0
  gi_loopw [7] (fun i wr => ∃ k : Nat, k ≤ l.length ∧ i = .int .i64 (k : Int) ∧ J (l.take k) wr ∧ Below w.heap.size W wr)
    (fun i _ => l.length - (intOf i).toNat)
  case atStart => exact ⟨0, Nat.zero_le _, rfl, h0, Below.refl _ _⟩
  case round =>
    obtain ⟨k, hk, rfl, hJs, hnx⟩ := hrel
    by_cases hlt : k < l.length
    · have q0 : decide ((k : Int) < (l.length : Int)) = true := decide_eq_true (by omega)
      obtain ⟨ad, rfl, y0, y1, y2⟩ := at_T47 (Kd.C_below hC (hW.trans hnx)) (k : Int) (by omega) (by omega)
      simp only [Int.toNat_natCast] at y0 y1 y2
      obtain ⟨⟨a, b, d⟩, hx⟩ : ∃ x, x = rd_T47 l (k : Int) := ⟨_, rfl⟩
      rw [← hx] at y0 y1 y2
      have htk : l.take (k + 1) = l.take k ++ [⟨a, b, d⟩] := by rw [rd47_mem hlt, hx]
      have p0 : ((0 : Int) ≤ (k : Int)) = True := eq_true (by omega)
      have p1 : ((k : Int) < (l.length : Int)) = True := eq_true (by omega)
      have hk9 : k ≤ 1000 := by omega
      have hJa : J (l.take k) (wr.alloc (.cells #[.int .i64 a, .int .i64 b, .int .i64 d] 47)) := hJ _ _ _ none hJs (World.grownBy_alloc wr _ none) (fun r e => by cases e)
      obtain ⟨fn, tmps, assign, body, hy, hR⟩ := hY (l.take k) ⟨a, b, d⟩ _ hJa (by rw [List.length_take]; omega)
      have hy' : (Instr.yield lp #[.agg #[.int .i64 a, .int .i64 b, .int .i64 d]]).run Try.prog (wr.alloc (.cells #[.int .i64 a, .int .i64 b, .int .i64 d] 47)) = .ok (.round lp fn tmps assign body) (wr.alloc (.cells #[.int .i64 a, .int .i64 b, .int .i64 d] 47)) := hy
      have HX := Aside0.mk (And.intro hx htk)
      clear hx htk hy
      gi_wp2
      refine hR.mono ?_
      rintro e W3 (⟨rfl, hJ3, hk3⟩ | ⟨rfl, hJx3⟩)
      · gi_wp2
        go_roundw
        case rel => exact ⟨k + 1, by omega, by rw [Int.natCast_add]; rfl, by rw [HX.out.2]; exact hJ3, (hnx.trans ((below_alloc (Below.refl wr.heap.size wr) _).mono (Nat.le_trans hW.size hnx.size))).trans hk3⟩
        case measure => simp [intOf]; omega
      · gi_wp2
        refine bodyPost_ret (results_none rfl _ _ _) rfl ?_
        exact ⟨⟨_, rfl⟩, .inr ⟨l.take k ++ [⟨a, b, d⟩], by rw [← HX.out.2]; exact List.take_prefix _ _, hJx3⟩⟩
    · have q0 : decide ((k : Int) < (l.length : Int)) = false := decide_eq_false (by omega)
      have hkl : k = l.length := by omega
      have hJl : J l wr := by rw [hkl, List.take_length] at hJs; exact hJs
      clear hkl
      gi_wp2
      go_end0
      exact ⟨⟨_, rfl⟩, .inl ⟨l, rfl, hJl⟩⟩
end
/-! ### a region that draws its order, in a round -/
theorem rowsIn_wide {n l : Nat} {P : Program} {row : String} {args : Array Value} {w : World} {R : Value → World → Prop} (h : Rows P row args w R) : RowsIn (Fence.wide.inRound l) n P row args w R :=
  fun c cs _ => let ⟨v, w', q, s⟩ := h c cs; ⟨v, w', q, stepsIn_wide.2 s⟩
theorem wpIn_of_wp {l n : Nat} {P : Program} {o : Oper} {a : Act} {w : World} {K : Act → World → Prop} {Q : Exit → Act → World → Prop} (hd : ∀ c, o.op ≠ .defer c) (h : o.wp P a w K Q) : o.wpIn (Fence.wide.inRound l) n P a w K Q := by
  refine ⟨fun _ _ => trivial, ?_⟩
  rw [Oper.semAt_eq _ _ _ hd]
  unfold Oper.wp at h
  generalize (execOp a.eval o).run P w = r at h
  cases r with
  | ok x w' =>
    cases x <;> simp only [Oper.upon, Oper.uponIn] at h ⊢ <;>
      first
        | exact h
        | exact ⟨(fun q => by cases q), CallsIn.inRound l (callsIn_wide.2 h)⟩
        | exact ⟨(fun q => by cases q), rowsIn_wide h⟩
  | halt x w' => cases x <;> simp only [Oper.upon, Oper.uponIn] at h ⊢ <;> exact h
def noDefer (ops : Array Oper) : Bool := ops.all fun o => match o.op with | .defer .. => false | _ => true
theorem noDefer_spec {ops : Array Oper} (h : noDefer ops = true) {i : Nat} {o : Oper} (ho : ops[i]? = some o) (c : Call) : o.op ≠ .defer c := by
  intro e
  have hi := (Array.getElem?_eq_some_iff.1 ho)
  obtain ⟨hlt, rfl⟩ := hi
  have := (Array.all_eq_true.1 h) i hlt
  rw [e] at this
  cases this
theorem wpAnyIn_of {l n : Nat} {P : Program} {md : Region.Mode} {ops : Array Oper} {Q : Exit → Act → World → Prop} (hd : noDefer ops = true) (hq : ¬ LetsOut Q) : ∀ (fuel : Nat) (listed : Array Bool) (a : Act) (w : World), wpAny P md ops Q fuel listed a w → wpAnyIn (Fence.wide.inRound l) n P md ops Q fuel listed a w
  | 0, _, _, _, h => h
  | fuel + 1, listed, a, w, h => ⟨h.1, fun i hi => by
      have hx := h.2 i hi
      unfold wpOp at hx
      unfold wpOpIn
      split
      · rename_i ho
        simp only [ho] at hx
        exact wpAnyIn_of hd hq fuel _ _ _ hx
      · rename_i o ho
        simp only [ho] at hx
        split
        · rename_i hw
          simp only [hw, if_true] at hx
          rcases hx with hx | ⟨_, hx⟩
          · exact Oper.wpIn_mono (fun a w h' => wpAnyIn_of hd hq fuel _ a w h') (wpIn_of_wp (noDefer_spec hd ho) hx)
          · exact absurd hx hq
        · rename_i hw
          simp only [hw] at hx
          exact ⟨fun _ _ => trivial, wpAnyIn_of hd hq fuel _ _ _ hx⟩⟩
theorem wpIn_round_held {l n id : Nat} {P : Program} {ops : Array Oper} {Q : Exit → Act → World → Prop} {S : World → Prop} {a : Act} {w : World} (hm : P.follows .mixedOrders = true) (hd : noDefer ops = true) (hq : ¬ LetsOut Q) (hS : S w.drew)
    (h : S w.drew → wpAnyH P .any ops Q S ops.size (Array.replicate ops.size false) a w.drew) : (Code.region id ops true).wpIn (Fence.wide.inRound l) n P Q a w :=
  wpIn_region_any hm (wpAnyIn_of hd hq _ _ _ _ (wpAny_of_held _ _ _ _ (h hS)))
def thenE (wd : List S24) (t : Int) (e : S47) : Bool := (ver wd ⟨e.f0, e.f1⟩ t : Int) == e.f2
def thenB (wd : List S24) (l : List S47) (t : Int) : Bool := l.all (thenE wd t)
theorem results_bool {fn : Func} {p : Tmp} (h : fn.results = #[.cell p 4]) (tmps : Array Value) (w : World) (g : Nat) (v : Value) (hp : tmps.getD p undef = .pointer (some ⟨g, 0, none⟩)) (hc : w.cell? ⟨g, 0, none⟩ = some v) : (results fn tmps).run Try.prog w = .ok v w := by
  have hu4 := Try.underlying4
  have hl : (loadVar 4 ⟨g, 0, none⟩).run Try.prog w = .ok v w := by go_simp
  have hp' : tmps[p]?.getD undef = .pointer (some ⟨g, 0, none⟩) := by simpa using hp
  simp [results, h, hp', asAddr, hl]
theorem keepsFrom_below {B : Nat} {W W' : World} (h : Below W.heap.size W W') : KeepsFrom B W W' := ⟨h.size, fun k o hk h0 ho => (h.block k (Array.getElem?_eq_some_iff.1 h0).1).trans h0⟩
theorem cells_own {W W' : World} {B : Nat} {C : Array Value} {e : TypeId} {f : Nat × Nat} {row : Option Nat} (h : W.heap[B]? = some (.cells C e f)) (hg : W.grownBy W' row) (hr : ∀ r, row = some r → ∃ o : Obj, W.heap[r]? = some o ∧ o.isCells = false) : W'.heap[B]? = some (.cells C e f) :=
  (hg.block B (Array.getElem?_eq_some_iff.1 h).1 (fun q => by obtain ⟨o, ho, hc⟩ := hr B q.symm; rw [h] at ho; cases ho; cases hc)).trans h
theorem nowA_nil : nowA [] 24 = #[.int .i64 0, .int .i64 0, .int .i64 0, .int .i64 0, .int .i64 0, .int .i64 0, .int .i64 0, .int .i64 0, .int .i64 0, .int .i64 0, .int .i64 0, .int .i64 0, .int .i64 0, .int .i64 0, .int .i64 0, .int .i64 0, .int .i64 0, .int .i64 0, .int .i64 0, .int .i64 0, .int .i64 0, .int .i64 0, .int .i64 0, .int .i64 0, .int .i64 0] := by rfl
set_option maxHeartbeats 3200000 in
set_option maxRecDepth 100000 in
theorem alive_ok (w : World) : Calls Try.prog 13 #[] w fun e w' => e = .returned (.bool true) ∧ Below w.heap.size w w' := by
  have hu39 := Try.underlying39
  have NT := fun v W (h : IsSt w W w.heap.size [] 0 v) hB => note_ok w.heap.size [] 0 v [] 0 1 w W h hB (by decide)
  have e1 : noteB [] [] 0 0 1 = true := by decide
  have e2 : noteL [] [] 0 0 1 = [⟨0, 1, 0⟩] := by rfl
  have e3 : noteT [] [] 0 0 1 = 0 := by decide
  rw [e1, e2, e3, nowA_nil] at NT
  clear e1 e2 e3
  have hb := below_alloc (Below.refl w.heap.size w) (.cells #[.slice none 0 0, .int .i64 0] 78)
  have HS := Aside0.mk (And.intro (new_isSt 0 w w (Below.refl _ _)) hb)
  clear hb
  go_enter Try.func13, Try.ntmps13
  go_wp2_with (fail)
  refine (new_ok 0 w).mono ?_
  rintro e w1 ⟨rfl, rfl⟩
  go_wp2_with (fail)
  refine (NT _ _ HS.out.1 HS.out.2).mono ?_
  rintro e w2 ⟨rfl, v2, hI2, hB2, _, _⟩
  have H2 := Aside0.mk (And.intro hI2 hB2)
  clear hI2 hB2 NT HS
  go_wp2_with (fail)
  refine (len_ok _ _ _ _ _ _ H2.out.1).mono ?_
  rintro e w3 ⟨rfl, rfl⟩
  go_wp2_with (fail)
  refine (has_ok _ _ _ _ 0 1 _ _ H2.out.1 (by decide)).mono ?_
  rintro e w4 ⟨rfl, hb4⟩
  go_wp2
  go_ret
  exact ⟨rfl, H2.out.2.trans (hb4.mono H2.out.2.size)⟩
/-! ### append([]Thing{}, ahead...) -/
def cells24 (x : S24) : List Value := [.int .i64 x.f0, .int .i64 x.f1]
def news24 (l : List S24) : List Value := l.flatMap cells24
theorem news24_len (l : List S24) : (news24 l).length = l.length * 2 := by
  induction l with
  | nil => rfl
  | cons x r ih => simp only [news24, List.flatMap_cons, List.length_append] at ih ⊢; rw [ih]; simp [cells24]; omega
theorem news24_at : ∀ (l : List S24) (j : Nat) (p : S24), l[j]? = some p → ((news24 l).drop (j * 2)).take 2 = cells24 p
  | [], j, p, h => by simp at h
  | x :: r, 0, p, h => by
    simp at h
    subst h
    simp [news24, cells24]
  | x :: r, j + 1, p, h => by
    have ih := news24_at r j p (by simpa using h)
    have : (news24 (x :: r)).drop ((j + 1) * 2) = (news24 r).drop (j * 2) := by
      show (cells24 x ++ news24 r).drop ((j + 1) * 2) = _
      rw [show (j + 1) * 2 = 2 + j * 2 by omega, ← List.drop_drop]
      rfl
    rw [this, ih]
theorem news24_one (l : List S24) : ∀ u ∈ news24 l, u.oneCell' = true := by
  intro u hu
  obtain ⟨x, _, hx⟩ := List.mem_flatMap.1 hu
  simp only [cells24, List.mem_cons, List.not_mem_nil, or_false] at hx
  rcases hx with rfl | rfl <;> rfl
theorem news24_cell {w : World} {ad : Addr} {l : List S24} (h : ∀ j p, l[j]? = some p → ∃ c, c.length = 2 ∧ k24.K w p c ∧ ∀ i u, c[i]? = some u → w.cell? (ad.add (j * 2 + i)) = some u) :
    ∀ j u, (news24 l)[j]? = some u → w.cell? (ad.add j) = some u := by
  intro j u hj
  have hlt : j < l.length * 2 := by rw [← news24_len]; exact (List.getElem?_eq_some_iff.1 hj).1
  have hq : j / 2 < l.length := by omega
  obtain ⟨c, h1, h2, h3⟩ := h (j / 2) _ (List.getElem?_eq_getElem hq)
  obtain rfl := k24_open h2
  have ht := news24_at l (j / 2) _ (List.getElem?_eq_getElem hq)
  have hm : j = j / 2 * 2 + j % 2 := by omega
  rw [hm]
  refine h3 (j % 2) u ?_
  show (cells24 l[j / 2])[j % 2]? = some u
  rw [← ht, List.getElem?_take, if_pos (by omega), List.getElem?_drop, ← hm]
  exact hj
theorem wp_copy24 {o : Oper} {a : Act} {Q : Exit → Act → World → Prop} {K : Act → World → Prop} (s x : Operand) (hop : o.op = .call { callee := .builtin .append, args := #[s, x], argTypes := #[27, 27] }) (W0 : World) (A : Option Addr) (c : Nat) (l : List S24)
    (hs : a.eval s = .slice (some ⟨W0.heap.size, 0, none⟩) 0 0) (hx : a.eval x = .slice A l.length c) (hl : l.length ≤ 100000) (hsrc : Kd.C k24 W0 A l.length l)
    (hK : ∀ A1 c1 w1, k24.R 24 w1 W0.heap.size (fun k => (Value.slice A1 l.length c1).ownBlock = some k) (.slice A1 l.length c1) l → Below W0.heap.size W0 w1 → K (a.put o.dst (.slice A1 l.length c1)) w1) :
    Oper.wp Try.prog o a (W0.alloc (.cells #[] 24)) K Q := by
  obtain ⟨i0, hi, hz0, hz1, hz2⟩ := info_parts info24D
  have hown : (W0.alloc (.cells #[] 24)).ownsRow W0.heap.size 24 2 (.slice (some ⟨W0.heap.size, 0, none⟩) 0 0) 0 [] := World.ownsRow_made W0 #[] 0 (Nat.le_refl _) (Nat.zero_le _) (by simp)
  have hB : Below W0.heap.size W0 (W0.alloc (.cells #[] 24)) := below_alloc (Below.refl _ _) _
  have hC := Kd.C_below hsrc hB
  by_cases h0 : l = []
  · subst h0
    have hrun : (Builtin.append_ #[27, 27] o.type #[.slice (some ⟨W0.heap.size, 0, none⟩) 0 0, .slice A 0 c]).run Try.prog (W0.alloc (.cells #[] 24)) = .ok (.slice (some ⟨W0.heap.size, 0, none⟩) 0 0) (W0.alloc (.cells #[] 24)) := by
      cases A <;> simp [Builtin.append_, run_underlying Try.underlying27, run_underlying Try.underlying24, sizeOf, typeInfo, hi, Builtin.lenOf, Builtin.firstCells, storeCells, loadCells, loadCellsFrom]
    unfold Oper.wp
    simp [execOp, hop, resolve, invoke, builtin, hs, hx, hrun, Result.andThen]
    exact hK _ _ _ ⟨fun k hk => hk, [], show (W0.alloc (.cells #[] 24)).ownsRow W0.heap.size 24 2 (.slice (some ⟨W0.heap.size, 0, none⟩) 0 0) 0 [] from hown, Reps.none _ _⟩ hB
  · have hpos : 0 < l.length := List.length_pos_iff.2 h0
    obtain ⟨ad, rfl, hcell⟩ := hC.2.2 hpos
    refine wp_append_own _ s x 27 hop W0.heap.size 24 i0 _ 2 _ Try.underlying27 hi hz0 hz1 hz2 rfl (by decide) _ 0 [] hs hown ad l.length c (news24 l) hx (news24_len l) (news24_cell hcell) (news24_one l) (by simp only [maxLen]; omega) (by omega) hB.size ?_
    intro v' w' hown' hg' _
    have hR : k24.R 24 w' W0.heap.size (fun k => v'.ownBlock = some k) v' l := ⟨fun k hk => hk, news24 l, show w'.ownsRow W0.heap.size 24 2 v' l.length (news24 l) by simpa using hown', ⟨news24_len l, fun j p hj => by rw [show k24.sz = 2 from rfl, news24_at l j p hj]; exact k24_mkM _ _ _ p⟩⟩
    obtain ⟨A1, c1, rfl⟩ := Kd.R_slice hR
    exact hK A1 c1 w' hR (hB.grown hg' hB.size (fun k hk => own_base hown k hk))
theorem wpList_copy24 {ops : Array Oper} {rest : List Oper} {o : Oper} {a : Act} {Q : Exit → Act → World → Prop} (hgd : o.guard = none) (s x : Operand) (hop : o.op = .call { callee := .builtin .append, args := #[s, x], argTypes := #[27, 27] }) (W0 : World) (A : Option Addr) (c : Nat) (l : List S24)
    (hs : a.eval s = .slice (some ⟨W0.heap.size, 0, none⟩) 0 0) (hx : a.eval x = .slice A l.length c) (hl : l.length ≤ 100000) (hsrc : Kd.C k24 W0 A l.length l)
    (hK : ∀ A1 c1 w1, k24.R 24 w1 W0.heap.size (fun k => (Value.slice A1 l.length c1).ownBlock = some k) (.slice A1 l.length c1) l → Below W0.heap.size W0 w1 → wpList Try.prog ops Q rest (a.put o.dst (.slice A1 l.length c1)) w1) :
    wpList Try.prog ops Q (o :: rest) a (W0.alloc (.cells #[] 24)) :=
  wpList_plain hgd fun _ hK' => wp_copy24 s x hop W0 A c l hs hx hl hsrc fun A1 c1 w1 h1 h2 => hK' _ _ (hK A1 c1 w1 h1 h2)
/-! ### what great tells -/
def inT (x : S24) : Prop := 0 ≤ x.f0 ∧ x.f0 ≤ 2 ∧ 0 ≤ x.f1 ∧ x.f1 ≤ 7
instance (x : S24) : Decidable (inT x) := inferInstanceAs (Decidable (_ ∧ _))
theorem is_eq (x : S24) : countermandlaw12_is.f x.f0 x.f1 = some (decide (inT x)) := by
  unfold countermandlaw12_is.f
  by_cases h : inT x
  · have h' := h
    unfold inT at h'
    rw [decide_eq_true h, if_pos h'.1, if_pos h'.2.1, if_pos h'.2.2.1, decide_eq_true h'.2.2.2]
  · have h' := h
    unfold inT at h'
    rw [decide_eq_false h]
    by_cases h0 : x.f0 ≥ 0
    · rw [if_pos h0]
      by_cases h1 : x.f0 ≤ 2
      · rw [if_pos h1]
        by_cases h2 : x.f1 ≥ 0
        · rw [if_pos h2, decide_eq_false (fun h3 => h' ⟨h0, h1, h2, h3⟩)]
        · rw [if_neg h2]
      · rw [if_neg h1]
    · rw [if_neg h0]
theorem wrap_next (i n : Nat) (h : i < n) (hn : n ≤ 9223372036854775807) : wrap64 ((i : Int) + 1) = ((i + 1 : Nat) : Int) := by unfold wrap64; omega
theorem rd24_drop {l : List S24} {i : Nat} {x : S24} {r : List S24} (h : l.drop i = x :: r) : rd_T24 l (i : Int) = x ∧ i < l.length ∧ l.drop (i + 1) = r := by
  have hi : i < l.length := by
    rcases Nat.lt_or_ge i l.length with h' | h'
    · exact h'
    · rw [List.drop_eq_nil_of_le h'] at h; cases h
  rw [List.drop_eq_getElem_cons hi] at h
  injection h with h1 h2
  refine ⟨?_, hi, h2⟩
  unfold rd_T24
  rw [Int.toNat_natCast, List.getD_eq_getElem?_getD, List.getElem?_eq_getElem hi]
  exact h1
theorem rd34_drop {l : List S34} {i : Nat} {x : S34} {r : List S34} (h : l.drop i = x :: r) : rd_T34 l (i : Int) = x ∧ i < l.length ∧ l.drop (i + 1) = r := by
  have hi : i < l.length := by
    rcases Nat.lt_or_ge i l.length with h' | h'
    · exact h'
    · rw [List.drop_eq_nil_of_le h'] at h; cases h
  rw [List.drop_eq_getElem_cons hi] at h
  injection h with h1 h2
  refine ⟨?_, hi, h2⟩
  unfold rd_T34
  rw [Int.toNat_natCast, List.getD_eq_getElem?_getD, List.getElem?_eq_getElem hi]
  exact h1
theorem drop_nil_eq {α : Type} {l : List α} {i : Nat} (h : l.drop i = []) (hi : i ≤ l.length) : i = l.length := by
  have := List.drop_eq_nil_iff.1 h
  omega
theorem great_l1 (l : List S34) (hl : l.length ≤ 80) : ∀ (r : List S34) (i : Nat), l.drop i = r → i ≤ l.length →
    ∃ b, Ev (fun k => countermandlaw12_great.l1 k l (l.length : Int) (i : Int)) b ∧ (b = false → ∀ x ∈ r, inT x.f0)
  | [], i, h, hi => by
    have hi' := drop_nil_eq h hi
    refine ⟨false, Ev.step (f := fun _ => some false) (fun k => ?_) (Ev.now _), fun _ x hx => by cases hx⟩
    rw [countermandlaw12_great.l1, if_neg (by omega)]
  | x :: r, i, h, hi => by
    obtain ⟨hx, hlt, hr⟩ := rd34_drop h
    have hw := wrap_next i l.length hlt (by omega)
    by_cases h1 : inT x.f0
    · obtain ⟨b, hb, ht⟩ := great_l1 l hl r (i + 1) hr (by omega)
      refine ⟨b, Ev.step (fun k => ?_) hb, fun e y hy => ?_⟩
      · rw [countermandlaw12_great.l1, if_pos (by omega), if_pos (by omega), if_pos (by omega), hx, is_eq, Option.bind_some, if_pos (decide_eq_true h1), hw]
      · rcases List.mem_cons.1 hy with rfl | hy
        · exact h1
        · exact ht e y hy
    · refine ⟨true, Ev.step (f := fun _ => some true) (fun k => ?_) (Ev.now _), fun e => by cases e⟩
      rw [countermandlaw12_great.l1, if_pos (by omega), if_pos (by omega), if_pos (by omega), hx, is_eq, Option.bind_some, if_neg (by rw [decide_eq_false h1]; decide)]
theorem great_l0 (a : List S24) (l : List S34) (ha : a.length ≤ 40) (hl : l.length ≤ 80) : ∀ (r : List S24) (i : Nat), a.drop i = r → i ≤ a.length →
    ∃ b, Ev (fun k => countermandlaw12_great.l0 k l a (a.length : Int) (i : Int)) b ∧ (b = false → (∀ x ∈ r, inT x) ∧ ∀ x ∈ l, inT x.f0)
  | [], i, h, hi => by
    have hi' := drop_nil_eq h hi
    obtain ⟨b, hb, ht⟩ := great_l1 l hl l 0 rfl (Nat.zero_le _)
    refine ⟨b, Ev.step (fun k => ?_) hb, fun e => ⟨(fun x hx => by cases hx), ht e⟩⟩
    rw [countermandlaw12_great.l0, if_neg (by omega)]
    rfl
  | x :: r, i, h, hi => by
    obtain ⟨hx, hlt, hr⟩ := rd24_drop h
    have hw := wrap_next i a.length hlt (by omega)
    by_cases h1 : inT x
    · obtain ⟨b, hb, ht⟩ := great_l0 a l ha hl r (i + 1) hr (by omega)
      refine ⟨b, Ev.step (fun k => ?_) hb, fun e => ⟨fun y hy => ?_, (ht e).2⟩⟩
      · rw [countermandlaw12_great.l0, if_pos (by omega), if_pos (by omega), if_pos (by omega), hx, is_eq, Option.bind_some, if_pos (decide_eq_true h1), hw]
      · rcases List.mem_cons.1 hy with rfl | hy
        · exact h1
        · exact (ht e).1 y hy
    · refine ⟨true, Ev.step (f := fun _ => some true) (fun k => ?_) (Ev.now _), fun e => by cases e⟩
      rw [countermandlaw12_great.l0, if_pos (by omega), if_pos (by omega), if_pos (by omega), hx, is_eq, Option.bind_some, if_neg (by rw [decide_eq_false h1]; decide)]
theorem great_ev (a : List S24) (l : List S34) : ∃ b, Ev (fun k => countermandlaw12_great.f k a l) b ∧ (b = false → l.length ≤ 80 ∧ a.length ≤ 40 ∧ (∀ x ∈ a, inT x) ∧ ∀ x ∈ l, inT x.f0) := by
  by_cases h : (l.length : Int) > 80
  · refine ⟨true, Ev.congr (f := fun k => countermandlaw12_great.j0 k a l true) (fun k => ?_) (Ev.step (f := fun _ => some true) (fun k => ?_) (Ev.now _)), fun e => by cases e⟩
    · unfold countermandlaw12_great.f
      rw [if_pos h]
    · rw [countermandlaw12_great.j0, if_pos rfl]
  · by_cases h2 : (a.length : Int) > 40
    · refine ⟨true, Ev.congr (f := fun k => countermandlaw12_great.j0 k a l true) (fun k => ?_) (Ev.step (f := fun _ => some true) (fun k => ?_) (Ev.now _)), fun e => by cases e⟩
      · unfold countermandlaw12_great.f
        rw [if_neg h, decide_eq_true h2]
      · rw [countermandlaw12_great.j0, if_pos rfl]
    · obtain ⟨b, hb, ht⟩ := great_l0 a l (by omega) (by omega) a 0 rfl (Nat.zero_le _)
      refine ⟨b, Ev.congr (f := fun k => countermandlaw12_great.j0 k a l false) (fun k => ?_) (Ev.step (fun k => ?_) hb), fun e => ⟨by omega, by omega, (ht e).1, (ht e).2⟩⟩
      · unfold countermandlaw12_great.f
        rw [if_neg h, decide_eq_false h2]
      · rw [countermandlaw12_great.j0, if_neg (by decide)]
        rfl
/-! ### versions -/
theorem verI_snoc (l : List S24) (y x : S24) (t : Int) : ∀ i, i ≤ l.length → verI (l ++ [y]) x t i = verI l x t i
  | 0, _ => rfl
  | i + 1, h => by
    have hr : rd_T24 (l ++ [y]) (i : Int) = rd_T24 l (i : Int) := by
      unfold rd_T24
      rw [Int.toNat_natCast, List.getD_eq_getElem?_getD, List.getD_eq_getElem?_getD, List.getElem?_append_left (by omega)]
    rw [verI_succ, verI_succ, hr, verI_snoc l y x t i (by omega)]
theorem ver_snoc (l : List S24) (y x : S24) (t : Int) (ht : t ≤ (l.length : Int)) : ver (l ++ [y]) x t = ver l x t := by
  unfold ver
  rw [List.length_append]
  show verI (l ++ [y]) x t (l.length + 1) = _
  rw [verI_succ, if_neg (fun q => by omega), verI_snoc l y x t _ (Nat.le_refl _)]
theorem verI_time (l : List S24) (x : S24) (t T : Int) : ∀ (i : Nat), (i : Int) ≤ T → (verI l x T i : Int) ≤ t → verI l x t i = verI l x T i
  | 0, _, _ => rfl
  | i + 1, hT, h => by
    rw [verI_succ] at h ⊢
    rw [verI_succ]
    by_cases he : eq24 x (rd_T24 l (i : Int)) = true
    · rw [if_pos ⟨he, by omega⟩] at h ⊢
      rw [if_pos ⟨he, by omega⟩]
    · rw [if_neg (fun q => he q.1)] at h ⊢
      rw [if_neg (fun q => he q.1)]
      exact verI_time l x t T i (by omega) h
theorem ver_time (l : List S24) (x : S24) (t : Int) (h : (ver l x (l.length : Int) : Int) ≤ t) : ver l x t = ver l x (l.length : Int) := verI_time l x t (l.length : Int) l.length (Int.le_refl _) h
theorem ver_le (l : List S24) (x : S24) (t : Int) : ver l x t ≤ l.length := verI_le l x t l.length
theorem verN_in (l : List S24) (x : S24) (h : inT x) : verN l x.f0 x.f1 = (ver l x (l.length : Int) : Int) := by
  unfold verN
  exact if_pos h
/-- all that was read was so at the stamp -/
structure Once (wd : List S24) (l : List S47) (t t0 : Int) : Prop where
  ok : thenB wd l t = true
  in_ : ∀ e ∈ l, inT ⟨e.f0, e.f1⟩
  lo : t0 ≤ t
  hi : t ≤ (wd.length : Int)
theorem once_change {wd : List S24} {l : List S47} {t t0 : Int} (h : Once wd l t t0) (y : S24) : Once (wd ++ [y]) l t t0 := by
  refine ⟨?_, h.in_, h.lo, by rw [List.length_append]; have := h.hi; simp; omega⟩
  have hk := h.ok
  unfold thenB at hk ⊢
  rw [List.all_eq_true] at hk ⊢
  intro e he
  have := hk e he
  unfold thenE at this ⊢
  rw [ver_snoc wd y _ t h.hi]
  exact this
theorem once_note {wd : List S24} {l : List S47} {t t0 : Int} (h : Once wd l t t0) (x : S24) (hx : inT x) (hn : noteB wd l t x.f0 x.f1 = true) (h0 : t0 ≤ (wd.length : Int)) : Once wd (noteL wd l t x.f0 x.f1) (noteT wd l t x.f0 x.f1) t0 := by
  unfold noteB at hn
  unfold noteL noteT
  by_cases hp : 0 ≤ placeI l x.f0 x.f1
  · rw [if_pos hp, if_pos hp]
    exact h
  · rw [if_neg hp] at hn
    rw [if_neg hp, if_neg hp]
    by_cases ht : t < verN wd x.f0 x.f1
    · rw [if_pos ht] at hn
      rw [if_neg (fun q => by rw [hn] at q; cases q.2), if_pos ⟨ht, hn⟩]
      refine ⟨?_, ?_, h0, Int.le_refl _⟩
      · unfold thenB
        rw [List.all_append, Bool.and_eq_true]
        refine ⟨?_, ?_⟩
        · unfold validB at hn
          rw [List.all_eq_true] at hn ⊢
          intro e he
          have := hn e he
          unfold okE at this
          unfold thenE
          rw [verN_in wd ⟨e.f0, e.f1⟩ (h.in_ e he)] at this
          exact this
        · simp [thenE, verN_in wd x hx]
      · intro e he
        rcases List.mem_append.1 he with he | he
        · exact h.in_ e he
        · rw [List.mem_singleton.1 he]; exact hx
    · rw [if_neg (fun q => ht q.1), if_neg (fun q => ht q.1)]
      refine ⟨?_, ?_, h.lo, h.hi⟩
      · unfold thenB
        rw [List.all_append, Bool.and_eq_true]
        refine ⟨h.ok, ?_⟩
        rw [verN_in wd x hx] at ht ⊢
        simp only [List.all_cons, List.all_nil, Bool.and_true]
        unfold thenE
        show ((ver wd x t : Int) == (ver wd x (wd.length : Int) : Int)) = true
        rw [ver_time wd x t (by omega)]
        simp
      · intro e he
        rcases List.mem_append.1 he with he | he
        · exact h.in_ e he
        · rw [List.mem_singleton.1 he]; exact hx
theorem noteL_len (wd : List S24) (l : List S47) (t k i : Int) : (noteL wd l t k i).length ≤ l.length + 1 := by
  unfold noteL
  split
  · omega
  · split
    · omega
    · simp
/-! ### two states beside each other -/
theorem IsWd.pastSt {w0 W W' : World} {gw g : Nat} {wd : List S24} {l : List S47} {t : Int} {u v : Value} (hW : IsWd w0 W gw wd u) (hI : IsSt w0 W g l t v) (k : KeepBut W W' g v.ownBlock) : IsWd w0 W' gw wd u := by
  have h1 : gw ≠ g := fun e => by
    have a := hW.1
    rw [e, hI.1] at a
    injection a with a
    injection a with _ a _
    exact absurd a (by decide)
  have h2 : some gw ≠ v.ownBlock := Kd.R_ne hI.2.2 hW.1 (by decide)
  have h3 : some g ≠ u.ownBlock := Kd.R_ne hW.2.2 hI.1 (by decide)
  obtain ⟨i1, o1, _⟩ := hW.2.2.2
  obtain ⟨i2, o2, _⟩ := hI.2.2.2
  have h4 : NeRow u v := ne_types o1 o2 (by decide)
  exact hW.keep k h1 h2 (fun b hb => ⟨fun e => h3 (by rw [hb, e]), fun e => h4 b hb e.symm⟩)
theorem IsSt.pastWd {w0 W W' : World} {gw g : Nat} {wd : List S24} {l : List S47} {t : Int} {u v : Value} (hI : IsSt w0 W g l t v) (hW : IsWd w0 W gw wd u) (k : KeepBut W W' gw u.ownBlock) : IsSt w0 W' g l t v := by
  have h1 : g ≠ gw := fun e => by
    have a := hW.1
    rw [← e, hI.1] at a
    injection a with a
    injection a with _ a _
    exact absurd a (by decide)
  have h2 : some g ≠ u.ownBlock := Kd.R_ne hW.2.2 hI.1 (by decide)
  have h3 : some gw ≠ v.ownBlock := Kd.R_ne hI.2.2 hW.1 (by decide)
  obtain ⟨i1, o1, _⟩ := hW.2.2.2
  obtain ⟨i2, o2, _⟩ := hI.2.2.2
  have h4 : NeRow v u := ne_types o2 o1 (by decide)
  exact hI.keep k h1 h2 (fun b hb => ⟨fun e => h3 (by rw [hb, e]), fun e => h4 b hb e.symm⟩)
theorem drop34 {l : List S34} {j : Nat} (h : j < l.length) : rd_T34 l (j : Int) ∈ l := by
  unfold rd_T34
  rw [Int.toNat_natCast, List.getD_eq_getElem?_getD, List.getElem?_eq_getElem h]
  exact List.getElem_mem h
theorem wd_appended {w W1 w7 : World} {gw : Nat} {wd : List S24} {B2 A7 : Option Addr} {e2 e7 : Nat} {y : S24} (hW : IsWd w W1 gw wd (.slice B2 wd.length e2)) (hB : Below w.heap.size w W1)
    (hO7 : k24.R 24 w7 w.heap.size (fun z => (Value.slice B2 wd.length e2).ownBlock = some z ∨ (W1.drewN 1).heap.size ≤ z) (.slice A7 (wd ++ [y]).length e7) (wd ++ [y])) (hB7 : Below w.heap.size w w7)
    (hg7 : (W1.drewN 1).grownBy w7 (Value.slice B2 wd.length e2).ownBlock) :
    IsWd w (w7.setCell ⟨gw, 0, none⟩ (.slice A7 (wd ++ [y]).length e7)) gw (wd ++ [y]) (.slice A7 (wd ++ [y]).length e7) ∧ Below w.heap.size w (w7.setCell ⟨gw, 0, none⟩ (.slice A7 (wd ++ [y]).length e7)) ∧ KeepBut W1 (w7.setCell ⟨gw, 0, none⟩ (.slice A7 (wd ++ [y]).length e7)) gw (Value.slice B2 wd.length e2).ownBlock := by
  have hgl : gw < W1.heap.size := blk_lt hW.1
  have h7 := (hg7.block gw hgl hW.own).trans hW.1
  refine ⟨⟨?_, hW.2.1, ?_⟩, below_set hB7 hW.2.1, KeepBut.set_ ⟨hg7.size, fun b hb _ h2 => hg7.block b hb h2⟩ _ _⟩
  · simpa using blk_set h7 0 (.slice A7 (wd ++ [y]).length e7)
  · exact R_exact24 (Kd.R_far hO7 (p := ⟨gw, 0, none⟩) (by
      intro q hq e
      have e' : q = gw := e
      rcases hq with hq | hq
      · exact hW.own (by rw [← e']; exact hq.symm)
      · have : W1.heap.size ≤ q := hq
        omega) _)
/-! ### what was read stays -/
def Bd (wd : List S24) (ls : List S47) : Prop := ∀ e ∈ ls, e.f2 ≤ (wd.length : Int)
theorem verN_le (wd : List S24) (k i : Int) : verN wd k i ≤ (wd.length : Int) := by
  unfold verN
  split
  · have := ver_le wd ⟨k, i⟩ (wd.length : Int)
    omega
  · omega
theorem bd_change {wd : List S24} {ls : List S47} (h : Bd wd ls) (y : S24) : Bd (wd ++ [y]) ls := fun e he => by
  have := h e he
  rw [List.length_append]
  simp
  omega
theorem bd_note {wd : List S24} {ls : List S47} (h : Bd wd ls) (t k i : Int) : Bd wd (noteL wd ls t k i) := by
  unfold noteL
  split
  · exact h
  · split
    · exact h
    · intro e he
      rcases List.mem_append.1 he with he | he
      · exact h e he
      · rw [List.mem_singleton.1 he]
        exact verN_le wd k i
theorem place_hit {ls : List S47} {k i : Int} (h : 0 ≤ placeI ls k i) : ∃ e ∈ ls, e.f0 = k ∧ e.f1 = i ∧ rd_T47 ls (placeI ls k i) = e := by
  obtain ⟨q, hq, hl⟩ := placeI_lt ls k i h
  have hi : idx ls k i = q := by
    unfold placeI at hq h
    split at hq
    · omega
    · rename_i hn
      rw [if_neg hn] at h
      omega
  have hm : hit k i ls[q] = true := by
    have hlt : ls.findIdx (hit k i) < ls.length := by show idx ls k i < _; omega
    have := List.findIdx_getElem (p := hit k i) (xs := ls) (w := hlt)
    simp only [show ls.findIdx (hit k i) = q from hi] at this
    exact this
  have hr : rd_T47 ls (q : Int) = ls[q] := by
    unfold rd_T47
    rw [Int.toNat_natCast, List.getD_eq_getElem?_getD, List.getElem?_eq_getElem hl]
    rfl
  unfold hit at hm
  simp only [Bool.and_eq_true, beq_iff_eq] at hm
  exact ⟨ls[q], List.getElem_mem hl, hm.1, hm.2, by rw [hq, hr]⟩
theorem place_mem {ls : List S47} {e : S47} (he : e ∈ ls) : 0 ≤ placeI ls e.f0 e.f1 := by
  unfold placeI
  have : idx ls e.f0 e.f1 < ls.length := List.findIdx_lt_length.2 ⟨e, he, by simp [hit]⟩
  rw [if_pos this]
  omega
theorem note_valid {wd : List S24} {ls : List S47} {t k i : Int} (hv : validB wd ls = true) : noteB wd ls t k i = true := by
  unfold noteB
  split
  · rename_i hp
    obtain ⟨e, he, h0, h1, hr⟩ := place_hit hp
    rw [hr]
    unfold validB at hv
    rw [List.all_eq_true] at hv
    have := hv e he
    unfold okE at this
    rw [h0, h1] at this
    simp only [beq_iff_eq] at this ⊢
    exact this.symm
  · split
    · exact hv
    · rfl
theorem note_same {wd : List S24} {ls : List S47} {t : Int} {e : S47} (he : e ∈ ls) : noteL wd ls t e.f0 e.f1 = ls ∧ noteT wd ls t e.f0 e.f1 = t := by
  have := place_mem he
  unfold noteL noteT
  rw [if_pos this, if_pos this]
  exact ⟨rfl, rfl⟩
theorem valid_note {wd : List S24} {ls : List S47} {t k i : Int} (hv : validB wd ls = true) : validB wd (noteL wd ls t k i) = true := by
  unfold noteL
  split
  · exact hv
  · split
    · exact hv
    · unfold validB at hv ⊢
      rw [List.all_append, hv]
      simp [okE]
theorem ver_new (wd : List S24) (x : S24) : ver (wd ++ [x]) x ((wd ++ [x]).length : Int) = wd.length + 1 := by
  unfold ver
  rw [List.length_append]
  show verI (wd ++ [x]) x ((wd.length + 1 : Nat) : Int) (wd.length + 1) = _
  rw [verI_succ]
  have hr : rd_T24 (wd ++ [x]) (wd.length : Int) = x := by
    unfold rd_T24
    rw [Int.toNat_natCast, List.getD_eq_getElem?_getD]
    simp
  rw [hr, if_pos ⟨by simp [eq24], by omega⟩]
theorem verN_new (wd : List S24) (x : S24) (hx : inT x) : verN (wd ++ [x]) x.f0 x.f1 = (wd.length : Int) + 1 := by
  rw [verN_in _ x hx, ver_new]
  omega
theorem new_invalid {wd : List S24} {ls : List S47} {x : S24} (hx : inT x) (hb : Bd wd ls) (hp : 0 ≤ placeI ls x.f0 x.f1) (t : Int) : validB (wd ++ [x]) ls = false ∧ noteB (wd ++ [x]) ls t x.f0 x.f1 = false := by
  obtain ⟨e, he, h0, h1, hr⟩ := place_hit hp
  have hle := hb e he
  have hv := verN_new wd x hx
  constructor
  · unfold validB
    rw [List.all_eq_false]
    refine ⟨e, he, ?_⟩
    unfold okE
    rw [h0, h1, hv]
    simp
    omega
  · unfold noteB
    rw [if_pos hp, hr, hv]
    simp
    omega
theorem C_one24 (W : World) (x : S24) : Kd.C k24 (W.alloc (.cells #[.int .i64 x.f0, .int .i64 x.f1] 24)) (some ⟨W.heap.size, 0, none⟩) [x].length [x] := by
  refine ⟨rfl, by simp, fun _ => ⟨_, rfl, fun j p hj => ?_⟩⟩
  have hA := heap_alloc_new W (.cells #[.int .i64 x.f0, .int .i64 x.f1] 24)
  match j, hj with
  | 0, hj =>
    simp at hj
    subst hj
    refine ⟨[.int .i64 x.f0, .int .i64 x.f1], rfl, k24_mk _ _, fun i u hu => ?_⟩
    rw [Addr.add_lit]
    simp only [Nat.zero_mul, Nat.zero_add]
    exact (blk_cell hA i).trans (by simpa using hu)
  | j + 1, hj => simp at hj
/-- what a round that goes on keeps: all that was there, but one cell -/
def KeepK (n₀ gk : Nat) (A B : World) : Prop := A.heap.size ≤ B.heap.size ∧ ∀ b, b < n₀ → b ≠ gk → B.heap[b]? = A.heap[b]?
theorem KeepK.refl (n₀ gk : Nat) (A : World) : KeepK n₀ gk A A := ⟨Nat.le_refl _, fun _ _ _ => rfl⟩
theorem KeepK.trans {n₀ gk : Nat} {A B C : World} (h : KeepK n₀ gk A B) (k : KeepK n₀ gk B C) : KeepK n₀ gk A C := ⟨Nat.le_trans h.1 k.1, fun b h1 h2 => (k.2 b h1 h2).trans (h.2 b h1 h2)⟩
theorem KeepK.of {n₀ gk : Nat} {A B : World} (h : Below A.heap.size A B) (hn : n₀ ≤ A.heap.size) : KeepK n₀ gk A B := ⟨h.size, fun b h1 _ => h.block b (Nat.lt_of_lt_of_le h1 hn)⟩
theorem KeepK.book {n₀ gk : Nat} {w : World} (hn : n₀ ≤ w.heap.size) (W : World) (l : Nat) (o o' : Obj) (hl : w.heap.size ≤ l) (h : W.heap[l]? = some o) (h1 : o.isCells = false) (h2 : o.isWalk = false) : KeepK n₀ gk W (W.putObj l o') :=
  have k := belowK_b hn W l o o' hl h h1 h2
  ⟨k.size, fun b hb _ => k.block b hb⟩
theorem KeepK.set {n₀ gk : Nat} (A : World) (i : Nat) (v : Value) : KeepK n₀ gk A (A.setCell ⟨gk, i, none⟩ v) :=
  have k := KeepBut.set_ (KeepBut.refl A gk none) i v
  ⟨k.1, fun b _ h2 => by
    by_cases hb : b < A.heap.size
    · exact k.2 b hb h2 (by simp)
    · have h0 : A.heap.size ≤ b := by omega
      have h1 : (A.setCell ⟨gk, i, none⟩ v).heap.size ≤ b := by simpa using h0
      rw [Array.getElem?_eq_none h0, Array.getElem?_eq_none h1]⟩
section
attribute [local go_sem] Oper.semAt_some
set_option maxHeartbeats 2000000 in
set_option maxRecDepth 100000 in
theorem valuesk_stops (F : Fence) (n : Nat) (h46 : F.fn 46) (hro : F.round = none) (hn : 1 ≤ n) (Bs : Nat) (A : Option Addr) (c : Nat) (l : List S47) (hl : l.length ≤ 1000) (w : World) (n₀ gk : Nat) (hn0 : n₀ = w.heap.size) (hBs : w.heap[Bs]? = some (.cells #[.slice A l.length c] 76 (0, 0))) (hne : Bs ≠ gk) {base : Nat} (hC : k47.R 47 w base (fun k => (Value.slice A l.length c).ownBlock = some k) (.slice A l.length c) l) (hnr : some gk ≠ (Value.slice A l.length c).ownBlock) :
    SeqStopsK F n Try.prog 46 #[.pointer (some ⟨Bs, 0, none⟩)] (fun x : S47 => #[Value.agg (ent x)]) (KeepK n₀ gk) (fun ys => ys = l) (fun pre => pre <+: l) l.length w := fun lp J Jx W hW hJ hJx hY h0 => by
  have hu47 := Try.underlying47
  have hu76 := Try.underlying76
  have hBl := blk_lt hBs
  have cB : W.cell? ⟨Bs, 0, none⟩ = some (.slice A l.length c) := (blk_cell ((hW.block Bs hBl).trans hBs) 0).trans rfl
  refine callsIn_of_wp Try.func46 rfl h46 ?_ hro
  simp only [Try.ntmps46, List.size_toArray, List.length_cons, List.length_nil, Nat.reduceAdd, Nat.reduceSub, Array.replicate_succ, Array.replicate_zero, List.push_toArray, List.append_toArray, List.nil_append, List.cons_append]
  gi_wp2
  subst hn0
  gi_loopw [7] (fun i wr => ∃ k : Nat, k ≤ l.length ∧ i = .int .i64 (k : Int) ∧ J (l.take k) wr ∧ KeepK w.heap.size gk W wr)
    (fun i _ => l.length - (intOf i).toNat)
  case atStart => exact ⟨0, Nat.zero_le _, rfl, h0, KeepK.refl _ _ _⟩
  case round =>
    obtain ⟨k, hk, rfl, hJs, hnx⟩ := hrel
    have HCr : Kd.C k47 wr A l.length l := (Kd.R_reads' (Kd.R_step hC (fun b hb hbl => (hnx.2 b hbl (fun e => hnr (by rw [hb, e]))).trans (hW.block b hbl)))).2.2
    by_cases hlt : k < l.length
    · have q0 : decide ((k : Int) < (l.length : Int)) = true := decide_eq_true (by omega)
      obtain ⟨ad, rfl, y0, y1, y2⟩ := at_T47 HCr (k : Int) (by omega) (by omega)
      simp only [Int.toNat_natCast] at y0 y1 y2
      obtain ⟨⟨a, b, d⟩, hx⟩ : ∃ x, x = rd_T47 l (k : Int) := ⟨_, rfl⟩
      rw [← hx] at y0 y1 y2
      have htk : l.take (k + 1) = l.take k ++ [⟨a, b, d⟩] := by rw [rd47_mem hlt, hx]
      have p0 : ((0 : Int) ≤ (k : Int)) = True := eq_true (by omega)
      have p1 : ((k : Int) < (l.length : Int)) = True := eq_true (by omega)
      have hk9 : k ≤ 1000 := by omega
      have hJa : J (l.take k) (wr.alloc (.cells #[.int .i64 a, .int .i64 b, .int .i64 d] 47)) := hJ _ _ _ none hJs (World.grownBy_alloc wr _ none) (fun r e => by cases e)
      obtain ⟨fn, tmps, assign, body, hy, hR⟩ := hY (l.take k) ⟨a, b, d⟩ _ hJa (by rw [List.length_take]; omega)
      have hy' : (Instr.yield lp #[.agg #[.int .i64 a, .int .i64 b, .int .i64 d]]).run Try.prog (wr.alloc (.cells #[.int .i64 a, .int .i64 b, .int .i64 d] 47)) = .ok (.round lp fn tmps assign body) (wr.alloc (.cells #[.int .i64 a, .int .i64 b, .int .i64 d] 47)) := hy
      have HX := Aside0.mk (And.intro hx htk)
      clear hx htk hy
      gi_wp2
      refine hR.mono ?_
      rintro e W3 (⟨rfl, hJ3, hk3⟩ | ⟨rfl, hJx3⟩)
      · gi_wp2
        go_roundw
        case rel => exact ⟨k + 1, by omega, by rw [Int.natCast_add]; rfl, by rw [HX.out.2]; exact hJ3, (hnx.trans (KeepK.of (below_alloc (Below.refl wr.heap.size wr) _) (Nat.le_trans hW.size hnx.1))).trans hk3⟩
        case measure => simp [intOf]; omega
      · gi_wp2
        refine bodyPost_ret (results_none rfl _ _ _) rfl ?_
        exact ⟨⟨_, rfl⟩, .inr ⟨l.take k ++ [⟨a, b, d⟩], by rw [← HX.out.2]; exact List.take_prefix _ _, hJx3⟩⟩
    · have q0 : decide ((k : Int) < (l.length : Int)) = false := decide_eq_false (by omega)
      have hkl : k = l.length := by omega
      have hJl : J l wr := by rw [hkl, List.take_length] at hJs; exact hJs
      clear hkl
      gi_wp2
      go_end0
      exact ⟨⟨_, rfl⟩, .inl ⟨l, rfl, hJl⟩⟩
end
/-! ### the document's set -/
def kI : Kd Int := Kd.int .i64
theorem R_typed {α : Type} {d : Kd α} {e : TypeId} {W : World} {base : Nat} {ok : Nat → Prop} {v : Value} {xs : List α} (h : d.R e W base ok v xs) {b : Nat} (hb : v.ownBlock = some b) : ∃ C, W.heap[b]? = some (.cells C e (0, 0)) := by
  obtain ⟨inner, ho⟩ := Kd.R_own h
  rcases ho.2 with ⟨rfl, _⟩ | ⟨g, cap, cur, rfl, _, hg, _⟩
  · cases hb
  · have q : g = b := by simpa [Value.ownBlock] using hb
    rw [← q]
    exact ⟨_, hg⟩
theorem at_I {w : World} {A : Option Addr} {n : Nat} {xs : List Int} (h : Kd.C kI w A n xs) (i : Int) (h0 : 0 ≤ i) (h1 : i < n) : ∃ ad, A = some ad ∧ w.cell? (ad.add i.toNat) = some (.int .i64 (xs.getD i.toNat 0)) := by
  obtain ⟨ad, c, e, _, hK, hc0⟩ := Kd.C_get h 0 i h0 h1
  have hc : ∀ j u, c[j]? = some u → w.cell? (ad.add (i.toNat * 1 + j)) = some u := hc0
  obtain rfl : c = [.int .i64 (xs.getD i.toNat 0)] := hK
  have h2 := hc 0 _ rfl
  rw [Nat.mul_one, Nat.add_zero] at h2
  exact ⟨ad, e, h2⟩
theorem info3D : (Try.prog.info? 3).map (fun i => (i.zero, i.size, i.bytes)) = some (some (.int .i64 0), 1, 8) := by kernel_rfl
def key47 (e : S47) : S24 := ⟨e.f0, e.f1⟩
def IsMs (w0 W : World) (g : Nat) (l : List S47) (t : Int) (a q : Value) : Prop := W.heap[g]? = some (.cells #[a, q, .int .i64 t] 53 (0, 0)) ∧ w0.heap.size ≤ g ∧ k24.R 24 W w0.heap.size (fun k => a.ownBlock = some k) a (l.map key47) ∧ kI.R 3 W w0.heap.size (fun k => q.ownBlock = some k) q (l.map S47.f2)
theorem IsMs.below {w0 W W' : World} {g : Nat} {l : List S47} {t : Int} {a q : Value} (h : IsMs w0 W g l t a q) (k : Below W.heap.size W W') : IsMs w0 W' g l t a q :=
  ⟨(k.block g (blk_lt h.1)).trans h.1, h.2.1, Kd.R_below h.2.2.1 k, Kd.R_below h.2.2.2 k⟩
theorem IsMs.slices {w0 W : World} {g : Nat} {l : List S47} {t : Int} {a q : Value} (h : IsMs w0 W g l t a q) : ∃ A c Q d, a = .slice A l.length c ∧ q = .slice Q l.length d := by
  obtain ⟨A, c, ha⟩ := Kd.R_slice h.2.2.1
  obtain ⟨Q, d, hq⟩ := Kd.R_slice h.2.2.2
  rw [List.length_map] at ha hq
  exact ⟨A, c, Q, d, ha, hq⟩
/-- all that was there stays, but for some blocks -/
def KeepS (S : Nat → Prop) (W W' : World) : Prop := W.heap.size ≤ W'.heap.size ∧ ∀ b, b < W.heap.size → ¬ S b → W'.heap[b]? = W.heap[b]?
theorem KeepS.blk {S : Nat → Prop} {W W' : World} (k : KeepS S W W') {b : Nat} {o : Obj} (h : W.heap[b]? = some o) (hn : ¬ S b) : W'.heap[b]? = some o := (k.2 b (blk_lt h) hn).trans h
theorem KeepS.below {S : Nat → Prop} {W W' W2 : World} (k : KeepS S W W') (h : Below W'.heap.size W' W2) : KeepS S W W2 := ⟨Nat.le_trans k.1 h.size, fun b hb hn => (h.block b (Nat.lt_of_lt_of_le hb k.1)).trans (k.2 b hb hn)⟩
theorem IsWd.keepS {S : Nat → Prop} {w0 W W' : World} {g : Nat} {l : List S24} {v : Value} (h : IsWd w0 W g l v) (k : KeepS S W W') (h1 : ¬ S g) (h3 : ∀ b, v.ownBlock = some b → ¬ S b) : IsWd w0 W' g l v :=
  ⟨k.blk h.1 h1, h.2.1, Kd.R_step h.2.2 (fun b hb hlt => k.2 b hlt (h3 b hb))⟩
theorem IsSt.keepS {S : Nat → Prop} {w0 W W' : World} {g : Nat} {l : List S47} {t : Int} {v : Value} (h : IsSt w0 W g l t v) (k : KeepS S W W') (h1 : ¬ S g) (h3 : ∀ b, v.ownBlock = some b → ¬ S b) : IsSt w0 W' g l t v :=
  ⟨k.blk h.1 h1, h.2.1, Kd.R_step h.2.2 (fun b hb hlt => k.2 b hlt (h3 b hb))⟩
theorem IsMs.keepS {S : Nat → Prop} {w0 W W' : World} {g : Nat} {l : List S47} {t : Int} {a q : Value} (h : IsMs w0 W g l t a q) (k : KeepS S W W') (h1 : ¬ S g) (h3 : ∀ b, a.ownBlock = some b → ¬ S b) (h4 : ∀ b, q.ownBlock = some b → ¬ S b) : IsMs w0 W' g l t a q :=
  ⟨k.blk h.1 h1, h.2.1, Kd.R_step h.2.2.1 (fun b hb hlt => k.2 b hlt (h3 b hb)), Kd.R_step h.2.2.2 (fun b hb hlt => k.2 b hlt (h4 b hb))⟩
theorem keepS_of {W W' : World} {g : Nat} {v : Value} (k : KeepBut W W' g v.ownBlock) : KeepS (fun b => b = g ∨ v.ownBlock = some b) W W' := ⟨k.1, fun b hb hn => k.2 b hb (fun e => hn (.inl e)) (fun e => hn (.inr e.symm))⟩
/-- a block whose type is none of a state's is none of that state's -/
theorem ty_ne {W : World} {a b : Nat} {C C' : Array Value} {e e' : TypeId} (h : W.heap[a]? = some (.cells C e (0, 0))) (h' : W.heap[b]? = some (.cells C' e' (0, 0))) (hne : e ≠ e') : a ≠ b := fun q => by
  rw [q, h'] at h
  injection h with h
  injection h with _ h _
  exact hne h.symm
theorem notS1 {α : Type} {d : Kd α} {e e' ex : TypeId} {W : World} {base g b : Nat} {ok : Nat → Prop} {v : Value} {xs : List α} {C C' : Array Value} (hb : W.heap[b]? = some (.cells C ex (0, 0))) (hg : W.heap[g]? = some (.cells C' e (0, 0))) (hR : d.R e' W base ok v xs) (h1 : ex ≠ e) (h2 : e' ≠ ex) : ¬ (b = g ∨ v.ownBlock = some b) := fun q => by
  rcases q with q | q
  · exact ty_ne hb hg h1 q
  · exact Kd.R_ne hR hb h2 q.symm
def MsSet (g : Nat) (a q : Value) (b : Nat) : Prop := b = g ∨ a.ownBlock = some b ∨ q.ownBlock = some b
theorem notMs {w0 W : World} {g b : Nat} {l : List S47} {t : Int} {a q : Value} {ex : TypeId} {C : Array Value} (hb : W.heap[b]? = some (.cells C ex (0, 0))) (hM : IsMs w0 W g l t a q) (h1 : ex ≠ 53) (h2 : 24 ≠ ex) (h3 : 3 ≠ ex) : ¬ MsSet g a q b := fun q => by
  rcases q with q | q | q
  · exact ty_ne hb hM.1 h1 q
  · exact Kd.R_ne hM.2.2.1 hb h2 q.symm
  · exact Kd.R_ne hM.2.2.2 hb h3 q.symm
theorem notMs24 {w0 W : World} {g b : Nat} {l : List S47} {t : Int} {a q : Value} {C : Array Value} (hb : W.heap[b]? = some (.cells C 24 (0, 0))) (hM : IsMs w0 W g l t a q) (h2 : a.ownBlock ≠ some b) : ¬ MsSet g a q b := fun q => by
  rcases q with q | q | q
  · exact ty_ne hb hM.1 (by decide) q
  · exact h2 q
  · exact Kd.R_ne hM.2.2.2 hb (by decide) q.symm
/-- the two sets, the world and the law's own variables -/
structure St4 (w W : World) (gr b10 b11 gw gs gm : Nat) (wd : List S24) (ls : List S47) (t : Int) (lm : List S47) (tm : Int) (u v a q : Value) : Prop where
  wd : IsWd w W gw wd u
  st : IsSt w W gs ls t v
  ms : IsMs w W gm lm tm a q
  bel : Below w.heap.size w W
  cr : W.heap[gr]? = some (.cells #[.bool false] 4 (0, 0))
  c10 : W.heap[b10]? = some (.cells #[.pointer (some ⟨gs, 0, none⟩)] 31 (0, 0))
  c11 : W.heap[b11]? = some (.cells #[.pointer (some ⟨gm, 0, none⟩)] 50 (0, 0))
  nr : NeRow u a
  grl : w.heap.size ≤ gr
section
variable {w W W' : World} {gr b10 b11 gw gs gm : Nat} {wd : List S24} {ls : List S47} {t : Int} {lm : List S47} {tm : Int} {u v a q : Value}
theorem St4.below (h : St4 w W gr b10 b11 gw gs gm wd ls t lm tm u v a q) (k : Below W.heap.size W W') : St4 w W' gr b10 b11 gw gs gm wd ls t lm tm u v a q :=
  ⟨h.wd.below k, h.st.below k, h.ms.below k, h.bel.trans (k.mono h.bel.size), (k.block _ (blk_lt h.cr)).trans h.cr, (k.block _ (blk_lt h.c10)).trans h.c10, (k.block _ (blk_lt h.c11)).trans h.c11, h.nr, h.grl⟩
theorem St4.noted {ls' : List S47} {t' : Int} {v' : Value} (h : St4 w W gr b10 b11 gw gs gm wd ls t lm tm u v a q) (hI : IsSt w W' gs ls' t' v') (hB : Below w.heap.size w W') (k0 : KeepBut W W' gs v.ownBlock) : St4 w W' gr b10 b11 gw gs gm wd ls' t' lm tm u v' a q := by
  have k := keepS_of k0
  have ns : ∀ {b : Nat} {C : Array Value} {ex : TypeId}, W.heap[b]? = some (.cells C ex (0, 0)) → ex ≠ 78 → 47 ≠ ex → ¬ (b = gs ∨ v.ownBlock = some b) := fun hb h1 h2 => notS1 hb h.st.1 h.st.2.2 h1 h2
  refine ⟨h.wd.keepS k (ns h.wd.1 (by decide) (by decide)) (fun b hb => ?_), hI, h.ms.keepS k (ns h.ms.1 (by decide) (by decide)) (fun b hb => ?_) (fun b hb => ?_), hB, k.blk h.cr (ns h.cr (by decide) (by decide)), k.blk h.c10 (ns h.c10 (by decide) (by decide)), k.blk h.c11 (ns h.c11 (by decide) (by decide)), h.nr, h.grl⟩
  · obtain ⟨C, hC⟩ := R_typed h.wd.2.2 hb
    exact ns hC (by decide) (by decide)
  · obtain ⟨C, hC⟩ := R_typed h.ms.2.2.1 hb
    exact ns hC (by decide) (by decide)
  · obtain ⟨C, hC⟩ := R_typed h.ms.2.2.2 hb
    exact ns hC (by decide) (by decide)
theorem St4.mnoted {lm' : List S47} {tm' : Int} {a' q' : Value} (h : St4 w W gr b10 b11 gw gs gm wd ls t lm tm u v a q) (hM : IsMs w W' gm lm' tm' a' q') (hB : Below w.heap.size w W') (k : KeepS (MsSet gm a q) W W') (hN : Nx W a a') : St4 w W' gr b10 b11 gw gs gm wd ls t lm' tm' u v a' q' := by
  have ns : ∀ {b : Nat} {C : Array Value} {ex : TypeId}, W.heap[b]? = some (.cells C ex (0, 0)) → ex ≠ 53 → 24 ≠ ex → 3 ≠ ex → ¬ MsSet gm a q b := fun hb h1 h2 h3 => notMs hb h.ms h1 h2 h3
  refine ⟨h.wd.keepS k (ns h.wd.1 (by decide) (by decide) (by decide)) (fun b hb => ?_), h.st.keepS k (ns h.st.1 (by decide) (by decide) (by decide)) (fun b hb => ?_), hM, hB, k.blk h.cr (ns h.cr (by decide) (by decide) (by decide)), k.blk h.c10 (ns h.c10 (by decide) (by decide) (by decide)), k.blk h.c11 (ns h.c11 (by decide) (by decide) (by decide)), fun b hb hb' => ?_, h.grl⟩
  · obtain ⟨C, hC⟩ := R_typed h.wd.2.2 hb
    exact notMs24 hC h.ms (h.nr b hb)
  · obtain ⟨C, hC⟩ := R_typed h.st.2.2 hb
    exact ns hC (by decide) (by decide) (by decide)
  · rcases hN b hb' with h1 | h1
    · exact h.nr b hb h1
    · obtain ⟨C, hC⟩ := R_typed h.wd.2.2 hb
      have := blk_lt hC
      omega
end
theorem St4.changed {w W1 w7 : World} {gr b10 b11 gw gs gm : Nat} {wd : List S24} {ls : List S47} {t : Int} {lm : List S47} {tm : Int} {v a q : Value} {B2 A7 : Option Addr} {e2 e7 : Nat} {y : S24} (h : St4 w W1 gr b10 b11 gw gs gm wd ls t lm tm (.slice B2 wd.length e2) v a q)
    (hO7 : k24.R 24 w7 w.heap.size (fun z => (Value.slice B2 wd.length e2).ownBlock = some z ∨ (W1.drewN 1).heap.size ≤ z) (.slice A7 (wd ++ [y]).length e7) (wd ++ [y])) (hB7 : Below w.heap.size w w7)
    (hg7 : (W1.drewN 1).grownBy w7 (Value.slice B2 wd.length e2).ownBlock) : St4 w (w7.setCell ⟨gw, 0, none⟩ (.slice A7 (wd ++ [y]).length e7)) gr b10 b11 gw gs gm (wd ++ [y]) ls t lm tm (.slice A7 (wd ++ [y]).length e7) v a q := by
  obtain ⟨j1, j2, j3⟩ := wd_appended h.wd h.bel hO7 hB7 hg7
  have k := keepS_of j3
  have ns : ∀ {b : Nat} {C : Array Value} {ex : TypeId}, W1.heap[b]? = some (.cells C ex (0, 0)) → ex ≠ 30 → 24 ≠ ex → ¬ (b = gw ∨ (Value.slice B2 wd.length e2).ownBlock = some b) := fun hb h1 h2 => notS1 hb h.wd.1 h.wd.2.2 h1 h2
  refine ⟨j1, h.st.pastWd h.wd j3, h.ms.keepS k (ns h.ms.1 (by decide) (by decide)) (fun b hb => ?_) (fun b hb => ?_), j2, k.blk h.cr (ns h.cr (by decide) (by decide)), k.blk h.c10 (ns h.c10 (by decide) (by decide)), k.blk h.c11 (ns h.c11 (by decide) (by decide)), fun b hb hb' => ?_, h.grl⟩
  · obtain ⟨C, hC⟩ := R_typed h.ms.2.2.1 hb
    rintro (q | q)
    · exact ty_ne hC h.wd.1 (by decide) q
    · exact h.nr b q hb
  · obtain ⟨C, hC⟩ := R_typed h.ms.2.2.2 hb
    exact ns hC (by decide) (by decide)
  · rcases hO7.1 b hb with h1 | h1
    · exact h.nr b h1 hb'
    · obtain ⟨C, hC⟩ := R_typed h.ms.2.2.1 hb'
      have := blk_lt hC
      have h1' : W1.heap.size ≤ b := h1
      omega
theorem rd_key (l : List S47) (i : Int) : rd_T24 (l.map key47) i = key47 (rd_T47 l i) := by
  unfold rd_T24 rd_T47
  rw [List.getD_eq_getElem?_getD, List.getD_eq_getElem?_getD, List.getElem?_map]
  cases l[i.toNat]? <;> rfl
theorem rd_f2 (l : List S47) (i : Int) : (l.map S47.f2).getD i.toNat 0 = (rd_T47 l i).f2 := by
  unfold rd_T47
  rw [List.getD_eq_getElem?_getD, List.getD_eq_getElem?_getD, List.getElem?_map]
  cases l[i.toNat]? <;> rfl
theorem ms_read {w0 W : World} {g : Nat} {l : List S47} {t : Int} {A Q : Option Addr} {c d : Nat} (h : IsMs w0 W g l t (.slice A l.length c) (.slice Q l.length d)) {j : Nat} (hj : j < l.length) :
    ∃ ad aq, A = some ad ∧ Q = some aq ∧ W.cell? (ad.add (j * 2)) = some (.int .i64 (rd_T47 l (j : Int)).f0) ∧ W.cell? ⟨(ad.add (j * 2)).block, (ad.add (j * 2)).off + 1, none⟩ = some (.int .i64 (rd_T47 l (j : Int)).f1) ∧ W.cell? (aq.add j) = some (.int .i64 (rd_T47 l (j : Int)).f2) := by
  obtain ⟨ad, rfl, x0, x1⟩ := at_T24 (Kd.R_reads' h.2.2.1).2.2 (j : Int) (by omega) (by rw [List.length_map]; omega)
  obtain ⟨aq, rfl, x2⟩ := at_I (Kd.R_reads' h.2.2.2).2.2 (j : Int) (by omega) (by rw [List.length_map]; omega)
  rw [rd_key] at x0 x1
  rw [rd_f2] at x2
  simp only [Int.toNat_natCast] at x0 x1 x2
  exact ⟨ad, aq, rfl, rfl, x0, x1, x2⟩
theorem at_below {W W' : World} (k : Below W.heap.size W W') {p : Addr} {v : Value} (h : W.cell? p = some v) : W'.cell? p = some v := (k.cell (p := p) (World.block_lt_of_cell? _ _ h)).trans h
set_option maxHeartbeats 3200000 in
set_option maxRecDepth 100000 in
theorem mvalid_ok (gm gw : Nat) (l : List S47) (t : Int) (a q : Value) (wd : List S24) (vw : Value) (w0 w : World) (hM : IsMs w0 w gm l t a q) (hW : IsWd w0 w gw wd vw) (hl : l.length ≤ 1000) (hwl : wd.length ≤ 1000) :
    Calls Try.prog 22 #[.pointer (some ⟨gm, 0, none⟩), .pointer (some ⟨gw, 0, none⟩)] w fun e w' => e = .returned (.bool (thenB wd l (wd.length : Int))) ∧ Below w.heap.size w w' := by
  have hu24 := Try.underlying24
  have hu27 := Try.underlying27
  have hu28 := Try.underlying28
  have hu30 := Try.underlying30
  have hu50 := Try.underlying50
  have hu51 := Try.underlying51
  have hu53 := Try.underlying53
  obtain ⟨A, c, Q, d, rfl, rfl⟩ := hM.slices
  obtain ⟨B, c2, rfl⟩ := Kd.R_slice hW.2.2
  have c0 : w.cell? ⟨gm, 0, none⟩ = some (.slice A l.length c) := (blk_cell hM.1 0).trans rfl
  have K0 := Aside0.mk (And.intro hM hW)
  clear hM hW
  go_enter Try.func22, Try.ntmps22
  go_wp2
  clear c0
  go_loopg [12] l.length (fun m i wr => ∃ j : Nat, i = .int .i64 (j : Int) ∧ m + j = l.length ∧ Aside0 (IsMs w0 wr gm l t (.slice A l.length c) (.slice Q l.length d) ∧ IsWd w0 wr gw wd (.slice B wd.length c2) ∧ Below w.heap.size w wr ∧ (l.take j).all (thenE wd (wd.length : Int)) = true))
  case atStart => exact ⟨0, rfl, rfl, ⟨K0.out.1, K0.out.2, Below.refl _ _, by simp⟩⟩
  case round =>
    clear K0
    obtain ⟨j, rfl, hj, HC⟩ := hrel
    by_cases hlt : j < l.length
    · have q0 : decide ((j : Int) < (l.length : Int)) = true := decide_eq_true (by omega)
      obtain ⟨ad, aq, rfl, rfl, y0, y1, y2⟩ := ms_read HC.out.1 hlt
      obtain ⟨⟨a, b, e⟩, hx⟩ : ∃ x, x = rd_T47 l (j : Int) := ⟨_, rfl⟩
      rw [← hx] at y0 y1 y2
      have p0 : ((0 : Int) ≤ (j : Int)) = True := eq_true (by omega)
      have p1 : ((j : Int) < (l.length : Int)) = True := eq_true (by omega)
      have HE := Aside0.mk hx
      clear hx
      have hj9 : j ≤ 1000 := by omega
      go_upto_region 4 with (fail)
      have hA := heap_alloc_new wr (.cells #[.int .i64 a, .int .i64 b] 24)
      have hbl := below_alloc (Below.refl wr.heap.size wr) (.cells #[.int .i64 a, .int .i64 b] 24)
      have K1 := Aside0.mk (And.intro (HC.out.1.below hbl) (And.intro (HC.out.2.1.below hbl) (And.intro (HC.out.2.2.1.trans (hbl.mono HC.out.2.2.1.size)) hA)))
      have d3 := at_below hbl y2
      clear hA hbl y0 y1 y2
      generalize wr.alloc (.cells #[.int .i64 a, .int .i64 b] 24) = w2 at K1 d3 ⊢
      generalize wr.heap.size = gy at K1 ⊢
      have d0 : w2.cell? ⟨gy, 0, none⟩ = some (.int .i64 a) := (blk_cell K1.out.2.2.2 0).trans rfl
      have d1 : w2.cell? ⟨gy, 1, none⟩ = some (.int .i64 b) := (blk_cell K1.out.2.2.2 1).trans rfl
      have d2 : w2.cell? ⟨gm, 1, none⟩ = some (.slice (some aq) l.length d) := (blk_cell K1.out.1.1 1).trans rfl
      have d4 : w2.cell? ⟨gw, 0, none⟩ = some (.slice B wd.length c2) := (blk_cell K1.out.2.1.1 0).trans rfl
      have OA := fun W h => at_ok gw wd (.slice B wd.length c2) ⟨a, b⟩ (wd.length : Int) w0 W h hwl
      by_cases hv : (ver wd ⟨a, b⟩ (wd.length : Int) : Int) = e
      · have hb1 : ((ver wd ⟨a, b⟩ (wd.length : Int) : Int) != e) = false := by simpa using hv
        have hok : thenE wd (wd.length : Int) (rd_T47 l (j : Int)) = true := by rw [← HE.out]; unfold thenE; simpa using hv
        have HOK := Aside0.mk hok
        clear hok hv
        generalize (ver wd ⟨a, b⟩ (wd.length : Int) : Int) = vn at OA hb1
        go_wp2_with (fail)
        go_region_held3 (fun w' => w'.cell? ⟨gy, 0, none⟩ = some (.int .i64 a) ∧ w'.cell? ⟨gy, 1, none⟩ = some (.int .i64 b) ∧ w'.cell? ⟨gm, 1, none⟩ = some (.slice (some aq) l.length d) ∧ w'.cell? (aq.add j) = some (.int .i64 e) ∧ w'.cell? ⟨gw, 0, none⟩ = some (.slice B wd.length c2)) (first | exact ⟨d0, d1, d2, d3, d4⟩ | go_keep)
          (first
            | (go_at_call 27; refine (OA _ (K1.out.2.1.below (pw_below_drewN (Below.refl _ _) 1))).mono ?_; rintro e7 w7 ⟨rfl, hb7⟩; have hb77 := (pw_below_drewN (Below.refl w2.heap.size w2) 1).trans hb7; have K7 := Aside0.mk (And.intro (K1.out.1.below hb77) (And.intro (K1.out.2.1.below hb77) (K1.out.2.2.1.trans (hb77.mono K1.out.2.2.1.size)))); have d0 := at_below hb77 d0; have d1 := at_below hb77 d1; have d2 := at_below hb77 d2; have d3 := at_below hb77 d3; have d4 := at_below hb77 d4; clear hb7 hb77))
        go_wp2
        go_roundg (l.length - (j + 1))
        case rel =>
          exact ⟨j + 1, (by rw [Int.natCast_add]; rfl), (by omega), ⟨K7.out.1, K7.out.2.1, K7.out.2.2, by rw [rd47_mem hlt, List.all_append, HC.out.2.2.2]; simp [HOK.out]⟩⟩
        case measure => omega
      · have hb1 : ((ver wd ⟨a, b⟩ (wd.length : Int) : Int) != e) = true := by simpa using hv
        have hno : thenB wd l (wd.length : Int) = false := by
          unfold thenB
          rw [List.all_eq_false]
          exact ⟨rd_T47 l (j : Int), rd47_in hlt, by rw [← HE.out]; unfold thenE; simpa using hv⟩
        have HNO := Aside0.mk hno
        clear hno hv
        generalize (ver wd ⟨a, b⟩ (wd.length : Int) : Int) = vn at OA hb1
        go_wp2_with (fail)
        go_region_held3 (fun w' => w'.cell? ⟨gy, 0, none⟩ = some (.int .i64 a) ∧ w'.cell? ⟨gy, 1, none⟩ = some (.int .i64 b) ∧ w'.cell? ⟨gm, 1, none⟩ = some (.slice (some aq) l.length d) ∧ w'.cell? (aq.add j) = some (.int .i64 e) ∧ w'.cell? ⟨gw, 0, none⟩ = some (.slice B wd.length c2)) (first | exact ⟨d0, d1, d2, d3, d4⟩ | go_keep)
          (first
            | (go_at_call 27; refine (OA _ (K1.out.2.1.below (pw_below_drewN (Below.refl _ _) 1))).mono ?_; rintro e7 w7 ⟨rfl, hb7⟩; have hb77 := (pw_below_drewN (Below.refl w2.heap.size w2) 1).trans hb7; have K7 := Aside0.mk (K1.out.2.2.1.trans (hb77.mono K1.out.2.2.1.size)); have d0 := at_below hb77 d0; have d1 := at_below hb77 d1; have d2 := at_below hb77 d2; have d3 := at_below hb77 d3; have d4 := at_below hb77 d4; clear hb7 hb77))
        go_wp2
        go_ret
        exact ⟨by rw [HNO.out]; rfl, K7.out⟩
    · have q0 : decide ((j : Int) < (l.length : Int)) = false := decide_eq_false (by omega)
      have jn : j = l.length := by omega
      have HY := Aside0.mk (show thenB wd l (wd.length : Int) = true from by have := HC.out.2.2.2; rw [jn, List.take_length] at this; exact this)
      clear jn
      go_wp2
      go_ret
      exact ⟨by rw [HY.out]; rfl, HC.out.2.2.1⟩
/-! ### the document's set, part by part -/
def IsM2 (w0 W : World) (g : Nat) (th : List S24) (vs : List Int) (t : Int) (a q : Value) : Prop := W.heap[g]? = some (.cells #[a, q, .int .i64 t] 53 (0, 0)) ∧ w0.heap.size ≤ g ∧ k24.R 24 W w0.heap.size (fun k => a.ownBlock = some k) a th ∧ kI.R 3 W w0.heap.size (fun k => q.ownBlock = some k) q vs
theorem IsMs.m2 {w0 W : World} {g : Nat} {l : List S47} {t : Int} {a q : Value} (h : IsMs w0 W g l t a q) : IsM2 w0 W g (l.map key47) (l.map S47.f2) t a q := h
theorem IsM2.ms {w0 W : World} {g : Nat} {l : List S47} {k i vn : Int} {t : Int} {a q : Value} (h : IsM2 w0 W g (l.map key47 ++ [⟨k, i⟩]) (l.map S47.f2 ++ [vn]) t a q) : IsMs w0 W g (l ++ [⟨k, i, vn⟩]) t a q := by
  unfold IsMs
  rw [List.map_append, List.map_append]
  exact h
theorem R_exactI {e : TypeId} {w : World} {base : Nat} {ok : Nat → Prop} {v : Value} {xs : List Int} (h : kI.R e w base ok v xs) : kI.R e w base (fun k => v.ownBlock = some k) v xs :=
  ⟨fun k hk => hk, h.2.imp_ (fun x cs hp => hp)⟩
theorem KeepS.trans {S : Nat → Prop} {A B C : World} (h : KeepS S A B) (k : KeepS S B C) : KeepS S A C := ⟨Nat.le_trans h.1 k.1, fun b hb hn => (k.2 b (Nat.lt_of_lt_of_le hb h.1) hn).trans (h.2 b hb hn)⟩
theorem KeepS.of {S : Nat → Prop} {A B : World} (h : Below A.heap.size A B) : KeepS S A B := ⟨h.size, fun b hb _ => h.block b hb⟩
theorem KeepS.set {S : Nat → Prop} (A : World) (g i : Nat) (v : Value) (hg : S g) : KeepS S A (A.setCell ⟨g, i, none⟩ v) :=
  have k := KeepBut.set_ (KeepBut.refl A g none) i v
  ⟨k.1, fun b hb hn => k.2 b hb (fun e => hn (e ▸ hg)) (by simp)⟩
/-- the row of the one is none of the rows of the other, and none of the new ones -/
theorem KeepS.rows {g : Nat} {a q a' : Value} {W W' W2 : World} (h : KeepS (MsSet g a q) W W') (hs : W.heap.size ≤ W'.heap.size) (hn : Nx W a a') (k : KeepS (MsSet g a' q) W' W2) : KeepS (MsSet g a q) W W2 :=
  ⟨Nat.le_trans hs k.1, fun b hb hS => (k.2 b (Nat.lt_of_lt_of_le hb hs) (fun q => hS (by
    rcases q with q | q | q
    · exact .inl q
    · rcases hn b q with h1 | h1
      · exact .inr (.inl h1)
      · omega
    · exact .inr (.inr q)))).trans (h.2 b hb hS)⟩
section
variable {w0 W w7 : World} {g : Nat} {th th' : List S24} {vs vs' : List Int} {t : Int} {a q v7 : Value}
theorem IsM2.below (h : IsM2 w0 W g th vs t a q) (k : Below W.heap.size W w7) : IsM2 w0 w7 g th vs t a q :=
  ⟨(k.block g (blk_lt h.1)).trans h.1, h.2.1, Kd.R_below h.2.2.1 k, Kd.R_below h.2.2.2 k⟩
theorem IsM2.ownA (h : IsM2 w0 W g th vs t a q) : some g ≠ a.ownBlock := Kd.R_ne h.2.2.1 h.1 (by decide)
theorem IsM2.ownQ (h : IsM2 w0 W g th vs t a q) : some g ≠ q.ownBlock := Kd.R_ne h.2.2.2 h.1 (by decide)
theorem IsM2.apart (h : IsM2 w0 W g th vs t a q) : NeRow a q := by
  obtain ⟨i1, o1⟩ := Kd.R_own h.2.2.1
  obtain ⟨i2, o2⟩ := Kd.R_own h.2.2.2
  exact ne_types o1 o2 (by decide)
theorem IsM2.setT (h : IsM2 w0 W g th vs t a q) (t' : Int) : IsM2 w0 (W.setCell ⟨g, 2, none⟩ (.int .i64 t')) g th vs t' a q :=
  ⟨by simpa using blk_set h.1 2 (.int .i64 t'), h.2.1, R_exact24 (Kd.R_far h.2.2.1 (p := ⟨g, 2, none⟩) (fun b hb e => h.ownA (by have e' : b = g := e; rw [← e']; exact hb.symm)) _), R_exactI (Kd.R_far h.2.2.2 (p := ⟨g, 2, none⟩) (fun b hb e => h.ownQ (by have e' : b = g := e; rw [← e']; exact hb.symm)) _)⟩
theorem IsM2.things (h : IsM2 w0 W g th vs t a q) (hO7 : k24.R 24 w7 w0.heap.size (fun z => a.ownBlock = some z ∨ W.heap.size ≤ z) v7 th') (hB7 : Below w0.heap.size w0 w7) (hg7 : W.grownBy w7 a.ownBlock) :
    IsM2 w0 (w7.setCell ⟨g, 0, none⟩ v7) g th' vs t v7 q ∧ Below w0.heap.size w0 (w7.setCell ⟨g, 0, none⟩ v7) ∧ KeepS (MsSet g a q) W (w7.setCell ⟨g, 0, none⟩ v7) := by
  have h7 := (hg7.block g (blk_lt h.1) h.ownA).trans h.1
  have hq7 : kI.R 3 w7 w0.heap.size (fun k => q.ownBlock = some k) q vs := Kd.R_step h.2.2.2 (fun b hb hlt => hg7.block b hlt (fun e => h.apart b e.symm hb))
  refine ⟨⟨by simpa using blk_set h7 0 v7, h.2.1, R_exact24 (Kd.R_far hO7 (p := ⟨g, 0, none⟩) (fun b hb e => ?_) _), R_exactI (Kd.R_far hq7 (p := ⟨g, 0, none⟩) (fun b hb e => h.ownQ (by have e' : b = g := e; rw [← e']; exact hb.symm)) _)⟩, below_set hB7 h.2.1, ?_⟩
  · have e' : b = g := e
    rcases hb with hb | hb
    · exact h.ownA (by rw [← e']; exact hb.symm)
    · have := blk_lt h.1
      have hb' : W.heap.size ≤ b := hb
      omega
  · have k := KeepBut.set_ (show KeepBut W w7 g a.ownBlock from ⟨hg7.size, fun b hb _ h2 => hg7.block b hb h2⟩) 0 v7
    exact ⟨k.1, fun b hb hS => k.2 b hb (fun e => hS (.inl e)) (fun e => hS (.inr (.inl e.symm)))⟩
theorem IsM2.vers (h : IsM2 w0 W g th vs t a q) (hO7 : kI.R 3 w7 w0.heap.size (fun z => q.ownBlock = some z ∨ W.heap.size ≤ z) v7 vs') (hB7 : Below w0.heap.size w0 w7) (hg7 : W.grownBy w7 q.ownBlock) :
    IsM2 w0 (w7.setCell ⟨g, 1, none⟩ v7) g th vs' t a v7 ∧ Below w0.heap.size w0 (w7.setCell ⟨g, 1, none⟩ v7) ∧ KeepS (MsSet g a q) W (w7.setCell ⟨g, 1, none⟩ v7) := by
  have h7 := (hg7.block g (blk_lt h.1) h.ownQ).trans h.1
  have ha7 : k24.R 24 w7 w0.heap.size (fun k => a.ownBlock = some k) a th := Kd.R_step h.2.2.1 (fun b hb hlt => hg7.block b hlt (fun e => h.apart b hb e.symm))
  refine ⟨⟨by simpa using blk_set h7 1 v7, h.2.1, R_exact24 (Kd.R_far ha7 (p := ⟨g, 1, none⟩) (fun b hb e => h.ownA (by have e' : b = g := e; rw [← e']; exact hb.symm)) _), R_exactI (Kd.R_far hO7 (p := ⟨g, 1, none⟩) (fun b hb e => ?_) _)⟩, below_set hB7 h.2.1, ?_⟩
  · have e' : b = g := e
    rcases hb with hb | hb
    · exact h.ownQ (by rw [← e']; exact hb.symm)
    · have := blk_lt h.1
      have hb' : W.heap.size ≤ b := hb
      omega
  · have k := KeepBut.set_ (show KeepBut W w7 g q.ownBlock from ⟨hg7.size, fun b hb _ h2 => hg7.block b hb h2⟩) 1 v7
    exact ⟨k.1, fun b hb hS => k.2 b hb (fun e => hS (.inl e)) (fun e => hS (.inr (.inr e.symm)))⟩
end
theorem Nx.of {w : World} {v v' : Value} (h : v'.ownBlock = v.ownBlock ∨ ∃ b, v'.ownBlock = some b ∧ w.heap.size ≤ b) : Nx w v v' := fun b hb => by
  rcases h with h | ⟨c, h1, h2⟩
  · exact .inl (by rw [← h]; exact hb)
  · rw [h1] at hb
    injection hb with hb
    exact .inr (by omega)
theorem note_here {wd : List S24} {l : List S47} {t k i : Int} {j : Nat} (hlt : j < l.length) (h : ∀ q, q < j → hit k i (rd_T47 l (q : Int)) = false) (hh : hit k i (rd_T47 l (j : Int)) = true) :
    noteB wd l t k i = ((rd_T47 l (j : Int)).f2 == verN wd k i) ∧ noteL wd l t k i = l ∧ noteT wd l t k i = t := by
  have hp : placeI l k i = (j : Int) := by
    have := idx_at hlt h hh
    unfold placeI; rw [this, if_pos hlt]
  have h0 : (0 : Int) ≤ (j : Int) := by omega
  unfold noteB noteL noteT
  rw [hp, if_pos h0, if_pos h0, if_pos h0]
  exact ⟨rfl, rfl, rfl⟩
theorem note_new {wd : List S24} {l : List S47} {t k i : Int} (h : ∀ q, q < l.length → hit k i (rd_T47 l (q : Int)) = false) :
    (¬ t < verN wd k i → noteB wd l t k i = true ∧ noteL wd l t k i = l ++ [⟨k, i, verN wd k i⟩] ∧ noteT wd l t k i = t) ∧
    (t < verN wd k i → validB wd l = true → noteB wd l t k i = true ∧ noteL wd l t k i = l ++ [⟨k, i, verN wd k i⟩] ∧ noteT wd l t k i = (wd.length : Int)) ∧
    (t < verN wd k i → validB wd l = false → noteB wd l t k i = false ∧ noteL wd l t k i = l ∧ noteT wd l t k i = t) := by
  have hp : placeI l k i = -1 := by
    have := idx_none h
    unfold placeI; rw [this, if_neg (by omega)]
  have h0 : ¬ (0 : Int) ≤ -1 := by omega
  refine ⟨fun ht => ?_, fun ht hv => ?_, fun ht hv => ?_⟩
  · unfold noteB noteL noteT
    rw [hp, if_neg h0, if_neg h0, if_neg h0, if_neg ht, if_neg (fun q => ht q.1), if_neg (fun q => ht q.1)]
    exact ⟨rfl, rfl, rfl⟩
  · unfold noteB noteL noteT
    rw [hp, if_neg h0, if_neg h0, if_neg h0, if_pos ht, if_neg (fun q => by rw [hv] at q; cases q.2), if_pos ⟨ht, hv⟩]
    exact ⟨hv, rfl, rfl⟩
  · unfold noteB noteL noteT
    rw [hp, if_neg h0, if_neg h0, if_neg h0, if_pos ht, if_pos ⟨ht, hv⟩, if_neg (fun q => by rw [hv] at q; cases q.2)]
    exact ⟨hv, rfl, rfl⟩
theorem then_valid {wd : List S24} {l : List S47} (h : ∀ e ∈ l, inT (key47 e)) : thenB wd l (wd.length : Int) = validB wd l := by
  unfold thenB validB
  rw [Bool.eq_iff_iff, List.all_eq_true, List.all_eq_true]
  have hh : ∀ e ∈ l, thenE wd (wd.length : Int) e = okE wd e := fun e he => by
    unfold thenE okE
    rw [show verN wd e.f0 e.f1 = _ from verN_in wd (key47 e) (h e he)]
    rfl
  exact ⟨fun q e he => by rw [← hh e he]; exact q e he, fun q e he => by rw [hh e he]; exact q e he⟩
theorem set_off {W : World} {g b i : Nat} {v : Value} {C : Array Value} {e : TypeId} {f : Nat × Nat} (h : W.heap[b]? = some (.cells C e f)) (hne : b ≠ g) : (W.setCell ⟨g, i, none⟩ v).heap[b]? = some (.cells C e f) :=
  ((KeepBut.set_ (KeepBut.refl W g none) _ _).2 b (Array.getElem?_eq_some_iff.1 h).1 hne (by simp)).trans h
theorem Nx.mono {w W : World} {v v' : Value} (hs : w.heap.size ≤ W.heap.size) (h : Nx W v v') : Nx w v v' := fun b hb => by
  rcases h b hb with h1 | h1
  · exact .inl h1
  · exact .inr (Nat.le_trans hs h1)
theorem Nx.refl (w : World) (v : Value) : Nx w v v := fun _ hb => .inl hb
set_option maxHeartbeats 6400000 in
set_option maxRecDepth 100000 in
theorem mnote_ok (gm gw : Nat) (l : List S47) (t : Int) (a q : Value) (wd : List S24) (vw : Value) (x : S24) (w0 w : World) (hM : IsMs w0 w gm l t a q) (hW : IsWd w0 w gw wd vw) (hB : Below w0.heap.size w0 w) (hl : l.length ≤ 999) (hwl : wd.length ≤ 1000) (hx : inT x) (hL : ∀ e ∈ l, inT (key47 e)) :
    Calls Try.prog 21 #[.pointer (some ⟨gm, 0, none⟩), .pointer (some ⟨gw, 0, none⟩), .agg #[.int .i64 x.f0, .int .i64 x.f1]] w fun r w' => r = .returned (.bool (noteB wd l t x.f0 x.f1)) ∧ ∃ a' q', IsMs w0 w' gm (noteL wd l t x.f0 x.f1) (noteT wd l t x.f0 x.f1) a' q' ∧ Below w0.heap.size w0 w' ∧ KeepS (MsSet gm a q) w w' ∧ Nx w a a' := by
  have hu24 := Try.underlying24
  have hu27 := Try.underlying27
  have hu28 := Try.underlying28
  have hu30 := Try.underlying30
  have hu50 := Try.underlying50
  have hu51 := Try.underlying51
  have hu53 := Try.underlying53
  obtain ⟨A, c, Q, d, rfl, rfl⟩ := hM.slices
  obtain ⟨B, c2, rfl⟩ := Kd.R_slice hW.2.2
  obtain ⟨vn, hvn⟩ : ∃ vn, vn = verN wd x.f0 x.f1 := ⟨_, rfl⟩
  have AT := fun W h => at_ok gw wd (.slice B wd.length c2) x (wd.length : Int) w0 W h hwl
  rw [← verN_in wd x hx, ← hvn] at AT
  have MV := fun W h1 h2 => mvalid_ok gm gw l t (.slice A l.length c) (.slice Q l.length d) wd (.slice B wd.length c2) w0 W h1 h2 (by omega) hwl
  rw [then_valid hL] at MV
  obtain ⟨x0, x1⟩ := x
  dsimp only at hvn AT ⊢
  have HV := Aside0.mk hvn
  clear hvn hx hL
  have hA := heap_alloc_new w (.cells #[.int .i64 x0, .int .i64 x1] 24)
  have hbl := below_alloc (Below.refl w.heap.size w) (.cells #[.int .i64 x0, .int .i64 x1] 24)
  have K1 := Aside0.mk (And.intro (hM.below hbl) (And.intro (hW.below hbl) (And.intro hbl (And.intro hA (hB.trans (hbl.mono hB.size))))))
  clear hM hW hB hA hbl
  go_enter Try.func21, Try.ntmps21
  go_upto_region 1 with (fail)
  generalize w.alloc (.cells #[.int .i64 x0, .int .i64 x1] 24) = w1 at K1 ⊢
  obtain ⟨gx, hgx⟩ : ∃ gx, gx = w.heap.size := ⟨_, rfl⟩
  have K1 := Aside0.mk (show IsMs w0 w1 gm l t (.slice A l.length c) (.slice Q l.length d) ∧ IsWd w0 w1 gw wd (.slice B wd.length c2) ∧ Below w.heap.size w w1 ∧ w1.heap[gx]? = some (.cells #[.int .i64 x0, .int .i64 x1] 24 (0, 0)) ∧ Below w0.heap.size w0 w1 from by rw [hgx]; exact K1.out)
  rw [← hgx]
  clear hgx
  have d0 : w1.cell? ⟨gx, 0, none⟩ = some (.int .i64 x0) := (blk_cell K1.out.2.2.2.1 0).trans rfl
  have d1 : w1.cell? ⟨gx, 1, none⟩ = some (.int .i64 x1) := (blk_cell K1.out.2.2.2.1 1).trans rfl
  have d2 : w1.cell? ⟨gw, 0, none⟩ = some (.slice B wd.length c2) := (blk_cell K1.out.2.1.1 0).trans rfl
  go_wp2_with (fail)
  go_region_held3 (fun w' => w'.cell? ⟨gx, 0, none⟩ = some (.int .i64 x0) ∧ w'.cell? ⟨gx, 1, none⟩ = some (.int .i64 x1) ∧ w'.cell? ⟨gw, 0, none⟩ = some (.slice B wd.length c2)) (first | exact ⟨d0, d1, d2⟩ | go_keep)
    (first
      | (go_at_call 27; refine (AT _ (K1.out.2.1.below (pw_below_drewN (Below.refl _ _) 1))).mono ?_; rintro e7 w2 ⟨rfl, hb7⟩; have hb77 := (pw_below_drewN (Below.refl w1.heap.size w1) 1).trans hb7; have K2 := Aside0.mk (And.intro (K1.out.1.below hb77) (And.intro (K1.out.2.1.below hb77) (And.intro (K1.out.2.2.1.trans (hb77.mono K1.out.2.2.1.size)) (And.intro ((hb77.block gx (blk_lt K1.out.2.2.2.1)).trans K1.out.2.2.2.1) (K1.out.2.2.2.2.trans (hb77.mono K1.out.2.2.2.2.size)))))); have d0 := at_below hb77 d0; have d1 := at_below hb77 d1; have d2 := at_below hb77 d2; clear hb7 hb77))
  clear d0 d1 d2 K1 AT
  have c0 : w2.cell? ⟨gm, 0, none⟩ = some (.slice A l.length c) := (blk_cell K2.out.1.1 0).trans rfl
  go_wp2
  clear c0
  go_loopg [23] l.length (fun m i wr => ∃ j : Nat, i = .int .i64 (j : Int) ∧ m + j = l.length ∧ Aside0 ((IsMs w0 wr gm l t (.slice A l.length c) (.slice Q l.length d) ∧ IsWd w0 wr gw wd (.slice B wd.length c2) ∧ Below w.heap.size w wr ∧ wr.heap[gx]? = some (.cells #[.int .i64 x0, .int .i64 x1] 24 (0, 0)) ∧ Below w0.heap.size w0 wr) ∧ ∀ q, q < j → hit x0 x1 (rd_T47 l (q : Int)) = false))
  case atStart => exact ⟨0, rfl, rfl, ⟨K2.out, fun q hq => absurd hq (Nat.not_lt_zero q)⟩⟩
  case round =>
    clear K2
    obtain ⟨j, rfl, hj, HC⟩ := hrel
    by_cases hlt : j < l.length
    · have q0 : decide ((j : Int) < (l.length : Int)) = true := decide_eq_true (by omega)
      obtain ⟨ad, aq, rfl, rfl, y0, y1, y2⟩ := ms_read HC.out.1.1 hlt
      obtain ⟨⟨a, b, e⟩, hx⟩ : ∃ x, x = rd_T47 l (j : Int) := ⟨_, rfl⟩
      rw [← hx] at y0 y1 y2
      have p0 : ((0 : Int) ≤ (j : Int)) = True := eq_true (by omega)
      have p1 : ((j : Int) < (l.length : Int)) = True := eq_true (by omega)
      have HE := Aside0.mk hx
      clear hx
      have hj9 : j ≤ 1000 := by omega
      go_upto_region 5 with (fail)
      have hA := heap_alloc_new wr (.cells #[.int .i64 a, .int .i64 b] 24)
      have hbl := below_alloc (Below.refl wr.heap.size wr) (.cells #[.int .i64 a, .int .i64 b] 24)
      have K3 := Aside0.mk (show (IsMs w0 (wr.alloc (.cells #[.int .i64 a, .int .i64 b] 24)) gm l t (.slice (some ad) l.length c) (.slice (some aq) l.length d) ∧ IsWd w0 (wr.alloc (.cells #[.int .i64 a, .int .i64 b] 24)) gw wd (.slice B wd.length c2) ∧ Below w.heap.size w (wr.alloc (.cells #[.int .i64 a, .int .i64 b] 24)) ∧ (wr.alloc (.cells #[.int .i64 a, .int .i64 b] 24)).heap[gx]? = some (.cells #[.int .i64 x0, .int .i64 x1] 24 (0, 0)) ∧ Below w0.heap.size w0 (wr.alloc (.cells #[.int .i64 a, .int .i64 b] 24))) ∧ (wr.alloc (.cells #[.int .i64 a, .int .i64 b] 24)).heap[wr.heap.size]? = some (.cells #[.int .i64 a, .int .i64 b] 24 (0, 0)) from ⟨⟨HC.out.1.1.below hbl, HC.out.1.2.1.below hbl, HC.out.1.2.2.1.trans (hbl.mono HC.out.1.2.2.1.size), (hbl.block gx (blk_lt HC.out.1.2.2.2.1)).trans HC.out.1.2.2.2.1, HC.out.1.2.2.2.2.trans (hbl.mono HC.out.1.2.2.2.2.size)⟩, hA⟩)
      have d4 := at_below hbl y2
      clear hA hbl y0 y1 y2
      generalize wr.alloc (.cells #[.int .i64 a, .int .i64 b] 24) = w3 at K3 d4 ⊢
      generalize wr.heap.size = gy at K3 ⊢
      have d0 : w3.cell? ⟨gx, 0, none⟩ = some (.int .i64 x0) := (blk_cell K3.out.1.2.2.2.1 0).trans rfl
      have d1 : w3.cell? ⟨gx, 1, none⟩ = some (.int .i64 x1) := (blk_cell K3.out.1.2.2.2.1 1).trans rfl
      have d2 : w3.cell? ⟨gy, 0, none⟩ = some (.int .i64 a) := (blk_cell K3.out.2 0).trans rfl
      have d3 : w3.cell? ⟨gy, 1, none⟩ = some (.int .i64 b) := (blk_cell K3.out.2 1).trans rfl
      have d5 : w3.cell? ⟨gm, 1, none⟩ = some (.slice (some aq) l.length d) := (blk_cell K3.out.1.1.1 1).trans rfl
      obtain ⟨g0, b0⟩ : ∃ g, (x0 == a) = g := ⟨_, rfl⟩
      obtain ⟨g1, b1⟩ : ∃ g, (x1 == b) = g := ⟨_, rfl⟩
      have HH := Aside0.mk (show hit x0 x1 ⟨a, b, e⟩ = (g0 && g1) from by
        unfold hit
        rw [← b0, ← b1, Bool.beq_comm (a := x0), Bool.beq_comm (a := x1)])
      by_cases hg : (g0 && g1) = true
      · have HN := Aside0.mk (note_here (wd := wd) (t := t) hlt HC.out.2 (by rw [← HE.out, HH.out]; exact hg))
        obtain ⟨rfl, rfl⟩ : g0 = true ∧ g1 = true := by simpa using hg
        clear hg
        go_wp2
        go_ret
        refine ⟨by rw [HN.out.1, ← HE.out, HV.out]; rfl, .slice (some ad) l.length c, ⟨.slice (some aq) l.length d, ?_⟩, K3.out.1.2.2.2.2, KeepS.of K3.out.1.2.2.1, Nx.refl _ _⟩
        rw [HN.out.2.1, HN.out.2.2]
        exact K3.out.1.1
      · have HN := Aside0.mk (show hit x0 x1 (rd_T47 l (j : Int)) = false from by rw [← HE.out, HH.out]; simpa using hg)
        cases g0 <;> cases g1
        all_goals try (exact absurd rfl hg)
        all_goals
          clear hg
          go_wp2
          go_roundg (l.length - (j + 1))
          case rel =>
            refine ⟨j + 1, (by rw [Int.natCast_add]; rfl), (by omega), ⟨K3.out.1, fun q hq => ?_⟩⟩
            by_cases hqj : q < j
            · exact HC.out.2 q hqj
            · obtain rfl : q = j := by omega
              exact HN.out
          case measure => omega
    · have q0 : decide ((j : Int) < (l.length : Int)) = false := decide_eq_false (by omega)
      have NN := note_new (wd := wd) (t := t) (fun q (hq : q < l.length) => HC.out.2 q (by omega))
      rw [← HV.out] at NN
      have c2' : wr.cell? ⟨gm, 2, none⟩ = some (.int .i64 t) := (blk_cell HC.out.1.1.1 2).trans rfl
      have cf := blk_frozen HC.out.1.1.1
      have cw : wr.cell? ⟨gw, 0, none⟩ = some (.slice B wd.length c2) := (blk_cell HC.out.1.2.1.1 0).trans rfl
      by_cases ht : t < vn
      · have p2 : decide (t < vn) = true := decide_eq_true ht
        by_cases hv : validB wd l = true
        · have HN := Aside0.mk (NN.2.1 ht hv)
          rw [hv] at MV
          clear NN ht hv
          go_wp2_with (go_at_call 22; refine (MV _ HC.out.1.1 HC.out.1.2.1).mono ?_; rintro e7 w4 ⟨rfl, hb7⟩; have K4 := Aside0.mk (show IsMs w0 w4 gm l t (.slice A l.length c) (.slice Q l.length d) ∧ Below w0.heap.size w0 w4 ∧ Below w.heap.size w w4 from ⟨HC.out.1.1.below hb7, HC.out.1.2.2.2.2.trans (hb7.mono HC.out.1.2.2.2.2.size), HC.out.1.2.2.1.trans (hb7.mono HC.out.1.2.2.1.size)⟩); have X4 := Aside0.mk ((hb7.block gx (blk_lt HC.out.1.2.2.2.1)).trans HC.out.1.2.2.2.1); have c2' := at_below hb7 c2'; have cw := at_below hb7 cw; have cf := blk_frozen K4.out.1.1; clear hb7)
          have K5 := Aside0.mk (show IsMs w0 (w4.setCell ⟨gm, 2, none⟩ (.int .i64 (wd.length : Int))) gm l (wd.length : Int) (.slice A l.length c) (.slice Q l.length d) ∧ Below w0.heap.size w0 (w4.setCell ⟨gm, 2, none⟩ (.int .i64 (wd.length : Int))) ∧ KeepS (MsSet gm (.slice A l.length c) (.slice Q l.length d)) w (w4.setCell ⟨gm, 2, none⟩ (.int .i64 (wd.length : Int))) from ⟨K4.out.1.m2.setT _, below_set K4.out.2.1 K4.out.1.2.1, (KeepS.of K4.out.2.2).trans (KeepS.set w4 gm 2 _ (.inl rfl))⟩)
          have X5 := Aside0.mk (set_off (i := 2) (v := .int .i64 (wd.length : Int)) X4.out (ty_ne X4.out K4.out.1.1 (by decide)))
          clear c2' cw cf HC
          generalize w4.setCell ⟨gm, 2, none⟩ (.int .i64 (wd.length : Int)) = w5 at K5 X5 ⊢
          have M5 := Aside0.mk (show IsM2 w0 (w5.drewN 1) gm (l.map key47) (l.map S47.f2) (wd.length : Int) (.slice A l.length c) (.slice Q l.length d) from K5.out.1.m2.below (pw_below_drewN (Below.refl _ _) 1))
          have x0c : w5.cell? ⟨gx, 0, none⟩ = some (.int .i64 x0) := (blk_cell X5.out 0).trans rfl
          have x1c : w5.cell? ⟨gx, 1, none⟩ = some (.int .i64 x1) := (blk_cell X5.out 1).trans rfl
          have m0 : w5.cell? ⟨gm, 0, none⟩ = some (.slice A l.length c) := (blk_cell K5.out.1.1 0).trans rfl
          have mf := blk_frozen K5.out.1.1
          have hown : some gm ≠ (Value.slice A l.length c).ownBlock := M5.out.ownA
          have hR1 : k24.R 24 (w5.drewN 1) w0.heap.size (fun z => (Value.slice A l.length c).ownBlock = some z ∨ (w5.drewN 1).heap.size ≤ z) (.slice A l.length c) (l.map key47) := Kd.R_mono M5.out.2.2.1 (fun _ hq => .inl hq)
          have hB1 : Below w0.heap.size w0 (w5.drewN 1) := pw_below_drewN K5.out.2.1 1
          have hgl : gm < w5.heap.size := blk_lt K5.out.1.1
          go_wp2_with (fail)
          go_region_law (((refine Kd.R_append_step k24 (w0 := w0) (W := (w5.drewN 1)) w0.heap.size (by rfl) (.tmp 63) (.tmp 65) 27 24 (.agg #[(.int .i64 0), (.int .i64 0)]) 16 (by rfl) hu27 info24D rfl (by decide) (by omega) (.slice A l.length c) (l.map key47) (⟨x0, x1⟩ : S24) [.int .i64 x0, .int .i64 x1] (fun z => (Value.slice A l.length c).ownBlock = some z ∨ (w5.drewN 1).heap.size ≤ z) (fun _ => False) (by rfl) (by rfl) (k24_mkM _ _ _ (⟨x0, x1⟩ : S24)) (fun _ hk => hk.elim) (fun _ hk => .inr hk) hR1 hB1 hB1.size (by rw [List.length_map]; omega) ?_; intro v7 w7 hO7 hB7 hg7 hat7; have h7 := (hg7.block gm hgl hown).trans K5.out.1.1; have d7 : w7.cell? ⟨gm, 0, none⟩ = some (.slice A l.length c) := (blk_cell h7 0).trans rfl; have f7 := blk_frozen h7 0; have hs7 := Kd.R_slice hO7; rw [List.length_append, List.length_map, List.length_singleton] at hs7; obtain ⟨A7, e7, rfl⟩ := hs7)))
          all_goals
            have K6 := Aside0.mk (M5.out.things hO7 hB7 hg7)
            have N7 := Aside0.mk (Nx.mono K5.out.2.2.1 (Nx.of (w := w5) hat7))
            clear d7 f7 h7 hat7 hg7 hB7 hO7 m0 mf x0c x1c hR1 hB1 hgl hown
            generalize w7.setCell ⟨gm, 0, none⟩ (.slice A7 (l.length + 1) e7) = w6 at K6 ⊢
            have m1 : w6.cell? ⟨gm, 1, none⟩ = some (.slice Q l.length d) := (blk_cell K6.out.1.1 1).trans rfl
            have mf := blk_frozen K6.out.1.1
            have hown : some gm ≠ (Value.slice Q l.length d).ownBlock := K6.out.1.ownQ
            have hR6 : kI.R 3 w6 w0.heap.size (fun z => (Value.slice Q l.length d).ownBlock = some z ∨ w6.heap.size ≤ z) (.slice Q l.length d) (l.map S47.f2) := Kd.R_mono K6.out.1.2.2.2 (fun _ hq => .inl hq)
            have hB6 := K6.out.2.1
            have hgl : gm < w6.heap.size := blk_lt K6.out.1.1
            go_wp2_with ((with_reducible refine gate_builtin (b := .append) (xs := #[.tmp 73, .tmp 75]) rfl ?_); (try (refine gate_guard (by rfl) ?_; dsimp only)); at_builtin; refine Kd.R_append kI (w0 := w0) (W := w6) w0.heap.size rfl (.tmp 73) (.tmp 75) 51 3 (.int .i64 0) 8 rfl hu51 info3D rfl (by decide) (by omega) (.slice Q l.length d) (l.map S47.f2) vn [.int .i64 vn] (fun z => (Value.slice Q l.length d).ownBlock = some z ∨ w6.heap.size ≤ z) (fun _ => False) (by first | (go_simp; done) | (go_simp; rfl)) (by first | (go_simp; done) | (go_simp; rfl)) rfl (fun _ hk => hk.elim) (fun _ hk => .inr hk) hR6 hB6 hB6.size (by rw [List.length_map]; omega) ?_; intro v8 w8 hO8 hB8 hg8 hat8; have h8 := (hg8.block gm hgl hown).trans K6.out.1.1; have d8 : w8.cell? ⟨gm, 1, none⟩ = some (.slice Q l.length d) := (blk_cell h8 1).trans rfl; have f8 := blk_frozen h8 1; have hs8 := Kd.R_slice hO8; rw [List.length_append, List.length_map, List.length_singleton] at hs8; obtain ⟨Q8, e8, rfl⟩ := hs8)
            go_ret
            have K8 := K6.out.1.vers hO8 hB8 hg8
            refine ⟨by rw [HN.out.1]; rfl, .slice A7 (l.length + 1) e7, .slice Q8 (l.length + 1) e8, ?_, K8.2.1, KeepS.rows (K5.out.2.2.trans K6.out.2.2) (Nat.le_trans K5.out.2.2.1 K6.out.2.2.1) N7.out K8.2.2, N7.out⟩
            rw [HN.out.2.1, HN.out.2.2]
            exact K8.1.ms
        · have hv : validB wd l = false := by simpa using hv
          have HN := Aside0.mk (NN.2.2 ht hv)
          rw [hv] at MV
          clear NN ht hv
          go_wp2_with (go_at_call 22; refine (MV _ HC.out.1.1 HC.out.1.2.1).mono ?_; rintro e7 w4 ⟨rfl, hb7⟩; have K4 := Aside0.mk (show IsMs w0 w4 gm l t (.slice A l.length c) (.slice Q l.length d) ∧ Below w0.heap.size w0 w4 ∧ Below w.heap.size w w4 from ⟨HC.out.1.1.below hb7, HC.out.1.2.2.2.2.trans (hb7.mono HC.out.1.2.2.2.2.size), HC.out.1.2.2.1.trans (hb7.mono HC.out.1.2.2.1.size)⟩))
          go_ret
          exact ⟨by rw [HN.out.1]; rfl, _, _, by rw [HN.out.2.1, HN.out.2.2]; exact K4.out.1, K4.out.2.1, KeepS.of K4.out.2.2, Nx.refl _ _⟩
      · have p2 : decide (t < vn) = false := decide_eq_false ht
        have HN := Aside0.mk (NN.1 ht)
        clear NN ht MV
        have K5 := Aside0.mk (show IsMs w0 wr gm l t (.slice A l.length c) (.slice Q l.length d) ∧ Below w0.heap.size w0 wr ∧ KeepS (MsSet gm (.slice A l.length c) (.slice Q l.length d)) w wr from ⟨HC.out.1.1, HC.out.1.2.2.2.2, KeepS.of HC.out.1.2.2.1⟩)
        have X5 := Aside0.mk HC.out.1.2.2.2.1
        clear HC cw
        generalize wr = w5 at K5 X5 c2' cf ⊢
        have M5 := Aside0.mk (show IsM2 w0 (w5.drewN 1) gm (l.map key47) (l.map S47.f2) t (.slice A l.length c) (.slice Q l.length d) from K5.out.1.m2.below (pw_below_drewN (Below.refl _ _) 1))
        have x0c : w5.cell? ⟨gx, 0, none⟩ = some (.int .i64 x0) := (blk_cell X5.out 0).trans rfl
        have x1c : w5.cell? ⟨gx, 1, none⟩ = some (.int .i64 x1) := (blk_cell X5.out 1).trans rfl
        have m0 : w5.cell? ⟨gm, 0, none⟩ = some (.slice A l.length c) := (blk_cell K5.out.1.1 0).trans rfl
        have mf := blk_frozen K5.out.1.1
        have hown : some gm ≠ (Value.slice A l.length c).ownBlock := M5.out.ownA
        have hR1 : k24.R 24 (w5.drewN 1) w0.heap.size (fun z => (Value.slice A l.length c).ownBlock = some z ∨ (w5.drewN 1).heap.size ≤ z) (.slice A l.length c) (l.map key47) := Kd.R_mono M5.out.2.2.1 (fun _ hq => .inl hq)
        have hB1 : Below w0.heap.size w0 (w5.drewN 1) := pw_below_drewN K5.out.2.1 1
        have hgl : gm < w5.heap.size := blk_lt K5.out.1.1
        go_wp2_with (fail)
        go_region_law (((refine Kd.R_append_step k24 (w0 := w0) (W := (w5.drewN 1)) w0.heap.size (by rfl) (.tmp 63) (.tmp 65) 27 24 (.agg #[(.int .i64 0), (.int .i64 0)]) 16 (by rfl) hu27 info24D rfl (by decide) (by omega) (.slice A l.length c) (l.map key47) (⟨x0, x1⟩ : S24) [.int .i64 x0, .int .i64 x1] (fun z => (Value.slice A l.length c).ownBlock = some z ∨ (w5.drewN 1).heap.size ≤ z) (fun _ => False) (by rfl) (by rfl) (k24_mkM _ _ _ (⟨x0, x1⟩ : S24)) (fun _ hk => hk.elim) (fun _ hk => .inr hk) hR1 hB1 hB1.size (by rw [List.length_map]; omega) ?_; intro v7 w7 hO7 hB7 hg7 hat7; have h7 := (hg7.block gm hgl hown).trans K5.out.1.1; have d7 : w7.cell? ⟨gm, 0, none⟩ = some (.slice A l.length c) := (blk_cell h7 0).trans rfl; have f7 := blk_frozen h7 0; have hs7 := Kd.R_slice hO7; rw [List.length_append, List.length_map, List.length_singleton] at hs7; obtain ⟨A7, e7, rfl⟩ := hs7)))
        all_goals
          have K6 := Aside0.mk (M5.out.things hO7 hB7 hg7)
          have N7 := Aside0.mk (Nx.mono K5.out.2.2.1 (Nx.of (w := w5) hat7))
          clear d7 f7 h7 hat7 hg7 hB7 hO7 m0 mf x0c x1c hR1 hB1 hgl hown
          generalize w7.setCell ⟨gm, 0, none⟩ (.slice A7 (l.length + 1) e7) = w6 at K6 ⊢
          have m1 : w6.cell? ⟨gm, 1, none⟩ = some (.slice Q l.length d) := (blk_cell K6.out.1.1 1).trans rfl
          have mf := blk_frozen K6.out.1.1
          have hown : some gm ≠ (Value.slice Q l.length d).ownBlock := K6.out.1.ownQ
          have hR6 : kI.R 3 w6 w0.heap.size (fun z => (Value.slice Q l.length d).ownBlock = some z ∨ w6.heap.size ≤ z) (.slice Q l.length d) (l.map S47.f2) := Kd.R_mono K6.out.1.2.2.2 (fun _ hq => .inl hq)
          have hB6 := K6.out.2.1
          have hgl : gm < w6.heap.size := blk_lt K6.out.1.1
          go_wp2_with ((with_reducible refine gate_builtin (b := .append) (xs := #[.tmp 73, .tmp 75]) rfl ?_); (try (refine gate_guard (by rfl) ?_; dsimp only)); at_builtin; refine Kd.R_append kI (w0 := w0) (W := w6) w0.heap.size rfl (.tmp 73) (.tmp 75) 51 3 (.int .i64 0) 8 rfl hu51 info3D rfl (by decide) (by omega) (.slice Q l.length d) (l.map S47.f2) vn [.int .i64 vn] (fun z => (Value.slice Q l.length d).ownBlock = some z ∨ w6.heap.size ≤ z) (fun _ => False) (by first | (go_simp; done) | (go_simp; rfl)) (by first | (go_simp; done) | (go_simp; rfl)) rfl (fun _ hk => hk.elim) (fun _ hk => .inr hk) hR6 hB6 hB6.size (by rw [List.length_map]; omega) ?_; intro v8 w8 hO8 hB8 hg8 hat8; have h8 := (hg8.block gm hgl hown).trans K6.out.1.1; have d8 : w8.cell? ⟨gm, 1, none⟩ = some (.slice Q l.length d) := (blk_cell h8 1).trans rfl; have f8 := blk_frozen h8 1; have hs8 := Kd.R_slice hO8; rw [List.length_append, List.length_map, List.length_singleton] at hs8; obtain ⟨Q8, e8, rfl⟩ := hs8)
          go_ret
          have K8 := K6.out.1.vers hO8 hB8 hg8
          refine ⟨by rw [HN.out.1]; rfl, .slice A7 (l.length + 1) e7, .slice Q8 (l.length + 1) e8, ?_, K8.2.1, KeepS.rows (K5.out.2.2.trans K6.out.2.2) (Nat.le_trans K5.out.2.2.1 K6.out.2.2.1) N7.out K8.2.2, N7.out⟩
          rw [HN.out.2.1, HN.out.2.2]
          exact K8.1.ms
/-! ### ReadsNotes' start, and what is told against what is in the set -/
theorem notes_start {w w2 w3 : World} {gr : Nat} {t : Int} {v : Value} {al : List S24} (h2 : w2.heap[gr]? = some (.cells #[.bool false] 4 (0, 0))) (h3 : Below w.heap.size w w2) (hr : w.heap.size ≤ gr) (hR3 : k24.R 24 w3 w2.heap.size (fun k => v.ownBlock = some k) v al) (hB3 : Below w2.heap.size w2 w3) :
    St4 w (((((w3.alloc (Obj.cells #[v] 30)).alloc (Obj.cells #[Value.slice none 0 0, Value.int IntKind.i64 t] 78)).alloc (Obj.cells #[Value.slice none 0 0, Value.slice none 0 0, Value.int IntKind.i64 t] 53)).alloc (Obj.cells #[Value.pointer (some ⟨w3.heap.size + 1, 0, none⟩)] 31)).alloc (Obj.cells #[Value.pointer (some ⟨w3.heap.size + 1 + 1, 0, none⟩)] 50)) gr (w3.heap.size + 1 + 1 + 1) (w3.heap.size + 1 + 1 + 1 + 1) w3.heap.size (w3.heap.size + 1) (w3.heap.size + 1 + 1) al [] t [] t v (.slice none 0 0) (.slice none 0 0) (.slice none 0 0) := by
  have hs2 : w.heap.size ≤ w2.heap.size := h3.size
  have h2' := (hB3.block _ (blk_lt h2)).trans h2
  have hB : Below w.heap.size w w3 := h3.trans (hB3.mono hs2)
  have hs3 := hB.size
  have b1 := below_alloc (Below.refl w3.heap.size w3) (Obj.cells #[v] 30)
  have e1 := heap_alloc_new w3 (Obj.cells #[v] 30)
  have s1 : (w3.alloc (Obj.cells #[v] 30)).heap.size = w3.heap.size + 1 := by simp
  have r1 := Kd.R_lower (Kd.R_below hR3 b1) hs2
  generalize w3.alloc (Obj.cells #[v] 30) = X1 at b1 e1 s1 r1 ⊢
  have q1 : Below w.heap.size w X1 := hB.trans (b1.mono hs3)
  have b2 := below_alloc (Below.refl X1.heap.size X1) (Obj.cells #[Value.slice none 0 0, Value.int IntKind.i64 t] 78)
  have s2 : (X1.alloc (Obj.cells #[Value.slice none 0 0, Value.int IntKind.i64 t] 78)).heap.size = X1.heap.size + 1 := by simp
  have hst := new_isSt t w X1 q1
  generalize X1.alloc (Obj.cells #[Value.slice none 0 0, Value.int IntKind.i64 t] 78) = X2 at b2 s2 hst ⊢
  have q2 : Below w.heap.size w X2 := q1.trans (b2.mono q1.size)
  have b3 := below_alloc (Below.refl X2.heap.size X2) (Obj.cells #[Value.slice none 0 0, Value.slice none 0 0, Value.int IntKind.i64 t] 53)
  have e3 := heap_alloc_new X2 (Obj.cells #[Value.slice none 0 0, Value.slice none 0 0, Value.int IntKind.i64 t] 53)
  have s3 : (X2.alloc (Obj.cells #[Value.slice none 0 0, Value.slice none 0 0, Value.int IntKind.i64 t] 53)).heap.size = X2.heap.size + 1 := by simp
  generalize X2.alloc (Obj.cells #[Value.slice none 0 0, Value.slice none 0 0, Value.int IntKind.i64 t] 53) = X3 at b3 e3 s3 ⊢
  have q3 : Below w.heap.size w X3 := q2.trans (b3.mono q2.size)
  have b4 := below_alloc (Below.refl X3.heap.size X3) (Obj.cells #[Value.pointer (some ⟨w3.heap.size + 1, 0, none⟩)] 31)
  have e4 := heap_alloc_new X3 (Obj.cells #[Value.pointer (some ⟨w3.heap.size + 1, 0, none⟩)] 31)
  have s4 : (X3.alloc (Obj.cells #[Value.pointer (some ⟨w3.heap.size + 1, 0, none⟩)] 31)).heap.size = X3.heap.size + 1 := by simp
  generalize X3.alloc (Obj.cells #[Value.pointer (some ⟨w3.heap.size + 1, 0, none⟩)] 31) = X4 at b4 e4 s4 ⊢
  have q4 : Below w.heap.size w X4 := q3.trans (b4.mono q3.size)
  have b5 := below_alloc (Below.refl X4.heap.size X4) (Obj.cells #[Value.pointer (some ⟨w3.heap.size + 1 + 1, 0, none⟩)] 50)
  have e5 := heap_alloc_new X4 (Obj.cells #[Value.pointer (some ⟨w3.heap.size + 1 + 1, 0, none⟩)] 50)
  generalize X4.alloc (Obj.cells #[Value.pointer (some ⟨w3.heap.size + 1 + 1, 0, none⟩)] 50) = X5 at b5 e5 ⊢
  have q5 : Below w.heap.size w X5 := q4.trans (b5.mono q4.size)
  rw [s1] at hst
  rw [s2, s1] at e3
  rw [s3, s2, s1] at e4
  rw [s4, s3, s2, s1] at e5
  have t45 : Below X3.heap.size X3 X5 := b4.trans (b5.mono (by omega))
  have t35 : Below X2.heap.size X2 X5 := b3.trans (t45.mono (by omega))
  have t25 : Below X1.heap.size X1 X5 := b2.trans (t35.mono (by omega))
  have t15 : Below w3.heap.size w3 X5 := b1.trans (t25.mono (by omega))
  exact ⟨⟨(t25.block _ (blk_lt e1)).trans e1, hs3, Kd.R_below r1 t25⟩, hst.below t35, ⟨(t45.block _ (blk_lt e3)).trans e3, by omega, Kd.R_nil _ _ _ _ _, Kd.R_nil _ _ _ _ _⟩, q5, (t15.block _ (blk_lt h2')).trans h2', (b5.block _ (blk_lt e4)).trans e4, e5, (fun b _ hb => by cases hb), hr⟩
theorem st_step {ls pre : List S47} {a b d v0 v1 v2 : Int} (h : pre <+: ls) (hk : pre.length < ls.length) (hv : rd_T47 ls (pre.length : Int) = ⟨v0, v1, v2⟩) :
    (pre ++ [(⟨a, b, d⟩ : S47)]) <+: ls ↔ a = v0 ∧ b = v1 ∧ d = v2 := by
  have h1 := List.prefix_iff_eq_take.1 h
  rw [List.prefix_iff_eq_take, List.length_append, List.length_singleton, rd47_mem hk, hv, ← h1]
  constructor
  · intro q
    have q' := List.append_cancel_left q
    injection q' with q' _
    injection q' with q1 q2 q3
    exact ⟨q1, q2, q3⟩
  · rintro ⟨rfl, rfl, rfl⟩
    rfl
theorem st_long {ls pre : List S47} {x : S47} (hk : ls.length ≤ pre.length) : ¬ (pre ++ [x]) <+: ls := fun h => by
  have := h.length_le
  simp at this
  omega
theorem St4.keptK {w W W' : World} {gr b10 b11 gw gs gm gk : Nat} {wd : List S24} {ls : List S47} {t : Int} {lm : List S47} {tm : Int} {u v a q : Value} {C : Array Value} (h : St4 w W gr b10 b11 gw gs gm wd ls t lm tm u v a q) (hk : W.heap[gk]? = some (.cells C 3 (0, 0))) (hq : some gk ≠ q.ownBlock) (k : KeepK W.heap.size gk W W') (hB : Below w.heap.size w W') : St4 w W' gr b10 b11 gw gs gm wd ls t lm tm u v a q := by
  have ks : KeepS (fun b => b = gk) W W' := ⟨k.1, fun b h1 h2 => k.2 b h1 h2⟩
  have n0 : ∀ {α : Type} {d : Kd α} {e : TypeId} {base : Nat} {ok : Nat → Prop} {v : Value} {xs : List α}, d.R e W base ok v xs → e ≠ 3 → ∀ b, v.ownBlock = some b → ¬ b = gk := fun hR he b hb e => by
    obtain ⟨C', hC⟩ := R_typed hR hb
    exact ty_ne hC hk he e
  exact ⟨h.wd.keepS ks (ty_ne h.wd.1 hk (by decide)) (n0 h.wd.2.2 (by decide)), h.st.keepS ks (ty_ne h.st.1 hk (by decide)) (n0 h.st.2.2 (by decide)), h.ms.keepS ks (ty_ne h.ms.1 hk (by decide)) (n0 h.ms.2.2.1 (by decide)) (fun b hb e => hq (by rw [← e]; exact hb.symm)), hB, ks.blk h.cr (ty_ne h.cr hk (by decide)), ks.blk h.c10 (ty_ne h.c10 hk (by decide)), ks.blk h.c11 (ty_ne h.c11 hk (by decide)), h.nr, h.grl⟩
theorem keepK_own {β : Type} {n gk : Nat} {W₀ : World} (hn : n ≤ W₀.heap.size) : OwnFrom n (fun (_ : β) W => KeepK n gk W₀ W) := fun _ X Y row hs hg hr =>
  hs.trans ⟨hg.size, fun b hb _ => hg.block b (Nat.lt_of_lt_of_le hb (Nat.le_trans hn hs.1)) (fun e => by have := (hr b e.symm).1; omega)⟩
section
set_option maxHeartbeats 1600000 in
set_option maxRecDepth 100000 in
theorem none_stops (F : Fence) (n : Nat) (h36 : F.fn 36) (hro : F.round = none) (Kp : World → World → Prop) (w : World) :
    SeqStopsK F n Try.prog 36 #[] (fun x : S47 => #[Value.agg (ent x)]) Kp (fun ys => ys = []) (fun _ => False) 0 w := fun lp J Jx W hW hJ hJx hY h0 => by
  refine callsIn_of_wp Try.func36 rfl h36 ?_ hro
  simp only [Try.ntmps36, List.size_toArray, List.length_cons, List.length_nil, Nat.reduceAdd, Nat.reduceSub, Array.replicate_succ, Array.replicate_zero, List.push_toArray, List.append_toArray, List.nil_append, List.cons_append]
  gi_wp2
  go_end0
  first
    | exact ⟨⟨_, rfl⟩, h0⟩
    | exact ⟨⟨_, rfl⟩, ⟨[], rfl, h0⟩⟩
    | exact ⟨_, h0⟩
set_option maxHeartbeats 1600000 in
set_option maxRecDepth 100000 in
theorem note_nil (A : Array Value) (k i : Int) (w : World) : Calls Try.prog 16 #[.pointer none, .agg A, .int .i64 k, .int .i64 i] w fun e w' => e = .returned (.bool false) ∧ Below w.heap.size w w' := by
  have hb := below_alloc (Below.refl w.heap.size w) (.cells A 39)
  go_enter Try.func16, Try.ntmps16
  go_wp2
  go_ret
  exact ⟨rfl, hb⟩
end
theorem inT_note {wd : List S24} {ls : List S47} {t k i : Int} (h : ∀ e ∈ ls, inT (key47 e)) (hx : inT ⟨k, i⟩) : ∀ e ∈ noteL wd ls t k i, inT (key47 e) := by
  intro e he
  unfold noteL at he
  split at he
  · exact h e he
  · split at he
    · exact h e he
    · rcases List.mem_append.1 he with he | he
      · exact h e he
      · rw [List.mem_singleton.1 he]
        exact hx
theorem name_post {P : Program} {c : Code} {Q : Exit → Act → World → Prop} {a : Act} {w : World} (h : ∀ Q', Q' = Q → Code.wp P c Q' a w) : Code.wp P c Q a w := h _ rfl
theorem name_act {P : Program} {c : Code} {Q : Exit → Act → World → Prop} {a : Act} {w : World} (h : ∀ T, T = a.tmps → Code.wp P c Q a w) : Code.wp P c Q a w := h _ rfl
theorem below_dfr {W W' : World} (k : Below W.heap.size W W') {D : Nat} {ds : Option (List Deferred)} (hD : W.heap[D]? = some (.deferred ds)) : W'.heap[D]? = some (.deferred ds) :=
  (k.block D (Array.getElem?_eq_some_iff.1 hD).1).trans hD

end Go.Proofs.Ytfoefgckjaafnaa.PReadsNotes
