/- Written by a program of this session, which began as the kit's print and is turned in wip/printer: the plain form of each function, and that the Go code comes to it. -/
import Derived.Test.YtfoefgckjaafnaaPReadsOrderx0
import Derived.Test.YtfoefgckjaafnaaPReadsOrderx1
import Derived.BigRegion
import Derived.Deep.RegionLaw
import Derived.IntWalk
import Derived.LoopIn
import Derived.LoopNIn
import Derived.OwnWalkIn
import Derived.RangeFuncBound
import Derived.RangeFuncCalls
import Derived.RangeFuncLeaves
import Derived.RangeFuncNested
import Derived.Shelf.Abstract
import Derived.Shelf.RegionOpen
import Derived.TacticsInMore
import Derived.Test.YtfoefgckjaafnaaWEqStruct
namespace Go.Proofs.Ytfoefgckjaafnaa.PReadsOrder
open Go.RowKit Go.Proofs.YtfoefgckjaafnaaW.PrintWords Go.Proofs.YtfoefgckjaafnaaW.PrintLast Go.Proofs.YtfoefgckjaafnaaW.PrintMore
attribute [local go_sem] max2_int min2_int max_two min_two max_three min_three max_four min_four   -- for this text's walks alone
set_option linter.unusedVariables false
set_option linter.unusedSimpArgs false

/-! ### countermandlaw12_ReadsOrder: function 6 -/
--IMPORT Derived.BigRegion
--IMPORT Derived.IntWalk
--IMPORT Derived.RangeFuncNested
--IMPORT Derived.RangeFuncBound
--IMPORT Derived.RangeFuncCalls
--IMPORT Derived.RangeFuncLeaves
--IMPORT Derived.Deep.RegionLaw
--IMPORT Derived.Shelf.Abstract
--IMPORT Derived.Shelf.RegionOpen
--IMPORT Derived.OwnWalkIn
--IMPORT Derived.TacticsInMore
--IMPORT Derived.LoopNIn
--IMPORT Derived.LoopIn
--IMPORT Derived.Test.YtfoefgckjaafnaaWEqStruct
--ROUNDS
@[go_sem] theorem eqS24 (d : Nat) (w : World) (x0 x1 y0 y1 : Int) :
    (Op.equalIn (d + 2) 24 (.agg #[.int .i64 x0, .int .i64 x1]) (.agg #[.int .i64 y0, .int .i64 y1])).run Try.prog w = .ok (x0 == y0 && (x1 == y1)) w := by
  refine eqA_of Try.underlying24 (by kernel_rfl) ?_
  refine eqf_cons (by rfl) (by go_simp; rfl) (by go_simp; rfl) (by go_simp) ?_
  exact eqf_last (by rfl) (by go_simp; rfl) (by go_simp; rfl) (by go_simp)
theorem info24D : (Try.prog.info? 24).map (fun i => (i.zero, i.size, i.bytes)) = some (some (.agg #[(.int .i64 0), (.int .i64 0)]), 2, 16) := by kernel_rfl
theorem info47D : (Try.prog.info? 47).map (fun i => (i.zero, i.size, i.bytes)) = some (some (.agg #[(.int .i64 0), (.int .i64 0), (.int .i64 0)]), 3, 24) := by kernel_rfl
theorem R_exact24 {e : TypeId} {w : World} {base : Nat} {ok : Nat → Prop} {v : Value} {xs : List S24} (h : k24.R e w base ok v xs) : k24.R e w base (fun k => v.ownBlock = some k) v xs :=
  ⟨fun k hk => hk, h.2.imp_ (fun x cs hp => by rw [k24_openM hp]; exact k24_mkM _ _ _ x)⟩
theorem R_exact47 {e : TypeId} {w : World} {base : Nat} {ok : Nat → Prop} {v : Value} {xs : List S47} (h : k47.R e w base ok v xs) : k47.R e w base (fun k => v.ownBlock = some k) v xs :=
  ⟨fun k hk => hk, h.2.imp_ (fun x cs hp => by rw [k47_openM hp]; exact k47_mkM _ _ _ x)⟩
/-! ### the document's world: all changes -/
def IsWd (w0 W : World) (g : Nat) (l : List S24) (v : Value) : Prop := W.heap[g]? = some (.cells #[v] 30 (0, 0)) ∧ w0.heap.size ≤ g ∧ k24.R 24 W w0.heap.size (fun k => v.ownBlock = some k) v l
theorem IsWd.keep {w0 W W' : World} {g g' : Nat} {l : List S24} {v : Value} {row : Option Nat} (h : IsWd w0 W g l v) (k : KeepBut W W' g' row) (h1 : g ≠ g') (h2 : some g ≠ row) (h3 : ∀ b, v.ownBlock = some b → b ≠ g' ∧ some b ≠ row) : IsWd w0 W' g l v :=
  ⟨k.blk h.1 h1 h2, h.2.1, Kd.R_step h.2.2 (fun b hb hlt => k.2 b hlt (h3 b hb).1 (h3 b hb).2)⟩
theorem IsWd.below {w0 W W' : World} {g : Nat} {l : List S24} {v : Value} (h : IsWd w0 W g l v) (k : Below W.heap.size W W') : IsWd w0 W' g l v :=
  ⟨(k.block g (blk_lt h.1)).trans h.1, h.2.1, Kd.R_below h.2.2 k⟩
theorem IsWd.own {w0 W : World} {g : Nat} {l : List S24} {v : Value} (h : IsWd w0 W g l v) : some g ≠ v.ownBlock := Kd.R_ne h.2.2 h.1 (by decide)
/-! ### the set of what was read -/
def IsSt (w0 W : World) (g : Nat) (l : List S47) (t : Int) (v : Value) : Prop := W.heap[g]? = some (.cells #[v, .int .i64 t] 78 (0, 0)) ∧ w0.heap.size ≤ g ∧ k47.R 47 W w0.heap.size (fun k => v.ownBlock = some k) v l
theorem IsSt.keep {w0 W W' : World} {g g' : Nat} {l : List S47} {t : Int} {v : Value} {row : Option Nat} (h : IsSt w0 W g l t v) (k : KeepBut W W' g' row) (h1 : g ≠ g') (h2 : some g ≠ row) (h3 : ∀ b, v.ownBlock = some b → b ≠ g' ∧ some b ≠ row) : IsSt w0 W' g l t v :=
  ⟨k.blk h.1 h1 h2, h.2.1, Kd.R_step h.2.2 (fun b hb hlt => k.2 b hlt (h3 b hb).1 (h3 b hb).2)⟩
theorem IsSt.below {w0 W W' : World} {g : Nat} {l : List S47} {t : Int} {v : Value} (h : IsSt w0 W g l t v) (k : Below W.heap.size W W') : IsSt w0 W' g l t v :=
  ⟨(k.block g (blk_lt h.1)).trans h.1, h.2.1, Kd.R_below h.2.2 k⟩
theorem IsSt.own {w0 W : World} {g : Nat} {l : List S47} {t : Int} {v : Value} (h : IsSt w0 W g l t v) : some g ≠ v.ownBlock := Kd.R_ne h.2.2 h.1 (by decide)
theorem wd_read {w0 W : World} {g : Nat} {l : List S24} {A : Option Addr} {n c : Nat} (h : IsWd w0 W g l (.slice A n c)) {j : Nat} (hj : j < l.length) :
    ∃ ad, A = some ad ∧ W.cell? (ad.add (j * 2)) = some (.int .i64 (rd_T24 l (j : Int)).f0) ∧ W.cell? ⟨(ad.add (j * 2)).block, (ad.add (j * 2)).off + 1, none⟩ = some (.int .i64 (rd_T24 l (j : Int)).f1) := by
  obtain ⟨rfl, _, hC⟩ := Kd.R_reads' h.2.2
  obtain ⟨ad, rfl, x0, x1⟩ := at_T24 hC (j : Int) (by omega) (by omega)
  simp only [Int.toNat_natCast] at x0 x1
  exact ⟨ad, rfl, x0, x1⟩
theorem st_read {w0 W : World} {g : Nat} {l : List S47} {t : Int} {A : Option Addr} {n c : Nat} (h : IsSt w0 W g l t (.slice A n c)) {j : Nat} (hj : j < l.length) :
    ∃ ad, A = some ad ∧ W.cell? (ad.add (j * 3)) = some (.int .i64 (rd_T47 l (j : Int)).f0) ∧ W.cell? ⟨(ad.add (j * 3)).block, (ad.add (j * 3)).off + 1, none⟩ = some (.int .i64 (rd_T47 l (j : Int)).f1) ∧ W.cell? ⟨(ad.add (j * 3)).block, (ad.add (j * 3)).off + 2, none⟩ = some (.int .i64 (rd_T47 l (j : Int)).f2) := by
  obtain ⟨rfl, _, hC⟩ := Kd.R_reads' h.2.2
  obtain ⟨ad, rfl, x0, x1, x2⟩ := at_T47 hC (j : Int) (by omega) (by omega)
  simp only [Int.toNat_natCast] at x0 x1 x2
  exact ⟨ad, rfl, x0, x1, x2⟩
def eq24 (x y : S24) : Bool := x.f0 == y.f0 && x.f1 == y.f1
/-- the version that a thing had at a time, by the first so many changes -/
def verI (l : List S24) (x : S24) (t : Int) : Nat → Nat
  | 0 => 0
  | i + 1 => if eq24 x (rd_T24 l (i : Int)) = true ∧ (i : Int) + 1 ≤ t then i + 1 else verI l x t i
def ver (l : List S24) (x : S24) (t : Int) : Nat := verI l x t l.length
theorem verI_succ (l : List S24) (x : S24) (t : Int) (i : Nat) : verI l x t (i + 1) = if eq24 x (rd_T24 l (i : Int)) = true ∧ (i : Int) + 1 ≤ t then i + 1 else verI l x t i := rfl
theorem verI_le (l : List S24) (x : S24) (t : Int) (i : Nat) : verI l x t i ≤ i := by
  induction i with
  | zero => exact Nat.le_refl _
  | succ i ih =>
    unfold verI
    split
    · exact Nat.le_refl _
    · omega
set_option maxHeartbeats 6400000 in
set_option maxRecDepth 100000 in
theorem at_ok (g : Nat) (l : List S24) (v : Value) (x : S24) (t : Int) (w0 w : World) (hI : IsWd w0 w g l v) (hl : l.length ≤ 1000) :
    Calls Try.prog 27 #[.pointer (some ⟨g, 0, none⟩), .agg #[.int .i64 x.f0, .int .i64 x.f1], .int .i64 t] w fun e w' => e = .returned (.int .i64 (ver l x t : Int)) ∧ Below w.heap.size w w' := by
  have hu24 := Try.underlying24
  have hu27 := Try.underlying27
  have hu30 := Try.underlying30
  have hu28 := Try.underlying28
  obtain ⟨A, c, rfl⟩ := Kd.R_slice hI.2.2
  obtain ⟨x0, x1⟩ := x
  have hgl : g < w.heap.size := blk_lt hI.1
  have hA := heap_alloc_new w (.cells #[.int .i64 x0, .int .i64 x1] 24)
  have hI1 := hI.below (below_alloc (Below.refl _ _) (.cells #[.int .i64 x0, .int .i64 x1] 24))
  have c0 : (w.alloc (.cells #[.int .i64 x0, .int .i64 x1] 24)).cell? ⟨g, 0, none⟩ = some (.slice A l.length c) := (blk_cell hI1.1 0).trans rfl
  have K0 := Aside0.mk (show IsWd w0 (w.alloc (.cells #[.int .i64 x0, .int .i64 x1] 24)) g l (.slice A l.length c) ∧ Below w.heap.size w (w.alloc (.cells #[.int .i64 x0, .int .i64 x1] 24)) ∧ (w.alloc (.cells #[.int .i64 x0, .int .i64 x1] 24)).heap[w.heap.size]? = some (.cells #[.int .i64 x0, .int .i64 x1] 24 (0, 0)) from ⟨hI1, below_alloc (Below.refl _ _) _, hA⟩)
  clear hI hI1 hA
  go_enter Try.func27, Try.ntmps27
  go_wp2
  clear c0
  have hgw : w.heap.size ≤ w.heap.size := Nat.le_refl _
  obtain ⟨gx, hgx⟩ : ∃ gx, gx = w.heap.size := ⟨_, rfl⟩
  rw [← hgx] at K0 hgw hgl ⊢
  generalize w.alloc (.cells #[.int .i64 x0, .int .i64 x1] 24) = w1 at K0 ⊢
  have HX := Aside0.mk hgx
  clear hgx hgw
  go_loopg [7, 15] l.length (fun m n i wr => ∃ j : Nat, i = .int .i64 (j : Int) ∧ n = .int .i64 (verI l ⟨x0, x1⟩ t j : Int) ∧ m + j = l.length ∧ Aside0 (IsWd w0 wr g l (.slice A l.length c) ∧ Below gx w wr ∧ wr.heap[gx]? = some (.cells #[.int .i64 x0, .int .i64 x1] 24 (0, 0))))
  case atStart => exact ⟨0, rfl, rfl, rfl, K0⟩
  case round =>
    clear K0
    obtain ⟨j, rfl, rfl, hj, HC⟩ := hrel
    by_cases hlt : j < l.length
    · have q0 : decide ((j : Int) < (l.length : Int)) = true := decide_eq_true (by omega)
      obtain ⟨ad, rfl, y0, y1⟩ := wd_read HC.out.1 hlt
      obtain ⟨a, ha⟩ : ∃ a, a = (rd_T24 l (j : Int)).f0 := ⟨_, rfl⟩
      obtain ⟨b, hb⟩ : ∃ b, b = (rd_T24 l (j : Int)).f1 := ⟨_, rfl⟩
      rw [← ha] at y0
      rw [← hb] at y1
      have p0 : ((0 : Int) ≤ (j : Int)) = True := eq_true (by omega)
      have p1 : ((j : Int) < (l.length : Int)) = True := eq_true (by omega)
      have HAB := Aside0.mk (And.intro ha hb)
      clear ha hb
      have hj9 : j ≤ 1000 := by omega
      go_upto_region 5 with (fail)
      have hA := heap_alloc_new wr (.cells #[.int .i64 a, .int .i64 b] 24)
      have hbl := below_alloc (Below.refl wr.heap.size wr) (.cells #[.int .i64 a, .int .i64 b] 24)
      have hwx : gx ≤ wr.heap.size := by have := blk_lt HC.out.2.2; omega
      have K1 := Aside0.mk (show IsWd w0 (wr.alloc (.cells #[.int .i64 a, .int .i64 b] 24)) g l (.slice (some ad) l.length c) ∧ Below gx w (wr.alloc (.cells #[.int .i64 a, .int .i64 b] 24)) ∧ (wr.alloc (.cells #[.int .i64 a, .int .i64 b] 24)).heap[gx]? = some (.cells #[.int .i64 x0, .int .i64 x1] 24 (0, 0)) ∧ (wr.alloc (.cells #[.int .i64 a, .int .i64 b] 24)).heap[wr.heap.size]? = some (.cells #[.int .i64 a, .int .i64 b] 24 (0, 0)) from ⟨HC.out.1.below hbl, HC.out.2.1.alloc hwx _, (hbl.block gx (blk_lt HC.out.2.2)).trans HC.out.2.2, hA⟩)
      clear hA hbl y0 y1 hwx
      generalize wr.alloc (.cells #[.int .i64 a, .int .i64 b] 24) = w2 at K1 ⊢
      generalize wr.heap.size = gy at K1 ⊢
      have d0 : w2.cell? ⟨gx, 0, none⟩ = some (.int .i64 x0) := (blk_cell K1.out.2.2.1 0).trans rfl
      have d1 : w2.cell? ⟨gx, 1, none⟩ = some (.int .i64 x1) := (blk_cell K1.out.2.2.1 1).trans rfl
      have d2 : w2.cell? ⟨gy, 0, none⟩ = some (.int .i64 a) := (blk_cell K1.out.2.2.2 0).trans rfl
      have d3 : w2.cell? ⟨gy, 1, none⟩ = some (.int .i64 b) := (blk_cell K1.out.2.2.2 1).trans rfl
      by_cases e0 : x0 = a
      · have b0 : (x0 == a) = true := by simpa using e0
        by_cases e1 : x1 = b
        · have b1 : (x1 == b) = true := by simpa using e1
          have hE : eq24 ⟨x0, x1⟩ (rd_T24 l (j : Int)) = true := by unfold eq24; rw [← HAB.out.1, ← HAB.out.2]; simp [e0, e1]
          by_cases e2 : (j : Int) + 1 ≤ t
          · have b2 : decide ((j : Int) + 1 ≤ t) = true := decide_eq_true e2
            have HV := Aside0.mk (show verI l ⟨x0, x1⟩ t (j + 1) = j + 1 from by rw [verI_succ, if_pos ⟨hE, e2⟩])
            clear e0 e1 hE
            go_wp2
            go_roundg (l.length - (j + 1))
            case rel =>
              exact ⟨j + 1, (by rw [Int.natCast_add]; rfl), (by rw [HV.out]; rw [Int.natCast_add]; rfl), (by omega), ⟨K1.out.1, K1.out.2.1, K1.out.2.2.1⟩⟩
            case measure => omega
          · have b2 : decide ((j : Int) + 1 ≤ t) = false := decide_eq_false e2
            have HV := Aside0.mk (show verI l ⟨x0, x1⟩ t (j + 1) = verI l ⟨x0, x1⟩ t j from by rw [verI_succ, if_neg (fun q => e2 q.2)])
            clear e0 e1 hE
            go_wp2
            go_roundg (l.length - (j + 1))
            case rel =>
              exact ⟨j + 1, (by rw [Int.natCast_add]; rfl), (by rw [HV.out]), (by omega), ⟨K1.out.1, K1.out.2.1, K1.out.2.2.1⟩⟩
            case measure => omega
        · have b1 : (x1 == b) = false := by simpa using e1
          have HV := Aside0.mk (show verI l ⟨x0, x1⟩ t (j + 1) = verI l ⟨x0, x1⟩ t j from by rw [verI_succ, if_neg (fun q => e1 (by have := q.1; unfold eq24 at this; rw [← HAB.out.1, ← HAB.out.2] at this; simp at this; exact this.2))])
          clear e0 e1
          go_wp2
          go_roundg (l.length - (j + 1))
          case rel =>
            exact ⟨j + 1, (by rw [Int.natCast_add]; rfl), (by rw [HV.out]), (by omega), ⟨K1.out.1, K1.out.2.1, K1.out.2.2.1⟩⟩
          case measure => omega
      · have b0 : (x0 == a) = false := by simpa using e0
        have HV := Aside0.mk (show verI l ⟨x0, x1⟩ t (j + 1) = verI l ⟨x0, x1⟩ t j from by rw [verI_succ, if_neg (fun q => e0 (by have := q.1; unfold eq24 at this; rw [← HAB.out.1, ← HAB.out.2] at this; simp at this; exact this.1))])
        clear e0
        go_wp2
        go_roundg (l.length - (j + 1))
        case rel =>
          exact ⟨j + 1, (by rw [Int.natCast_add]; rfl), (by rw [HV.out]), (by omega), ⟨K1.out.1, K1.out.2.1, K1.out.2.2.1⟩⟩
        case measure => omega
    · have q0 : decide ((j : Int) < (l.length : Int)) = false := decide_eq_false (by omega)
      have jn : j = l.length := by omega
      have HV := Aside0.mk (show verI l ⟨x0, x1⟩ t j = ver l ⟨x0, x1⟩ t from by rw [jn]; rfl)
      clear jn
      go_wp2
      go_ret
      exact ⟨by rw [← HV.out]; rfl, HX.out ▸ HC.out.2.1⟩
def verK (l : List S24) (q : Nat) : Nat := ver l ⟨((q / 8 : Nat) : Int), ((q % 8 : Nat) : Int)⟩ (l.length : Int)
def nowA (l : List S24) (p : Nat) : Array Value := ((List.range 24).map (fun q => if q < p then Value.int .i64 (verK l q : Int) else Value.int .i64 0) ++ [Value.int .i64 (l.length : Int)]).toArray
theorem nowA_zero (l : List S24) : nowA l 0 = #[.int .i64 0, .int .i64 0, .int .i64 0, .int .i64 0, .int .i64 0, .int .i64 0, .int .i64 0, .int .i64 0, .int .i64 0, .int .i64 0, .int .i64 0, .int .i64 0, .int .i64 0, .int .i64 0, .int .i64 0, .int .i64 0, .int .i64 0, .int .i64 0, .int .i64 0, .int .i64 0, .int .i64 0, .int .i64 0, .int .i64 0, .int .i64 0, .int .i64 (l.length : Int)] := rfl
theorem nowA_size (l : List S24) (p : Nat) : (nowA l p).size = 25 := by simp [nowA]
theorem blk_there {W : World} {g : Nat} {C : Array Value} {e : TypeId} (h : W.heap[g]? = some (.cells C e (0, 0))) : W.there g 0 C.size := by
  intro j hj
  rw [Nat.zero_add]
  exact ⟨by rw [blk_cell h j, Array.getElem?_eq_getElem hj]; rfl, blk_frozen h j⟩
theorem store_whole {W : World} {g : Nat} {C : Array Value} {e : TypeId} {vs : Array Value} (h : W.heap[g]? = some (.cells C e (0, 0))) (hs : vs.size = C.size) : (W.setCells g 0 vs.toList).heap[g]? = some (.cells vs e (0, 0)) := by
  obtain ⟨cur, h1, h2, h3⟩ := setCells_row vs.toList 0 W C h (by simp; omega)
  rw [h1]
  have : cur = vs := by
    apply Array.ext'
    rw [h3]
    simp [hs]
  rw [this]
theorem below_cells {base g : Nat} {w : World} (hg : base ≤ g) : ∀ (vs : List Value) (o : Nat) (W : World), Below base w W → Below base w (W.setCells g o vs)
  | [], _, _, h => h
  | v :: r, o, W, h => below_cells hg r (o + 1) _ (h.setCell (p := ⟨g, o, none⟩) hg v)
def zero25 : Array Value := Array.replicate 25 (.int .i64 0)
theorem zero25_eq : zero25 = #[.int .i64 0, .int .i64 0, .int .i64 0, .int .i64 0, .int .i64 0, .int .i64 0, .int .i64 0, .int .i64 0, .int .i64 0, .int .i64 0, .int .i64 0, .int .i64 0, .int .i64 0, .int .i64 0, .int .i64 0, .int .i64 0, .int .i64 0, .int .i64 0, .int .i64 0, .int .i64 0, .int .i64 0, .int .i64 0, .int .i64 0, .int .i64 0, .int .i64 0] := rfl
theorem nowA_one (l : List S24) (p : Nat) : (nowA l p).all (·.oneCell') = true := by
  rw [Array.all_eq_true_iff_forall_mem]
  intro v hv
  simp only [nowA, List.mem_toArray, List.mem_append, List.mem_map, List.mem_singleton] at hv
  rcases hv with ⟨q, _, rfl⟩ | rfl
  · split <;> rfl
  · rfl
theorem nowA_get (l : List S24) (p q : Nat) (hq : q < 24) : (nowA l p)[q]? = some (if q < p then Value.int .i64 (verK l q : Int) else Value.int .i64 0) := by
  simp [nowA, List.getElem?_append_left, hq]
theorem nowA_set (l : List S24) (p : Nat) (hp : p < 24) : (nowA l p).setIfInBounds p (.int .i64 (verK l p : Int)) = nowA l (p + 1) := by
  apply Array.ext
  · simp [nowA]
  · intro q h1 h2
    rw [Array.getElem_setIfInBounds (by simpa using h1)]
    have hq : q < 25 := by rw [nowA_size] at h2; exact h2
    by_cases e : p = q
    · subst e
      rw [if_pos rfl]
      have := nowA_get l (p + 1) p hp
      rw [Array.getElem?_eq_getElem h2] at this
      injection this with this
      rw [this, if_pos (by omega)]
    · rw [if_neg e]
      have h3 : q < (nowA l p).size := by rw [nowA_size]; omega
      by_cases hq4 : q < 24
      · have a1 := nowA_get l (p + 1) q hq4
        have a2 := nowA_get l p q hq4
        rw [Array.getElem?_eq_getElem h2] at a1
        rw [Array.getElem?_eq_getElem h3] at a2
        injection a1 with a1
        injection a2 with a2
        rw [a1, a2]
        by_cases hqp : q < p
        · rw [if_pos hqp, if_pos (by omega)]
        · rw [if_neg hqp, if_neg (by omega)]
      · obtain rfl : q = 24 := by omega
        simp [nowA]
theorem verK_at (l : List S24) (k i : Nat) (hi : i < 8) : verK l (k * 8 + i) = ver l ⟨(k : Int), (i : Int)⟩ (l.length : Int) := by
  unfold verK
  rw [show (k * 8 + i) / 8 = k by omega, show (k * 8 + i) % 8 = i by omega]
theorem size39 : (Try.prog.info? 39).map (·.size) = some 25 := by kernel_rfl
set_option maxHeartbeats 1600000 in
set_option maxRecDepth 100000 in
theorem now_ok (g : Nat) (l : List S24) (v : Value) (w0 w : World) (hI : IsWd w0 w g l v) (hl : l.length ≤ 1000) :
    Calls Try.prog 17 #[.pointer (some ⟨g, 0, none⟩)] w fun e w' => e = .returned (.agg (nowA l 24)) ∧ Below w.heap.size w w' := by
  have hu24 := Try.underlying24
  have hu27 := Try.underlying27
  have hu30 := Try.underlying30
  have hu28 := Try.underlying28
  have hu39 := Try.underlying39
  have hu37 := Try.underlying37
  have hu36 := Try.underlying36
  obtain ⟨A, c, rfl⟩ := Kd.R_slice hI.2.2
  have hgl : g < w.heap.size := blk_lt hI.1
  have c0 : w.cell? ⟨g, 0, none⟩ = some (.slice A l.length c) := (blk_cell hI.1 0).trans rfl
  have H := Aside0.mk hI
  clear hI
  go_enter Try.func17, Try.ntmps17
  go_upto_region 1 with (fail)
  rw [← zero25_eq]
  have hbl1 := below_alloc (Below.refl w.heap.size w) (.cells zero25 39)
  have hA1 := heap_alloc_new w (.cells zero25 39)
  have hI1 := H.out.below hbl1
  have hs1 : (w.alloc (.cells zero25 39)).heap.size = w.heap.size + 1 := by simp
  generalize w.alloc (.cells zero25 39) = w1 at *
  have c1 : w1.cell? ⟨g, 0, none⟩ = some (.slice A l.length c) := (blk_cell hI1.1 0).trans rfl
  have HT : (w1.alloc (.cells zero25 39)).there w1.heap.size 0 25 := blk_there (heap_alloc_new w1 _)
  have hI2 := hI1.below (below_alloc (Below.refl _ _) (.cells zero25 39))
  have hbl2 : Below w.heap.size w (w1.alloc (.cells zero25 39)) := below_alloc hbl1 _
  have hA2 := heap_alloc_new w1 (.cells zero25 39)
  have hA12 : (w1.alloc (.cells zero25 39)).heap[w.heap.size]? = some (.cells zero25 39 (0, 0)) := ((below_alloc (Below.refl w1.heap.size w1) (.cells zero25 39)).block _ (blk_lt hA1)).trans hA1
  have hA3 := store_whole hA2 (vs := nowA l 0) (by rw [nowA_size]; rfl)
  have hA13 : ((w1.alloc (.cells zero25 39)).setCells w1.heap.size 0 (nowA l 0).toList).heap[w.heap.size]? = some (.cells zero25 39 (0, 0)) := (setCells_far _ _ _ (by omega)).trans hA12
  have hI3 : IsWd w0 ((w1.alloc (.cells zero25 39)).setCells w1.heap.size 0 (nowA l 0).toList) g l (.slice A l.length c) := by
    have hk : KeepBut (w1.alloc (.cells zero25 39)) ((w1.alloc (.cells zero25 39)).setCells w1.heap.size 0 (nowA l 0).toList) w1.heap.size none := ⟨by rw [(setCells_same _ _ _ _).2.2.2]; exact Nat.le_refl _, fun i hi h1 h2 => setCells_far _ _ _ h1⟩
    refine hI2.keep hk (by have := blk_lt hI1.1; omega) (by simp) (fun b hb => ⟨fun e => ?_, by simp⟩)
    obtain ⟨inner, ho, _⟩ := hI1.2.2.2
    have := own_lt ho b hb
    omega
  have hbl3 : Below w.heap.size w ((w1.alloc (.cells zero25 39)).setCells w1.heap.size 0 (nowA l 0).toList) := below_cells hbl1.size _ _ _ hbl2
  have K0 := Aside0.mk (And.intro hI3 (And.intro hbl3 (And.intro hA13 hA3)))
  have HB := Aside0.mk (show w.heap.size < w1.heap.size from by omega)
  clear hI1 hI2 hbl1 hbl2 hA1 hA2 hA12 hA13 hA3 hI3 hbl3 hs1 c0
  rw [zero25_eq] at HT
  have HTT := Aside0.mk HT
  clear HT
  go_wp2_with (refine wpList_store_mid rfl 39 (.tmp 3) (.tmp 11) rfl w1.heap.size 0 (nowA l 0) (by rfl) (by rfl) (by rw [nowA_size]; exact HTT.out) (by rw [nowA_size]; exact size39) (nowA_one l 0) ?_)
  rw [← zero25_eq]
  generalize (w1.alloc (.cells zero25 39)).setCells w1.heap.size 0 (nowA l 0).toList = w3 at K0 ⊢
  clear c1 HTT
  generalize w1.heap.size = gn at K0 HB ⊢
  obtain ⟨gr, hgr⟩ : ∃ gr, gr = w.heap.size := ⟨_, rfl⟩
  rw [← hgr] at K0 HB hgl ⊢
  have HX := Aside0.mk hgr
  clear hgr
  go_loopg [12] 3 (fun m v wr => ∃ k : Nat, v = .int .i64 (k : Int) ∧ m + k = 3 ∧ Aside0 (IsWd w0 wr g l (.slice A l.length c) ∧ Below gr w wr ∧ wr.heap[gr]? = some (.cells zero25 39 (0, 0)) ∧ wr.heap[gn]? = some (.cells (nowA l (k * 8)) 39 (0, 0))))
  case atStart => exact ⟨0, rfl, rfl, K0⟩
  case round =>
    clear K0
    obtain ⟨k, rfl, hk, HC⟩ := hrel
    by_cases hk3 : k < 3
    · have q0 : decide ((k : Int) < 3) = true := decide_eq_true (by omega)
      go_wp2
      go_loopg [15] 8 (fun m v wr => ∃ i : Nat, v = .int .i64 (i : Int) ∧ m + i = 8 ∧ Aside0 (IsWd w0 wr g l (.slice A l.length c) ∧ Below gr w wr ∧ wr.heap[gr]? = some (.cells zero25 39 (0, 0)) ∧ wr.heap[gn]? = some (.cells (nowA l (k * 8 + i)) 39 (0, 0))))
      case atStart => exact ⟨0, rfl, rfl, HC⟩
      case round =>
        clear HC
        obtain ⟨i, rfl, hi, HD⟩ := hrel
        by_cases hi8 : i < 8
        · have q1 : decide ((i : Int) < 8) = true := decide_eq_true (by omega)
          have r0 : (0 : Int) ≤ (k : Int) := by omega
          have r1 : (k : Int) < 3 := by omega
          have r2 : (0 : Int) ≤ (i : Int) := by omega
          have r3 : (i : Int) < 8 := by omega
          have c0 : wr.cell? ⟨g, 0, none⟩ = some (.slice A l.length c) := (blk_cell HD.out.1.1 0).trans rfl
          have n1 : g ≠ gn := by have := HB.out; omega
          have n2 : gn ≠ g := fun e => n1 e.symm
          have AT := fun W h => at_ok g l (.slice A l.length c) ⟨(k : Int), (i : Int)⟩ (l.length : Int) w0 W h hl
          rw [← verK_at l k i hi8] at AT
          go_wp2_with (fail)
          go_region_held3 (fun w' => w'.cell? ⟨g, 0, none⟩ = some (.slice A l.length c)) (go_keep)
            (first
              | (go_at_call 27; refine (AT _ (HD.out.1.below (pw_below_drewN (Below.refl _ _) _))).mono ?_; rintro e w7 ⟨rfl, hb7⟩; have K7 := Aside0.mk (show IsWd w0 w7 g l (.slice A l.length c) ∧ Below gr w w7 ∧ w7.heap[gr]? = some (.cells zero25 39 (0, 0)) ∧ w7.heap[gn]? = some (.cells (nowA l (k * 8 + i)) 39 (0, 0)) from ⟨(HD.out.1.below (pw_below_drewN (Below.refl _ _) _)).below hb7, (pw_below_drewN HD.out.2.1 _).trans (hb7.mono (Nat.le_of_lt (blk_lt HD.out.2.2.1))), (hb7.block gr (blk_lt HD.out.2.2.1)).trans HD.out.2.2.1, (hb7.block gn (blk_lt HD.out.2.2.2)).trans HD.out.2.2.2⟩); have c7 : w7.cell? ⟨g, 0, none⟩ = some (.slice A l.length c) := (blk_cell K7.out.1.1 0).trans rfl; have d7 : w7.cell? ⟨gn, k * 8 + i, none⟩ = some (.int .i64 0) := (blk_cell K7.out.2.2.2 _).trans (by rw [nowA_get l _ _ (by omega), if_neg (by omega)]); have f7 := blk_frozen K7.out.2.2.2))
          go_wp2
          go_roundg (8 - (i + 1))
          case rel =>
            have n3 : gr ≠ gn := Nat.ne_of_lt HB.out
            have kb := KeepBut.set_ (KeepBut.refl w7 gn none) (k * 8 + i) (.int .i64 (verK l (k * 8 + i) : Int))
            have hA := blk_set K7.out.2.2.2 (k * 8 + i) (.int .i64 (verK l (k * 8 + i) : Int))
            rw [nowA_set l _ (by omega)] at hA
            exact ⟨i + 1, (by rw [Int.natCast_add]; rfl), (by omega), ⟨(K7.out.1.keep kb n1 (by simp) (fun b hb => ⟨fun e => Kd.R_ne K7.out.1.2.2 K7.out.2.2.2 (by decide) (by rw [← e, hb]), by simp⟩)), K7.out.2.1.setCell (Nat.le_of_lt HB.out) _, kb.blk K7.out.2.2.1 n3 (by simp), hA⟩⟩
          case measure => omega
        · have q1 : decide ((i : Int) < 8) = false := decide_eq_false (by omega)
          have i8 : i = 8 := by omega
          have HD2 := Aside0.mk (show IsWd w0 wr g l (.slice A l.length c) ∧ Below gr w wr ∧ wr.heap[gr]? = some (.cells zero25 39 (0, 0)) ∧ wr.heap[gn]? = some (.cells (nowA l ((k + 1) * 8)) 39 (0, 0)) from by have := HD.out; rw [i8] at this; rw [show (k + 1) * 8 = k * 8 + 8 by omega]; exact this)
          clear i8
          go_wp2
          go_roundg (3 - (k + 1))
          case rel => exact ⟨k + 1, (by rw [Int.natCast_add]; rfl), (by omega), HD2⟩
          case measure => omega
    · have q0 : decide ((k : Int) < 3) = false := decide_eq_false (by omega)
      have k3 : k = 3 := by omega
      have HD2 := Aside0.mk (show IsWd w0 wr g l (.slice A l.length c) ∧ Below gr w wr ∧ wr.heap[gr]? = some (.cells zero25 39 (0, 0)) ∧ wr.heap[gn]? = some (.cells (nowA l 24) 39 (0, 0)) from by have := HC.out; rw [k3] at this; exact this)
      clear k3 HC
      have hT : wr.there gr 0 25 := blk_there HD2.out.2.2.1
      have hR : wr.rangeAt gn 0 (nowA l 24).toList := fun j v hv => by rw [Nat.zero_add]; exact (blk_cell HD2.out.2.2.2 j).trans (by simpa using hv)
      have HTR := Aside0.mk (And.intro hT hR)
      have hst := store_whole HD2.out.2.2.1 (vs := nowA l 24) (by rw [nowA_size]; rfl)
      have hbw := below_cells (Nat.le_refl gr) (nowA l 24).toList 0 _ HD2.out.2.1
      have hR2 : (wr.setCells gr 0 (nowA l 24).toList).rangeAt gr 0 (nowA l 24).toList := fun j v hv => by rw [Nat.zero_add]; exact (blk_cell hst j).trans (by simpa using hv)
      clear hT hR
      go_wp2_with (first | (refine wpList_load_mid rfl 39 (.tmp 3) rfl gn 0 (by rfl) (nowA l 24).toList _ HTR.out.2 hu39 rfl (by rw [Array.length_toList, nowA_size]; exact size39) ?_) | (refine wpList_store_mid rfl 39 (.tmp 2) (.tmp 35) rfl gr 0 (nowA l 24) (by rfl) (by rfl) (by rw [nowA_size]; exact HTR.out.1) (by rw [nowA_size]; exact size39) (nowA_one l 24) ?_))
      exact bodyPost_ret (v := .agg (nowA l 24)) (results_cell_row Try.results17 _ _ gr 39 (nowA l 24) (0, 0) _ (by rfl) hst hu39 rfl (by rw [nowA_size]; exact size39)) rfl ⟨rfl, HX.out ▸ hbw⟩
set_option maxHeartbeats 1600000 in
set_option maxRecDepth 100000 in
theorem of_in (A : Array Value) (k i : Nat) (x : Int) (w : World) (hk : k < 3) (hi : i < 8) (hx : A[k * 8 + i]? = some (.int .i64 x)) :
    Calls Try.prog 25 #[.agg A, .int .i64 (k : Int), .int .i64 (i : Int)] w fun e w' => e = .returned (.int .i64 x) ∧ Below w.heap.size w w' := by
  have hu39 := Try.underlying39
  have hu37 := Try.underlying37
  have hu36 := Try.underlying36
  have hu41 := Try.underlying41
  have hA := heap_alloc_new w (.cells A 39)
  have hb := below_alloc (Below.refl w.heap.size w) (.cells A 39)
  have c0 : (w.alloc (.cells A 39)).cell? ⟨w.heap.size, k * 8 + i, none⟩ = some (.int .i64 x) := (blk_cell hA _).trans hx
  have q0 : decide ((k : Int) < 0) = false := decide_eq_false (by omega)
  have q1 : decide ((2 : Int) < (k : Int)) = false := decide_eq_false (by omega)
  have q2 : decide ((i : Int) < 0) = false := decide_eq_false (by omega)
  have q3 : decide ((8 : Int) ≤ (i : Int)) = false := decide_eq_false (by omega)
  have r0 : (0 : Int) ≤ (k : Int) := by omega
  have r1 : (k : Int) < 3 := by omega
  have r2 : (0 : Int) ≤ (i : Int) := by omega
  have r3 : (i : Int) < 8 := by omega
  have s0 : decide ((k : Int) < 3) = true := decide_eq_true (by omega)
  have s1 : decide ((0 : Int) ≤ (k : Int)) = true := decide_eq_true (by omega)
  have s2 : decide ((i : Int) < 8) = true := decide_eq_true (by omega)
  have s3 : decide ((0 : Int) ≤ (i : Int)) = true := decide_eq_true (by omega)
  clear hA
  go_enter Try.func25, Try.ntmps25
  go_wp2
  go_ret
  exact ⟨rfl, hb⟩
set_option maxHeartbeats 1600000 in
set_option maxRecDepth 100000 in
theorem of_out (A : Array Value) (k i : Int) (w : World) (h : ¬ (0 ≤ k ∧ k ≤ 2 ∧ 0 ≤ i ∧ i ≤ 7)) :
    Calls Try.prog 25 #[.agg A, .int .i64 k, .int .i64 i] w fun e w' => e = .returned (.int .i64 0) ∧ Below w.heap.size w w' := by
  have hu39 := Try.underlying39
  have hb := below_alloc (Below.refl w.heap.size w) (.cells A 39)
  by_cases h0 : k < 0
  · have q0 : decide (k < 0) = true := decide_eq_true h0
    go_enter Try.func25, Try.ntmps25
    go_wp2
    go_ret
    exact ⟨rfl, hb⟩
  have q0 : decide (k < 0) = false := decide_eq_false h0
  by_cases h1 : 2 < k
  · have q1 : decide (2 < k) = true := decide_eq_true h1
    go_enter Try.func25, Try.ntmps25
    go_wp2
    go_ret
    exact ⟨rfl, hb⟩
  have q1 : decide (2 < k) = false := decide_eq_false h1
  by_cases h2 : i < 0
  · have q2 : decide (i < 0) = true := decide_eq_true h2
    go_enter Try.func25, Try.ntmps25
    go_wp2
    go_ret
    exact ⟨rfl, hb⟩
  have q2 : decide (i < 0) = false := decide_eq_false h2
  have q3 : decide (8 ≤ i) = true := decide_eq_true (by omega)
  go_enter Try.func25, Try.ntmps25
  go_wp2
  go_ret
  exact ⟨rfl, hb⟩
/-- what a thing's version is now, as Of tells -/
def verN (l : List S24) (k i : Int) : Int := if 0 ≤ k ∧ k ≤ 2 ∧ 0 ≤ i ∧ i ≤ 7 then (ver l ⟨k, i⟩ (l.length : Int) : Int) else 0
theorem of_now (l : List S24) (k i : Int) (w : World) : Calls Try.prog 25 #[.agg (nowA l 24), .int .i64 k, .int .i64 i] w fun e w' => e = .returned (.int .i64 (verN l k i)) ∧ Below w.heap.size w w' := by
  unfold verN
  by_cases h : 0 ≤ k ∧ k ≤ 2 ∧ 0 ≤ i ∧ i ≤ 7
  · rw [if_pos h]
    obtain ⟨a, rfl⟩ := Int.eq_ofNat_of_zero_le h.1
    obtain ⟨b, rfl⟩ := Int.eq_ofNat_of_zero_le h.2.2.1
    refine of_in _ a b _ w (by omega) (by omega) ?_
    rw [nowA_get l 24 _ (by omega), if_pos (by omega), verK_at l a b (by omega)]
  · rw [if_neg h]
    exact of_out _ k i w h
def okE (wd : List S24) (e : S47) : Bool := verN wd e.f0 e.f1 == e.f2
def validB (wd : List S24) (l : List S47) : Bool := l.all (okE wd)
theorem rd47_mem {l : List S47} {j : Nat} (hj : j < l.length) : l.take (j + 1) = l.take j ++ [rd_T47 l (j : Int)] := by
  rw [List.take_succ_eq_append_getElem hj]
  unfold rd_T47
  rw [Int.toNat_natCast, List.getD_eq_getElem?_getD, List.getElem?_eq_getElem hj]
  rfl
theorem rd47_in {l : List S47} {j : Nat} (hj : j < l.length) : rd_T47 l (j : Int) ∈ l := by
  unfold rd_T47
  rw [Int.toNat_natCast, List.getD_eq_getElem?_getD, List.getElem?_eq_getElem hj]
  exact List.getElem_mem hj
/-- a block that holds a Now, and its cells -/
def IsNow (W : World) (g : Nat) : Prop := ∃ C : Array Value, W.heap[g]? = some (.cells C 39 (0, 0)) ∧ C.size = 25
def nowAt (W : World) (g : Nat) : Array Value := match W.heap[g]? with | some (.cells C _ _) => C | _ => #[]
theorem nowAt_eq {W : World} {g : Nat} {C : Array Value} {e : TypeId} {f : Nat × Nat} (h : W.heap[g]? = some (.cells C e f)) : nowAt W g = C := by unfold nowAt; rw [h]
theorem loadVar39 (W : World) (g : Nat) (h : IsNow W g) : (loadVar 39 ⟨g, 0, none⟩).run Try.prog W = .ok (.agg (nowAt W g)) W := by
  obtain ⟨C, h1, h2⟩ := h
  rw [nowAt_eq h1]
  have := run_loadVar_row (P := Try.prog) W g 39 39 C (0, 0) _ h1 Try.underlying39 rfl (by rw [h2]; exact size39)
  exact this
theorem loadAt39 (W : World) (g : Nat) (h : IsNow W g) : (Instr.loadAt 39 (.pointer (some ⟨g, 0, none⟩))).run Try.prog W = .ok (.agg (nowAt W g)) W := by
  simp only [Instr.loadAt, Instr.sureAddr, Sem.run_bind, Sem.run_pure, Result.andThen_ok, loadVar39 W g h]
def IsNowV (W : World) (v : Value) : Prop := ∃ g, v = .pointer (some ⟨g, 0, none⟩) ∧ IsNow W g
def nowV (W : World) (v : Value) : Array Value := match v with | .pointer (some a) => nowAt W a.block | _ => #[]
theorem exec39 (ρ : Operand → Value) (d : Option Nat) (x : Operand) (ty : TypeId) (pos : String) (af : Array Edge) (gd : Option (Nat × Bool)) (W : World) (h : IsNowV W (ρ x)) :
    (execOp ρ { dst := d, op := .load 39 x, type := ty, pos := pos, after := af, guard := gd }).run Try.prog W = .ok (.value (.agg (nowV W (ρ x)))) W := by
  obtain ⟨g, h1, h2⟩ := h
  unfold execOp
  simp only [h1, nowV, Sem.run_bind, Sem.run_pure, loadAt39 W g h2, Result.andThen_ok]
attribute [local go_sem ↓] exec39
set_option maxHeartbeats 3200000 in
set_option maxRecDepth 100000 in
theorem valid_ok (g : Nat) (l : List S47) (t : Int) (v : Value) (wd : List S24) (w0 w : World) (hI : IsSt w0 w g l t v) (hl : l.length ≤ 1000) :
    Calls Try.prog 18 #[.pointer (some ⟨g, 0, none⟩), .agg (nowA wd 24)] w fun e w' => e = .returned (.bool (validB wd l)) ∧ Below w.heap.size w w' := by
  have hu39 := Try.underlying39
  have hu47 := Try.underlying47
  have hu76 := Try.underlying76
  have hu78 := Try.underlying78
  have hu31 := Try.underlying31
  obtain ⟨A, c, rfl⟩ := Kd.R_slice hI.2.2
  have OF := fun k i W => of_now wd k i W
  have hA := heap_alloc_new w (.cells (nowA wd 24) 39)
  have hb := below_alloc (Below.refl w.heap.size w) (.cells (nowA wd 24) 39)
  have hI1 := hI.below hb
  have hgl : g < w.heap.size := blk_lt hI.1
  have K0 := Aside0.mk (And.intro hI1 (And.intro hb hA))
  have c0 : (w.alloc (.cells (nowA wd 24) 39)).cell? ⟨g, 0, none⟩ = some (.slice A l.length c) := (blk_cell hI1.1 0).trans rfl
  clear hA hb hI1
  go_enter Try.func18, Try.ntmps18
  go_wp2
  clear c0
  obtain ⟨gx, hgx⟩ : ∃ gx, gx = w.heap.size := ⟨_, rfl⟩
  rw [← hgx] at K0 hgl ⊢
  generalize w.alloc (.cells (nowA wd 24) 39) = w1 at K0 ⊢
  have HX := Aside0.mk hgx
  clear hgx
  go_loopg [14] l.length (fun m i wr => ∃ j : Nat, i = .int .i64 (j : Int) ∧ m + j = l.length ∧ Aside0 (IsSt w0 wr g l t (.slice A l.length c) ∧ Below gx w wr ∧ wr.heap[gx]? = some (.cells (nowA wd 24) 39 (0, 0)) ∧ (l.take j).all (okE wd) = true))
  case atStart => exact ⟨0, rfl, rfl, ⟨K0.out.1, K0.out.2.1, K0.out.2.2, by simp⟩⟩
  case round =>
    clear K0
    obtain ⟨j, rfl, hj, HC⟩ := hrel
    by_cases hlt : j < l.length
    · have q0 : decide ((j : Int) < (l.length : Int)) = true := decide_eq_true (by omega)
      obtain ⟨ad, rfl, y0, y1, y2⟩ := st_read HC.out.1 hlt
      obtain ⟨⟨a, b, d⟩, hx⟩ : ∃ x, x = rd_T47 l (j : Int) := ⟨_, rfl⟩
      rw [← hx] at y0 y1 y2
      have p0 : ((0 : Int) ≤ (j : Int)) = True := eq_true (by omega)
      have p1 : ((j : Int) < (l.length : Int)) = True := eq_true (by omega)
      have HE := Aside0.mk hx
      clear hx
      have hj9 : j ≤ 1000 := by omega
      go_upto_region 6 with (fail)
      have hA := heap_alloc_new wr (.cells #[.int .i64 a, .int .i64 b, .int .i64 d] 47)
      have hbl := below_alloc (Below.refl wr.heap.size wr) (.cells #[.int .i64 a, .int .i64 b, .int .i64 d] 47)
      have hwx : gx ≤ wr.heap.size := by have := blk_lt HC.out.2.2.1; omega
      have K1 := Aside0.mk (show IsSt w0 (wr.alloc (.cells #[.int .i64 a, .int .i64 b, .int .i64 d] 47)) g l t (.slice (some ad) l.length c) ∧ Below gx w (wr.alloc (.cells #[.int .i64 a, .int .i64 b, .int .i64 d] 47)) ∧ (wr.alloc (.cells #[.int .i64 a, .int .i64 b, .int .i64 d] 47)).heap[gx]? = some (.cells (nowA wd 24) 39 (0, 0)) ∧ (wr.alloc (.cells #[.int .i64 a, .int .i64 b, .int .i64 d] 47)).heap[wr.heap.size]? = some (.cells #[.int .i64 a, .int .i64 b, .int .i64 d] 47 (0, 0)) from ⟨HC.out.1.below hbl, HC.out.2.1.alloc hwx _, (hbl.block gx (blk_lt HC.out.2.2.1)).trans HC.out.2.2.1, hA⟩)
      clear hA hbl y0 y1 y2 hwx
      generalize wr.alloc (.cells #[.int .i64 a, .int .i64 b, .int .i64 d] 47) = w2 at K1 ⊢
      generalize wr.heap.size = gy at K1 ⊢
      have d0 : w2.cell? ⟨gy, 0, none⟩ = some (.int .i64 a) := (blk_cell K1.out.2.2.2 0).trans rfl
      have d1 : w2.cell? ⟨gy, 1, none⟩ = some (.int .i64 b) := (blk_cell K1.out.2.2.2 1).trans rfl
      have d2 : w2.cell? ⟨gy, 2, none⟩ = some (.int .i64 d) := (blk_cell K1.out.2.2.2 2).trans rfl
      have a0 : IsNowV w2 (.pointer (some ⟨gx, 0, none⟩)) := ⟨gx, rfl, _, K1.out.2.2.1, nowA_size _ _⟩; have a1 : nowV w2 (.pointer (some ⟨gx, 0, none⟩)) = nowA wd 24 := nowAt_eq K1.out.2.2.1
      have OA := OF a b
      by_cases hv : verN wd a b = d
      · have hb1 : (verN wd a b != d) = false := by simpa using hv
        have hok : okE wd (rd_T47 l (j : Int)) = true := by rw [← HE.out]; unfold okE; simpa using hv
        have HOK := Aside0.mk hok
        clear hok hv
        generalize verN wd a b = vn at OA hb1
        go_wp2_with (fail)
        go_region_held3 (fun w' => IsNowV w' (.pointer (some ⟨gx, 0, none⟩)) ∧ nowV w' (.pointer (some ⟨gx, 0, none⟩)) = nowA wd 24 ∧ w'.cell? ⟨gy, 0, none⟩ = some (.int .i64 a) ∧ w'.cell? ⟨gy, 1, none⟩ = some (.int .i64 b) ∧ w'.cell? ⟨gy, 2, none⟩ = some (.int .i64 d)) (first | exact ⟨a0, a1, d0, d1, d2⟩ | go_keep)
          (first
            | (go_at_call 25; refine (OA _).mono ?_; rintro e w7 ⟨rfl, hb7⟩; have K7 := Aside0.mk (show IsSt w0 w7 g l t (.slice (some ad) l.length c) ∧ Below gx w w7 ∧ w7.heap[gx]? = some (.cells (nowA wd 24) 39 (0, 0)) ∧ w7.heap[gy]? = some (.cells #[.int .i64 a, .int .i64 b, .int .i64 d] 47 (0, 0)) from ⟨(K1.out.1.below (pw_below_drewN (Below.refl _ _) _)).below hb7, (pw_below_drewN K1.out.2.1 _).trans (hb7.mono (Nat.le_of_lt (blk_lt K1.out.2.2.1))), (hb7.block gx (blk_lt K1.out.2.2.1)).trans K1.out.2.2.1, (hb7.block gy (blk_lt K1.out.2.2.2)).trans K1.out.2.2.2⟩); have d0 : w7.cell? ⟨gy, 0, none⟩ = some (.int .i64 a) := (blk_cell K7.out.2.2.2 0).trans rfl; have d1 : w7.cell? ⟨gy, 1, none⟩ = some (.int .i64 b) := (blk_cell K7.out.2.2.2 1).trans rfl; have d2 : w7.cell? ⟨gy, 2, none⟩ = some (.int .i64 d) := (blk_cell K7.out.2.2.2 2).trans rfl; have a0 : IsNowV w7 (.pointer (some ⟨gx, 0, none⟩)) := ⟨gx, rfl, _, K7.out.2.2.1, nowA_size _ _⟩; have a1 : nowV w7 (.pointer (some ⟨gx, 0, none⟩)) = nowA wd 24 := nowAt_eq K7.out.2.2.1;  clear hb7))
        go_wp2
        go_roundg (l.length - (j + 1))
        case rel =>
          exact ⟨j + 1, (by rw [Int.natCast_add]; rfl), (by omega), ⟨K7.out.1, K7.out.2.1, K7.out.2.2.1, by rw [rd47_mem hlt, List.all_append, HC.out.2.2.2]; simp [HOK.out]⟩⟩
        case measure => omega
      · have hb1 : (verN wd a b != d) = true := by simpa using hv
        have hno : validB wd l = false := by
          unfold validB
          rw [List.all_eq_false]
          exact ⟨rd_T47 l (j : Int), rd47_in hlt, by rw [← HE.out]; unfold okE; simpa using hv⟩
        have HNO := Aside0.mk hno
        clear hno hv
        generalize verN wd a b = vn at OA hb1
        go_wp2_with (fail)
        go_region_held3 (fun w' => IsNowV w' (.pointer (some ⟨gx, 0, none⟩)) ∧ nowV w' (.pointer (some ⟨gx, 0, none⟩)) = nowA wd 24 ∧ w'.cell? ⟨gy, 0, none⟩ = some (.int .i64 a) ∧ w'.cell? ⟨gy, 1, none⟩ = some (.int .i64 b) ∧ w'.cell? ⟨gy, 2, none⟩ = some (.int .i64 d)) (first | exact ⟨a0, a1, d0, d1, d2⟩ | go_keep)
          (first
            | (go_at_call 25; refine (OA _).mono ?_; rintro e w7 ⟨rfl, hb7⟩; have K7 := Aside0.mk (show IsSt w0 w7 g l t (.slice (some ad) l.length c) ∧ Below gx w w7 ∧ w7.heap[gx]? = some (.cells (nowA wd 24) 39 (0, 0)) ∧ w7.heap[gy]? = some (.cells #[.int .i64 a, .int .i64 b, .int .i64 d] 47 (0, 0)) from ⟨(K1.out.1.below (pw_below_drewN (Below.refl _ _) _)).below hb7, (pw_below_drewN K1.out.2.1 _).trans (hb7.mono (Nat.le_of_lt (blk_lt K1.out.2.2.1))), (hb7.block gx (blk_lt K1.out.2.2.1)).trans K1.out.2.2.1, (hb7.block gy (blk_lt K1.out.2.2.2)).trans K1.out.2.2.2⟩); have d0 : w7.cell? ⟨gy, 0, none⟩ = some (.int .i64 a) := (blk_cell K7.out.2.2.2 0).trans rfl; have d1 : w7.cell? ⟨gy, 1, none⟩ = some (.int .i64 b) := (blk_cell K7.out.2.2.2 1).trans rfl; have d2 : w7.cell? ⟨gy, 2, none⟩ = some (.int .i64 d) := (blk_cell K7.out.2.2.2 2).trans rfl; have a0 : IsNowV w7 (.pointer (some ⟨gx, 0, none⟩)) := ⟨gx, rfl, _, K7.out.2.2.1, nowA_size _ _⟩; have a1 : nowV w7 (.pointer (some ⟨gx, 0, none⟩)) = nowA wd 24 := nowAt_eq K7.out.2.2.1;  clear hb7))
        go_wp2
        go_ret
        exact ⟨by rw [HNO.out]; rfl, HX.out ▸ K7.out.2.1⟩
    · have q0 : decide ((j : Int) < (l.length : Int)) = false := decide_eq_false (by omega)
      have jn : j = l.length := by omega
      have HY := Aside0.mk (show validB wd l = true from by have := HC.out.2.2.2; rw [jn, List.take_length] at this; exact this)
      clear jn
      go_wp2
      go_ret
      exact ⟨by rw [HY.out]; rfl, HX.out ▸ HC.out.2.1⟩
set_option maxRecDepth 100000 in
theorem valid_nil (A : Array Value) (w : World) : Calls Try.prog 18 #[.pointer none, .agg A] w fun e w' => e = .returned (.bool true) ∧ Below w.heap.size w w' := by
  have hb := below_alloc (Below.refl w.heap.size w) (.cells A 39)
  go_enter Try.func18, Try.ntmps18
  go_wp2
  go_ret
  exact ⟨rfl, hb⟩
theorem old_cell {w : World} {g j : Nat} {u : Value} (h : w.cell? ⟨g, j, none⟩ = some u) (o : Obj) : (w.alloc o).cell? ⟨g, j, none⟩ = some u := by
  have := World.block_lt_of_cell? w _ h
  simp only [World.cell?] at h ⊢
  rw [Below.heap_alloc w o g this]; exact h
def hit (k i : Int) (e : S47) : Bool := e.f0 == k && e.f1 == i
def idx (l : List S47) (k i : Int) : Nat := l.findIdx (hit k i)
def placeI (l : List S47) (k i : Int) : Int := if idx l k i < l.length then (idx l k i : Int) else -1
theorem idx_at {l : List S47} {k i : Int} {j : Nat} (hj : j < l.length) (h : ∀ q, q < j → hit k i (rd_T47 l (q : Int)) = false) (hh : hit k i (rd_T47 l (j : Int)) = true) : idx l k i = j := by
  have hr : ∀ q (hq : q < l.length), rd_T47 l (q : Int) = l[q] := fun q hq => by
    unfold rd_T47
    rw [Int.toNat_natCast, List.getD_eq_getElem?_getD, List.getElem?_eq_getElem hq]
    rfl
  unfold idx
  rw [List.findIdx_eq hj]
  refine ⟨by rw [← hr j hj]; exact hh, fun q hq => ?_⟩
  have := h q hq
  rw [hr q (by omega)] at this
  simpa using this
theorem idx_none {l : List S47} {k i : Int} (h : ∀ q, q < l.length → hit k i (rd_T47 l (q : Int)) = false) : idx l k i = l.length := by
  have hr : ∀ q (hq : q < l.length), rd_T47 l (q : Int) = l[q] := fun q hq => by
    unfold rd_T47
    rw [Int.toNat_natCast, List.getD_eq_getElem?_getD, List.getElem?_eq_getElem hq]
    rfl
  unfold idx
  rw [List.findIdx_eq_length]
  intro x hx
  obtain ⟨q, hq, rfl⟩ := List.mem_iff_getElem.1 hx
  rw [← hr q hq]
  exact h q hq
set_option maxHeartbeats 1600000 in
set_option maxRecDepth 100000 in
theorem place1_ok (e : S47) (k i : Int) (g4 g5 : Nat) (w : World) (h4 : w.cell? ⟨g4, 0, none⟩ = some (.int .i64 k)) (h5 : w.cell? ⟨g5, 0, none⟩ = some (.int .i64 i)) :
    Calls Try.prog 45 #[.agg #[.int .i64 e.f0, .int .i64 e.f1, .int .i64 e.f2], .pointer (some ⟨g4, 0, none⟩), .pointer (some ⟨g5, 0, none⟩)] w fun r w' => r = .returned (.bool (hit k i e)) ∧ Below w.heap.size w w' := by
  have hu47 := Try.underlying47
  obtain ⟨a, b, d⟩ := e
  have hA := heap_alloc_new w (.cells #[.int .i64 a, .int .i64 b, .int .i64 d] 47)
  have hb := below_alloc (Below.refl w.heap.size w) (.cells #[.int .i64 a, .int .i64 b, .int .i64 d] 47)
  have c4 : (w.alloc (.cells #[.int .i64 a, .int .i64 b, .int .i64 d] 47)).cell? ⟨g4, 0, none⟩ = some (.int .i64 k) := old_cell h4 _
  have c5 : (w.alloc (.cells #[.int .i64 a, .int .i64 b, .int .i64 d] 47)).cell? ⟨g5, 0, none⟩ = some (.int .i64 i) := old_cell h5 _
  clear hA h4 h5
  by_cases e0 : a = k
  · have b0 : (a == k) = true := by simpa using e0
    by_cases e1 : b = i
    · have b1 : (b == i) = true := by simpa using e1
      have HH := Aside0.mk (show hit k i ⟨a, b, d⟩ = true from by unfold hit; simp [e0, e1])
      clear e0 e1
      go_enter Try.func45, Try.ntmps45
      go_wp2
      go_ret
      exact ⟨by rw [HH.out]; rfl, hb⟩
    · have b1 : (b == i) = false := by simpa using e1
      have HH := Aside0.mk (show hit k i ⟨a, b, d⟩ = false from by unfold hit; simp [e1])
      clear e0 e1
      go_enter Try.func45, Try.ntmps45
      go_wp2
      go_ret
      exact ⟨by rw [HH.out]; rfl, hb⟩
  · have b0 : (a == k) = false := by simpa using e0
    have HH := Aside0.mk (show hit k i ⟨a, b, d⟩ = false from by unfold hit; simp [e0])
    clear e0
    go_enter Try.func45, Try.ntmps45
    go_wp2
    go_ret
    exact ⟨by rw [HH.out]; rfl, hb⟩
set_option maxHeartbeats 3200000 in
set_option maxRecDepth 100000 in
theorem index_ok (g : Nat) (l : List S47) (t : Int) (A : Option Addr) (c : Nat) (k i : Int) (g4 g5 : Nat) (w0 w : World) (hI : IsSt w0 w g l t (.slice A l.length c)) (hl : l.length ≤ 1000)
    (h4 : w.heap[g4]? = some (.cells #[.int .i64 k] 41 (0, 0))) (h5 : w.heap[g5]? = some (.cells #[.int .i64 i] 3 (0, 0))) :
    Calls Try.prog 44 #[.slice A l.length c, .func (.func 45) #[] #[.pointer (some ⟨g4, 0, none⟩), .pointer (some ⟨g5, 0, none⟩)]] w fun r w' => r = .returned (.int .i64 (placeI l k i)) ∧ Below w.heap.size w w' := by
  have hu47 := Try.underlying47
  have hu76 := Try.underlying76
  have K0 := Aside0.mk (And.intro hI (And.intro (Below.refl w.heap.size w) (And.intro h4 h5)))
  clear hI h4 h5
  go_enter Try.func44, Try.ntmps44
  go_wp2
  obtain ⟨gx, hgx⟩ : ∃ gx, gx = w.heap.size := ⟨_, rfl⟩
  have hx4 : g4 < w.heap.size := blk_lt K0.out.2.2.1
  rw [← hgx] at K0 hx4
  have HX := Aside0.mk hgx
  have K0 := Aside0.mk (show IsSt w0 w g l t (.slice A l.length c) ∧ Below gx w w ∧ w.heap[g4]? = some (.cells #[.int .i64 k] 41 (0, 0)) ∧ w.heap[g5]? = some (.cells #[.int .i64 i] 3 (0, 0)) ∧ gx ≤ w.heap.size from ⟨K0.out.1, K0.out.2.1, K0.out.2.2.1, K0.out.2.2.2, by omega⟩)
  clear hgx
  go_loopg [8] l.length (fun m v wr => ∃ j : Nat, v = .int .i64 (j : Int) ∧ m + j = l.length ∧ Aside0 ((IsSt w0 wr g l t (.slice A l.length c) ∧ Below gx w wr ∧ wr.heap[g4]? = some (.cells #[.int .i64 k] 41 (0, 0)) ∧ wr.heap[g5]? = some (.cells #[.int .i64 i] 3 (0, 0)) ∧ gx ≤ wr.heap.size) ∧ ∀ q, q < j → hit k i (rd_T47 l (q : Int)) = false))
  case atStart => exact ⟨0, rfl, rfl, ⟨K0.out, fun q hq => absurd hq (Nat.not_lt_zero q)⟩⟩
  case round =>
    clear K0
    obtain ⟨j, rfl, hj, HC⟩ := hrel
    by_cases hlt : j < l.length
    · have q0 : decide ((j : Int) < (l.length : Int)) = true := decide_eq_true (by omega)
      obtain ⟨ad, rfl, y0, y1, y2⟩ := st_read HC.out.1.1 hlt
      obtain ⟨x, hx⟩ : ∃ x, x = rd_T47 l (j : Int) := ⟨_, rfl⟩
      rw [← hx] at y0 y1 y2
      have p0 : ((0 : Int) ≤ (j : Int)) = True := eq_true (by omega)
      have p1 : ((j : Int) < (l.length : Int)) = True := eq_true (by omega)
      have HE := Aside0.mk hx
      clear hx
      have hj9 : j ≤ 1000 := by omega
      have P1 := fun W h4 h5 => place1_ok x k i g4 g5 W h4 h5
      by_cases hh : hit k i x = true
      · rw [hh] at P1
        have HP := Aside0.mk (show placeI l k i = (j : Int) from by
          have := idx_at hlt HC.out.2 (by rw [← HE.out]; exact hh)
          unfold placeI; rw [this, if_pos hlt])
        clear hh
        go_wp2_with (go_at_call 45; refine (P1 _ ((blk_cell HC.out.1.2.2.1 0).trans rfl) ((blk_cell HC.out.1.2.2.2.1 0).trans rfl)).mono ?_; rintro e w7 ⟨rfl, hb7⟩)
        go_ret
        exact ⟨by rw [HP.out]; rfl, HX.out ▸ HC.out.1.2.1.trans (hb7.mono HC.out.1.2.2.2.2)⟩
      · have hh : hit k i x = false := by simpa using hh
        rw [hh] at P1
        have HN := Aside0.mk hh
        clear hh
        go_wp2_with (go_at_call 45; refine (P1 _ ((blk_cell HC.out.1.2.2.1 0).trans rfl) ((blk_cell HC.out.1.2.2.2.1 0).trans rfl)).mono ?_; rintro e w7 ⟨rfl, hb7⟩)
        go_roundg (l.length - (j + 1))
        case rel =>
          refine ⟨j + 1, (by rw [Int.natCast_add]; rfl), (by omega), ⟨⟨HC.out.1.1.below hb7, HC.out.1.2.1.trans (hb7.mono HC.out.1.2.2.2.2), (hb7.block g4 (blk_lt HC.out.1.2.2.1)).trans HC.out.1.2.2.1, (hb7.block g5 (blk_lt HC.out.1.2.2.2.1)).trans HC.out.1.2.2.2.1, Nat.le_trans HC.out.1.2.2.2.2 hb7.size⟩, fun q hq => ?_⟩⟩
          by_cases hqj : q < j
          · exact HC.out.2 q hqj
          · obtain rfl : q = j := by omega
            rw [← HE.out]
            exact HN.out
        case measure => omega
    · have q0 : decide ((j : Int) < (l.length : Int)) = false := decide_eq_false (by omega)
      have HP := Aside0.mk (show placeI l k i = -1 from by
        have := idx_none (fun q (hq : q < l.length) => HC.out.2 q (by omega))
        unfold placeI; rw [this, if_neg (by omega)])
      go_wp2
      go_ret
      exact ⟨by rw [HP.out]; rfl, HX.out ▸ HC.out.1.2.1⟩
set_option maxHeartbeats 3200000 in
set_option maxRecDepth 100000 in
theorem place_ok (g : Nat) (l : List S47) (t : Int) (v : Value) (k i : Int) (w0 w : World) (hI : IsSt w0 w g l t v) (hl : l.length ≤ 1000) :
    Calls Try.prog 35 #[.pointer (some ⟨g, 0, none⟩), .int .i64 k, .int .i64 i] w fun r w' => r = .returned (.int .i64 (placeI l k i)) ∧ Below w.heap.size w w' := by
  have hu78 := Try.underlying78
  have hu41 := Try.underlying41
  have hu3 := Try.underlying3
  obtain ⟨A, c, rfl⟩ := Kd.R_slice hI.2.2
  have hb1 := below_alloc (Below.refl w.heap.size w) (.cells #[.int .i64 k] 41)
  have hb2 := below_alloc hb1 (.cells #[.int .i64 i] 3)
  have hA1 := heap_alloc_new w (.cells #[.int .i64 k] 41)
  have hA2 := heap_alloc_new (w.alloc (.cells #[.int .i64 k] 41)) (.cells #[.int .i64 i] 3)
  have hs : (w.alloc (.cells #[.int .i64 k] 41)).heap.size = w.heap.size + 1 := by simp
  have hA12 : ((w.alloc (.cells #[.int .i64 k] 41)).alloc (.cells #[.int .i64 i] 3)).heap[w.heap.size]? = some (.cells #[.int .i64 k] 41 (0, 0)) := (Below.heap_alloc _ _ _ (by rw [hs]; omega)).trans hA1
  rw [hs] at hA2
  have hI2 := hI.below hb2
  have c0 : ((w.alloc (.cells #[.int .i64 k] 41)).alloc (.cells #[.int .i64 i] 3)).cell? ⟨g, 0, none⟩ = some (.slice A l.length c) := (blk_cell hI2.1 0).trans rfl
  have K := Aside0.mk (And.intro hI2 (And.intro hb2 (And.intro hA12 hA2)))
  clear hI hb1 hb2 hA1 hA2 hs hA12 hI2
  go_enter Try.func35, Try.ntmps35
  go_wp2_with (go_at_call 44; refine (index_ok g l t A c k i w.heap.size (w.heap.size + 1) w0 _ K.out.1 hl K.out.2.2.1 K.out.2.2.2).mono ?_; rintro e w7 ⟨rfl, hb7⟩)
  go_ret
  exact ⟨rfl, K.out.2.1.trans (hb7.mono K.out.2.1.size)⟩
set_option maxHeartbeats 1600000 in
set_option maxRecDepth 100000 in
theorem has_ok (g : Nat) (l : List S47) (t : Int) (v : Value) (k i : Int) (w0 w : World) (hI : IsSt w0 w g l t v) (hl : l.length ≤ 1000) :
    Calls Try.prog 20 #[.pointer (some ⟨g, 0, none⟩), .int .i64 k, .int .i64 i] w fun r w' => r = .returned (.bool (decide (0 ≤ placeI l k i))) ∧ Below w.heap.size w w' := by
  have P := place_ok g l t v k i w0 w hI hl
  go_enter Try.func20, Try.ntmps20
  go_wp2_with (go_at_call 35; refine P.mono ?_; rintro e w7 ⟨rfl, hb7⟩)
  go_ret
  exact ⟨rfl, hb7⟩
set_option maxRecDepth 100000 in
theorem has_nil (k i : Int) (w : World) : Calls Try.prog 20 #[.pointer none, .int .i64 k, .int .i64 i] w fun r w' => r = .returned (.bool false) ∧ w' = w := by
  go_enter Try.func20, Try.ntmps20
  go_wp2
  go_ret
  exact ⟨rfl, rfl⟩
set_option maxHeartbeats 1600000 in
set_option maxRecDepth 100000 in
theorem stamp_ok (g : Nat) (l : List S47) (t : Int) (v : Value) (w0 w : World) (hI : IsSt w0 w g l t v) :
    Calls Try.prog 23 #[.pointer (some ⟨g, 0, none⟩)] w fun r w' => r = .returned (.int .i64 t) ∧ w' = w := by
  have hu78 := Try.underlying78
  have c1 : w.cell? ⟨g, 1, none⟩ = some (.int .i64 t) := (blk_cell hI.1 1).trans rfl
  go_enter Try.func23, Try.ntmps23
  go_wp2
  go_ret
  exact ⟨rfl, rfl⟩
set_option maxRecDepth 100000 in
theorem stamp_nil (w : World) : Calls Try.prog 23 #[.pointer none] w fun r w' => r = .returned (.int .i64 0) ∧ w' = w := by
  go_enter Try.func23, Try.ntmps23
  go_wp2
  go_ret
  exact ⟨rfl, rfl⟩
set_option maxHeartbeats 1600000 in
set_option maxRecDepth 100000 in
theorem len_ok (g : Nat) (l : List S47) (t : Int) (v : Value) (w0 w : World) (hI : IsSt w0 w g l t v) :
    Calls Try.prog 24 #[.pointer (some ⟨g, 0, none⟩)] w fun r w' => r = .returned (.int .i64 (l.length : Int)) ∧ w' = w := by
  have hu78 := Try.underlying78
  obtain ⟨A, c, rfl⟩ := Kd.R_slice hI.2.2
  have c0 : w.cell? ⟨g, 0, none⟩ = some (.slice A l.length c) := (blk_cell hI.1 0).trans rfl
  go_enter Try.func24, Try.ntmps24
  go_wp2
  go_ret
  exact ⟨rfl, rfl⟩
set_option maxRecDepth 100000 in
theorem len_nil (w : World) : Calls Try.prog 24 #[.pointer none] w fun r w' => r = .returned (.int .i64 0) ∧ w' = w := by
  go_enter Try.func24, Try.ntmps24
  go_wp2
  go_ret
  exact ⟨rfl, rfl⟩
set_option maxHeartbeats 1600000 in
set_option maxRecDepth 100000 in
theorem new_ok (t : Int) (w : World) : Calls Try.prog 15 #[.int .i64 t] w fun r w' => r = .returned (.pointer (some ⟨w.heap.size, 0, none⟩)) ∧ w' = w.alloc (.cells #[.slice none 0 0, .int .i64 t] 78) := by
  have hu78 := Try.underlying78
  go_enter Try.func15, Try.ntmps15
  go_wp2
  go_ret
  exact ⟨rfl, rfl⟩
theorem new_isSt (t : Int) (w0 w : World) (hB : Below w0.heap.size w0 w) : IsSt w0 (w.alloc (.cells #[.slice none 0 0, .int .i64 t] 78)) w.heap.size [] t (.slice none 0 0) :=
  ⟨heap_alloc_new w _, hB.size, Kd.R_nil _ _ _ _ _⟩
def noteB (wd : List S24) (l : List S47) (t k i : Int) : Bool := if 0 ≤ placeI l k i then (rd_T47 l (placeI l k i)).f2 == verN wd k i else if t < verN wd k i then validB wd l else true
def noteL (wd : List S24) (l : List S47) (t k i : Int) : List S47 := if 0 ≤ placeI l k i then l else if t < verN wd k i ∧ validB wd l = false then l else l ++ [⟨k, i, verN wd k i⟩]
def noteT (wd : List S24) (l : List S47) (t k i : Int) : Int := if 0 ≤ placeI l k i then t else if t < verN wd k i ∧ validB wd l = true then (wd.length : Int) else t
theorem nowA_last (wd : List S24) : (nowA wd 24)[24]? = some (.int .i64 (wd.length : Int)) := by simp [nowA]
theorem placeI_lt (l : List S47) (k i : Int) (h : 0 ≤ placeI l k i) : ∃ q : Nat, placeI l k i = (q : Int) ∧ q < l.length := by
  unfold placeI at h ⊢
  split
  · exact ⟨_, rfl, by assumption⟩
  · rename_i hn
    rw [if_neg hn] at h
    omega
def Nx (w : World) (v v' : Value) : Prop := ∀ b, v'.ownBlock = some b → v.ownBlock = some b ∨ w.heap.size ≤ b
set_option maxHeartbeats 6400000 in
set_option maxRecDepth 100000 in
theorem note_ok (g : Nat) (l : List S47) (t : Int) (v : Value) (wd : List S24) (k i : Int) (w0 w : World) (hI : IsSt w0 w g l t v) (hB : Below w0.heap.size w0 w) (hl : l.length ≤ 999) :
    Calls Try.prog 16 #[.pointer (some ⟨g, 0, none⟩), .agg (nowA wd 24), .int .i64 k, .int .i64 i] w fun r w' => r = .returned (.bool (noteB wd l t k i)) ∧ ∃ v', IsSt w0 w' g (noteL wd l t k i) (noteT wd l t k i) v' ∧ Below w0.heap.size w0 w' ∧ KeepBut w w' g v.ownBlock ∧ Nx w v v' := by
  have hu39 := Try.underlying39
  have hu47 := Try.underlying47
  have hu76 := Try.underlying76
  have hu78 := Try.underlying78
  have hu31 := Try.underlying31
  obtain ⟨A, c, rfl⟩ := Kd.R_slice hI.2.2
  have OF := fun W => of_now wd k i W
  have PL := fun W h => place_ok g l t (.slice A l.length c) k i w0 W h (by omega)
  have VA := fun W h => valid_ok g l t (.slice A l.length c) wd w0 W h (by omega)
  have HNB := Aside0.mk (show noteB wd l t k i = _ from rfl)
  have HNL := Aside0.mk (show noteL wd l t k i = _ from rfl)
  have HNT := Aside0.mk (show noteT wd l t k i = _ from rfl)
  unfold noteB at HNB
  unfold noteL at HNL
  unfold noteT at HNT
  by_cases hp : 0 ≤ placeI l k i
  · obtain ⟨q, hq, hql⟩ := placeI_lt l k i hp
    rw [hq] at PL HNB HNL HNT
    have hq0 : (0 : Int) ≤ (q : Int) := by omega
    have p0 : decide ((0 : Int) ≤ (q : Int)) = true := decide_eq_true hq0
    have p1 : ((0 : Int) ≤ (q : Int)) = True := eq_true (by omega)
    have p2 : ((q : Int) < (l.length : Int)) = True := eq_true (by omega)
    replace HNB := Aside0.mk (show noteB wd l t k i = ((rd_T47 l (q : Int)).f2 == verN wd k i) from by unfold noteB; rw [hq, if_pos hq0])
    replace HNL := Aside0.mk (show noteL wd l t k i = l from by unfold noteL; rw [hq, if_pos hq0])
    replace HNT := Aside0.mk (show noteT wd l t k i = t from by unfold noteT; rw [hq, if_pos hq0])
    clear hp hq
    obtain ⟨xq, hxq⟩ : ∃ x, x = rd_T47 l (q : Int) := ⟨_, rfl⟩
    rw [← hxq] at HNB
    have HXQ := Aside0.mk hxq
    clear hxq
    have hN := heap_alloc_new w (.cells (nowA wd 24) 39)
    have hb1 := below_alloc (Below.refl w.heap.size w) (.cells (nowA wd 24) 39)
    have K1 := Aside0.mk (show IsSt w0 (w.alloc (.cells (nowA wd 24) 39)) g l t (.slice A l.length c) ∧ Below w0.heap.size w0 (w.alloc (.cells (nowA wd 24) 39)) ∧ w.heap.size ≤ (w.alloc (.cells (nowA wd 24) 39)).heap.size ∧ (∀ b, b < w.heap.size → b ≠ g → (w.alloc (.cells (nowA wd 24) 39)).heap[b]? = w.heap[b]?) from ⟨hI.below hb1, hB.trans (hb1.mono hB.size), hb1.size, fun b hb9 _ => hb1.block b hb9⟩)
    have N1 := Aside0.mk hN
    have hgw : g < w.heap.size := blk_lt hI.1
    generalize verN wd k i = vn at OF HNB
    clear hI hB hN hb1
    go_enter Try.func16, Try.ntmps16
    go_upto_region 1 with (fail)
    generalize w.alloc (.cells (nowA wd 24) 39) = w1 at K1 N1 ⊢
    generalize w.heap.size = gx at N1 hgw ⊢
    have a1 : IsNowV w1 (.pointer (some ⟨gx, 0, none⟩)) := ⟨gx, rfl, _, N1.out, nowA_size _ _⟩
    have b1 : nowV w1 (.pointer (some ⟨gx, 0, none⟩)) = nowA wd 24 := nowAt_eq N1.out
    go_wp2_with (fail)
    (refine (OF _).mono ?_; rintro e w2 ⟨rfl, hb2⟩; have K2 := Aside0.mk (show IsSt w0 w2 g l t (.slice A l.length c) ∧ Below w0.heap.size w0 w2 ∧ w.heap.size ≤ w2.heap.size ∧ (∀ b, b < w.heap.size → b ≠ g → w2.heap[b]? = w.heap[b]?) from ⟨K1.out.1.below hb2, K1.out.2.1.trans (hb2.mono K1.out.2.1.size), Nat.le_trans K1.out.2.2.1 hb2.size, fun b hb9 hg9 => (hb2.block b (Nat.lt_of_lt_of_le hb9 K1.out.2.2.1)).trans (K1.out.2.2.2 b hb9 hg9)⟩); have N2 := Aside0.mk (show w2.heap[gx]? = some (.cells (nowA wd 24) 39 (0, 0)) from (hb2.block gx (blk_lt N1.out)).trans N1.out); clear hb2)
    go_wp2_with (fail)
    (refine (PL _ K2.out.1).mono ?_; rintro e w3 ⟨rfl, hb3⟩; have K3 := Aside0.mk (show IsSt w0 w3 g l t (.slice A l.length c) ∧ Below w0.heap.size w0 w3 ∧ w.heap.size ≤ w3.heap.size ∧ (∀ b, b < w.heap.size → b ≠ g → w3.heap[b]? = w.heap[b]?) from ⟨K2.out.1.below hb3, K2.out.2.1.trans (hb3.mono K2.out.2.1.size), Nat.le_trans K2.out.2.2.1 hb3.size, fun b hb9 hg9 => (hb3.block b (Nat.lt_of_lt_of_le hb9 K2.out.2.2.1)).trans (K2.out.2.2.2 b hb9 hg9)⟩); have N3 := Aside0.mk (show w3.heap[gx]? = some (.cells (nowA wd 24) 39 (0, 0)) from (hb3.block gx (blk_lt N2.out)).trans N2.out); have a3 : IsNowV w3 (.pointer (some ⟨gx, 0, none⟩)) := ⟨gx, rfl, _, N3.out, nowA_size _ _⟩; have b3 : nowV w3 (.pointer (some ⟨gx, 0, none⟩)) = nowA wd 24 := nowAt_eq N3.out; have s3 : w3.cell? ⟨g, 1, none⟩ = some (.int .i64 t) := (blk_cell K3.out.1.1 1).trans rfl; have l3 : w3.cell? ⟨g, 0, none⟩ = some (.slice A l.length c) := (blk_cell K3.out.1.1 0).trans rfl; obtain ⟨ad, rfl, y0, y1, y2⟩ := st_read K3.out.1 hql; rw [← HXQ.out] at y0 y1 y2; clear hb3)
    go_wp2
    go_ret
    exact ⟨by rw [HNB.out]; rfl, _, by rw [HNL.out, HNT.out]; exact K3.out.1, K3.out.2.1, ⟨K3.out.2.2.1, fun b hb9 hg9 _ => K3.out.2.2.2 b hb9 hg9⟩, fun b hb9 => .inl hb9⟩
  have hpn : ¬ 0 ≤ placeI l k i := hp
  obtain ⟨p, hpp⟩ : ∃ p, p = placeI l k i := ⟨_, rfl⟩
  have p0 : decide ((0 : Int) ≤ p) = false := decide_eq_false (by omega)
  by_cases ht : t < verN wd k i
  · by_cases hv : validB wd l = true
    · replace HNB := Aside0.mk (show noteB wd l t k i = true from by unfold noteB; rw [if_neg hp, if_pos ht]; exact hv)
      replace HNL := Aside0.mk (show noteL wd l t k i = l ++ [⟨k, i, verN wd k i⟩] from by unfold noteL; rw [if_neg hp, if_neg (fun q => by rw [hv] at q; cases q.2)])
      replace HNT := Aside0.mk (show noteT wd l t k i = (wd.length : Int) from by unfold noteT; rw [if_neg hp, if_pos ⟨ht, hv⟩])
      have p1 : decide (t < verN wd k i) = true := decide_eq_true ht
      rw [hv] at VA
      rw [← hpp] at PL
      clear hp hpn hpp hv
      have hN := heap_alloc_new w (.cells (nowA wd 24) 39)
      have hb1 := below_alloc (Below.refl w.heap.size w) (.cells (nowA wd 24) 39)
      have K1 := Aside0.mk (show IsSt w0 (w.alloc (.cells (nowA wd 24) 39)) g l t (.slice A l.length c) ∧ Below w0.heap.size w0 (w.alloc (.cells (nowA wd 24) 39)) ∧ w.heap.size ≤ (w.alloc (.cells (nowA wd 24) 39)).heap.size ∧ (∀ b, b < w.heap.size → b ≠ g → (w.alloc (.cells (nowA wd 24) 39)).heap[b]? = w.heap[b]?) from ⟨hI.below hb1, hB.trans (hb1.mono hB.size), hb1.size, fun b hb9 _ => hb1.block b hb9⟩)
      have N1 := Aside0.mk hN
      have hgw : g < w.heap.size := blk_lt hI.1
      generalize verN wd k i = vn at OF HNL p1 ht
      clear hI hB hN hb1
      go_enter Try.func16, Try.ntmps16
      go_upto_region 1 with (fail)
      generalize w.alloc (.cells (nowA wd 24) 39) = w1 at K1 N1 ⊢
      generalize w.heap.size = gx at N1 hgw ⊢
      have a1 : IsNowV w1 (.pointer (some ⟨gx, 0, none⟩)) := ⟨gx, rfl, _, N1.out, nowA_size _ _⟩
      have b1 : nowV w1 (.pointer (some ⟨gx, 0, none⟩)) = nowA wd 24 := nowAt_eq N1.out
      go_wp2_with (fail)
      (refine (OF _).mono ?_; rintro e w2 ⟨rfl, hb2⟩; have K2 := Aside0.mk (show IsSt w0 w2 g l t (.slice A l.length c) ∧ Below w0.heap.size w0 w2 ∧ w.heap.size ≤ w2.heap.size ∧ (∀ b, b < w.heap.size → b ≠ g → w2.heap[b]? = w.heap[b]?) from ⟨K1.out.1.below hb2, K1.out.2.1.trans (hb2.mono K1.out.2.1.size), Nat.le_trans K1.out.2.2.1 hb2.size, fun b hb9 hg9 => (hb2.block b (Nat.lt_of_lt_of_le hb9 K1.out.2.2.1)).trans (K1.out.2.2.2 b hb9 hg9)⟩); have N2 := Aside0.mk (show w2.heap[gx]? = some (.cells (nowA wd 24) 39 (0, 0)) from (hb2.block gx (blk_lt N1.out)).trans N1.out); clear hb2)
      go_wp2_with (fail)
      (refine (PL _ K2.out.1).mono ?_; rintro e w3 ⟨rfl, hb3⟩; have K3 := Aside0.mk (show IsSt w0 w3 g l t (.slice A l.length c) ∧ Below w0.heap.size w0 w3 ∧ w.heap.size ≤ w3.heap.size ∧ (∀ b, b < w.heap.size → b ≠ g → w3.heap[b]? = w.heap[b]?) from ⟨K2.out.1.below hb3, K2.out.2.1.trans (hb3.mono K2.out.2.1.size), Nat.le_trans K2.out.2.2.1 hb3.size, fun b hb9 hg9 => (hb3.block b (Nat.lt_of_lt_of_le hb9 K2.out.2.2.1)).trans (K2.out.2.2.2 b hb9 hg9)⟩); have N3 := Aside0.mk (show w3.heap[gx]? = some (.cells (nowA wd 24) 39 (0, 0)) from (hb3.block gx (blk_lt N2.out)).trans N2.out); have a3 : IsNowV w3 (.pointer (some ⟨gx, 0, none⟩)) := ⟨gx, rfl, _, N3.out, nowA_size _ _⟩; have b3 : nowV w3 (.pointer (some ⟨gx, 0, none⟩)) = nowA wd 24 := nowAt_eq N3.out; have s3 : w3.cell? ⟨g, 1, none⟩ = some (.int .i64 t) := (blk_cell K3.out.1.1 1).trans rfl; have l3 : w3.cell? ⟨g, 0, none⟩ = some (.slice A l.length c) := (blk_cell K3.out.1.1 0).trans rfl;  clear hb3)
      go_wp2_with (fail)
      (refine (VA _ K3.out.1).mono ?_; rintro e w4 ⟨rfl, hb4⟩; have K4 := Aside0.mk (show IsSt w0 w4 g l t (.slice A l.length c) ∧ Below w0.heap.size w0 w4 ∧ w.heap.size ≤ w4.heap.size ∧ (∀ b, b < w.heap.size → b ≠ g → w4.heap[b]? = w.heap[b]?) from ⟨K3.out.1.below hb4, K3.out.2.1.trans (hb4.mono K3.out.2.1.size), Nat.le_trans K3.out.2.2.1 hb4.size, fun b hb9 hg9 => (hb4.block b (Nat.lt_of_lt_of_le hb9 K3.out.2.2.1)).trans (K3.out.2.2.2 b hb9 hg9)⟩); have N4 : w4.heap[gx]? = some (.cells (nowA wd 24) 39 (0, 0)) := (hb4.block gx (blk_lt N3.out)).trans N3.out; have s4 : w4.cell? ⟨gx, 24, none⟩ = some (.int .i64 (wd.length : Int)) := (blk_cell N4 24).trans (nowA_last wd); have l4 : w4.cell? ⟨g, 0, none⟩ = some (.slice A l.length c) := (blk_cell K4.out.1.1 0).trans rfl; have s5 : w4.cell? ⟨g, 1, none⟩ = some (.int .i64 t) := (blk_cell K4.out.1.1 1).trans rfl; have f5 := blk_frozen K4.out.1.1; clear hb4 N4)
      go_upto_region 11 with (fail)
      have K5 := Aside0.mk (show IsSt w0 (w4.setCell ⟨g, 1, none⟩ (.int .i64 (wd.length : Int))) g l (wd.length : Int) (.slice A l.length c) ∧ Below w0.heap.size w0 (w4.setCell ⟨g, 1, none⟩ (.int .i64 (wd.length : Int))) ∧ w.heap.size ≤ (w4.setCell ⟨g, 1, none⟩ (.int .i64 (wd.length : Int))).heap.size ∧ (∀ b, b < w.heap.size → b ≠ g → (w4.setCell ⟨g, 1, none⟩ (.int .i64 (wd.length : Int))).heap[b]? = w.heap[b]?) from ⟨⟨by simpa using blk_set K4.out.1.1 1 (.int .i64 (wd.length : Int)), K4.out.1.2.1, R_exact47 (Kd.R_far K4.out.1.2.2 (p := ⟨g, 1, none⟩) (fun q hq e => K4.out.1.own (by have e' : q = g := e; rw [← e']; exact hq.symm)) _)⟩, below_set K4.out.2.1 K4.out.1.2.1, by simpa [World.setCell] using K4.out.2.2.1, fun b hb9 hg9 => (Below.heap_setCell w4 ⟨g, 1, none⟩ _ b hg9).trans (K4.out.2.2.2 b hb9 hg9)⟩)
      clear s4 s5 l4 f5
      generalize w4.setCell ⟨g, 1, none⟩ (.int .i64 (wd.length : Int)) = w5 at K5 ⊢
      have d0 : w5.cell? ⟨g, 0, none⟩ = some (.slice A l.length c) := (blk_cell K5.out.1.1 0).trans rfl
      have hR5 : k47.R 47 w5 w0.heap.size (fun q => (Value.slice A l.length c).ownBlock = some q ∨ w5.heap.size ≤ q) (.slice A l.length c) l := Kd.R_mono K5.out.1.2.2 (fun _ hq => .inl hq)
      have hB5 := K5.out.2.1
      have hlt5 : g < w5.heap.size := blk_lt K5.out.1.1
      have ho5 : some g ≠ (Value.slice A l.length c).ownBlock := K5.out.1.own
      go_wp2_with ((with_reducible refine gate_builtin (b := .append) (xs := #[.tmp 52, .tmp 57]) rfl ?_); (try (refine gate_guard (by rfl) ?_; dsimp only)); at_builtin; refine Kd.R_append k47 (w0 := w0) (W := w5) w0.heap.size rfl (.tmp 52) (.tmp 57) 76 47 (.agg #[(.int .i64 0), (.int .i64 0), (.int .i64 0)]) 24 rfl hu76 info47D rfl (by decide) (by omega) (.slice A l.length c) l (⟨k, i, vn⟩ : S47) [.int .i64 k, .int .i64 i, .int .i64 vn] (fun q => (Value.slice A l.length c).ownBlock = some q ∨ w5.heap.size ≤ q) (fun _ => False) (by first | (go_simp; done) | (go_simp; rfl)) (by first | (go_simp; done) | (go_simp; rfl)) (k47_mkM _ _ _ (⟨k, i, vn⟩ : S47)) (fun _ hk => hk.elim) (fun _ hk => .inr hk) hR5 hB5 hB5.size (by omega) ?_; intro v7 w7 hO7 hB7 hg7 hat7; have h7 := (hg7.block g hlt5 ho5).trans K5.out.1.1; have d4 : w7.cell? ⟨g, 0, none⟩ = some (.slice A l.length c) := (blk_cell h7 0).trans rfl; have f4 := blk_frozen h7 0; obtain ⟨A7, c7, rfl⟩ := Kd.R_slice hO7)
      go_ret
      have hgo : some g ≠ (Value.slice A7 (l ++ [(⟨k, i, vn⟩ : S47)]).length c7).ownBlock := Kd.R_ne hO7 h7 (by decide)
      refine ⟨by rw [HNB.out]; rfl, .slice A7 (l ++ [(⟨k, i, vn⟩ : S47)]).length c7, ?_, below_set hB7 K5.out.1.2.1, ?_, ?_⟩
      · rw [HNL.out, HNT.out]
        refine ⟨?_, K5.out.1.2.1, ?_⟩
        · simpa using blk_set h7 0 (.slice A7 (l ++ [(⟨k, i, vn⟩ : S47)]).length c7)
        · exact R_exact47 (Kd.R_far hO7 (p := ⟨g, 0, none⟩) (by
            intro q hq e
            rcases hq with hq | hq
            · exact ho5 (by have e' : q = g := e; rw [← e']; exact hq.symm)
            · have : q = g := e
              omega) _)
      · exact KeepBut.set_ ⟨Nat.le_trans K5.out.2.2.1 hg7.size, fun b hb h1 h2 => (hg7.block b (by have := K5.out.2.2.1; omega) h2).trans (K5.out.2.2.2 b hb h1)⟩ _ _
      · intro b hb
        rcases hat7 with e | ⟨b', e, hb'⟩
        · exact .inl (by rw [← e]; exact hb)
        · rw [e] at hb
          injection hb with hb
          exact .inr (by have := K5.out.2.2.1; omega)
    · have hv : validB wd l = false := by simpa using hv
      replace HNB := Aside0.mk (show noteB wd l t k i = false from by unfold noteB; rw [if_neg hp, if_pos ht]; exact hv)
      replace HNL := Aside0.mk (show noteL wd l t k i = l from by unfold noteL; rw [if_neg hp, if_pos ⟨ht, hv⟩])
      replace HNT := Aside0.mk (show noteT wd l t k i = t from by unfold noteT; rw [if_neg hp, if_neg (fun q => by rw [hv] at q; cases q.2)])
      have p1 : decide (t < verN wd k i) = true := decide_eq_true ht
      rw [hv] at VA
      rw [← hpp] at PL
      clear hp hpn hpp hv
      have hN := heap_alloc_new w (.cells (nowA wd 24) 39)
      have hb1 := below_alloc (Below.refl w.heap.size w) (.cells (nowA wd 24) 39)
      have K1 := Aside0.mk (show IsSt w0 (w.alloc (.cells (nowA wd 24) 39)) g l t (.slice A l.length c) ∧ Below w0.heap.size w0 (w.alloc (.cells (nowA wd 24) 39)) ∧ w.heap.size ≤ (w.alloc (.cells (nowA wd 24) 39)).heap.size ∧ (∀ b, b < w.heap.size → b ≠ g → (w.alloc (.cells (nowA wd 24) 39)).heap[b]? = w.heap[b]?) from ⟨hI.below hb1, hB.trans (hb1.mono hB.size), hb1.size, fun b hb9 _ => hb1.block b hb9⟩)
      have N1 := Aside0.mk hN
      have hgw : g < w.heap.size := blk_lt hI.1
      generalize verN wd k i = vn at OF p1 ht
      clear hI hB hN hb1
      go_enter Try.func16, Try.ntmps16
      go_upto_region 1 with (fail)
      generalize w.alloc (.cells (nowA wd 24) 39) = w1 at K1 N1 ⊢
      generalize w.heap.size = gx at N1 hgw ⊢
      have a1 : IsNowV w1 (.pointer (some ⟨gx, 0, none⟩)) := ⟨gx, rfl, _, N1.out, nowA_size _ _⟩
      have b1 : nowV w1 (.pointer (some ⟨gx, 0, none⟩)) = nowA wd 24 := nowAt_eq N1.out
      go_wp2_with (fail)
      (refine (OF _).mono ?_; rintro e w2 ⟨rfl, hb2⟩; have K2 := Aside0.mk (show IsSt w0 w2 g l t (.slice A l.length c) ∧ Below w0.heap.size w0 w2 ∧ w.heap.size ≤ w2.heap.size ∧ (∀ b, b < w.heap.size → b ≠ g → w2.heap[b]? = w.heap[b]?) from ⟨K1.out.1.below hb2, K1.out.2.1.trans (hb2.mono K1.out.2.1.size), Nat.le_trans K1.out.2.2.1 hb2.size, fun b hb9 hg9 => (hb2.block b (Nat.lt_of_lt_of_le hb9 K1.out.2.2.1)).trans (K1.out.2.2.2 b hb9 hg9)⟩); have N2 := Aside0.mk (show w2.heap[gx]? = some (.cells (nowA wd 24) 39 (0, 0)) from (hb2.block gx (blk_lt N1.out)).trans N1.out); clear hb2)
      go_wp2_with (fail)
      (refine (PL _ K2.out.1).mono ?_; rintro e w3 ⟨rfl, hb3⟩; have K3 := Aside0.mk (show IsSt w0 w3 g l t (.slice A l.length c) ∧ Below w0.heap.size w0 w3 ∧ w.heap.size ≤ w3.heap.size ∧ (∀ b, b < w.heap.size → b ≠ g → w3.heap[b]? = w.heap[b]?) from ⟨K2.out.1.below hb3, K2.out.2.1.trans (hb3.mono K2.out.2.1.size), Nat.le_trans K2.out.2.2.1 hb3.size, fun b hb9 hg9 => (hb3.block b (Nat.lt_of_lt_of_le hb9 K2.out.2.2.1)).trans (K2.out.2.2.2 b hb9 hg9)⟩); have N3 := Aside0.mk (show w3.heap[gx]? = some (.cells (nowA wd 24) 39 (0, 0)) from (hb3.block gx (blk_lt N2.out)).trans N2.out); have a3 : IsNowV w3 (.pointer (some ⟨gx, 0, none⟩)) := ⟨gx, rfl, _, N3.out, nowA_size _ _⟩; have b3 : nowV w3 (.pointer (some ⟨gx, 0, none⟩)) = nowA wd 24 := nowAt_eq N3.out; have s3 : w3.cell? ⟨g, 1, none⟩ = some (.int .i64 t) := (blk_cell K3.out.1.1 1).trans rfl; have l3 : w3.cell? ⟨g, 0, none⟩ = some (.slice A l.length c) := (blk_cell K3.out.1.1 0).trans rfl;  clear hb3)
      go_wp2_with (fail)
      (refine (VA _ K3.out.1).mono ?_; rintro e w4 ⟨rfl, hb4⟩; have K4 := Aside0.mk (show IsSt w0 w4 g l t (.slice A l.length c) ∧ Below w0.heap.size w0 w4 ∧ w.heap.size ≤ w4.heap.size ∧ (∀ b, b < w.heap.size → b ≠ g → w4.heap[b]? = w.heap[b]?) from ⟨K3.out.1.below hb4, K3.out.2.1.trans (hb4.mono K3.out.2.1.size), Nat.le_trans K3.out.2.2.1 hb4.size, fun b hb9 hg9 => (hb4.block b (Nat.lt_of_lt_of_le hb9 K3.out.2.2.1)).trans (K3.out.2.2.2 b hb9 hg9)⟩); have N4 : w4.heap[gx]? = some (.cells (nowA wd 24) 39 (0, 0)) := (hb4.block gx (blk_lt N3.out)).trans N3.out; have s4 : w4.cell? ⟨gx, 24, none⟩ = some (.int .i64 (wd.length : Int)) := (blk_cell N4 24).trans (nowA_last wd); have l4 : w4.cell? ⟨g, 0, none⟩ = some (.slice A l.length c) := (blk_cell K4.out.1.1 0).trans rfl; have s5 : w4.cell? ⟨g, 1, none⟩ = some (.int .i64 t) := (blk_cell K4.out.1.1 1).trans rfl; have f5 := blk_frozen K4.out.1.1; clear hb4 N4)
      go_wp2
      go_ret
      exact ⟨by rw [HNB.out]; rfl, _, by rw [HNL.out, HNT.out]; exact K4.out.1, K4.out.2.1, ⟨K4.out.2.2.1, fun b hb9 hg9 _ => K4.out.2.2.2 b hb9 hg9⟩, fun b hb9 => .inl hb9⟩
  · replace HNB := Aside0.mk (show noteB wd l t k i = true from by unfold noteB; rw [if_neg hp, if_neg ht])
    replace HNL := Aside0.mk (show noteL wd l t k i = l ++ [⟨k, i, verN wd k i⟩] from by unfold noteL; rw [if_neg hp, if_neg (fun q => ht q.1)])
    replace HNT := Aside0.mk (show noteT wd l t k i = t from by unfold noteT; rw [if_neg hp, if_neg (fun q => ht q.1)])
    have p1 : decide (t < verN wd k i) = false := decide_eq_false ht
    rw [← hpp] at PL
    clear hp hpn hpp VA
    have hN := heap_alloc_new w (.cells (nowA wd 24) 39)
    have hb1 := below_alloc (Below.refl w.heap.size w) (.cells (nowA wd 24) 39)
    have K1 := Aside0.mk (show IsSt w0 (w.alloc (.cells (nowA wd 24) 39)) g l t (.slice A l.length c) ∧ Below w0.heap.size w0 (w.alloc (.cells (nowA wd 24) 39)) ∧ w.heap.size ≤ (w.alloc (.cells (nowA wd 24) 39)).heap.size ∧ (∀ b, b < w.heap.size → b ≠ g → (w.alloc (.cells (nowA wd 24) 39)).heap[b]? = w.heap[b]?) from ⟨hI.below hb1, hB.trans (hb1.mono hB.size), hb1.size, fun b hb9 _ => hb1.block b hb9⟩)
    have N1 := Aside0.mk hN
    have hgw : g < w.heap.size := blk_lt hI.1
    generalize verN wd k i = vn at OF HNL p1 ht
    clear hI hB hN hb1
    go_enter Try.func16, Try.ntmps16
    go_upto_region 1 with (fail)
    generalize w.alloc (.cells (nowA wd 24) 39) = w1 at K1 N1 ⊢
    generalize w.heap.size = gx at N1 hgw ⊢
    have a1 : IsNowV w1 (.pointer (some ⟨gx, 0, none⟩)) := ⟨gx, rfl, _, N1.out, nowA_size _ _⟩
    have b1 : nowV w1 (.pointer (some ⟨gx, 0, none⟩)) = nowA wd 24 := nowAt_eq N1.out
    go_wp2_with (fail)
    (refine (OF _).mono ?_; rintro e w2 ⟨rfl, hb2⟩; have K2 := Aside0.mk (show IsSt w0 w2 g l t (.slice A l.length c) ∧ Below w0.heap.size w0 w2 ∧ w.heap.size ≤ w2.heap.size ∧ (∀ b, b < w.heap.size → b ≠ g → w2.heap[b]? = w.heap[b]?) from ⟨K1.out.1.below hb2, K1.out.2.1.trans (hb2.mono K1.out.2.1.size), Nat.le_trans K1.out.2.2.1 hb2.size, fun b hb9 hg9 => (hb2.block b (Nat.lt_of_lt_of_le hb9 K1.out.2.2.1)).trans (K1.out.2.2.2 b hb9 hg9)⟩); have N2 := Aside0.mk (show w2.heap[gx]? = some (.cells (nowA wd 24) 39 (0, 0)) from (hb2.block gx (blk_lt N1.out)).trans N1.out); clear hb2)
    go_wp2_with (fail)
    (refine (PL _ K2.out.1).mono ?_; rintro e w3 ⟨rfl, hb3⟩; have K3 := Aside0.mk (show IsSt w0 w3 g l t (.slice A l.length c) ∧ Below w0.heap.size w0 w3 ∧ w.heap.size ≤ w3.heap.size ∧ (∀ b, b < w.heap.size → b ≠ g → w3.heap[b]? = w.heap[b]?) from ⟨K2.out.1.below hb3, K2.out.2.1.trans (hb3.mono K2.out.2.1.size), Nat.le_trans K2.out.2.2.1 hb3.size, fun b hb9 hg9 => (hb3.block b (Nat.lt_of_lt_of_le hb9 K2.out.2.2.1)).trans (K2.out.2.2.2 b hb9 hg9)⟩); have N3 := Aside0.mk (show w3.heap[gx]? = some (.cells (nowA wd 24) 39 (0, 0)) from (hb3.block gx (blk_lt N2.out)).trans N2.out); have a3 : IsNowV w3 (.pointer (some ⟨gx, 0, none⟩)) := ⟨gx, rfl, _, N3.out, nowA_size _ _⟩; have b3 : nowV w3 (.pointer (some ⟨gx, 0, none⟩)) = nowA wd 24 := nowAt_eq N3.out; have s3 : w3.cell? ⟨g, 1, none⟩ = some (.int .i64 t) := (blk_cell K3.out.1.1 1).trans rfl; have l3 : w3.cell? ⟨g, 0, none⟩ = some (.slice A l.length c) := (blk_cell K3.out.1.1 0).trans rfl;  clear hb3)
    go_upto_region 11 with (fail)
    have K5 := K3
    clear a1 b1 a3 b3 s3 l3
    generalize w3 = w5 at K5 ⊢
    have d0 : w5.cell? ⟨g, 0, none⟩ = some (.slice A l.length c) := (blk_cell K5.out.1.1 0).trans rfl
    have hR5 : k47.R 47 w5 w0.heap.size (fun q => (Value.slice A l.length c).ownBlock = some q ∨ w5.heap.size ≤ q) (.slice A l.length c) l := Kd.R_mono K5.out.1.2.2 (fun _ hq => .inl hq)
    have hB5 := K5.out.2.1
    have hlt5 : g < w5.heap.size := blk_lt K5.out.1.1
    have ho5 : some g ≠ (Value.slice A l.length c).ownBlock := K5.out.1.own
    go_wp2_with ((with_reducible refine gate_builtin (b := .append) (xs := #[.tmp 52, .tmp 57]) rfl ?_); (try (refine gate_guard (by rfl) ?_; dsimp only)); at_builtin; refine Kd.R_append k47 (w0 := w0) (W := w5) w0.heap.size rfl (.tmp 52) (.tmp 57) 76 47 (.agg #[(.int .i64 0), (.int .i64 0), (.int .i64 0)]) 24 rfl hu76 info47D rfl (by decide) (by omega) (.slice A l.length c) l (⟨k, i, vn⟩ : S47) [.int .i64 k, .int .i64 i, .int .i64 vn] (fun q => (Value.slice A l.length c).ownBlock = some q ∨ w5.heap.size ≤ q) (fun _ => False) (by first | (go_simp; done) | (go_simp; rfl)) (by first | (go_simp; done) | (go_simp; rfl)) (k47_mkM _ _ _ (⟨k, i, vn⟩ : S47)) (fun _ hk => hk.elim) (fun _ hk => .inr hk) hR5 hB5 hB5.size (by omega) ?_; intro v7 w7 hO7 hB7 hg7 hat7; have h7 := (hg7.block g hlt5 ho5).trans K5.out.1.1; have d4 : w7.cell? ⟨g, 0, none⟩ = some (.slice A l.length c) := (blk_cell h7 0).trans rfl; have f4 := blk_frozen h7 0; obtain ⟨A7, c7, rfl⟩ := Kd.R_slice hO7)
    go_ret
    have hgo : some g ≠ (Value.slice A7 (l ++ [(⟨k, i, vn⟩ : S47)]).length c7).ownBlock := Kd.R_ne hO7 h7 (by decide)
    refine ⟨by rw [HNB.out]; rfl, .slice A7 (l ++ [(⟨k, i, vn⟩ : S47)]).length c7, ?_, below_set hB7 K5.out.1.2.1, ?_, ?_⟩
    · rw [HNL.out, HNT.out]
      refine ⟨?_, K5.out.1.2.1, ?_⟩
      · simpa using blk_set h7 0 (.slice A7 (l ++ [(⟨k, i, vn⟩ : S47)]).length c7)
      · exact R_exact47 (Kd.R_far hO7 (p := ⟨g, 0, none⟩) (by
          intro q hq e
          rcases hq with hq | hq
          · exact ho5 (by have e' : q = g := e; rw [← e']; exact hq.symm)
          · have : q = g := e
            omega) _)
    · exact KeepBut.set_ ⟨Nat.le_trans K5.out.2.2.1 hg7.size, fun b hb h1 h2 => (hg7.block b (by have := K5.out.2.2.1; omega) h2).trans (K5.out.2.2.2 b hb h1)⟩ _ _
    · intro b hb
      rcases hat7 with e | ⟨b', e, hb'⟩
      · exact .inl (by rw [← e]; exact hb)
      · rw [e] at hb
        injection hb with hb
        exact .inr (by have := K5.out.2.2.1; omega)
set_option maxHeartbeats 1600000 in
set_option maxRecDepth 100000 in
theorem values_ok (A : Option Addr) (n c : Nat) (w : World) : Calls Try.prog 37 #[.slice A n c] w fun e w' => e = .returned (.func (.func 46) #[] #[.pointer (some ⟨w.heap.size, 0, none⟩)]) ∧ w' = w.alloc (.cells #[.slice A n c] 76) := by
  go_enter Try.func37, Try.ntmps37
  go_wp2
  go_ret
  exact ⟨rfl, rfl⟩
set_option maxHeartbeats 1600000 in
set_option maxRecDepth 100000 in
theorem all_ok (g : Nat) (l : List S47) (t : Int) (A : Option Addr) (c : Nat) (w0 w : World) (hI : IsSt w0 w g l t (.slice A l.length c)) :
    Calls Try.prog 19 #[.pointer (some ⟨g, 0, none⟩)] w fun e w' => e = .returned (.func (.func 46) #[] #[.pointer (some ⟨w.heap.size, 0, none⟩)]) ∧ w' = w.alloc (.cells #[.slice A l.length c] 76) := by
  have hu78 := Try.underlying78
  have c0 : w.cell? ⟨g, 0, none⟩ = some (.slice A l.length c) := (blk_cell hI.1 0).trans rfl
  go_enter Try.func19, Try.ntmps19
  go_wp2_with (go_at_call 37; refine (values_ok _ _ _ _).mono ?_; rintro e w7 ⟨rfl, rfl⟩)
  go_ret
  exact ⟨rfl, rfl⟩
set_option maxRecDepth 100000 in
theorem all_nil (w : World) : Calls Try.prog 19 #[.pointer none] w fun e w' => e = .returned (.func (.func 36) #[] #[]) ∧ w' = w := by
  go_enter Try.func19, Try.ntmps19
  go_wp2
  go_ret
  exact ⟨rfl, rfl⟩
def ent (x : S47) : Array Value := #[.int .i64 x.f0, .int .i64 x.f1, .int .i64 x.f2]
section
attribute [local go_sem] Oper.semAt_some
set_option maxHeartbeats 2000000 in
set_option maxRecDepth 100000 in
theorem values_stops (F : Fence) (n : Nat) (h46 : F.fn 46) (hro : F.round = none) (hn : 1 ≤ n) (Bs : Nat) (A : Option Addr) (c : Nat) (l : List S47) (hl : l.length ≤ 1000) (w : World) (n₀ : Nat) (hn0 : n₀ = w.heap.size) (hBs : w.cell? ⟨Bs, 0, none⟩ = some (.slice A l.length c)) (hC : Kd.C k47 w A l.length l) :
    SeqStopsK F n Try.prog 46 #[.pointer (some ⟨Bs, 0, none⟩)] (fun x : S47 => #[Value.agg (ent x)]) (Below n₀) (fun ys => ys = l) (fun pre => pre <+: l) l.length w := fun lp J Jx W hW hJ hJx hY h0 => by
  have hu47 := Try.underlying47
  have hu76 := Try.underlying76
  have hBl := World.block_lt_of_cell? w _ hBs
  have cB : W.cell? ⟨Bs, 0, none⟩ = some (.slice A l.length c) := (hW.cell (p := ⟨Bs, 0, none⟩) hBl).trans hBs
  refine callsIn_of_wp Try.func46 rfl h46 ?_ hro
  simp only [Try.ntmps46, List.size_toArray, List.length_cons, List.length_nil, Nat.reduceAdd, Nat.reduceSub, Array.replicate_succ, Array.replicate_zero, List.push_toArray, List.append_toArray, List.nil_append, List.cons_append]
  gi_wp2
  subst hn0
  gi_loopw [7] (fun i wr => ∃ k : Nat, k ≤ l.length ∧ i = .int .i64 (k : Int) ∧ J (l.take k) wr ∧ Below w.heap.size W wr)
    (fun i _ => l.length - (intOf i).toNat)
  case atStart => exact ⟨0, Nat.zero_le _, rfl, h0, Below.refl _ _⟩
  case round =>
    obtain ⟨k, hk, rfl, hJs, hnx⟩ := hrel
    by_cases hlt : k < l.length
    · have q0 : decide ((k : Int) < (l.length : Int)) = true := decide_eq_true (by omega)
      obtain ⟨ad, rfl, y0, y1, y2⟩ := at_T47 (Kd.C_below hC (hW.trans hnx)) (k : Int) (by omega) (by omega)
      simp only [Int.toNat_natCast] at y0 y1 y2
      obtain ⟨⟨a, b, d⟩, hx⟩ : ∃ x, x = rd_T47 l (k : Int) := ⟨_, rfl⟩
      rw [← hx] at y0 y1 y2
      have htk : l.take (k + 1) = l.take k ++ [⟨a, b, d⟩] := by rw [rd47_mem hlt, hx]
      have p0 : ((0 : Int) ≤ (k : Int)) = True := eq_true (by omega)
      have p1 : ((k : Int) < (l.length : Int)) = True := eq_true (by omega)
      have hk9 : k ≤ 1000 := by omega
      have hJa : J (l.take k) (wr.alloc (.cells #[.int .i64 a, .int .i64 b, .int .i64 d] 47)) := hJ _ _ _ none hJs (World.grownBy_alloc wr _ none) (fun r e => by cases e)
      obtain ⟨fn, tmps, assign, body, hy, hR⟩ := hY (l.take k) ⟨a, b, d⟩ _ hJa (by rw [List.length_take]; omega)
      have hy' : (Instr.yield lp #[.agg #[.int .i64 a, .int .i64 b, .int .i64 d]]).run Try.prog (wr.alloc (.cells #[.int .i64 a, .int .i64 b, .int .i64 d] 47)) = .ok (.round lp fn tmps assign body) (wr.alloc (.cells #[.int .i64 a, .int .i64 b, .int .i64 d] 47)) := hy
      have HX := Aside0.mk (And.intro hx htk)
      clear hx htk hy
      gi_wp2
      refine hR.mono ?_
      rintro e W3 (⟨rfl, hJ3, hk3⟩ | ⟨rfl, hJx3⟩)
      · gi_wp2
        go_roundw
        case rel => exact ⟨k + 1, by omega, by rw [Int.natCast_add]; rfl, by rw [HX.out.2]; exact hJ3, (hnx.trans ((below_alloc (Below.refl wr.heap.size wr) _).mono (Nat.le_trans hW.size hnx.size))).trans hk3⟩
        case measure => simp [intOf]; omega
      · gi_wp2
        refine bodyPost_ret (results_none rfl _ _ _) rfl ?_
        exact ⟨⟨_, rfl⟩, .inr ⟨l.take k ++ [⟨a, b, d⟩], by rw [← HX.out.2]; exact List.take_prefix _ _, hJx3⟩⟩
    · have q0 : decide ((k : Int) < (l.length : Int)) = false := decide_eq_false (by omega)
      have hkl : k = l.length := by omega
      have hJl : J l wr := by rw [hkl, List.take_length] at hJs; exact hJs
      clear hkl
      gi_wp2
      go_end0
      exact ⟨⟨_, rfl⟩, .inl ⟨l, rfl, hJl⟩⟩
end
/-! ### a region that draws its order, in a round -/
theorem rowsIn_wide {n l : Nat} {P : Program} {row : String} {args : Array Value} {w : World} {R : Value → World → Prop} (h : Rows P row args w R) : RowsIn (Fence.wide.inRound l) n P row args w R :=
  fun c cs _ => let ⟨v, w', q, s⟩ := h c cs; ⟨v, w', q, stepsIn_wide.2 s⟩
theorem wpIn_of_wp {l n : Nat} {P : Program} {o : Oper} {a : Act} {w : World} {K : Act → World → Prop} {Q : Exit → Act → World → Prop} (hd : ∀ c, o.op ≠ .defer c) (h : o.wp P a w K Q) : o.wpIn (Fence.wide.inRound l) n P a w K Q := by
  refine ⟨fun _ _ => trivial, ?_⟩
  rw [Oper.semAt_eq _ _ _ hd]
  unfold Oper.wp at h
  generalize (execOp a.eval o).run P w = r at h
  cases r with
  | ok x w' =>
    cases x <;> simp only [Oper.upon, Oper.uponIn] at h ⊢ <;>
      first
        | exact h
        | exact ⟨(fun q => by cases q), CallsIn.inRound l (callsIn_wide.2 h)⟩
        | exact ⟨(fun q => by cases q), rowsIn_wide h⟩
  | halt x w' => cases x <;> simp only [Oper.upon, Oper.uponIn] at h ⊢ <;> exact h
def noDefer (ops : Array Oper) : Bool := ops.all fun o => match o.op with | .defer .. => false | _ => true
theorem noDefer_spec {ops : Array Oper} (h : noDefer ops = true) {i : Nat} {o : Oper} (ho : ops[i]? = some o) (c : Call) : o.op ≠ .defer c := by
  intro e
  have hi := (Array.getElem?_eq_some_iff.1 ho)
  obtain ⟨hlt, rfl⟩ := hi
  have := (Array.all_eq_true.1 h) i hlt
  rw [e] at this
  cases this
theorem wpAnyIn_of {l n : Nat} {P : Program} {md : Region.Mode} {ops : Array Oper} {Q : Exit → Act → World → Prop} (hd : noDefer ops = true) (hq : ¬ LetsOut Q) : ∀ (fuel : Nat) (listed : Array Bool) (a : Act) (w : World), wpAny P md ops Q fuel listed a w → wpAnyIn (Fence.wide.inRound l) n P md ops Q fuel listed a w
  | 0, _, _, _, h => h
  | fuel + 1, listed, a, w, h => ⟨h.1, fun i hi => by
      have hx := h.2 i hi
      unfold wpOp at hx
      unfold wpOpIn
      split
      · rename_i ho
        simp only [ho] at hx
        exact wpAnyIn_of hd hq fuel _ _ _ hx
      · rename_i o ho
        simp only [ho] at hx
        split
        · rename_i hw
          simp only [hw, if_true] at hx
          rcases hx with hx | ⟨_, hx⟩
          · exact Oper.wpIn_mono (fun a w h' => wpAnyIn_of hd hq fuel _ a w h') (wpIn_of_wp (noDefer_spec hd ho) hx)
          · exact absurd hx hq
        · rename_i hw
          simp only [hw] at hx
          exact ⟨fun _ _ => trivial, wpAnyIn_of hd hq fuel _ _ _ hx⟩⟩
theorem wpIn_round_held {l n id : Nat} {P : Program} {ops : Array Oper} {Q : Exit → Act → World → Prop} {S : World → Prop} {a : Act} {w : World} (hm : P.follows .mixedOrders = true) (hd : noDefer ops = true) (hq : ¬ LetsOut Q) (hS : S w.drew)
    (h : S w.drew → wpAnyH P .any ops Q S ops.size (Array.replicate ops.size false) a w.drew) : (Code.region id ops true).wpIn (Fence.wide.inRound l) n P Q a w :=
  wpIn_region_any hm (wpAnyIn_of hd hq _ _ _ _ (wpAny_of_held _ _ _ _ (h hS)))
def thenE (wd : List S24) (t : Int) (e : S47) : Bool := (ver wd ⟨e.f0, e.f1⟩ t : Int) == e.f2
def thenB (wd : List S24) (l : List S47) (t : Int) : Bool := l.all (thenE wd t)
theorem results_bool {fn : Func} {p : Tmp} (h : fn.results = #[.cell p 4]) (tmps : Array Value) (w : World) (g : Nat) (v : Value) (hp : tmps.getD p undef = .pointer (some ⟨g, 0, none⟩)) (hc : w.cell? ⟨g, 0, none⟩ = some v) : (results fn tmps).run Try.prog w = .ok v w := by
  have hu4 := Try.underlying4
  have hl : (loadVar 4 ⟨g, 0, none⟩).run Try.prog w = .ok v w := by go_simp
  have hp' : tmps[p]?.getD undef = .pointer (some ⟨g, 0, none⟩) := by simpa using hp
  simp [results, h, hp', asAddr, hl]
theorem keepsFrom_below {B : Nat} {W W' : World} (h : Below W.heap.size W W') : KeepsFrom B W W' := ⟨h.size, fun k o hk h0 ho => (h.block k (Array.getElem?_eq_some_iff.1 h0).1).trans h0⟩
theorem cells_own {W W' : World} {B : Nat} {C : Array Value} {e : TypeId} {f : Nat × Nat} {row : Option Nat} (h : W.heap[B]? = some (.cells C e f)) (hg : W.grownBy W' row) (hr : ∀ r, row = some r → ∃ o : Obj, W.heap[r]? = some o ∧ o.isCells = false) : W'.heap[B]? = some (.cells C e f) :=
  (hg.block B (Array.getElem?_eq_some_iff.1 h).1 (fun q => by obtain ⟨o, ho, hc⟩ := hr B q.symm; rw [h] at ho; cases ho; cases hc)).trans h
theorem nowA_nil : nowA [] 24 = #[.int .i64 0, .int .i64 0, .int .i64 0, .int .i64 0, .int .i64 0, .int .i64 0, .int .i64 0, .int .i64 0, .int .i64 0, .int .i64 0, .int .i64 0, .int .i64 0, .int .i64 0, .int .i64 0, .int .i64 0, .int .i64 0, .int .i64 0, .int .i64 0, .int .i64 0, .int .i64 0, .int .i64 0, .int .i64 0, .int .i64 0, .int .i64 0, .int .i64 0] := by rfl
set_option maxHeartbeats 3200000 in
set_option maxRecDepth 100000 in
theorem alive_ok (w : World) : Calls Try.prog 13 #[] w fun e w' => e = .returned (.bool true) ∧ Below w.heap.size w w' := by
  have hu39 := Try.underlying39
  have NT := fun v W (h : IsSt w W w.heap.size [] 0 v) hB => note_ok w.heap.size [] 0 v [] 0 1 w W h hB (by decide)
  have e1 : noteB [] [] 0 0 1 = true := by decide
  have e2 : noteL [] [] 0 0 1 = [⟨0, 1, 0⟩] := by rfl
  have e3 : noteT [] [] 0 0 1 = 0 := by decide
  rw [e1, e2, e3, nowA_nil] at NT
  clear e1 e2 e3
  have hb := below_alloc (Below.refl w.heap.size w) (.cells #[.slice none 0 0, .int .i64 0] 78)
  have HS := Aside0.mk (And.intro (new_isSt 0 w w (Below.refl _ _)) hb)
  clear hb
  go_enter Try.func13, Try.ntmps13
  go_wp2_with (fail)
  refine (new_ok 0 w).mono ?_
  rintro e w1 ⟨rfl, rfl⟩
  go_wp2_with (fail)
  refine (NT _ _ HS.out.1 HS.out.2).mono ?_
  rintro e w2 ⟨rfl, v2, hI2, hB2, _, _⟩
  have H2 := Aside0.mk (And.intro hI2 hB2)
  clear hI2 hB2 NT HS
  go_wp2_with (fail)
  refine (len_ok _ _ _ _ _ _ H2.out.1).mono ?_
  rintro e w3 ⟨rfl, rfl⟩
  go_wp2_with (fail)
  refine (has_ok _ _ _ _ 0 1 _ _ H2.out.1 (by decide)).mono ?_
  rintro e w4 ⟨rfl, hb4⟩
  go_wp2
  go_ret
  exact ⟨rfl, H2.out.2.trans (hb4.mono H2.out.2.size)⟩
/-! ### what great tells -/
def inT (x : S24) : Prop := 0 ≤ x.f0 ∧ x.f0 ≤ 2 ∧ 0 ≤ x.f1 ∧ x.f1 ≤ 7
instance (x : S24) : Decidable (inT x) := inferInstanceAs (Decidable (_ ∧ _))
theorem is_eq (x : S24) : countermandlaw12_is.f x.f0 x.f1 = some (decide (inT x)) := by
  unfold countermandlaw12_is.f
  by_cases h : inT x
  · have h' := h
    unfold inT at h'
    rw [decide_eq_true h, if_pos h'.1, if_pos h'.2.1, if_pos h'.2.2.1, decide_eq_true h'.2.2.2]
  · have h' := h
    unfold inT at h'
    rw [decide_eq_false h]
    by_cases h0 : x.f0 ≥ 0
    · rw [if_pos h0]
      by_cases h1 : x.f0 ≤ 2
      · rw [if_pos h1]
        by_cases h2 : x.f1 ≥ 0
        · rw [if_pos h2, decide_eq_false (fun h3 => h' ⟨h0, h1, h2, h3⟩)]
        · rw [if_neg h2]
      · rw [if_neg h1]
    · rw [if_neg h0]
theorem wrap_next (i n : Nat) (h : i < n) (hn : n ≤ 9223372036854775807) : wrap64 ((i : Int) + 1) = ((i + 1 : Nat) : Int) := by unfold wrap64; omega
theorem rd24_drop {l : List S24} {i : Nat} {x : S24} {r : List S24} (h : l.drop i = x :: r) : rd_T24 l (i : Int) = x ∧ i < l.length ∧ l.drop (i + 1) = r := by
  have hi : i < l.length := by
    rcases Nat.lt_or_ge i l.length with h' | h'
    · exact h'
    · rw [List.drop_eq_nil_of_le h'] at h; cases h
  rw [List.drop_eq_getElem_cons hi] at h
  injection h with h1 h2
  refine ⟨?_, hi, h2⟩
  unfold rd_T24
  rw [Int.toNat_natCast, List.getD_eq_getElem?_getD, List.getElem?_eq_getElem hi]
  exact h1
theorem rd34_drop {l : List S34} {i : Nat} {x : S34} {r : List S34} (h : l.drop i = x :: r) : rd_T34 l (i : Int) = x ∧ i < l.length ∧ l.drop (i + 1) = r := by
  have hi : i < l.length := by
    rcases Nat.lt_or_ge i l.length with h' | h'
    · exact h'
    · rw [List.drop_eq_nil_of_le h'] at h; cases h
  rw [List.drop_eq_getElem_cons hi] at h
  injection h with h1 h2
  refine ⟨?_, hi, h2⟩
  unfold rd_T34
  rw [Int.toNat_natCast, List.getD_eq_getElem?_getD, List.getElem?_eq_getElem hi]
  exact h1
theorem drop_nil_eq {α : Type} {l : List α} {i : Nat} (h : l.drop i = []) (hi : i ≤ l.length) : i = l.length := by
  have := List.drop_eq_nil_iff.1 h
  omega
theorem great_l1 (l : List S34) (hl : l.length ≤ 80) : ∀ (r : List S34) (i : Nat), l.drop i = r → i ≤ l.length →
    ∃ b, Ev (fun k => countermandlaw12_great.l1 k l (l.length : Int) (i : Int)) b ∧ (b = false → ∀ x ∈ r, inT x.f0)
  | [], i, h, hi => by
    have hi' := drop_nil_eq h hi
    refine ⟨false, Ev.step (f := fun _ => some false) (fun k => ?_) (Ev.now _), fun _ x hx => by cases hx⟩
    rw [countermandlaw12_great.l1, if_neg (by omega)]
  | x :: r, i, h, hi => by
    obtain ⟨hx, hlt, hr⟩ := rd34_drop h
    have hw := wrap_next i l.length hlt (by omega)
    by_cases h1 : inT x.f0
    · obtain ⟨b, hb, ht⟩ := great_l1 l hl r (i + 1) hr (by omega)
      refine ⟨b, Ev.step (fun k => ?_) hb, fun e y hy => ?_⟩
      · rw [countermandlaw12_great.l1, if_pos (by omega), if_pos (by omega), if_pos (by omega), hx, is_eq, Option.bind_some, if_pos (decide_eq_true h1), hw]
      · rcases List.mem_cons.1 hy with rfl | hy
        · exact h1
        · exact ht e y hy
    · refine ⟨true, Ev.step (f := fun _ => some true) (fun k => ?_) (Ev.now _), fun e => by cases e⟩
      rw [countermandlaw12_great.l1, if_pos (by omega), if_pos (by omega), if_pos (by omega), hx, is_eq, Option.bind_some, if_neg (by rw [decide_eq_false h1]; decide)]
theorem great_l0 (a : List S24) (l : List S34) (ha : a.length ≤ 40) (hl : l.length ≤ 80) : ∀ (r : List S24) (i : Nat), a.drop i = r → i ≤ a.length →
    ∃ b, Ev (fun k => countermandlaw12_great.l0 k l a (a.length : Int) (i : Int)) b ∧ (b = false → (∀ x ∈ r, inT x) ∧ ∀ x ∈ l, inT x.f0)
  | [], i, h, hi => by
    have hi' := drop_nil_eq h hi
    obtain ⟨b, hb, ht⟩ := great_l1 l hl l 0 rfl (Nat.zero_le _)
    refine ⟨b, Ev.step (fun k => ?_) hb, fun e => ⟨(fun x hx => by cases hx), ht e⟩⟩
    rw [countermandlaw12_great.l0, if_neg (by omega)]
    rfl
  | x :: r, i, h, hi => by
    obtain ⟨hx, hlt, hr⟩ := rd24_drop h
    have hw := wrap_next i a.length hlt (by omega)
    by_cases h1 : inT x
    · obtain ⟨b, hb, ht⟩ := great_l0 a l ha hl r (i + 1) hr (by omega)
      refine ⟨b, Ev.step (fun k => ?_) hb, fun e => ⟨fun y hy => ?_, (ht e).2⟩⟩
      · rw [countermandlaw12_great.l0, if_pos (by omega), if_pos (by omega), if_pos (by omega), hx, is_eq, Option.bind_some, if_pos (decide_eq_true h1), hw]
      · rcases List.mem_cons.1 hy with rfl | hy
        · exact h1
        · exact (ht e).1 y hy
    · refine ⟨true, Ev.step (f := fun _ => some true) (fun k => ?_) (Ev.now _), fun e => by cases e⟩
      rw [countermandlaw12_great.l0, if_pos (by omega), if_pos (by omega), if_pos (by omega), hx, is_eq, Option.bind_some, if_neg (by rw [decide_eq_false h1]; decide)]
theorem great_ev (a : List S24) (l : List S34) : ∃ b, Ev (fun k => countermandlaw12_great.f k a l) b ∧ (b = false → l.length ≤ 80 ∧ a.length ≤ 40 ∧ (∀ x ∈ a, inT x) ∧ ∀ x ∈ l, inT x.f0) := by
  by_cases h : (l.length : Int) > 80
  · refine ⟨true, Ev.congr (f := fun k => countermandlaw12_great.j0 k a l true) (fun k => ?_) (Ev.step (f := fun _ => some true) (fun k => ?_) (Ev.now _)), fun e => by cases e⟩
    · unfold countermandlaw12_great.f
      rw [if_pos h]
    · rw [countermandlaw12_great.j0, if_pos rfl]
  · by_cases h2 : (a.length : Int) > 40
    · refine ⟨true, Ev.congr (f := fun k => countermandlaw12_great.j0 k a l true) (fun k => ?_) (Ev.step (f := fun _ => some true) (fun k => ?_) (Ev.now _)), fun e => by cases e⟩
      · unfold countermandlaw12_great.f
        rw [if_neg h, decide_eq_true h2]
      · rw [countermandlaw12_great.j0, if_pos rfl]
    · obtain ⟨b, hb, ht⟩ := great_l0 a l (by omega) (by omega) a 0 rfl (Nat.zero_le _)
      refine ⟨b, Ev.congr (f := fun k => countermandlaw12_great.j0 k a l false) (fun k => ?_) (Ev.step (fun k => ?_) hb), fun e => ⟨by omega, by omega, (ht e).1, (ht e).2⟩⟩
      · unfold countermandlaw12_great.f
        rw [if_neg h, decide_eq_false h2]
      · rw [countermandlaw12_great.j0, if_neg (by decide)]
        rfl
/-! ### versions -/
theorem verI_snoc (l : List S24) (y x : S24) (t : Int) : ∀ i, i ≤ l.length → verI (l ++ [y]) x t i = verI l x t i
  | 0, _ => rfl
  | i + 1, h => by
    have hr : rd_T24 (l ++ [y]) (i : Int) = rd_T24 l (i : Int) := by
      unfold rd_T24
      rw [Int.toNat_natCast, List.getD_eq_getElem?_getD, List.getD_eq_getElem?_getD, List.getElem?_append_left (by omega)]
    rw [verI_succ, verI_succ, hr, verI_snoc l y x t i (by omega)]
theorem ver_snoc (l : List S24) (y x : S24) (t : Int) (ht : t ≤ (l.length : Int)) : ver (l ++ [y]) x t = ver l x t := by
  unfold ver
  rw [List.length_append]
  show verI (l ++ [y]) x t (l.length + 1) = _
  rw [verI_succ, if_neg (fun q => by omega), verI_snoc l y x t _ (Nat.le_refl _)]
theorem verI_time (l : List S24) (x : S24) (t T : Int) : ∀ (i : Nat), (i : Int) ≤ T → (verI l x T i : Int) ≤ t → verI l x t i = verI l x T i
  | 0, _, _ => rfl
  | i + 1, hT, h => by
    rw [verI_succ] at h ⊢
    rw [verI_succ]
    by_cases he : eq24 x (rd_T24 l (i : Int)) = true
    · rw [if_pos ⟨he, by omega⟩] at h ⊢
      rw [if_pos ⟨he, by omega⟩]
    · rw [if_neg (fun q => he q.1)] at h ⊢
      rw [if_neg (fun q => he q.1)]
      exact verI_time l x t T i (by omega) h
theorem ver_time (l : List S24) (x : S24) (t : Int) (h : (ver l x (l.length : Int) : Int) ≤ t) : ver l x t = ver l x (l.length : Int) := verI_time l x t (l.length : Int) l.length (Int.le_refl _) h
theorem ver_le (l : List S24) (x : S24) (t : Int) : ver l x t ≤ l.length := verI_le l x t l.length
theorem verN_in (l : List S24) (x : S24) (h : inT x) : verN l x.f0 x.f1 = (ver l x (l.length : Int) : Int) := by
  unfold verN
  exact if_pos h
/-- all that was read was so at the stamp -/
structure Once (wd : List S24) (l : List S47) (t t0 : Int) : Prop where
  ok : thenB wd l t = true
  in_ : ∀ e ∈ l, inT ⟨e.f0, e.f1⟩
  lo : t0 ≤ t
  hi : t ≤ (wd.length : Int)
theorem once_change {wd : List S24} {l : List S47} {t t0 : Int} (h : Once wd l t t0) (y : S24) : Once (wd ++ [y]) l t t0 := by
  refine ⟨?_, h.in_, h.lo, by rw [List.length_append]; have := h.hi; simp; omega⟩
  have hk := h.ok
  unfold thenB at hk ⊢
  rw [List.all_eq_true] at hk ⊢
  intro e he
  have := hk e he
  unfold thenE at this ⊢
  rw [ver_snoc wd y _ t h.hi]
  exact this
theorem once_note {wd : List S24} {l : List S47} {t t0 : Int} (h : Once wd l t t0) (x : S24) (hx : inT x) (hn : noteB wd l t x.f0 x.f1 = true) (h0 : t0 ≤ (wd.length : Int)) : Once wd (noteL wd l t x.f0 x.f1) (noteT wd l t x.f0 x.f1) t0 := by
  unfold noteB at hn
  unfold noteL noteT
  by_cases hp : 0 ≤ placeI l x.f0 x.f1
  · rw [if_pos hp, if_pos hp]
    exact h
  · rw [if_neg hp] at hn
    rw [if_neg hp, if_neg hp]
    by_cases ht : t < verN wd x.f0 x.f1
    · rw [if_pos ht] at hn
      rw [if_neg (fun q => by rw [hn] at q; cases q.2), if_pos ⟨ht, hn⟩]
      refine ⟨?_, ?_, h0, Int.le_refl _⟩
      · unfold thenB
        rw [List.all_append, Bool.and_eq_true]
        refine ⟨?_, ?_⟩
        · unfold validB at hn
          rw [List.all_eq_true] at hn ⊢
          intro e he
          have := hn e he
          unfold okE at this
          unfold thenE
          rw [verN_in wd ⟨e.f0, e.f1⟩ (h.in_ e he)] at this
          exact this
        · simp [thenE, verN_in wd x hx]
      · intro e he
        rcases List.mem_append.1 he with he | he
        · exact h.in_ e he
        · rw [List.mem_singleton.1 he]; exact hx
    · rw [if_neg (fun q => ht q.1), if_neg (fun q => ht q.1)]
      refine ⟨?_, ?_, h.lo, h.hi⟩
      · unfold thenB
        rw [List.all_append, Bool.and_eq_true]
        refine ⟨h.ok, ?_⟩
        rw [verN_in wd x hx] at ht ⊢
        simp only [List.all_cons, List.all_nil, Bool.and_true]
        unfold thenE
        show ((ver wd x t : Int) == (ver wd x (wd.length : Int) : Int)) = true
        rw [ver_time wd x t (by omega)]
        simp
      · intro e he
        rcases List.mem_append.1 he with he | he
        · exact h.in_ e he
        · rw [List.mem_singleton.1 he]; exact hx
theorem noteL_len (wd : List S24) (l : List S47) (t k i : Int) : (noteL wd l t k i).length ≤ l.length + 1 := by
  unfold noteL
  split
  · omega
  · split
    · omega
    · simp
/-! ### two states beside each other -/
theorem IsWd.pastSt {w0 W W' : World} {gw g : Nat} {wd : List S24} {l : List S47} {t : Int} {u v : Value} (hW : IsWd w0 W gw wd u) (hI : IsSt w0 W g l t v) (k : KeepBut W W' g v.ownBlock) : IsWd w0 W' gw wd u := by
  have h1 : gw ≠ g := fun e => by
    have a := hW.1
    rw [e, hI.1] at a
    injection a with a
    injection a with _ a _
    exact absurd a (by decide)
  have h2 : some gw ≠ v.ownBlock := Kd.R_ne hI.2.2 hW.1 (by decide)
  have h3 : some g ≠ u.ownBlock := Kd.R_ne hW.2.2 hI.1 (by decide)
  obtain ⟨i1, o1, _⟩ := hW.2.2.2
  obtain ⟨i2, o2, _⟩ := hI.2.2.2
  have h4 : NeRow u v := ne_types o1 o2 (by decide)
  exact hW.keep k h1 h2 (fun b hb => ⟨fun e => h3 (by rw [hb, e]), fun e => h4 b hb e.symm⟩)
theorem IsSt.pastWd {w0 W W' : World} {gw g : Nat} {wd : List S24} {l : List S47} {t : Int} {u v : Value} (hI : IsSt w0 W g l t v) (hW : IsWd w0 W gw wd u) (k : KeepBut W W' gw u.ownBlock) : IsSt w0 W' g l t v := by
  have h1 : g ≠ gw := fun e => by
    have a := hW.1
    rw [← e, hI.1] at a
    injection a with a
    injection a with _ a _
    exact absurd a (by decide)
  have h2 : some g ≠ u.ownBlock := Kd.R_ne hW.2.2 hI.1 (by decide)
  have h3 : some gw ≠ v.ownBlock := Kd.R_ne hI.2.2 hW.1 (by decide)
  obtain ⟨i1, o1, _⟩ := hW.2.2.2
  obtain ⟨i2, o2, _⟩ := hI.2.2.2
  have h4 : NeRow v u := ne_types o2 o1 (by decide)
  exact hI.keep k h1 h2 (fun b hb => ⟨fun e => h3 (by rw [hb, e]), fun e => h4 b hb e.symm⟩)
theorem drop34 {l : List S34} {j : Nat} (h : j < l.length) : rd_T34 l (j : Int) ∈ l := by
  unfold rd_T34
  rw [Int.toNat_natCast, List.getD_eq_getElem?_getD, List.getElem?_eq_getElem h]
  exact List.getElem_mem h
theorem wd_appended {w W1 w7 : World} {gw : Nat} {wd : List S24} {B2 A7 : Option Addr} {e2 e7 : Nat} {y : S24} (hW : IsWd w W1 gw wd (.slice B2 wd.length e2)) (hB : Below w.heap.size w W1)
    (hO7 : k24.R 24 w7 w.heap.size (fun z => (Value.slice B2 wd.length e2).ownBlock = some z ∨ (W1.drewN 1).heap.size ≤ z) (.slice A7 (wd ++ [y]).length e7) (wd ++ [y])) (hB7 : Below w.heap.size w w7)
    (hg7 : (W1.drewN 1).grownBy w7 (Value.slice B2 wd.length e2).ownBlock) :
    IsWd w (w7.setCell ⟨gw, 0, none⟩ (.slice A7 (wd ++ [y]).length e7)) gw (wd ++ [y]) (.slice A7 (wd ++ [y]).length e7) ∧ Below w.heap.size w (w7.setCell ⟨gw, 0, none⟩ (.slice A7 (wd ++ [y]).length e7)) ∧ KeepBut W1 (w7.setCell ⟨gw, 0, none⟩ (.slice A7 (wd ++ [y]).length e7)) gw (Value.slice B2 wd.length e2).ownBlock := by
  have hgl : gw < W1.heap.size := blk_lt hW.1
  have h7 := (hg7.block gw hgl hW.own).trans hW.1
  refine ⟨⟨?_, hW.2.1, ?_⟩, below_set hB7 hW.2.1, KeepBut.set_ ⟨hg7.size, fun b hb _ h2 => hg7.block b hb h2⟩ _ _⟩
  · simpa using blk_set h7 0 (.slice A7 (wd ++ [y]).length e7)
  · exact R_exact24 (Kd.R_far hO7 (p := ⟨gw, 0, none⟩) (by
      intro q hq e
      have e' : q = gw := e
      rcases hq with hq | hq
      · exact hW.own (by rw [← e']; exact hq.symm)
      · have : W1.heap.size ≤ q := hq
        omega) _)
/-! ### what was read stays -/
def Bd (wd : List S24) (ls : List S47) : Prop := ∀ e ∈ ls, e.f2 ≤ (wd.length : Int)
theorem verN_le (wd : List S24) (k i : Int) : verN wd k i ≤ (wd.length : Int) := by
  unfold verN
  split
  · have := ver_le wd ⟨k, i⟩ (wd.length : Int)
    omega
  · omega
theorem bd_change {wd : List S24} {ls : List S47} (h : Bd wd ls) (y : S24) : Bd (wd ++ [y]) ls := fun e he => by
  have := h e he
  rw [List.length_append]
  simp
  omega
theorem bd_note {wd : List S24} {ls : List S47} (h : Bd wd ls) (t k i : Int) : Bd wd (noteL wd ls t k i) := by
  unfold noteL
  split
  · exact h
  · split
    · exact h
    · intro e he
      rcases List.mem_append.1 he with he | he
      · exact h e he
      · rw [List.mem_singleton.1 he]
        exact verN_le wd k i
theorem place_hit {ls : List S47} {k i : Int} (h : 0 ≤ placeI ls k i) : ∃ e ∈ ls, e.f0 = k ∧ e.f1 = i ∧ rd_T47 ls (placeI ls k i) = e := by
  obtain ⟨q, hq, hl⟩ := placeI_lt ls k i h
  have hi : idx ls k i = q := by
    unfold placeI at hq h
    split at hq
    · omega
    · rename_i hn
      rw [if_neg hn] at h
      omega
  have hm : hit k i ls[q] = true := by
    have hlt : ls.findIdx (hit k i) < ls.length := by show idx ls k i < _; omega
    have := List.findIdx_getElem (p := hit k i) (xs := ls) (w := hlt)
    simp only [show ls.findIdx (hit k i) = q from hi] at this
    exact this
  have hr : rd_T47 ls (q : Int) = ls[q] := by
    unfold rd_T47
    rw [Int.toNat_natCast, List.getD_eq_getElem?_getD, List.getElem?_eq_getElem hl]
    rfl
  unfold hit at hm
  simp only [Bool.and_eq_true, beq_iff_eq] at hm
  exact ⟨ls[q], List.getElem_mem hl, hm.1, hm.2, by rw [hq, hr]⟩
theorem place_mem {ls : List S47} {e : S47} (he : e ∈ ls) : 0 ≤ placeI ls e.f0 e.f1 := by
  unfold placeI
  have : idx ls e.f0 e.f1 < ls.length := List.findIdx_lt_length.2 ⟨e, he, by simp [hit]⟩
  rw [if_pos this]
  omega
theorem note_valid {wd : List S24} {ls : List S47} {t k i : Int} (hv : validB wd ls = true) : noteB wd ls t k i = true := by
  unfold noteB
  split
  · rename_i hp
    obtain ⟨e, he, h0, h1, hr⟩ := place_hit hp
    rw [hr]
    unfold validB at hv
    rw [List.all_eq_true] at hv
    have := hv e he
    unfold okE at this
    rw [h0, h1] at this
    simp only [beq_iff_eq] at this ⊢
    exact this.symm
  · split
    · exact hv
    · rfl
theorem note_same {wd : List S24} {ls : List S47} {t : Int} {e : S47} (he : e ∈ ls) : noteL wd ls t e.f0 e.f1 = ls ∧ noteT wd ls t e.f0 e.f1 = t := by
  have := place_mem he
  unfold noteL noteT
  rw [if_pos this, if_pos this]
  exact ⟨rfl, rfl⟩
theorem valid_note {wd : List S24} {ls : List S47} {t k i : Int} (hv : validB wd ls = true) : validB wd (noteL wd ls t k i) = true := by
  unfold noteL
  split
  · exact hv
  · split
    · exact hv
    · unfold validB at hv ⊢
      rw [List.all_append, hv]
      simp [okE]
theorem ver_new (wd : List S24) (x : S24) : ver (wd ++ [x]) x ((wd ++ [x]).length : Int) = wd.length + 1 := by
  unfold ver
  rw [List.length_append]
  show verI (wd ++ [x]) x ((wd.length + 1 : Nat) : Int) (wd.length + 1) = _
  rw [verI_succ]
  have hr : rd_T24 (wd ++ [x]) (wd.length : Int) = x := by
    unfold rd_T24
    rw [Int.toNat_natCast, List.getD_eq_getElem?_getD]
    simp
  rw [hr, if_pos ⟨by simp [eq24], by omega⟩]
theorem verN_new (wd : List S24) (x : S24) (hx : inT x) : verN (wd ++ [x]) x.f0 x.f1 = (wd.length : Int) + 1 := by
  rw [verN_in _ x hx, ver_new]
  omega
theorem new_invalid {wd : List S24} {ls : List S47} {x : S24} (hx : inT x) (hb : Bd wd ls) (hp : 0 ≤ placeI ls x.f0 x.f1) (t : Int) : validB (wd ++ [x]) ls = false ∧ noteB (wd ++ [x]) ls t x.f0 x.f1 = false := by
  obtain ⟨e, he, h0, h1, hr⟩ := place_hit hp
  have hle := hb e he
  have hv := verN_new wd x hx
  constructor
  · unfold validB
    rw [List.all_eq_false]
    refine ⟨e, he, ?_⟩
    unfold okE
    rw [h0, h1, hv]
    simp
    omega
  · unfold noteB
    rw [if_pos hp, hr, hv]
    simp
    omega
theorem C_one24 (W : World) (x : S24) : Kd.C k24 (W.alloc (.cells #[.int .i64 x.f0, .int .i64 x.f1] 24)) (some ⟨W.heap.size, 0, none⟩) [x].length [x] := by
  refine ⟨rfl, by simp, fun _ => ⟨_, rfl, fun j p hj => ?_⟩⟩
  have hA := heap_alloc_new W (.cells #[.int .i64 x.f0, .int .i64 x.f1] 24)
  match j, hj with
  | 0, hj =>
    simp at hj
    subst hj
    refine ⟨[.int .i64 x.f0, .int .i64 x.f1], rfl, k24_mk _ _, fun i u hu => ?_⟩
    rw [Addr.add_lit]
    simp only [Nat.zero_mul, Nat.zero_add]
    exact (blk_cell hA i).trans (by simpa using hu)
  | j + 1, hj => simp at hj
section
set_option maxHeartbeats 3200000 in
set_option maxRecDepth 100000 in
theorem note_placed (g : Nat) (l : List S47) (t : Int) (v : Value) (wd : List S24) (k i : Int) (w0 w : World) (hI : IsSt w0 w g l t v) (hB : Below w0.heap.size w0 w) (hl : l.length ≤ 999)
    (hp : 0 ≤ placeI l k i) : Calls Try.prog 16 #[.pointer (some ⟨g, 0, none⟩), .agg (nowA wd 24), .int .i64 k, .int .i64 i] w fun r w' => r = .returned (.bool (noteB wd l t k i)) ∧ Below w.heap.size w w' := by
  have hu39 := Try.underlying39
  have hu47 := Try.underlying47
  have hu76 := Try.underlying76
  have hu78 := Try.underlying78
  have hu31 := Try.underlying31
  obtain ⟨A, c, rfl⟩ := Kd.R_slice hI.2.2
  have OF := fun W => of_now wd k i W
  have PL := fun W h => place_ok g l t (.slice A l.length c) k i w0 W h (by omega)
  have VA := fun W h => valid_ok g l t (.slice A l.length c) wd w0 W h (by omega)
  have HNB := Aside0.mk (show noteB wd l t k i = _ from rfl)
  have HNL := Aside0.mk (show noteL wd l t k i = _ from rfl)
  have HNT := Aside0.mk (show noteT wd l t k i = _ from rfl)
  unfold noteB at HNB
  unfold noteL at HNL
  unfold noteT at HNT
  obtain ⟨q, hq, hql⟩ := placeI_lt l k i hp
  rw [hq] at PL HNB HNL HNT
  have hq0 : (0 : Int) ≤ (q : Int) := by omega
  have p0 : decide ((0 : Int) ≤ (q : Int)) = true := decide_eq_true hq0
  have p1 : ((0 : Int) ≤ (q : Int)) = True := eq_true (by omega)
  have p2 : ((q : Int) < (l.length : Int)) = True := eq_true (by omega)
  replace HNB := Aside0.mk (show noteB wd l t k i = ((rd_T47 l (q : Int)).f2 == verN wd k i) from by unfold noteB; rw [hq, if_pos hq0])
  replace HNL := Aside0.mk (show noteL wd l t k i = l from by unfold noteL; rw [hq, if_pos hq0])
  replace HNT := Aside0.mk (show noteT wd l t k i = t from by unfold noteT; rw [hq, if_pos hq0])
  clear hp hq
  obtain ⟨xq, hxq⟩ : ∃ x, x = rd_T47 l (q : Int) := ⟨_, rfl⟩
  rw [← hxq] at HNB
  have HXQ := Aside0.mk hxq
  clear hxq
  have hN := heap_alloc_new w (.cells (nowA wd 24) 39)
  have hb1 := below_alloc (Below.refl w.heap.size w) (.cells (nowA wd 24) 39)
  have K1 := Aside0.mk (show IsSt w0 (w.alloc (.cells (nowA wd 24) 39)) g l t (.slice A l.length c) ∧ Below w0.heap.size w0 (w.alloc (.cells (nowA wd 24) 39)) ∧ Below w.heap.size w (w.alloc (.cells (nowA wd 24) 39)) from ⟨hI.below hb1, hB.trans (hb1.mono hB.size), hb1⟩)
  have N1 := Aside0.mk hN
  have hgw : g < w.heap.size := blk_lt hI.1
  generalize verN wd k i = vn at OF HNB
  clear hI hB hN hb1
  go_enter Try.func16, Try.ntmps16
  go_upto_region 1 with (fail)
  generalize w.alloc (.cells (nowA wd 24) 39) = w1 at K1 N1 ⊢
  generalize w.heap.size = gx at N1 hgw ⊢
  have a1 : IsNowV w1 (.pointer (some ⟨gx, 0, none⟩)) := ⟨gx, rfl, _, N1.out, nowA_size _ _⟩
  have b1 : nowV w1 (.pointer (some ⟨gx, 0, none⟩)) = nowA wd 24 := nowAt_eq N1.out
  go_wp2_with (fail)
  (refine (OF _).mono ?_; rintro e w2 ⟨rfl, hb2⟩; have K2 := Aside0.mk (show IsSt w0 w2 g l t (.slice A l.length c) ∧ Below w0.heap.size w0 w2 ∧ Below w.heap.size w w2 from ⟨K1.out.1.below hb2, K1.out.2.1.trans (hb2.mono K1.out.2.1.size), K1.out.2.2.trans (hb2.mono K1.out.2.2.size)⟩); have N2 := Aside0.mk (show w2.heap[gx]? = some (.cells (nowA wd 24) 39 (0, 0)) from (hb2.block gx (blk_lt N1.out)).trans N1.out); clear hb2)
  go_wp2_with (fail)
  (refine (PL _ K2.out.1).mono ?_; rintro e w3 ⟨rfl, hb3⟩; have K3 := Aside0.mk (show IsSt w0 w3 g l t (.slice A l.length c) ∧ Below w0.heap.size w0 w3 ∧ Below w.heap.size w w3 from ⟨K2.out.1.below hb3, K2.out.2.1.trans (hb3.mono K2.out.2.1.size), K2.out.2.2.trans (hb3.mono K2.out.2.2.size)⟩); have N3 := Aside0.mk (show w3.heap[gx]? = some (.cells (nowA wd 24) 39 (0, 0)) from (hb3.block gx (blk_lt N2.out)).trans N2.out); have a3 : IsNowV w3 (.pointer (some ⟨gx, 0, none⟩)) := ⟨gx, rfl, _, N3.out, nowA_size _ _⟩; have b3 : nowV w3 (.pointer (some ⟨gx, 0, none⟩)) = nowA wd 24 := nowAt_eq N3.out; have s3 : w3.cell? ⟨g, 1, none⟩ = some (.int .i64 t) := (blk_cell K3.out.1.1 1).trans rfl; have l3 : w3.cell? ⟨g, 0, none⟩ = some (.slice A l.length c) := (blk_cell K3.out.1.1 0).trans rfl; obtain ⟨ad, rfl, y0, y1, y2⟩ := st_read K3.out.1 hql; rw [← HXQ.out] at y0 y1 y2; clear hb3)
  go_wp2
  go_ret
  exact ⟨by rw [HNB.out]; rfl, K3.out.2.2⟩
end
/-- what a round that goes on keeps: all that was there, but one cell -/
def KeepK (n₀ gk : Nat) (A B : World) : Prop := A.heap.size ≤ B.heap.size ∧ ∀ b, b < n₀ → b ≠ gk → B.heap[b]? = A.heap[b]?
theorem KeepK.refl (n₀ gk : Nat) (A : World) : KeepK n₀ gk A A := ⟨Nat.le_refl _, fun _ _ _ => rfl⟩
theorem KeepK.trans {n₀ gk : Nat} {A B C : World} (h : KeepK n₀ gk A B) (k : KeepK n₀ gk B C) : KeepK n₀ gk A C := ⟨Nat.le_trans h.1 k.1, fun b h1 h2 => (k.2 b h1 h2).trans (h.2 b h1 h2)⟩
theorem KeepK.of {n₀ gk : Nat} {A B : World} (h : Below A.heap.size A B) (hn : n₀ ≤ A.heap.size) : KeepK n₀ gk A B := ⟨h.size, fun b h1 _ => h.block b (Nat.lt_of_lt_of_le h1 hn)⟩
theorem KeepK.book {n₀ gk : Nat} {w : World} (hn : n₀ ≤ w.heap.size) (W : World) (l : Nat) (o o' : Obj) (hl : w.heap.size ≤ l) (h : W.heap[l]? = some o) (h1 : o.isCells = false) (h2 : o.isWalk = false) : KeepK n₀ gk W (W.putObj l o') :=
  have k := belowK_b hn W l o o' hl h h1 h2
  ⟨k.size, fun b hb _ => k.block b hb⟩
theorem KeepK.set {n₀ gk : Nat} (A : World) (i : Nat) (v : Value) : KeepK n₀ gk A (A.setCell ⟨gk, i, none⟩ v) :=
  have k := KeepBut.set_ (KeepBut.refl A gk none) i v
  ⟨k.1, fun b _ h2 => by
    by_cases hb : b < A.heap.size
    · exact k.2 b hb h2 (by simp)
    · have h0 : A.heap.size ≤ b := by omega
      have h1 : (A.setCell ⟨gk, i, none⟩ v).heap.size ≤ b := by simpa using h0
      rw [Array.getElem?_eq_none h0, Array.getElem?_eq_none h1]⟩
section
attribute [local go_sem] Oper.semAt_some
set_option maxHeartbeats 2000000 in
set_option maxRecDepth 100000 in
theorem valuesk_stops (F : Fence) (n : Nat) (h46 : F.fn 46) (hro : F.round = none) (hn : 1 ≤ n) (Bs : Nat) (A : Option Addr) (c : Nat) (l : List S47) (hl : l.length ≤ 1000) (w : World) (n₀ gk : Nat) (hn0 : n₀ = w.heap.size) (hBs : w.heap[Bs]? = some (.cells #[.slice A l.length c] 76 (0, 0))) (hne : Bs ≠ gk) {base : Nat} (hC : k47.R 47 w base (fun k => (Value.slice A l.length c).ownBlock = some k) (.slice A l.length c) l) (hnr : some gk ≠ (Value.slice A l.length c).ownBlock) :
    SeqStopsK F n Try.prog 46 #[.pointer (some ⟨Bs, 0, none⟩)] (fun x : S47 => #[Value.agg (ent x)]) (KeepK n₀ gk) (fun ys => ys = l) (fun pre => pre <+: l) l.length w := fun lp J Jx W hW hJ hJx hY h0 => by
  have hu47 := Try.underlying47
  have hu76 := Try.underlying76
  have hBl := blk_lt hBs
  have cB : W.cell? ⟨Bs, 0, none⟩ = some (.slice A l.length c) := (blk_cell ((hW.block Bs hBl).trans hBs) 0).trans rfl
  refine callsIn_of_wp Try.func46 rfl h46 ?_ hro
  simp only [Try.ntmps46, List.size_toArray, List.length_cons, List.length_nil, Nat.reduceAdd, Nat.reduceSub, Array.replicate_succ, Array.replicate_zero, List.push_toArray, List.append_toArray, List.nil_append, List.cons_append]
  gi_wp2
  subst hn0
  gi_loopw [7] (fun i wr => ∃ k : Nat, k ≤ l.length ∧ i = .int .i64 (k : Int) ∧ J (l.take k) wr ∧ KeepK w.heap.size gk W wr)
    (fun i _ => l.length - (intOf i).toNat)
  case atStart => exact ⟨0, Nat.zero_le _, rfl, h0, KeepK.refl _ _ _⟩
  case round =>
    obtain ⟨k, hk, rfl, hJs, hnx⟩ := hrel
    have HCr : Kd.C k47 wr A l.length l := (Kd.R_reads' (Kd.R_step hC (fun b hb hbl => (hnx.2 b hbl (fun e => hnr (by rw [hb, e]))).trans (hW.block b hbl)))).2.2
    by_cases hlt : k < l.length
    · have q0 : decide ((k : Int) < (l.length : Int)) = true := decide_eq_true (by omega)
      obtain ⟨ad, rfl, y0, y1, y2⟩ := at_T47 HCr (k : Int) (by omega) (by omega)
      simp only [Int.toNat_natCast] at y0 y1 y2
      obtain ⟨⟨a, b, d⟩, hx⟩ : ∃ x, x = rd_T47 l (k : Int) := ⟨_, rfl⟩
      rw [← hx] at y0 y1 y2
      have htk : l.take (k + 1) = l.take k ++ [⟨a, b, d⟩] := by rw [rd47_mem hlt, hx]
      have p0 : ((0 : Int) ≤ (k : Int)) = True := eq_true (by omega)
      have p1 : ((k : Int) < (l.length : Int)) = True := eq_true (by omega)
      have hk9 : k ≤ 1000 := by omega
      have hJa : J (l.take k) (wr.alloc (.cells #[.int .i64 a, .int .i64 b, .int .i64 d] 47)) := hJ _ _ _ none hJs (World.grownBy_alloc wr _ none) (fun r e => by cases e)
      obtain ⟨fn, tmps, assign, body, hy, hR⟩ := hY (l.take k) ⟨a, b, d⟩ _ hJa (by rw [List.length_take]; omega)
      have hy' : (Instr.yield lp #[.agg #[.int .i64 a, .int .i64 b, .int .i64 d]]).run Try.prog (wr.alloc (.cells #[.int .i64 a, .int .i64 b, .int .i64 d] 47)) = .ok (.round lp fn tmps assign body) (wr.alloc (.cells #[.int .i64 a, .int .i64 b, .int .i64 d] 47)) := hy
      have HX := Aside0.mk (And.intro hx htk)
      clear hx htk hy
      gi_wp2
      refine hR.mono ?_
      rintro e W3 (⟨rfl, hJ3, hk3⟩ | ⟨rfl, hJx3⟩)
      · gi_wp2
        go_roundw
        case rel => exact ⟨k + 1, by omega, by rw [Int.natCast_add]; rfl, by rw [HX.out.2]; exact hJ3, (hnx.trans (KeepK.of (below_alloc (Below.refl wr.heap.size wr) _) (Nat.le_trans hW.size hnx.1))).trans hk3⟩
        case measure => simp [intOf]; omega
      · gi_wp2
        refine bodyPost_ret (results_none rfl _ _ _) rfl ?_
        exact ⟨⟨_, rfl⟩, .inr ⟨l.take k ++ [⟨a, b, d⟩], by rw [← HX.out.2]; exact List.take_prefix _ _, hJx3⟩⟩
    · have q0 : decide ((k : Int) < (l.length : Int)) = false := decide_eq_false (by omega)
      have hkl : k = l.length := by omega
      have hJl : J l wr := by rw [hkl, List.take_length] at hJs; exact hJs
      clear hkl
      gi_wp2
      go_end0
      exact ⟨⟨_, rfl⟩, .inl ⟨l, rfl, hJl⟩⟩
end
/-! ### the order in which things were read -/
def mk47 (x : S24) : S47 := ⟨x.f0, x.f1, 0⟩
theorem verN_nil (k i : Int) : verN [] k i = 0 := by
  unfold verN
  split <;> rfl
theorem hit_mk (x y : S24) : hit x.f0 x.f1 (mk47 y) = eq24 x y := by
  unfold hit eq24 mk47
  rw [Bool.beq_comm (a := x.f0), Bool.beq_comm (a := x.f1)]
theorem place_ord (want : List S24) (x : S24) : 0 ≤ placeI (want.map mk47) x.f0 x.f1 ↔ want.any (eq24 x) = true := by
  have h : idx (want.map mk47) x.f0 x.f1 < (want.map mk47).length ↔ want.any (eq24 x) = true := by
    unfold idx
    rw [List.findIdx_lt_length, List.any_eq_true]
    constructor
    · rintro ⟨e, he, hh⟩
      obtain ⟨y, hy, rfl⟩ := List.mem_map.1 he
      exact ⟨y, hy, by rw [← hit_mk]; exact hh⟩
    · rintro ⟨y, hy, hh⟩
      exact ⟨mk47 y, List.mem_map.2 ⟨y, hy, rfl⟩, by rw [hit_mk]; exact hh⟩
  unfold placeI
  rw [← h]
  split
  · rename_i hl
    exact ⟨fun _ => hl, fun _ => by omega⟩
  · rename_i hl
    exact ⟨fun q => by omega, fun q => absurd q hl⟩
theorem valid_ord (want : List S24) : validB [] (want.map mk47) = true := by
  unfold validB
  rw [List.all_eq_true]
  intro e he
  obtain ⟨y, hy, rfl⟩ := List.mem_map.1 he
  unfold okE
  rw [verN_nil]
  rfl
def tell (want : List S24) (x : S24) : List S24 := if want.any (eq24 x) = true then want else want ++ [x]
theorem note_ord (want : List S24) (x : S24) : noteB [] (want.map mk47) 0 x.f0 x.f1 = true ∧ noteL [] (want.map mk47) 0 x.f0 x.f1 = (tell want x).map mk47 ∧ noteT [] (want.map mk47) 0 x.f0 x.f1 = 0 := by
  refine ⟨note_valid (valid_ord want), ?_, ?_⟩
  · unfold noteL tell
    by_cases hp : want.any (eq24 x) = true
    · rw [if_pos ((place_ord want x).2 hp), if_pos hp]
    · rw [if_neg (fun q => hp ((place_ord want x).1 q)), if_neg hp, verN_nil, if_neg (by simp), List.map_append]
      rfl
  · unfold noteT
    rw [verN_nil]
    simp
theorem eq24_self (x : S24) : eq24 x x = true := by simp [eq24]
theorem tell_again (want : List S24) (x : S24) : tell (tell want x) x = tell want x := by
  have h : (tell want x).any (eq24 x) = true := by
    unfold tell
    split
    · assumption
    · rw [List.any_append]
      simp [eq24_self]
  rw [tell, if_pos h]
theorem tell_len (want : List S24) (x : S24) : (tell want x).length ≤ want.length + 1 := by
  unfold tell
  split
  · omega
  · simp
/-! ### ReadsOrder's own variables: no change, the set, and what is wanted -/
theorem ne_type6 {W : World} {a b : Nat} {C C' : Array Value} {e e' : TypeId} (h : W.heap[a]? = some (.cells C e (0, 0))) (h' : W.heap[b]? = some (.cells C' e' (0, 0))) (hne : e ≠ e') : a ≠ b := fun q => by
  rw [q, h'] at h
  injection h with h
  injection h with _ h _
  exact hne h.symm
/-- what is wanted: a row of things in a cell of its own -/
def IsWt (w0 W : World) (g : Nat) (l : List S24) (v : Value) : Prop := W.heap[g]? = some (.cells #[v] 27 (0, 0)) ∧ w0.heap.size ≤ g ∧ k24.R 24 W w0.heap.size (fun k => v.ownBlock = some k) v l
theorem IsWt.below {w0 W W' : World} {g : Nat} {l : List S24} {v : Value} (h : IsWt w0 W g l v) (k : Below W.heap.size W W') : IsWt w0 W' g l v :=
  ⟨(k.block g (blk_lt h.1)).trans h.1, h.2.1, Kd.R_below h.2.2 k⟩
theorem IsWt.own {w0 W : World} {g : Nat} {l : List S24} {v : Value} (h : IsWt w0 W g l v) : some g ≠ v.ownBlock := Kd.R_ne h.2.2 h.1 (by decide)
theorem IsWt.keep {w0 W W' : World} {g g' : Nat} {l : List S24} {v : Value} {row : Option Nat} (h : IsWt w0 W g l v) (k : KeepBut W W' g' row) (h1 : g ≠ g') (h2 : some g ≠ row) (h3 : ∀ b, v.ownBlock = some b → b ≠ g' ∧ some b ≠ row) : IsWt w0 W' g l v :=
  ⟨k.blk h.1 h1 h2, h.2.1, Kd.R_step h.2.2 (fun b hb hlt => k.2 b hlt (h3 b hb).1 (h3 b hb).2)⟩
theorem IsWt.pastSt {w0 W W' : World} {gv g : Nat} {wt : List S24} {l : List S47} {t : Int} {u v : Value} (hW : IsWt w0 W gv wt u) (hI : IsSt w0 W g l t v) (k : KeepBut W W' g v.ownBlock) : IsWt w0 W' gv wt u := by
  have h2 : some gv ≠ v.ownBlock := Kd.R_ne hI.2.2 hW.1 (by decide)
  have h3 : some g ≠ u.ownBlock := Kd.R_ne hW.2.2 hI.1 (by decide)
  obtain ⟨i1, o1, _⟩ := hW.2.2.2
  obtain ⟨i2, o2, _⟩ := hI.2.2.2
  have h4 : NeRow u v := ne_types o1 o2 (by decide)
  exact hW.keep k (ne_type6 hW.1 hI.1 (by decide)) h2 (fun b hb => ⟨fun e => h3 (by rw [hb, e]), fun e => h4 b hb e.symm⟩)
structure St6 (w W : World) (gr gw gs gv : Nat) (want : List S24) (u v : Value) : Prop where
  wd : IsWd w W gw [] (.slice none 0 0)
  st : IsSt w W gs (want.map mk47) 0 v
  wt : IsWt w W gv want u
  bel : Below w.heap.size w W
  cr : W.heap[gr]? = some (.cells #[.bool false] 4 (0, 0))
  grl : w.heap.size ≤ gr
theorem St6.below {w W W' : World} {gr gw gs gv : Nat} {want : List S24} {u v : Value} (h : St6 w W gr gw gs gv want u v) (k : Below W.heap.size W W') : St6 w W' gr gw gs gv want u v :=
  ⟨h.wd.below k, h.st.below k, h.wt.below k, h.bel.trans (k.mono h.bel.size), (k.block _ (blk_lt h.cr)).trans h.cr, h.grl⟩
/-- between Note and the append: the set is ahead of what is wanted -/
structure St6m (w W : World) (gr gw gs gv : Nat) (want : List S24) (ls : List S47) (u v : Value) : Prop where
  wd : IsWd w W gw [] (.slice none 0 0)
  st : IsSt w W gs ls 0 v
  wt : IsWt w W gv want u
  bel : Below w.heap.size w W
  cr : W.heap[gr]? = some (.cells #[.bool false] 4 (0, 0))
  grl : w.heap.size ≤ gr
theorem St6m.below {w W W' : World} {gr gw gs gv : Nat} {want : List S24} {ls : List S47} {u v : Value} (h : St6m w W gr gw gs gv want ls u v) (k : Below W.heap.size W W') : St6m w W' gr gw gs gv want ls u v :=
  ⟨h.wd.below k, h.st.below k, h.wt.below k, h.bel.trans (k.mono h.bel.size), (k.block _ (blk_lt h.cr)).trans h.cr, h.grl⟩
theorem St6m.noted {w W W' : World} {gr gw gs gv : Nat} {want : List S24} {ls ls' : List S47} {u v v' : Value} (h : St6m w W gr gw gs gv want ls u v) (hI : IsSt w W' gs ls' 0 v') (hB : Below w.heap.size w W') (k : KeepBut W W' gs v.ownBlock) : St6m w W' gr gw gs gv want ls' u v' :=
  ⟨h.wd.pastSt h.st k, hI, h.wt.pastSt h.st k, hB, k.blk h.cr (ne_type6 h.cr h.st.1 (by decide)) (Kd.R_ne h.st.2.2 h.cr (by decide)), h.grl⟩
theorem order_start {w w2 : World} {gr : Nat} (h2 : w2.heap[gr]? = some (.cells #[.bool false] 4 (0, 0))) (h3 : Below w.heap.size w w2) (hr : w.heap.size ≤ gr) :
    St6 w (((w2.alloc (Obj.cells #[Value.slice none 0 0] 30)).alloc (Obj.cells #[Value.slice none 0 0, Value.int IntKind.i64 0] 78)).alloc (Obj.cells #[Value.slice none 0 0] 27)) gr w2.heap.size (w2.heap.size + 1) (w2.heap.size + 1 + 1) [] (.slice none 0 0) (.slice none 0 0) := by
  have b1 := below_alloc (Below.refl w2.heap.size w2) (Obj.cells #[Value.slice none 0 0] 30)
  have e1 := heap_alloc_new w2 (Obj.cells #[Value.slice none 0 0] 30)
  have s1 : (w2.alloc (Obj.cells #[Value.slice none 0 0] 30)).heap.size = w2.heap.size + 1 := by simp
  generalize w2.alloc (Obj.cells #[Value.slice none 0 0] 30) = A1 at b1 e1 s1 ⊢
  have hh := h3.size
  have hB1 : Below w.heap.size w A1 := h3.trans (b1.mono hh)
  have b2 := below_alloc (Below.refl A1.heap.size A1) (Obj.cells #[Value.slice none 0 0, Value.int IntKind.i64 0] 78)
  have s2 : (A1.alloc (Obj.cells #[Value.slice none 0 0, Value.int IntKind.i64 0] 78)).heap.size = A1.heap.size + 1 := by simp
  have hst := new_isSt 0 w A1 hB1
  generalize A1.alloc (Obj.cells #[Value.slice none 0 0, Value.int IntKind.i64 0] 78) = A2 at b2 s2 hst ⊢
  have b3 := below_alloc (Below.refl A2.heap.size A2) (Obj.cells #[Value.slice none 0 0] 27)
  have e3 := heap_alloc_new A2 (Obj.cells #[Value.slice none 0 0] 27)
  generalize A2.alloc (Obj.cells #[Value.slice none 0 0] 27) = A3 at b3 e3 ⊢
  rw [s1] at hst
  rw [s2, s1] at e3
  have t1 : Below w2.heap.size w2 A3 := (b1.trans (b2.mono (by omega))).trans (b3.mono (by omega))
  have t2 : Below A1.heap.size A1 A3 := b2.trans (b3.mono (by omega))
  exact ⟨⟨(t2.block _ (blk_lt e1)).trans e1, hh, Kd.R_nil _ _ _ _ _⟩, hst.below b3, ⟨e3, by omega, Kd.R_nil _ _ _ _ _⟩, h3.trans (t1.mono hh), (t1.block _ (blk_lt h2)).trans h2, hr⟩
theorem rd24_mem {l : List S24} {j : Nat} (hj : j < l.length) : l.take (j + 1) = l.take j ++ [rd_T24 l (j : Int)] := by
  rw [List.take_succ_eq_append_getElem hj]
  unfold rd_T24
  rw [Int.toNat_natCast, List.getD_eq_getElem?_getD, List.getElem?_eq_getElem hj]
  rfl
theorem IsSt.pastWt {w0 W W' : World} {gv g : Nat} {wt : List S24} {l : List S47} {t : Int} {u v : Value} (hI : IsSt w0 W g l t v) (hW : IsWt w0 W gv wt u) (k : KeepBut W W' gv u.ownBlock) : IsSt w0 W' g l t v := by
  have h2 : some g ≠ u.ownBlock := Kd.R_ne hW.2.2 hI.1 (by decide)
  have h3 : some gv ≠ v.ownBlock := Kd.R_ne hI.2.2 hW.1 (by decide)
  obtain ⟨i1, o1, _⟩ := hW.2.2.2
  obtain ⟨i2, o2, _⟩ := hI.2.2.2
  have h4 : NeRow v u := ne_types o2 o1 (by decide)
  exact hI.keep k (ne_type6 hI.1 hW.1 (by decide)) h2 (fun b hb => ⟨fun e => h3 (by rw [hb, e]), fun e => h4 b hb e.symm⟩)
theorem St6m.appended {w W w7 : World} {gr gw gs gv : Nat} {want : List S24} {ls : List S47} {B2 A7 : Option Addr} {e2 e7 : Nat} {y : S24} {v : Value} (h : St6m w W gr gw gs gv want ls (.slice B2 want.length e2) v)
    (hO7 : k24.R 24 w7 w.heap.size (fun z => (Value.slice B2 want.length e2).ownBlock = some z ∨ W.heap.size ≤ z) (.slice A7 (want ++ [y]).length e7) (want ++ [y])) (hB7 : Below w.heap.size w w7)
    (hg7 : W.grownBy w7 (Value.slice B2 want.length e2).ownBlock) : St6m w (w7.setCell ⟨gv, 0, none⟩ (.slice A7 (want ++ [y]).length e7)) gr gw gs gv (want ++ [y]) ls (.slice A7 (want ++ [y]).length e7) v := by
  have hgl : gv < W.heap.size := blk_lt h.wt.1
  have h7 := (hg7.block gv hgl h.wt.own).trans h.wt.1
  have k : KeepBut W (w7.setCell ⟨gv, 0, none⟩ (.slice A7 (want ++ [y]).length e7)) gv (Value.slice B2 want.length e2).ownBlock := KeepBut.set_ ⟨hg7.size, fun b hb _ h2 => hg7.block b hb h2⟩ _ _
  refine ⟨h.wd.keep k (ne_type6 h.wd.1 h.wt.1 (by decide)) (Kd.R_ne h.wt.2.2 h.wd.1 (by decide)) (fun b hb => by cases hb), h.st.pastWt h.wt k, ⟨?_, h.wt.2.1, ?_⟩, below_set hB7 h.wt.2.1, k.blk h.cr (ne_type6 h.cr h.wt.1 (by decide)) (Kd.R_ne h.wt.2.2 h.cr (by decide)), h.grl⟩
  · simpa using blk_set h7 0 (.slice A7 (want ++ [y]).length e7)
  · exact R_exact24 (Kd.R_far hO7 (p := ⟨gv, 0, none⟩) (by
      intro q hq e
      have e' : q = gv := e
      rcases hq with hq | hq
      · exact h.wt.own (by rw [← e']; exact hq.symm)
      · have : W.heap.size ≤ q := hq
        omega) _)
/-! ### ReadsOrder: what is told, against what is wanted -/
def key47 (e : S47) : S24 := ⟨e.f0, e.f1⟩
theorem key_map (want : List S24) : (want.map mk47).map key47 = want := by
  rw [List.map_map]
  have h : key47 ∘ mk47 = id := by funext x; rfl
  rw [h, List.map_id]
theorem ord_step {want : List S24} {pre : List S47} {a b d v0 v1 : Int} (h : pre.map key47 <+: want) (hk : pre.length < want.length) (hv : rd_T24 want (pre.length : Int) = ⟨v0, v1⟩) :
    (pre ++ [(⟨a, b, d⟩ : S47)]).map key47 <+: want ↔ a = v0 ∧ b = v1 := by
  have h1 : pre.map key47 = want.take pre.length := by have h1 := List.prefix_iff_eq_take.1 h; rwa [List.length_map] at h1
  rw [List.prefix_iff_eq_take, List.length_map, List.length_append, List.length_singleton, rd24_mem hk, hv, List.map_append, ← h1]
  constructor
  · intro q
    have q' := List.append_cancel_left q
    injection q' with q' _
    injection q' with q1 q2
    exact ⟨q1, q2⟩
  · rintro ⟨rfl, rfl⟩
    rfl
theorem ord_long {want : List S24} {pre : List S47} {x : S47} (hk : want.length ≤ pre.length) : ¬ (pre ++ [x]).map key47 <+: want := fun h => by
  have := h.length_le
  simp at this
  omega
theorem ord_all {want : List S24} {pre : List S47} (h : pre <+: want.map mk47) : pre.map key47 <+: want := by
  obtain ⟨r, hr⟩ := h
  exact ⟨r.map key47, by rw [← List.map_append, hr, key_map]⟩
theorem St6.keptK {w W W' : World} {gr gw gs gv gk : Nat} {want : List S24} {u v : Value} {C : Array Value} (h : St6 w W gr gw gs gv want u v) (hk : W.heap[gk]? = some (.cells C 3 (0, 0))) (k : KeepK W.heap.size gk W W') (hB : Below w.heap.size w W') : St6 w W' gr gw gs gv want u v := by
  have kb : KeepBut W W' gk none := ⟨k.1, fun b h1 h2 _ => k.2 b h1 h2⟩
  have n0 : ∀ {α : Type} {d : Kd α} {e : TypeId} {base : Nat} {ok : Nat → Prop} {v : Value} {xs : List α}, d.R e W base ok v xs → some e = some 24 ∨ some e = some 47 → ∀ b, v.ownBlock = some b → b ≠ gk ∧ some b ≠ none := fun hR he b hb =>
    ⟨fun e => Kd.R_ne hR hk (by rcases he with he | he <;> (injection he with he; rw [he]; decide)) (by rw [hb, e]), by simp⟩
  exact ⟨h.wd.keep kb (ne_type6 h.wd.1 hk (by decide)) (by simp) (n0 h.wd.2.2 (.inl rfl)), h.st.keep kb (ne_type6 h.st.1 hk (by decide)) (by simp) (n0 h.st.2.2 (.inr rfl)), h.wt.keep kb (ne_type6 h.wt.1 hk (by decide)) (by simp) (n0 h.wt.2.2 (.inl rfl)), hB, kb.blk h.cr (ne_type6 h.cr hk (by decide)) (by simp), h.grl⟩
theorem keepK_own {β : Type} {n gk : Nat} {W₀ : World} (hn : n ≤ W₀.heap.size) : OwnFrom n (fun (_ : β) W => KeepK n gk W₀ W) := fun _ X Y row hs hg hr =>
  hs.trans ⟨hg.size, fun b hb _ => hg.block b (Nat.lt_of_lt_of_le hb (Nat.le_trans hn hs.1)) (fun e => by have := (hr b e.symm).1; omega)⟩
theorem name_act {P : Program} {c : Code} {Q : Exit → Act → World → Prop} {a : Act} {w : World} (h : ∀ T, T = a.tmps → Code.wp P c Q a w) : Code.wp P c Q a w := h _ rfl
section
attribute [local go_sem] Oper.semAt_some
set_option maxHeartbeats 12800000 in
set_option maxRecDepth 100000 in
theorem order_main (P : ∀ (l0 : List (S24)) (l1 : List (S34)), ∃ k b, countermandlaw12_great.f k l0 l1 = some b ∧ (b = false → l1.length ≤ 80 ∧ l0.length ≤ 40 ∧ (∀ x ∈ l0, inT x) ∧ ∀ x ∈ l1, inT x.f0)) (A1 : Option Addr) (c1 : Nat) (l : List S34) (w : World) (hr1 : Kd.C k34 w A1 l.length l) (hc1 : l.length ≤ c1) :
    Calls Try.prog 6 #[.slice A1 l.length c1] w fun e w' => e = .returned (.bool true) ∧ Below w.heap.size w w' := by
  have hu24 := Try.underlying24
  have hu27 := Try.underlying27
  have hu30 := Try.underlying30
  have hu34 := Try.underlying34
  have hu28 := Try.underlying28
  have hu31 := Try.underlying31
  have hu22 := Try.underlying22
  have hu4 := Try.underlying4
  have hu47 := Try.underlying47
  obtain ⟨kg, bg, hg, hgb⟩ := P [] l
  have H := Aside0.mk (And.intro hr1 (And.intro hg hgb))
  clear hr1 hg hgb P
  refine (callsIn_wide (n := 9)).1 ?_
  refine callsIn_of_wp_marks Try.func6 rfl trivial ?_ rfl
  simp only [Try.ntmps6, List.size_toArray, List.length_cons, List.length_nil, Nat.reduceAdd, Nat.reduceSub, Array.replicate_succ, Array.replicate_zero, List.push_toArray, List.append_toArray, List.nil_append, List.cons_append]
  refine wpIn_wide.2 ?_
  go_wp2_with (fail)
  have hA1 := heap_alloc_new w (.cells #[.bool false] 4)
  have hb0 := below_alloc (Below.refl w.heap.size w) (.cells #[.bool false] 4)
  obtain ⟨gr, hgr⟩ : ∃ gr, gr = w.heap.size := ⟨_, rfl⟩
  have HX := Aside0.mk (show w.heap.size ≤ gr from by omega)
  have K0 := Aside0.mk (show (w.alloc (.cells #[.bool false] 4)).heap[gr]? = some (.cells #[.bool false] 4 (0, 0)) ∧ Below w.heap.size w (w.alloc (.cells #[.bool false] 4)) from by rw [hgr]; exact ⟨hA1, hb0⟩)
  rw [← hgr]
  clear hgr hA1 hb0
  generalize w.alloc (.cells #[.bool false] 4) = W0 at K0 ⊢
  refine (alive_ok W0).mono ?_
  rintro e w1 ⟨rfl, hB1⟩
  have K1 := Aside0.mk (show w1.heap[gr]? = some (.cells #[.bool false] 4 (0, 0)) ∧ Below w.heap.size w w1 from ⟨(hB1.block _ (blk_lt K0.out.1)).trans K0.out.1, K0.out.2.trans (hB1.mono K0.out.2.size)⟩)
  clear K0 hB1
  go_wp2_with (fail)
  refine (countermandlaw12_great.calls kg none 0 [] A1 c1 l bg _ ⟨rfl, by simp, fun h => absurd h (by simp)⟩ (Nat.le_refl _) (Kd.C_below H.out.1 K1.out.2) hc1 H.out.2.1).mono ?_
  rintro e w2 ⟨rfl, hB2⟩
  have K2 := Aside0.mk (show w2.heap[gr]? = some (.cells #[.bool false] 4 (0, 0)) ∧ Below w.heap.size w w2 from ⟨(hB2.block _ (blk_lt K1.out.1)).trans K1.out.1, K1.out.2.trans (hB2.mono K1.out.2.size)⟩)
  clear K1 hB2
  have r2 : w2.cell? ⟨gr, 0, none⟩ = some (.bool false) := (blk_cell K2.out.1 0).trans rfl
  have f2 := blk_frozen K2.out.1
  cases bg
  · have HG := Aside0.mk (H.out.2.2 rfl)
    have hl80 : l.length ≤ 80 := HG.out.1
    go_wp2_with (fail)
    refine (new_ok _ _).mono ?_
    rintro e w4 ⟨rfl, rfl⟩
    go_wp2_with (fail)
    have KS := Aside0.mk (order_start K2.out.1 K2.out.2 HX.out)
    obtain ⟨gw, hgw⟩ : ∃ gw, gw = w2.heap.size := ⟨_, rfl⟩
    rw [← hgw] at KS ⊢
    generalize ((w2.alloc (Obj.cells #[Value.slice none 0 0] 30)).alloc (Obj.cells #[Value.slice none 0 0, Value.int IntKind.i64 0] 78)).alloc (Obj.cells #[Value.slice none 0 0] 27) = W4 at KS ⊢
    clear hgw
    go_loopg [22] l.length (fun m v wr => ∃ (j : Nat) (want : List S24) (u v' : Value), v = .int .i64 (j : Int) ∧ m + j = l.length ∧ Aside0 (St6 w wr gr gw (gw + 1) (gw + 1 + 1) want u v' ∧ want.length ≤ j))
    case atStart => exact ⟨0, [], .slice none 0 0, .slice none 0 0, rfl, by omega, ⟨KS.out, Nat.le_refl _⟩⟩
    case round =>
      clear KS
      obtain ⟨j, want, u, v', rfl, hj, HC⟩ := hrel
      by_cases hlt : j < l.length
      · have q0 : decide ((j : Int) < (l.length : Int)) = true := decide_eq_true (by omega)
        obtain ⟨ad, rfl, z0, z1, z2⟩ := at_T34 (Kd.C_below H.out.1 HC.out.1.bel) (j : Int) (by omega) (by omega)
        simp only [Int.toNat_natCast] at z0 z1 z2
        obtain ⟨⟨⟨y0, y1⟩, ch⟩, hy⟩ : ∃ x, x = rd_T34 l (j : Int) := ⟨_, rfl⟩
        rw [← hy] at z0 z1 z2
        clear hy
        have p0 : ((0 : Int) ≤ (j : Int)) = True := eq_true (by omega)
        have p1 : ((j : Int) < (l.length : Int)) = True := eq_true (by omega)
        have hj9 : j ≤ 80 := by omega
        have hwt : want.length ≤ 80 := by have := HC.out.2; omega
        go_upto_region 11 with (fail)
        have hbl := below_alloc (Below.refl wr.heap.size wr) (.cells #[.int .i64 y0, .int .i64 y1, .bool ch] 34)
        have K1 := Aside0.mk (And.intro (HC.out.1.below hbl) (heap_alloc_new wr (.cells #[.int .i64 y0, .int .i64 y1, .bool ch] 34)))
        clear hbl z0 z1 z2
        generalize wr.alloc (.cells #[.int .i64 y0, .int .i64 y1, .bool ch] 34) = W1 at K1 ⊢
        generalize wr.heap.size = gc at K1 ⊢
        have d0 : W1.cell? ⟨gc, 0, none⟩ = some (.int .i64 y0) := (blk_cell K1.out.2 0).trans rfl
        have d1' : W1.cell? ⟨gc, 1, none⟩ = some (.int .i64 y1) := (blk_cell K1.out.2 1).trans rfl
        obtain ⟨B2, e2, rfl⟩ := Kd.R_slice K1.out.1.wt.2.2
        have m0 : W1.cell? ⟨gw + 1 + 1, 0, none⟩ = some (.slice B2 want.length e2) := (blk_cell K1.out.1.wt.1 0).trans rfl
        go_wp2_with (fail)
        go_loopg [28, 8] want.length (fun m v b W => ∃ (i : Nat), v = .int .i64 (i : Int) ∧ m + i = want.length ∧ b = .bool ((want.take i).any (eq24 ⟨y0, y1⟩)) ∧ Aside0 (Below W1.heap.size W1 W))
        case atStart => exact ⟨0, rfl, by omega, rfl, ⟨Below.refl _ _⟩⟩
        case round =>
          obtain ⟨i, rfl, hi, rfl, HB⟩ := hrel
          by_cases hlt2 : i < want.length
          · have r0 : decide ((i : Int) < (want.length : Int)) = true := decide_eq_true (by omega)
            have K2 := Aside0.mk (K1.out.1.below HB.out)
            obtain ⟨ad2, rfl, t0, t1⟩ := at_T24 (Kd.R_reads' K2.out.wt.2.2).2.2 (i : Int) (by omega) (by omega)
            simp only [Int.toNat_natCast] at t0 t1
            obtain ⟨⟨v0, v1⟩, hv⟩ : ∃ x, x = rd_T24 want (i : Int) := ⟨_, rfl⟩
            rw [← hv] at t0 t1
            have htk : want.take (i + 1) = want.take i ++ [⟨v0, v1⟩] := by rw [rd24_mem hlt2, hv]
            clear hv
            have p0 : ((0 : Int) ≤ (i : Int)) = True := eq_true (by omega)
            have p1 : ((i : Int) < (want.length : Int)) = True := eq_true (by omega)
            have hi9 : i ≤ 80 := by omega
            have d0 : wr.cell? ⟨gc, 0, none⟩ = some (.int .i64 y0) := (HB.out.cell (p := ⟨gc, 0, none⟩) (blk_lt K1.out.2)).trans d0
            have d1' : wr.cell? ⟨gc, 1, none⟩ = some (.int .i64 y1) := (HB.out.cell (p := ⟨gc, 1, none⟩) (blk_lt K1.out.2)).trans d1'
            obtain ⟨bi, hbi⟩ : ∃ bi, bi = (want.take i).any (eq24 ⟨y0, y1⟩) := ⟨_, rfl⟩
            have HBI := Aside0.mk (And.intro hbi htk)
            rw [← hbi]
            clear hbi htk
            go_upto_region 15 with (fail)
            have d0 := old_cell d0 (.cells #[.int .i64 v0, .int .i64 v1] 24)
            have d1' := old_cell d1' (.cells #[.int .i64 v0, .int .i64 v1] 24)
            have hA := heap_alloc_new wr (.cells #[.int .i64 v0, .int .i64 v1] 24)
            have e0 : (wr.alloc (.cells #[.int .i64 v0, .int .i64 v1] 24)).cell? ⟨wr.heap.size, 0, none⟩ = some (.int .i64 v0) := (blk_cell hA 0).trans rfl
            have e1 : (wr.alloc (.cells #[.int .i64 v0, .int .i64 v1] 24)).cell? ⟨wr.heap.size, 1, none⟩ = some (.int .i64 v1) := (blk_cell hA 1).trans rfl
            have HB2 := Aside0.mk (HB.out.trans ((below_alloc (Below.refl wr.heap.size wr) (.cells #[.int .i64 v0, .int .i64 v1] 24)).mono HB.out.size))
            clear hA t0 t1
            generalize wr.alloc (.cells #[.int .i64 v0, .int .i64 v1] 24) = W3 at d0 d1' e0 e1 HB2 ⊢
            generalize wr.heap.size = gy at e0 e1 ⊢
            obtain ⟨g0, b0⟩ : ∃ c, (y0 == v0) = c := ⟨_, rfl⟩
            obtain ⟨g1, b1⟩ : ∃ c, (y1 == v1) = c := ⟨_, rfl⟩
            have HE := Aside0.mk (show eq24 ⟨y0, y1⟩ ⟨v0, v1⟩ = (g0 && g1) from by unfold eq24; rw [b0, b1])
            cases bi <;> cases g0 <;> cases g1
            all_goals
              go_wp2
              go_roundg (want.length - (i + 1))
              case rel => exact ⟨i + 1, (by rw [Int.natCast_add]; rfl), (by omega), (by rw [HBI.out.2, List.any_append, ← HBI.out.1]; simp [HE.out]), ⟨HB2.out⟩⟩
              case measure => omega
          · have r0 : decide ((i : Int) < (want.length : Int)) = false := decide_eq_false (by omega)
            have hi : i = want.length := by omega
            subst hi
            rw [List.take_length]
            have K2 := Aside0.mk (show St6m w wr gr gw (gw + 1) (gw + 1 + 1) want (want.map mk47) (.slice B2 want.length e2) v' ∧ wr.heap[gc]? = some (.cells #[.int .i64 y0, .int .i64 y1, .bool ch] 34 (0, 0)) from by
              have h := K1.out.1.below HB.out
              exact ⟨⟨h.wd, h.st, h.wt, h.bel, h.cr, h.grl⟩, (HB.out.block gc (blk_lt K1.out.2)).trans K1.out.2⟩)
            have d0 : wr.cell? ⟨gc, 0, none⟩ = some (.int .i64 y0) := (blk_cell K2.out.2 0).trans rfl
            have d1' : wr.cell? ⟨gc, 1, none⟩ = some (.int .i64 y1) := (blk_cell K2.out.2 1).trans rfl
            have NW := fun W h => now_ok gw [] (.slice none 0 0) w W h (by simp)
            have NT1 := fun W h1 h2 => note_ok (gw + 1) (want.map mk47) 0 v' [] y0 y1 w W h1 h2 (by rw [List.length_map]; omega)
            have NT2 := fun v2 W h1 h2 => note_ok (gw + 1) ((tell want ⟨y0, y1⟩).map mk47) 0 v2 [] y0 y1 w W h1 h2 (by have := tell_len want ⟨y0, y1⟩; rw [List.length_map]; omega)
            obtain ⟨n1, n2, n3⟩ := note_ord want ⟨y0, y1⟩
            obtain ⟨m1, m2, m3⟩ := note_ord (tell want ⟨y0, y1⟩) ⟨y0, y1⟩
            rw [tell_again] at m2
            dsimp only at n1 n2 n3 m1 m2 m3
            rw [n1, n2, n3] at NT1
            rw [m1, m2, m3] at NT2
            clear n1 n2 n3 m1 m2 m3
            go_wp2_with (fail)
            go_region_held3 (fun w' => w'.cell? ⟨gc, 0, none⟩ = some (.int .i64 y0) ∧ w'.cell? ⟨gc, 1, none⟩ = some (.int .i64 y1)) (first | exact ⟨d0, d1'⟩ | go_keep)
              (first
                | (go_at_call 17; refine (NW _ K12.out.1.wd).mono ?_; rintro e wd3 ⟨rfl, hb7⟩; have K13 := Aside0.mk (And.intro (K12.out.1.below hb7) ((hb7.block gc (blk_lt K12.out.2)).trans K12.out.2)); have d0 : wd3.cell? ⟨gc, 0, none⟩ = some (.int .i64 y0) := (blk_cell K13.out.2 0).trans rfl; have d1' : wd3.cell? ⟨gc, 1, none⟩ = some (.int .i64 y1) := (blk_cell K13.out.2 1).trans rfl; clear hb7)
                | (go_at_call 17; refine (NW _ (K2.out.1.wd.below (pw_below_drewN (Below.refl _ _) 1))).mono ?_; rintro e wd1 ⟨rfl, hb7⟩; have hb77 := (pw_below_drewN (Below.refl wr.heap.size wr) 1).trans hb7; have K11 := Aside0.mk (And.intro (K2.out.1.below hb77) ((hb77.block gc (blk_lt K2.out.2)).trans K2.out.2)); have d0 : wd1.cell? ⟨gc, 0, none⟩ = some (.int .i64 y0) := (blk_cell K11.out.2 0).trans rfl; have d1' : wd1.cell? ⟨gc, 1, none⟩ = some (.int .i64 y1) := (blk_cell K11.out.2 1).trans rfl; clear hb7 hb77)
                | (go_at_call 16; refine (NT2 _ _ K13.out.1.st K13.out.1.bel).mono ?_; rintro e wd4 ⟨rfl, v4, hI8, hB8, hk8, hx8⟩; have K14 := Aside0.mk (And.intro (K13.out.1.noted hI8 hB8 hk8) (hk8.blk K13.out.2 (ne_type6 K13.out.2 K13.out.1.st.1 (by decide)) (Kd.R_ne K13.out.1.st.2.2 K13.out.2 (by decide)))); have d0 : wd4.cell? ⟨gc, 0, none⟩ = some (.int .i64 y0) := (blk_cell K14.out.2 0).trans rfl; have d1' : wd4.cell? ⟨gc, 1, none⟩ = some (.int .i64 y1) := (blk_cell K14.out.2 1).trans rfl; clear hI8 hB8 hk8 hx8)
                | (go_at_call 16; refine (NT1 _ K11.out.1.st K11.out.1.bel).mono ?_; rintro e wd2 ⟨rfl, v2, hI8, hB8, hk8, hx8⟩; have K12 := Aside0.mk (And.intro (K11.out.1.noted hI8 hB8 hk8) (hk8.blk K11.out.2 (ne_type6 K11.out.2 K11.out.1.st.1 (by decide)) (Kd.R_ne K11.out.1.st.2.2 K11.out.2 (by decide)))); have d0 : wd2.cell? ⟨gc, 0, none⟩ = some (.int .i64 y0) := (blk_cell K12.out.2 0).trans rfl; have d1' : wd2.cell? ⟨gc, 1, none⟩ = some (.int .i64 y1) := (blk_cell K12.out.2 1).trans rfl; clear hI8 hB8 hk8 hx8))
            have K14b := Aside0.mk (K14.out.1)
            obtain ⟨bi, hbi⟩ : ∃ bi, bi = want.any (eq24 ⟨y0, y1⟩) := ⟨_, rfl⟩
            have HBI := Aside0.mk hbi
            rw [← hbi]
            clear hbi
            cases bi
            · have m0 : wd4.cell? ⟨gw + 1 + 1, 0, none⟩ = some (.slice B2 want.length e2) := (blk_cell K14b.out.wt.1 0).trans rfl
              have mf := blk_frozen K14b.out.wt.1
              have hown : some (gw + 1 + 1) ≠ (Value.slice B2 want.length e2).ownBlock := K14b.out.wt.own
              have hR1 : k24.R 24 wd4 w.heap.size (fun q => (Value.slice B2 want.length e2).ownBlock = some q ∨ wd4.heap.size ≤ q) (.slice B2 want.length e2) want := Kd.R_mono K14b.out.wt.2.2 (fun _ hq => .inl hq)
              have hB1 : Below w.heap.size w wd4 := K14b.out.bel
              have hgl : gw + 1 + 1 < wd4.heap.size := blk_lt K14b.out.wt.1
              go_wp2_with ((with_reducible refine gate_builtin (b := .append) (xs := #[.tmp 66, .tmp 69]) rfl ?_); (try (refine gate_guard (by rfl) ?_; dsimp only)); at_builtin; refine Kd.R_append k24 (w0 := w) (W := wd4) w.heap.size rfl (.tmp 66) (.tmp 69) 27 24 (.agg #[(.int .i64 0), (.int .i64 0)]) 16 rfl hu27 info24D rfl (by decide) (by omega) (.slice B2 want.length e2) want (⟨y0, y1⟩ : S24) [.int .i64 y0, .int .i64 y1] (fun z => (Value.slice B2 want.length e2).ownBlock = some z ∨ wd4.heap.size ≤ z) (fun _ => False) (by first | (go_simp; done) | (go_simp; rfl)) (by first | (go_simp; done) | (go_simp; rfl)) (k24_mkM _ _ _ (⟨y0, y1⟩ : S24)) (fun _ hk => hk.elim) (fun _ hk => .inr hk) hR1 hB1 hB1.size (by omega) ?_; intro v7 w7 hO7 hB7 hg7 hat7; have h7 := (hg7.block _ hgl hown).trans K14b.out.wt.1; have d7 : w7.cell? ⟨gw + 1 + 1, 0, none⟩ = some (.slice B2 want.length e2) := (blk_cell h7 0).trans rfl; have f7 := blk_frozen h7 0; obtain ⟨A7, e7, rfl⟩ := Kd.R_slice hO7)
              have j1 := K14b.out.appended hO7 hB7 hg7
              have ht : tell want ⟨y0, y1⟩ = want ++ [⟨y0, y1⟩] := by unfold tell; rw [if_neg (by rw [← HBI.out]; simp)]
              rw [ht] at j1
              simp only [List.length_append, List.length_singleton] at j1
              go_roundg (l.length - (j + 1))
              case rel => exact ⟨j + 1, want ++ [⟨y0, y1⟩], _, v4, (by rw [Int.natCast_add]; rfl), (by omega), ⟨⟨j1.wd, j1.st, j1.wt, j1.bel, j1.cr, j1.grl⟩, by rw [List.length_append, List.length_singleton]; have := HC.out.2; omega⟩⟩
              case measure => omega
            · have ht : tell want ⟨y0, y1⟩ = want := by unfold tell; rw [if_pos HBI.out.symm]
              rw [ht] at K14b
              clear ht
              go_wp2
              go_roundg (l.length - (j + 1))
              case rel => exact ⟨j + 1, want, _, v4, (by rw [Int.natCast_add]; rfl), (by omega), ⟨⟨K14b.out.wd, K14b.out.st, K14b.out.wt, K14b.out.bel, K14b.out.cr, K14b.out.grl⟩, by have := HC.out.2; omega⟩⟩
              case measure => omega
      · have r0 : decide ((j : Int) < (l.length : Int)) = false := decide_eq_false (by omega)
        have hwt : want.length ≤ 80 := by have := HC.out.2; omega
        obtain ⟨Al, cl, rfl⟩ := Kd.R_slice HC.out.1.st.2.2
        go_wp2_with (go_at_call 19; refine (all_ok (gw + 1) (want.map mk47) 0 Al cl w _ (HC.out.1.st.below (below_alloc (Below.refl _ _) _))).mono ?_; rintro e w9 ⟨rfl, rfl⟩)
        have hb1 := below_alloc (Below.refl wr.heap.size wr) (.cells #[.int .i64 0] 3)
        have hk1 := heap_alloc_new wr (.cells #[.int .i64 0] 3)
        have hgk : w.heap.size ≤ wr.heap.size := HC.out.1.bel.size
        have hs1 : (wr.alloc (.cells #[.int .i64 0] 3)).heap.size = wr.heap.size + 1 := by simp
        have K8 := Aside0.mk (HC.out.1.below hb1)
        generalize wr.alloc (.cells #[.int .i64 0] 3) = W8 at hb1 hk1 hs1 K8 ⊢
        have hb2 := below_alloc (Below.refl W8.heap.size W8) (.cells #[.slice Al want.length cl] 76)
        have K9 := Aside0.mk (K8.out.below hb2)
        have hcb := heap_alloc_new W8 (.cells #[.slice Al want.length cl] 76)
        have hk9 := (hb2.block _ (blk_lt hk1)).trans hk1
        generalize W8.alloc (.cells #[.slice Al want.length cl] 76) = W0 at K9 hcb hk9 ⊢
        rw [hs1] at hcb
        generalize wr.heap.size = gk at hk9 hgk hcb ⊢
        clear hb1 hk1 hs1 K8 hb2 HC
        refine name_act (fun T hT => ?_)
        dsimp only at hT
        have HT := Aside0.mk hT
        clear hT
        refine (wpIn_wide (n := 9)).1 ?_
        refine wpIn_rangeFunc_ownH rfl (by decide) (gf := 46) (lb := #[.pointer (some ⟨gk + 1, 0, none⟩)]) rfl trivial (enters_of Try.func46 (by kernel_rfl) rfl)
          (valuesk_stops Fence.wide 8 trivial rfl (by decide) (gk + 1) Al cl (want.map mk47) (by rw [List.length_map]; omega) W0 W0.heap.size gk rfl (by rw [List.length_map]; exact hcb) (ne_type6 hcb hk9 (by decide)) K9.out.st.2.2 (Kd.R_ne K9.out.st.2.2 hk9 (by decide))) KeepK.trans (KeepK.book (Nat.le_refl _)) (Below.refl _ _) (fun _ => rfl)
          (fun pre W => Boxed W gk 3 (.int .i64 (pre.length : Int)) ∧ Below w.heap.size w W ∧ KeepK W0.heap.size gk W0 W ∧ pre.map key47 <+: want)
          (fun c pre W => Boxed W gr 4 (.bool false) ∧ Below w.heap.size w W ∧ (c = .ret ∧ ¬ pre.map key47 <+: want))
          (OwnFrom.and (Own.from (boxed_own gk 3 (fun pre : List S47 => .int .i64 (pre.length : Int))) _) (OwnFrom.and (ownFrom_below (Nat.le_refl _) K9.out.bel.size) (OwnFrom.and (keepK_own (Nat.le_refl _)) (ownFrom_pure _ (fun pre : List S47 => pre.map key47 <+: want)))))
          (fun c => OwnFrom.and (Own.from (boxed_own gr 4 (fun _ : List S47 => .bool false)) _) (OwnFrom.and (ownFrom_below (Nat.le_refl _) K9.out.bel.size) (ownFrom_pure _ (fun pre : List S47 => c = .ret ∧ ¬ pre.map key47 <+: want))))
          ⟨hk9, K9.out.bel, KeepK.refl _ _ _, List.nil_prefix⟩
          (fun x a' W => ∃ Bx, W0.heap.size ≤ Bx ∧ W.heap[Bx]? = some (.cells (ent x) 47 (0, 0)) ∧ a' = ⟨(T.setIfInBounds 74 (.agg (ent x))).setIfInBounds 12 (.pointer (some ⟨Bx, 0, none⟩)), []⟩)
          (fun x a' _ X Y row hs hg hr => by obtain ⟨Bx, h1, h2, h3⟩ := hs; exact ⟨Bx, h1, cells_own h2 hg (fun r e => (hr r e).2), h3⟩)
          ?assign ?body ?done ?stop
        case assign =>
          rintro lp pre ⟨a, b, d⟩ W K ⟨iK, hB, hKK, iP⟩ hK
          dsimp only [ent]
          gi_wp2
          exact hK _ _ ((KeepsOthers.alloc _ _).from _) (KeepK.of (below_alloc (Below.refl W.heap.size W) _) hKK.1) ⟨iK.alloc _, hB.alloc hB.size _, hKK.trans (KeepK.of (below_alloc (Below.refl W.heap.size W) _) hKK.1), iP⟩ ⟨W.heap.size, hKK.1, heap_alloc_new W _, by rw [HT.out]; rfl⟩
        case body =>
          rintro lp pre ⟨a, b, d⟩ a' W hlp ⟨r, hr⟩ ⟨iK, hB, hKK, iP⟩ ⟨Bx, hBx, bX, rfl⟩ hlt
          have K := Aside0.mk (K9.out.keptK hk9 hKK hB)
          have hpl := iP.length_le
          rw [List.length_map] at hpl
          have IP := Aside0.mk iP
          clear iP
          rw [HT.out]
          simp only [List.setIfInBounds_toArray, List.set_cons_zero, List.set_cons_succ]
          clear HT hcb
          obtain ⟨B2, e2, rfl⟩ := Kd.R_slice K.out.wt.2.2
          have ck : W.cell? ⟨gk, 0, none⟩ = some (.int .i64 (pre.length : Int)) := iK.cell
          have cf := iK.frozen
          have cv : W.cell? ⟨gw + 1 + 1, 0, none⟩ = some (.slice B2 want.length e2) := (blk_cell K.out.wt.1 0).trans rfl
          have cr : W.cell? ⟨gr, 0, none⟩ = some (.bool false) := (blk_cell K.out.cr 0).trans rfl
          have crf := blk_frozen K.out.cr
          have x0 : W.cell? ⟨Bx, 0, none⟩ = some (.int .i64 a) := (blk_cell bX 0).trans rfl
          have x1 : W.cell? ⟨Bx, 1, none⟩ = some (.int .i64 b) := (blk_cell bX 1).trans rfl
          obtain ⟨k, hkk⟩ : ∃ k, k = pre.length := ⟨_, rfl⟩
          have HK := Aside0.mk hkk
          rw [← hkk] at ck hpl
          have p0 : ((0 : Int) ≤ (k : Int)) = True := eq_true (by omega)
          by_cases hlong : want.length ≤ k
          · have q0 : decide ((want.length : Int) ≤ (k : Int)) = true := decide_eq_true (by omega)
            have HE := Aside0.mk (ord_long (x := ⟨a, b, d⟩) (hkk ▸ hlong))
            clear hkk
            gi_wp2
            refine wpIn_round_held (S := fun w' => w'.cell? ⟨gk, 0, none⟩ = some (.int .i64 (k : Int)) ∧ w'.cell? ⟨gw + 1 + 1, 0, none⟩ = some (.slice B2 want.length e2) ∧ w'.cell? ⟨Bx, 0, none⟩ = some (.int .i64 a) ∧ w'.cell? ⟨Bx, 1, none⟩ = some (.int .i64 b)) (by kernel_rfl) (by kernel_rfl) (fun ⟨_, _, h⟩ => h) ⟨ck, cv, x0, x1⟩ (fun hHeld => ?_)
            refine wpAnyH_take (i := 0) (oi := ({ dst := some 75, op := Op.load 3 (Operand.tmp 11), type := 3, pos := "law.go:189", after := #[], guard := none } : Oper)) (v := ?_) rfl (by kernel_rfl) (by kernel_rfl) (by kernel_rfl) (fun _ _ _ h => h) (Or.inl ⟨by rfl, ?_⟩) (by assumption) ?_
            rotate_left
            · intro w hSw
              (try dsimp only at hSw)
              go_simp
              (try with_reducible rfl)
            try simp only [Act.put, List.setIfInBounds_toArray, List.set_cons_zero, List.set_cons_succ]
            refine wpAnyH_take (i := 1) (oi := ({ dst := some 76, op := Op.load 27 (Operand.tmp 5), type := 27, pos := "law.go:189", after := #[], guard := none } : Oper)) (v := ?_) rfl (by kernel_rfl) (by kernel_rfl) (by kernel_rfl) (fun _ _ _ h => h) (Or.inl ⟨by rfl, ?_⟩) (by assumption) ?_
            rotate_left
            · intro w hSw
              (try dsimp only at hSw)
              go_simp
              (try with_reducible rfl)
            try simp only [Act.put, List.setIfInBounds_toArray, List.set_cons_zero, List.set_cons_succ]
            refine wpAnyH_take (i := 2) (oi := ({ dst := some 77, op := Op.call { callee := Callee.builtin Builtin.len, args := #[Operand.tmp 76], argTypes := #[27] }, type := 3, pos := "law.go:189", after := #[{ on := 1, ground := Ground.data }], guard := none } : Oper)) (v := ?_) rfl (by kernel_rfl) (by kernel_rfl) (by kernel_rfl) (fun _ _ _ h => h) (Or.inl ⟨by rfl, ?_⟩) (by assumption) ?_
            rotate_left
            · intro w hSw
              (try dsimp only at hSw)
              go_simp
              (try with_reducible rfl)
            try simp only [Act.put, List.setIfInBounds_toArray, List.set_cons_zero, List.set_cons_succ]
            refine wpAnyH_take (i := 3) (oi := ({ dst := some 78, op := Op.binOp BinOp.geq 3 (Operand.tmp 75) (Operand.tmp 77) 3, type := 4, pos := "law.go:189", after := #[{ on := 0, ground := Ground.data }, { on := 2, ground := Ground.data }], guard := none } : Oper)) (v := ?_) rfl (by kernel_rfl) (by kernel_rfl) (by kernel_rfl) (fun _ _ _ h => h) (Or.inl ⟨by rfl, ?_⟩) (by assumption) ?_
            rotate_left
            · intro w hSw
              (try dsimp only at hSw)
              go_simp
              (try with_reducible rfl)
            try simp only [Act.put, List.setIfInBounds_toArray, List.set_cons_zero, List.set_cons_succ]
            refine wpAnyH_take (i := 4) (oi := ({ dst := some 79, op := Op.move (Operand.tmp 78), type := 4, pos := "law.go:189", after := #[{ on := 3, ground := Ground.data }], guard := none } : Oper)) (v := ?_) rfl (by kernel_rfl) (by kernel_rfl) (by kernel_rfl) (fun _ _ _ h => h) (Or.inl ⟨by rfl, ?_⟩) (by assumption) ?_
            rotate_left
            · intro w hSw
              (try dsimp only at hSw)
              go_simp
              (try with_reducible rfl)
            try simp only [Act.put, List.setIfInBounds_toArray, List.set_cons_zero, List.set_cons_succ]
            refine wpAnyH_take (i := 5) (oi := ({ dst := some 80, op := Op.fieldAddr 47 (Operand.tmp 12) 0, type := 0, pos := "law.go:189", after := #[{ on := 4, ground := Ground.guard }], guard := some (4, false) } : Oper)) (v := undef) rfl (by kernel_rfl) (by kernel_rfl) (by kernel_rfl) (fun _ _ _ h => h) (Or.inr ⟨by rfl, rfl⟩) (by assumption) ?_
            try simp only [Act.put, List.setIfInBounds_toArray, List.set_cons_zero, List.set_cons_succ]
            refine wpAnyH_take (i := 6) (oi := ({ dst := some 81, op := Op.load 41 (Operand.tmp 80), type := 41, pos := "law.go:189", after := #[{ on := 5, ground := Ground.data }, { on := 4, ground := Ground.guard }], guard := some (4, false) } : Oper)) (v := undef) rfl (by kernel_rfl) (by kernel_rfl) (by kernel_rfl) (fun _ _ _ h => h) (Or.inr ⟨by rfl, rfl⟩) (by assumption) ?_
            try simp only [Act.put, List.setIfInBounds_toArray, List.set_cons_zero, List.set_cons_succ]
            refine wpAnyH_take (i := 7) (oi := ({ dst := some 82, op := Op.load 27 (Operand.tmp 5), type := 27, pos := "law.go:189", after := #[{ on := 4, ground := Ground.guard }], guard := some (4, false) } : Oper)) (v := undef) rfl (by kernel_rfl) (by kernel_rfl) (by kernel_rfl) (fun _ _ _ h => h) (Or.inr ⟨by rfl, rfl⟩) (by assumption) ?_
            try simp only [Act.put, List.setIfInBounds_toArray, List.set_cons_zero, List.set_cons_succ]
            refine wpAnyH_take (i := 8) (oi := ({ dst := some 83, op := Op.load 3 (Operand.tmp 11), type := 3, pos := "law.go:189", after := #[{ on := 4, ground := Ground.guard }], guard := some (4, false) } : Oper)) (v := undef) rfl (by kernel_rfl) (by kernel_rfl) (by kernel_rfl) (fun _ _ _ h => h) (Or.inr ⟨by rfl, rfl⟩) (by assumption) ?_
            try simp only [Act.put, List.setIfInBounds_toArray, List.set_cons_zero, List.set_cons_succ]
            refine wpAnyH_take (i := 9) (oi := ({ dst := some 84, op := Op.indexAddr 27 (Operand.tmp 82) (Operand.tmp 83), type := 0, pos := "law.go:189", after := #[{ on := 7, ground := Ground.data }, { on := 8, ground := Ground.data }, { on := 4, ground := Ground.guard }], guard := some (4, false) } : Oper)) (v := undef) rfl (by kernel_rfl) (by kernel_rfl) (by kernel_rfl) (fun _ _ _ h => h) (Or.inr ⟨by rfl, rfl⟩) (by assumption) ?_
            try simp only [Act.put, List.setIfInBounds_toArray, List.set_cons_zero, List.set_cons_succ]
            refine wpAnyH_take (i := 10) (oi := ({ dst := some 85, op := Op.fieldAddr 24 (Operand.tmp 84) 0, type := 0, pos := "law.go:189", after := #[{ on := 9, ground := Ground.data }, { on := 4, ground := Ground.guard }], guard := some (4, false) } : Oper)) (v := undef) rfl (by kernel_rfl) (by kernel_rfl) (by kernel_rfl) (fun _ _ _ h => h) (Or.inr ⟨by rfl, rfl⟩) (by assumption) ?_
            try simp only [Act.put, List.setIfInBounds_toArray, List.set_cons_zero, List.set_cons_succ]
            refine wpAnyH_take (i := 11) (oi := ({ dst := some 86, op := Op.load 3 (Operand.tmp 85), type := 3, pos := "law.go:189", after := #[{ on := 10, ground := Ground.data }, { on := 4, ground := Ground.guard }], guard := some (4, false) } : Oper)) (v := undef) rfl (by kernel_rfl) (by kernel_rfl) (by kernel_rfl) (fun _ _ _ h => h) (Or.inr ⟨by rfl, rfl⟩) (by assumption) ?_
            try simp only [Act.put, List.setIfInBounds_toArray, List.set_cons_zero, List.set_cons_succ]
            refine wpAnyH_take (i := 12) (oi := ({ dst := some 87, op := Op.binOp BinOp.neq 3 (Operand.tmp 81) (Operand.tmp 86) 3, type := 4, pos := "law.go:189", after := #[{ on := 6, ground := Ground.data }, { on := 11, ground := Ground.data }, { on := 4, ground := Ground.guard }], guard := some (4, false) } : Oper)) (v := undef) rfl (by kernel_rfl) (by kernel_rfl) (by kernel_rfl) (fun _ _ _ h => h) (Or.inr ⟨by rfl, rfl⟩) (by assumption) ?_
            try simp only [Act.put, List.setIfInBounds_toArray, List.set_cons_zero, List.set_cons_succ]
            refine wpAnyH_take (i := 13) (oi := ({ dst := some 88, op := Op.pick (Operand.tmp 79) (Operand.const (Value.bool true)) (Operand.tmp 87), type := 4, pos := "law.go:189", after := #[{ on := 4, ground := Ground.data }, { on := 12, ground := Ground.data }], guard := none } : Oper)) (v := ?_) rfl (by kernel_rfl) (by kernel_rfl) (by kernel_rfl) (fun _ _ _ h => h) (Or.inl ⟨by rfl, ?_⟩) (by assumption) ?_
            rotate_left
            · intro w hSw
              (try dsimp only at hSw)
              go_simp
              (try with_reducible rfl)
            try simp only [Act.put, List.setIfInBounds_toArray, List.set_cons_zero, List.set_cons_succ]
            refine wpAnyH_take (i := 14) (oi := ({ dst := some 89, op := Op.move (Operand.tmp 88), type := 4, pos := "law.go:189", after := #[{ on := 13, ground := Ground.data }, { on := 4, ground := Ground.chain }], guard := none } : Oper)) (v := ?_) rfl (by kernel_rfl) (by kernel_rfl) (by kernel_rfl) (fun _ _ _ h => h) (Or.inl ⟨by rfl, ?_⟩) (by assumption) ?_
            rotate_left
            · intro w hSw
              (try dsimp only at hSw)
              go_simp
              (try with_reducible rfl)
            try simp only [Act.put, List.setIfInBounds_toArray, List.set_cons_zero, List.set_cons_succ]
            refine wpAnyH_take (i := 15) (oi := ({ dst := some 90, op := Op.fieldAddr 47 (Operand.tmp 12) 1, type := 0, pos := "law.go:189", after := #[{ on := 14, ground := Ground.guard }], guard := some (14, false) } : Oper)) (v := undef) rfl (by kernel_rfl) (by kernel_rfl) (by kernel_rfl) (fun _ _ _ h => h) (Or.inr ⟨by rfl, rfl⟩) (by assumption) ?_
            try simp only [Act.put, List.setIfInBounds_toArray, List.set_cons_zero, List.set_cons_succ]
            refine wpAnyH_take (i := 16) (oi := ({ dst := some 91, op := Op.load 3 (Operand.tmp 90), type := 3, pos := "law.go:189", after := #[{ on := 15, ground := Ground.data }, { on := 14, ground := Ground.guard }], guard := some (14, false) } : Oper)) (v := undef) rfl (by kernel_rfl) (by kernel_rfl) (by kernel_rfl) (fun _ _ _ h => h) (Or.inr ⟨by rfl, rfl⟩) (by assumption) ?_
            try simp only [Act.put, List.setIfInBounds_toArray, List.set_cons_zero, List.set_cons_succ]
            refine wpAnyH_take (i := 17) (oi := ({ dst := some 92, op := Op.load 27 (Operand.tmp 5), type := 27, pos := "law.go:189", after := #[{ on := 14, ground := Ground.guard }], guard := some (14, false) } : Oper)) (v := undef) rfl (by kernel_rfl) (by kernel_rfl) (by kernel_rfl) (fun _ _ _ h => h) (Or.inr ⟨by rfl, rfl⟩) (by assumption) ?_
            try simp only [Act.put, List.setIfInBounds_toArray, List.set_cons_zero, List.set_cons_succ]
            refine wpAnyH_take (i := 18) (oi := ({ dst := some 93, op := Op.load 3 (Operand.tmp 11), type := 3, pos := "law.go:189", after := #[{ on := 14, ground := Ground.guard }], guard := some (14, false) } : Oper)) (v := undef) rfl (by kernel_rfl) (by kernel_rfl) (by kernel_rfl) (fun _ _ _ h => h) (Or.inr ⟨by rfl, rfl⟩) (by assumption) ?_
            try simp only [Act.put, List.setIfInBounds_toArray, List.set_cons_zero, List.set_cons_succ]
            refine wpAnyH_take (i := 19) (oi := ({ dst := some 94, op := Op.indexAddr 27 (Operand.tmp 92) (Operand.tmp 93), type := 0, pos := "law.go:189", after := #[{ on := 17, ground := Ground.data }, { on := 18, ground := Ground.data }, { on := 14, ground := Ground.guard }], guard := some (14, false) } : Oper)) (v := undef) rfl (by kernel_rfl) (by kernel_rfl) (by kernel_rfl) (fun _ _ _ h => h) (Or.inr ⟨by rfl, rfl⟩) (by assumption) ?_
            try simp only [Act.put, List.setIfInBounds_toArray, List.set_cons_zero, List.set_cons_succ]
            refine wpAnyH_take (i := 20) (oi := ({ dst := some 95, op := Op.fieldAddr 24 (Operand.tmp 94) 1, type := 0, pos := "law.go:189", after := #[{ on := 19, ground := Ground.data }, { on := 14, ground := Ground.guard }], guard := some (14, false) } : Oper)) (v := undef) rfl (by kernel_rfl) (by kernel_rfl) (by kernel_rfl) (fun _ _ _ h => h) (Or.inr ⟨by rfl, rfl⟩) (by assumption) ?_
            try simp only [Act.put, List.setIfInBounds_toArray, List.set_cons_zero, List.set_cons_succ]
            refine wpAnyH_take (i := 21) (oi := ({ dst := some 96, op := Op.load 3 (Operand.tmp 95), type := 3, pos := "law.go:189", after := #[{ on := 20, ground := Ground.data }, { on := 14, ground := Ground.guard }], guard := some (14, false) } : Oper)) (v := undef) rfl (by kernel_rfl) (by kernel_rfl) (by kernel_rfl) (fun _ _ _ h => h) (Or.inr ⟨by rfl, rfl⟩) (by assumption) ?_
            try simp only [Act.put, List.setIfInBounds_toArray, List.set_cons_zero, List.set_cons_succ]
            refine wpAnyH_take (i := 22) (oi := ({ dst := some 97, op := Op.binOp BinOp.neq 3 (Operand.tmp 91) (Operand.tmp 96) 3, type := 4, pos := "law.go:189", after := #[{ on := 16, ground := Ground.data }, { on := 21, ground := Ground.data }, { on := 14, ground := Ground.guard }], guard := some (14, false) } : Oper)) (v := undef) rfl (by kernel_rfl) (by kernel_rfl) (by kernel_rfl) (fun _ _ _ h => h) (Or.inr ⟨by rfl, rfl⟩) (by assumption) ?_
            try simp only [Act.put, List.setIfInBounds_toArray, List.set_cons_zero, List.set_cons_succ]
            refine wpAnyH_take (i := 23) (oi := ({ dst := some 98, op := Op.pick (Operand.tmp 89) (Operand.const (Value.bool true)) (Operand.tmp 97), type := 4, pos := "law.go:189", after := #[{ on := 14, ground := Ground.data }, { on := 22, ground := Ground.data }], guard := none } : Oper)) (v := ?_) rfl (by kernel_rfl) (by kernel_rfl) (by kernel_rfl) (fun _ _ _ h => h) (Or.inl ⟨by rfl, ?_⟩) (by assumption) ?_
            rotate_left
            · intro w hSw
              (try dsimp only at hSw)
              go_simp
              (try with_reducible rfl)
            try simp only [Act.put, List.setIfInBounds_toArray, List.set_cons_zero, List.set_cons_succ]
            refine wpAnyH_done (by kernel_rfl) ?_ _
            gi_wp2
            have hbw : Below W.heap.size W (W.drewN 1) := pw_below_drewN (Below.refl W.heap.size W) 1
            exact ⟨(keepsFrom_below hbw).trans ((KeepsOthers.setCell _ _ _).from _), (show Boxed (W.setCell ⟨gr, 0, none⟩ (.bool false)) gr 4 (.bool false) from Boxed.set _ K.out.cr), below_set (hB.trans (hbw.mono hB.size)) HX.out, rfl, HE.out⟩
          · have q0 : decide ((want.length : Int) ≤ (k : Int)) = false := decide_eq_false (by omega)
            have p1 : ((k : Int) < (want.length : Int)) = True := eq_true (by omega)
            obtain ⟨ad, rfl, t0, t1⟩ := at_T24 (Kd.R_reads' K.out.wt.2.2).2.2 (k : Int) (by omega) (by omega)
            simp only [Int.toNat_natCast] at t0 t1
            obtain ⟨⟨v0, v1⟩, hv⟩ : ∃ x, x = rd_T24 want (k : Int) := ⟨_, rfl⟩
            rw [← hv] at t0 t1
            have HE := Aside0.mk (ord_step (a := a) (b := b) (d := d) (v0 := v0) (v1 := v1) IP.out (by omega) (by rw [← hkk]; exact hv.symm))
            clear hv hkk
            by_cases ha : a = v0
            · by_cases hb : b = v1
              · have b0 : (a != v0) = false := by simpa using ha
                have b1 : (b != v1) = false := by simpa using hb
                have HE := Aside0.mk (HE.out.2 ⟨ha, hb⟩)
                clear ha hb
                gi_wp2
                refine wpIn_round_held (S := fun w' => w'.cell? ⟨gk, 0, none⟩ = some (.int .i64 (k : Int)) ∧ w'.cell? ⟨gw + 1 + 1, 0, none⟩ = some (.slice (some ad) want.length e2) ∧ w'.cell? ⟨Bx, 0, none⟩ = some (.int .i64 a) ∧ w'.cell? ⟨Bx, 1, none⟩ = some (.int .i64 b) ∧ w'.cell? (ad.add (k * 2)) = some (.int .i64 v0) ∧ w'.cell? ⟨(ad.add (k * 2)).block, (ad.add (k * 2)).off + 1, none⟩ = some (.int .i64 v1)) (by kernel_rfl) (by kernel_rfl) (fun ⟨_, _, h⟩ => h) ⟨ck, cv, x0, x1, t0, t1⟩ (fun hHeld => ?_)
                refine wpAnyH_take (i := 0) (oi := ({ dst := some 75, op := Op.load 3 (Operand.tmp 11), type := 3, pos := "law.go:189", after := #[], guard := none } : Oper)) (v := ?_) rfl (by kernel_rfl) (by kernel_rfl) (by kernel_rfl) (fun _ _ _ h => h) (Or.inl ⟨by rfl, ?_⟩) (by assumption) ?_
                rotate_left
                · intro w hSw
                  (try dsimp only at hSw)
                  go_simp
                  (try with_reducible rfl)
                try simp only [Act.put, List.setIfInBounds_toArray, List.set_cons_zero, List.set_cons_succ]
                refine wpAnyH_take (i := 1) (oi := ({ dst := some 76, op := Op.load 27 (Operand.tmp 5), type := 27, pos := "law.go:189", after := #[], guard := none } : Oper)) (v := ?_) rfl (by kernel_rfl) (by kernel_rfl) (by kernel_rfl) (fun _ _ _ h => h) (Or.inl ⟨by rfl, ?_⟩) (by assumption) ?_
                rotate_left
                · intro w hSw
                  (try dsimp only at hSw)
                  go_simp
                  (try with_reducible rfl)
                try simp only [Act.put, List.setIfInBounds_toArray, List.set_cons_zero, List.set_cons_succ]
                refine wpAnyH_take (i := 2) (oi := ({ dst := some 77, op := Op.call { callee := Callee.builtin Builtin.len, args := #[Operand.tmp 76], argTypes := #[27] }, type := 3, pos := "law.go:189", after := #[{ on := 1, ground := Ground.data }], guard := none } : Oper)) (v := ?_) rfl (by kernel_rfl) (by kernel_rfl) (by kernel_rfl) (fun _ _ _ h => h) (Or.inl ⟨by rfl, ?_⟩) (by assumption) ?_
                rotate_left
                · intro w hSw
                  (try dsimp only at hSw)
                  go_simp
                  (try with_reducible rfl)
                try simp only [Act.put, List.setIfInBounds_toArray, List.set_cons_zero, List.set_cons_succ]
                refine wpAnyH_take (i := 3) (oi := ({ dst := some 78, op := Op.binOp BinOp.geq 3 (Operand.tmp 75) (Operand.tmp 77) 3, type := 4, pos := "law.go:189", after := #[{ on := 0, ground := Ground.data }, { on := 2, ground := Ground.data }], guard := none } : Oper)) (v := ?_) rfl (by kernel_rfl) (by kernel_rfl) (by kernel_rfl) (fun _ _ _ h => h) (Or.inl ⟨by rfl, ?_⟩) (by assumption) ?_
                rotate_left
                · intro w hSw
                  (try dsimp only at hSw)
                  go_simp
                  (try with_reducible rfl)
                try simp only [Act.put, List.setIfInBounds_toArray, List.set_cons_zero, List.set_cons_succ]
                refine wpAnyH_take (i := 4) (oi := ({ dst := some 79, op := Op.move (Operand.tmp 78), type := 4, pos := "law.go:189", after := #[{ on := 3, ground := Ground.data }], guard := none } : Oper)) (v := ?_) rfl (by kernel_rfl) (by kernel_rfl) (by kernel_rfl) (fun _ _ _ h => h) (Or.inl ⟨by rfl, ?_⟩) (by assumption) ?_
                rotate_left
                · intro w hSw
                  (try dsimp only at hSw)
                  go_simp
                  (try with_reducible rfl)
                try simp only [Act.put, List.setIfInBounds_toArray, List.set_cons_zero, List.set_cons_succ]
                refine wpAnyH_take (i := 5) (oi := ({ dst := some 80, op := Op.fieldAddr 47 (Operand.tmp 12) 0, type := 0, pos := "law.go:189", after := #[{ on := 4, ground := Ground.guard }], guard := some (4, false) } : Oper)) (v := ?_) rfl (by kernel_rfl) (by kernel_rfl) (by kernel_rfl) (fun _ _ _ h => h) (Or.inl ⟨by rfl, ?_⟩) (by assumption) ?_
                rotate_left
                · intro w hSw
                  (try dsimp only at hSw)
                  go_simp
                  (try with_reducible rfl)
                try simp only [Act.put, List.setIfInBounds_toArray, List.set_cons_zero, List.set_cons_succ]
                refine wpAnyH_take (i := 6) (oi := ({ dst := some 81, op := Op.load 41 (Operand.tmp 80), type := 41, pos := "law.go:189", after := #[{ on := 5, ground := Ground.data }, { on := 4, ground := Ground.guard }], guard := some (4, false) } : Oper)) (v := ?_) rfl (by kernel_rfl) (by kernel_rfl) (by kernel_rfl) (fun _ _ _ h => h) (Or.inl ⟨by rfl, ?_⟩) (by assumption) ?_
                rotate_left
                · intro w hSw
                  (try dsimp only at hSw)
                  go_simp
                  (try with_reducible rfl)
                try simp only [Act.put, List.setIfInBounds_toArray, List.set_cons_zero, List.set_cons_succ]
                refine wpAnyH_take (i := 7) (oi := ({ dst := some 82, op := Op.load 27 (Operand.tmp 5), type := 27, pos := "law.go:189", after := #[{ on := 4, ground := Ground.guard }], guard := some (4, false) } : Oper)) (v := ?_) rfl (by kernel_rfl) (by kernel_rfl) (by kernel_rfl) (fun _ _ _ h => h) (Or.inl ⟨by rfl, ?_⟩) (by assumption) ?_
                rotate_left
                · intro w hSw
                  (try dsimp only at hSw)
                  go_simp
                  (try with_reducible rfl)
                try simp only [Act.put, List.setIfInBounds_toArray, List.set_cons_zero, List.set_cons_succ]
                refine wpAnyH_take (i := 8) (oi := ({ dst := some 83, op := Op.load 3 (Operand.tmp 11), type := 3, pos := "law.go:189", after := #[{ on := 4, ground := Ground.guard }], guard := some (4, false) } : Oper)) (v := ?_) rfl (by kernel_rfl) (by kernel_rfl) (by kernel_rfl) (fun _ _ _ h => h) (Or.inl ⟨by rfl, ?_⟩) (by assumption) ?_
                rotate_left
                · intro w hSw
                  (try dsimp only at hSw)
                  go_simp
                  (try with_reducible rfl)
                try simp only [Act.put, List.setIfInBounds_toArray, List.set_cons_zero, List.set_cons_succ]
                refine wpAnyH_take (i := 9) (oi := ({ dst := some 84, op := Op.indexAddr 27 (Operand.tmp 82) (Operand.tmp 83), type := 0, pos := "law.go:189", after := #[{ on := 7, ground := Ground.data }, { on := 8, ground := Ground.data }, { on := 4, ground := Ground.guard }], guard := some (4, false) } : Oper)) (v := ?_) rfl (by kernel_rfl) (by kernel_rfl) (by kernel_rfl) (fun _ _ _ h => h) (Or.inl ⟨by rfl, ?_⟩) (by assumption) ?_
                rotate_left
                · intro w hSw
                  (try dsimp only at hSw)
                  go_simp
                  (try with_reducible rfl)
                try simp only [Act.put, List.setIfInBounds_toArray, List.set_cons_zero, List.set_cons_succ]
                refine wpAnyH_take (i := 10) (oi := ({ dst := some 85, op := Op.fieldAddr 24 (Operand.tmp 84) 0, type := 0, pos := "law.go:189", after := #[{ on := 9, ground := Ground.data }, { on := 4, ground := Ground.guard }], guard := some (4, false) } : Oper)) (v := ?_) rfl (by kernel_rfl) (by kernel_rfl) (by kernel_rfl) (fun _ _ _ h => h) (Or.inl ⟨by rfl, ?_⟩) (by assumption) ?_
                rotate_left
                · intro w hSw
                  (try dsimp only at hSw)
                  go_simp
                  (try with_reducible rfl)
                try simp only [Act.put, List.setIfInBounds_toArray, List.set_cons_zero, List.set_cons_succ]
                refine wpAnyH_take (i := 11) (oi := ({ dst := some 86, op := Op.load 3 (Operand.tmp 85), type := 3, pos := "law.go:189", after := #[{ on := 10, ground := Ground.data }, { on := 4, ground := Ground.guard }], guard := some (4, false) } : Oper)) (v := ?_) rfl (by kernel_rfl) (by kernel_rfl) (by kernel_rfl) (fun _ _ _ h => h) (Or.inl ⟨by rfl, ?_⟩) (by assumption) ?_
                rotate_left
                · intro w hSw
                  (try dsimp only at hSw)
                  go_simp
                  (try with_reducible rfl)
                try simp only [Act.put, List.setIfInBounds_toArray, List.set_cons_zero, List.set_cons_succ]
                refine wpAnyH_take (i := 12) (oi := ({ dst := some 87, op := Op.binOp BinOp.neq 3 (Operand.tmp 81) (Operand.tmp 86) 3, type := 4, pos := "law.go:189", after := #[{ on := 6, ground := Ground.data }, { on := 11, ground := Ground.data }, { on := 4, ground := Ground.guard }], guard := some (4, false) } : Oper)) (v := ?_) rfl (by kernel_rfl) (by kernel_rfl) (by kernel_rfl) (fun _ _ _ h => h) (Or.inl ⟨by rfl, ?_⟩) (by assumption) ?_
                rotate_left
                · intro w hSw
                  (try dsimp only at hSw)
                  go_simp
                  (try with_reducible rfl)
                try simp only [Act.put, List.setIfInBounds_toArray, List.set_cons_zero, List.set_cons_succ]
                refine wpAnyH_take (i := 13) (oi := ({ dst := some 88, op := Op.pick (Operand.tmp 79) (Operand.const (Value.bool true)) (Operand.tmp 87), type := 4, pos := "law.go:189", after := #[{ on := 4, ground := Ground.data }, { on := 12, ground := Ground.data }], guard := none } : Oper)) (v := ?_) rfl (by kernel_rfl) (by kernel_rfl) (by kernel_rfl) (fun _ _ _ h => h) (Or.inl ⟨by rfl, ?_⟩) (by assumption) ?_
                rotate_left
                · intro w hSw
                  (try dsimp only at hSw)
                  go_simp
                  (try with_reducible rfl)
                try simp only [Act.put, List.setIfInBounds_toArray, List.set_cons_zero, List.set_cons_succ]
                refine wpAnyH_take (i := 14) (oi := ({ dst := some 89, op := Op.move (Operand.tmp 88), type := 4, pos := "law.go:189", after := #[{ on := 13, ground := Ground.data }, { on := 4, ground := Ground.chain }], guard := none } : Oper)) (v := ?_) rfl (by kernel_rfl) (by kernel_rfl) (by kernel_rfl) (fun _ _ _ h => h) (Or.inl ⟨by rfl, ?_⟩) (by assumption) ?_
                rotate_left
                · intro w hSw
                  (try dsimp only at hSw)
                  go_simp
                  (try with_reducible rfl)
                try simp only [Act.put, List.setIfInBounds_toArray, List.set_cons_zero, List.set_cons_succ]
                refine wpAnyH_take (i := 15) (oi := ({ dst := some 90, op := Op.fieldAddr 47 (Operand.tmp 12) 1, type := 0, pos := "law.go:189", after := #[{ on := 14, ground := Ground.guard }], guard := some (14, false) } : Oper)) (v := ?_) rfl (by kernel_rfl) (by kernel_rfl) (by kernel_rfl) (fun _ _ _ h => h) (Or.inl ⟨by rfl, ?_⟩) (by assumption) ?_
                rotate_left
                · intro w hSw
                  (try dsimp only at hSw)
                  go_simp
                  (try with_reducible rfl)
                try simp only [Act.put, List.setIfInBounds_toArray, List.set_cons_zero, List.set_cons_succ]
                refine wpAnyH_take (i := 16) (oi := ({ dst := some 91, op := Op.load 3 (Operand.tmp 90), type := 3, pos := "law.go:189", after := #[{ on := 15, ground := Ground.data }, { on := 14, ground := Ground.guard }], guard := some (14, false) } : Oper)) (v := ?_) rfl (by kernel_rfl) (by kernel_rfl) (by kernel_rfl) (fun _ _ _ h => h) (Or.inl ⟨by rfl, ?_⟩) (by assumption) ?_
                rotate_left
                · intro w hSw
                  (try dsimp only at hSw)
                  go_simp
                  (try with_reducible rfl)
                try simp only [Act.put, List.setIfInBounds_toArray, List.set_cons_zero, List.set_cons_succ]
                refine wpAnyH_take (i := 17) (oi := ({ dst := some 92, op := Op.load 27 (Operand.tmp 5), type := 27, pos := "law.go:189", after := #[{ on := 14, ground := Ground.guard }], guard := some (14, false) } : Oper)) (v := ?_) rfl (by kernel_rfl) (by kernel_rfl) (by kernel_rfl) (fun _ _ _ h => h) (Or.inl ⟨by rfl, ?_⟩) (by assumption) ?_
                rotate_left
                · intro w hSw
                  (try dsimp only at hSw)
                  go_simp
                  (try with_reducible rfl)
                try simp only [Act.put, List.setIfInBounds_toArray, List.set_cons_zero, List.set_cons_succ]
                refine wpAnyH_take (i := 18) (oi := ({ dst := some 93, op := Op.load 3 (Operand.tmp 11), type := 3, pos := "law.go:189", after := #[{ on := 14, ground := Ground.guard }], guard := some (14, false) } : Oper)) (v := ?_) rfl (by kernel_rfl) (by kernel_rfl) (by kernel_rfl) (fun _ _ _ h => h) (Or.inl ⟨by rfl, ?_⟩) (by assumption) ?_
                rotate_left
                · intro w hSw
                  (try dsimp only at hSw)
                  go_simp
                  (try with_reducible rfl)
                try simp only [Act.put, List.setIfInBounds_toArray, List.set_cons_zero, List.set_cons_succ]
                refine wpAnyH_take (i := 19) (oi := ({ dst := some 94, op := Op.indexAddr 27 (Operand.tmp 92) (Operand.tmp 93), type := 0, pos := "law.go:189", after := #[{ on := 17, ground := Ground.data }, { on := 18, ground := Ground.data }, { on := 14, ground := Ground.guard }], guard := some (14, false) } : Oper)) (v := ?_) rfl (by kernel_rfl) (by kernel_rfl) (by kernel_rfl) (fun _ _ _ h => h) (Or.inl ⟨by rfl, ?_⟩) (by assumption) ?_
                rotate_left
                · intro w hSw
                  (try dsimp only at hSw)
                  go_simp
                  (try with_reducible rfl)
                try simp only [Act.put, List.setIfInBounds_toArray, List.set_cons_zero, List.set_cons_succ]
                refine wpAnyH_take (i := 20) (oi := ({ dst := some 95, op := Op.fieldAddr 24 (Operand.tmp 94) 1, type := 0, pos := "law.go:189", after := #[{ on := 19, ground := Ground.data }, { on := 14, ground := Ground.guard }], guard := some (14, false) } : Oper)) (v := ?_) rfl (by kernel_rfl) (by kernel_rfl) (by kernel_rfl) (fun _ _ _ h => h) (Or.inl ⟨by rfl, ?_⟩) (by assumption) ?_
                rotate_left
                · intro w hSw
                  (try dsimp only at hSw)
                  go_simp
                  (try with_reducible rfl)
                try simp only [Act.put, List.setIfInBounds_toArray, List.set_cons_zero, List.set_cons_succ]
                refine wpAnyH_take (i := 21) (oi := ({ dst := some 96, op := Op.load 3 (Operand.tmp 95), type := 3, pos := "law.go:189", after := #[{ on := 20, ground := Ground.data }, { on := 14, ground := Ground.guard }], guard := some (14, false) } : Oper)) (v := ?_) rfl (by kernel_rfl) (by kernel_rfl) (by kernel_rfl) (fun _ _ _ h => h) (Or.inl ⟨by rfl, ?_⟩) (by assumption) ?_
                rotate_left
                · intro w hSw
                  (try dsimp only at hSw)
                  go_simp
                  (try with_reducible rfl)
                try simp only [Act.put, List.setIfInBounds_toArray, List.set_cons_zero, List.set_cons_succ]
                refine wpAnyH_take (i := 22) (oi := ({ dst := some 97, op := Op.binOp BinOp.neq 3 (Operand.tmp 91) (Operand.tmp 96) 3, type := 4, pos := "law.go:189", after := #[{ on := 16, ground := Ground.data }, { on := 21, ground := Ground.data }, { on := 14, ground := Ground.guard }], guard := some (14, false) } : Oper)) (v := ?_) rfl (by kernel_rfl) (by kernel_rfl) (by kernel_rfl) (fun _ _ _ h => h) (Or.inl ⟨by rfl, ?_⟩) (by assumption) ?_
                rotate_left
                · intro w hSw
                  (try dsimp only at hSw)
                  go_simp
                  (try with_reducible rfl)
                try simp only [Act.put, List.setIfInBounds_toArray, List.set_cons_zero, List.set_cons_succ]
                refine wpAnyH_take (i := 23) (oi := ({ dst := some 98, op := Op.pick (Operand.tmp 89) (Operand.const (Value.bool true)) (Operand.tmp 97), type := 4, pos := "law.go:189", after := #[{ on := 14, ground := Ground.data }, { on := 22, ground := Ground.data }], guard := none } : Oper)) (v := ?_) rfl (by kernel_rfl) (by kernel_rfl) (by kernel_rfl) (fun _ _ _ h => h) (Or.inl ⟨by rfl, ?_⟩) (by assumption) ?_
                rotate_left
                · intro w hSw
                  (try dsimp only at hSw)
                  go_simp
                  (try with_reducible rfl)
                try simp only [Act.put, List.setIfInBounds_toArray, List.set_cons_zero, List.set_cons_succ]
                refine wpAnyH_done (by kernel_rfl) ?_ _
                gi_wp2
                have hbw : Below W.heap.size W (W.drewN 1) := pw_below_drewN (Below.refl W.heap.size W) 1
                have hK1 : KeepK W0.heap.size gk W ((W.drewN 1).setCell ⟨gk, 0, none⟩ (.int .i64 ((k : Int) + 1))) := (KeepK.of hbw hKK.1).trans (KeepK.set _ _ _)
                exact ⟨(keepsFrom_below hbw).trans ((KeepsOthers.setCell _ _ _).from _), hK1, by rw [List.length_append, List.length_singleton, ← HK.out, Int.natCast_add]; exact (show Boxed (W.setCell ⟨gk, 0, none⟩ (.int .i64 ((k : Int) + 1))) gk 3 _ from Boxed.set _ iK), below_set (hB.trans (hbw.mono hB.size)) hgk, hKK.trans hK1, HE.out⟩
              · have b0 : (a != v0) = false := by simpa using ha
                have b1 : (b != v1) = true := by simpa using hb
                have HE := Aside0.mk (fun q => hb (HE.out.1 q).2)
                clear ha hb
                gi_wp2
                refine wpIn_round_held (S := fun w' => w'.cell? ⟨gk, 0, none⟩ = some (.int .i64 (k : Int)) ∧ w'.cell? ⟨gw + 1 + 1, 0, none⟩ = some (.slice (some ad) want.length e2) ∧ w'.cell? ⟨Bx, 0, none⟩ = some (.int .i64 a) ∧ w'.cell? ⟨Bx, 1, none⟩ = some (.int .i64 b) ∧ w'.cell? (ad.add (k * 2)) = some (.int .i64 v0) ∧ w'.cell? ⟨(ad.add (k * 2)).block, (ad.add (k * 2)).off + 1, none⟩ = some (.int .i64 v1)) (by kernel_rfl) (by kernel_rfl) (fun ⟨_, _, h⟩ => h) ⟨ck, cv, x0, x1, t0, t1⟩ (fun hHeld => ?_)
                refine wpAnyH_take (i := 0) (oi := ({ dst := some 75, op := Op.load 3 (Operand.tmp 11), type := 3, pos := "law.go:189", after := #[], guard := none } : Oper)) (v := ?_) rfl (by kernel_rfl) (by kernel_rfl) (by kernel_rfl) (fun _ _ _ h => h) (Or.inl ⟨by rfl, ?_⟩) (by assumption) ?_
                rotate_left
                · intro w hSw
                  (try dsimp only at hSw)
                  go_simp
                  (try with_reducible rfl)
                try simp only [Act.put, List.setIfInBounds_toArray, List.set_cons_zero, List.set_cons_succ]
                refine wpAnyH_take (i := 1) (oi := ({ dst := some 76, op := Op.load 27 (Operand.tmp 5), type := 27, pos := "law.go:189", after := #[], guard := none } : Oper)) (v := ?_) rfl (by kernel_rfl) (by kernel_rfl) (by kernel_rfl) (fun _ _ _ h => h) (Or.inl ⟨by rfl, ?_⟩) (by assumption) ?_
                rotate_left
                · intro w hSw
                  (try dsimp only at hSw)
                  go_simp
                  (try with_reducible rfl)
                try simp only [Act.put, List.setIfInBounds_toArray, List.set_cons_zero, List.set_cons_succ]
                refine wpAnyH_take (i := 2) (oi := ({ dst := some 77, op := Op.call { callee := Callee.builtin Builtin.len, args := #[Operand.tmp 76], argTypes := #[27] }, type := 3, pos := "law.go:189", after := #[{ on := 1, ground := Ground.data }], guard := none } : Oper)) (v := ?_) rfl (by kernel_rfl) (by kernel_rfl) (by kernel_rfl) (fun _ _ _ h => h) (Or.inl ⟨by rfl, ?_⟩) (by assumption) ?_
                rotate_left
                · intro w hSw
                  (try dsimp only at hSw)
                  go_simp
                  (try with_reducible rfl)
                try simp only [Act.put, List.setIfInBounds_toArray, List.set_cons_zero, List.set_cons_succ]
                refine wpAnyH_take (i := 3) (oi := ({ dst := some 78, op := Op.binOp BinOp.geq 3 (Operand.tmp 75) (Operand.tmp 77) 3, type := 4, pos := "law.go:189", after := #[{ on := 0, ground := Ground.data }, { on := 2, ground := Ground.data }], guard := none } : Oper)) (v := ?_) rfl (by kernel_rfl) (by kernel_rfl) (by kernel_rfl) (fun _ _ _ h => h) (Or.inl ⟨by rfl, ?_⟩) (by assumption) ?_
                rotate_left
                · intro w hSw
                  (try dsimp only at hSw)
                  go_simp
                  (try with_reducible rfl)
                try simp only [Act.put, List.setIfInBounds_toArray, List.set_cons_zero, List.set_cons_succ]
                refine wpAnyH_take (i := 4) (oi := ({ dst := some 79, op := Op.move (Operand.tmp 78), type := 4, pos := "law.go:189", after := #[{ on := 3, ground := Ground.data }], guard := none } : Oper)) (v := ?_) rfl (by kernel_rfl) (by kernel_rfl) (by kernel_rfl) (fun _ _ _ h => h) (Or.inl ⟨by rfl, ?_⟩) (by assumption) ?_
                rotate_left
                · intro w hSw
                  (try dsimp only at hSw)
                  go_simp
                  (try with_reducible rfl)
                try simp only [Act.put, List.setIfInBounds_toArray, List.set_cons_zero, List.set_cons_succ]
                refine wpAnyH_take (i := 5) (oi := ({ dst := some 80, op := Op.fieldAddr 47 (Operand.tmp 12) 0, type := 0, pos := "law.go:189", after := #[{ on := 4, ground := Ground.guard }], guard := some (4, false) } : Oper)) (v := ?_) rfl (by kernel_rfl) (by kernel_rfl) (by kernel_rfl) (fun _ _ _ h => h) (Or.inl ⟨by rfl, ?_⟩) (by assumption) ?_
                rotate_left
                · intro w hSw
                  (try dsimp only at hSw)
                  go_simp
                  (try with_reducible rfl)
                try simp only [Act.put, List.setIfInBounds_toArray, List.set_cons_zero, List.set_cons_succ]
                refine wpAnyH_take (i := 6) (oi := ({ dst := some 81, op := Op.load 41 (Operand.tmp 80), type := 41, pos := "law.go:189", after := #[{ on := 5, ground := Ground.data }, { on := 4, ground := Ground.guard }], guard := some (4, false) } : Oper)) (v := ?_) rfl (by kernel_rfl) (by kernel_rfl) (by kernel_rfl) (fun _ _ _ h => h) (Or.inl ⟨by rfl, ?_⟩) (by assumption) ?_
                rotate_left
                · intro w hSw
                  (try dsimp only at hSw)
                  go_simp
                  (try with_reducible rfl)
                try simp only [Act.put, List.setIfInBounds_toArray, List.set_cons_zero, List.set_cons_succ]
                refine wpAnyH_take (i := 7) (oi := ({ dst := some 82, op := Op.load 27 (Operand.tmp 5), type := 27, pos := "law.go:189", after := #[{ on := 4, ground := Ground.guard }], guard := some (4, false) } : Oper)) (v := ?_) rfl (by kernel_rfl) (by kernel_rfl) (by kernel_rfl) (fun _ _ _ h => h) (Or.inl ⟨by rfl, ?_⟩) (by assumption) ?_
                rotate_left
                · intro w hSw
                  (try dsimp only at hSw)
                  go_simp
                  (try with_reducible rfl)
                try simp only [Act.put, List.setIfInBounds_toArray, List.set_cons_zero, List.set_cons_succ]
                refine wpAnyH_take (i := 8) (oi := ({ dst := some 83, op := Op.load 3 (Operand.tmp 11), type := 3, pos := "law.go:189", after := #[{ on := 4, ground := Ground.guard }], guard := some (4, false) } : Oper)) (v := ?_) rfl (by kernel_rfl) (by kernel_rfl) (by kernel_rfl) (fun _ _ _ h => h) (Or.inl ⟨by rfl, ?_⟩) (by assumption) ?_
                rotate_left
                · intro w hSw
                  (try dsimp only at hSw)
                  go_simp
                  (try with_reducible rfl)
                try simp only [Act.put, List.setIfInBounds_toArray, List.set_cons_zero, List.set_cons_succ]
                refine wpAnyH_take (i := 9) (oi := ({ dst := some 84, op := Op.indexAddr 27 (Operand.tmp 82) (Operand.tmp 83), type := 0, pos := "law.go:189", after := #[{ on := 7, ground := Ground.data }, { on := 8, ground := Ground.data }, { on := 4, ground := Ground.guard }], guard := some (4, false) } : Oper)) (v := ?_) rfl (by kernel_rfl) (by kernel_rfl) (by kernel_rfl) (fun _ _ _ h => h) (Or.inl ⟨by rfl, ?_⟩) (by assumption) ?_
                rotate_left
                · intro w hSw
                  (try dsimp only at hSw)
                  go_simp
                  (try with_reducible rfl)
                try simp only [Act.put, List.setIfInBounds_toArray, List.set_cons_zero, List.set_cons_succ]
                refine wpAnyH_take (i := 10) (oi := ({ dst := some 85, op := Op.fieldAddr 24 (Operand.tmp 84) 0, type := 0, pos := "law.go:189", after := #[{ on := 9, ground := Ground.data }, { on := 4, ground := Ground.guard }], guard := some (4, false) } : Oper)) (v := ?_) rfl (by kernel_rfl) (by kernel_rfl) (by kernel_rfl) (fun _ _ _ h => h) (Or.inl ⟨by rfl, ?_⟩) (by assumption) ?_
                rotate_left
                · intro w hSw
                  (try dsimp only at hSw)
                  go_simp
                  (try with_reducible rfl)
                try simp only [Act.put, List.setIfInBounds_toArray, List.set_cons_zero, List.set_cons_succ]
                refine wpAnyH_take (i := 11) (oi := ({ dst := some 86, op := Op.load 3 (Operand.tmp 85), type := 3, pos := "law.go:189", after := #[{ on := 10, ground := Ground.data }, { on := 4, ground := Ground.guard }], guard := some (4, false) } : Oper)) (v := ?_) rfl (by kernel_rfl) (by kernel_rfl) (by kernel_rfl) (fun _ _ _ h => h) (Or.inl ⟨by rfl, ?_⟩) (by assumption) ?_
                rotate_left
                · intro w hSw
                  (try dsimp only at hSw)
                  go_simp
                  (try with_reducible rfl)
                try simp only [Act.put, List.setIfInBounds_toArray, List.set_cons_zero, List.set_cons_succ]
                refine wpAnyH_take (i := 12) (oi := ({ dst := some 87, op := Op.binOp BinOp.neq 3 (Operand.tmp 81) (Operand.tmp 86) 3, type := 4, pos := "law.go:189", after := #[{ on := 6, ground := Ground.data }, { on := 11, ground := Ground.data }, { on := 4, ground := Ground.guard }], guard := some (4, false) } : Oper)) (v := ?_) rfl (by kernel_rfl) (by kernel_rfl) (by kernel_rfl) (fun _ _ _ h => h) (Or.inl ⟨by rfl, ?_⟩) (by assumption) ?_
                rotate_left
                · intro w hSw
                  (try dsimp only at hSw)
                  go_simp
                  (try with_reducible rfl)
                try simp only [Act.put, List.setIfInBounds_toArray, List.set_cons_zero, List.set_cons_succ]
                refine wpAnyH_take (i := 13) (oi := ({ dst := some 88, op := Op.pick (Operand.tmp 79) (Operand.const (Value.bool true)) (Operand.tmp 87), type := 4, pos := "law.go:189", after := #[{ on := 4, ground := Ground.data }, { on := 12, ground := Ground.data }], guard := none } : Oper)) (v := ?_) rfl (by kernel_rfl) (by kernel_rfl) (by kernel_rfl) (fun _ _ _ h => h) (Or.inl ⟨by rfl, ?_⟩) (by assumption) ?_
                rotate_left
                · intro w hSw
                  (try dsimp only at hSw)
                  go_simp
                  (try with_reducible rfl)
                try simp only [Act.put, List.setIfInBounds_toArray, List.set_cons_zero, List.set_cons_succ]
                refine wpAnyH_take (i := 14) (oi := ({ dst := some 89, op := Op.move (Operand.tmp 88), type := 4, pos := "law.go:189", after := #[{ on := 13, ground := Ground.data }, { on := 4, ground := Ground.chain }], guard := none } : Oper)) (v := ?_) rfl (by kernel_rfl) (by kernel_rfl) (by kernel_rfl) (fun _ _ _ h => h) (Or.inl ⟨by rfl, ?_⟩) (by assumption) ?_
                rotate_left
                · intro w hSw
                  (try dsimp only at hSw)
                  go_simp
                  (try with_reducible rfl)
                try simp only [Act.put, List.setIfInBounds_toArray, List.set_cons_zero, List.set_cons_succ]
                refine wpAnyH_take (i := 15) (oi := ({ dst := some 90, op := Op.fieldAddr 47 (Operand.tmp 12) 1, type := 0, pos := "law.go:189", after := #[{ on := 14, ground := Ground.guard }], guard := some (14, false) } : Oper)) (v := ?_) rfl (by kernel_rfl) (by kernel_rfl) (by kernel_rfl) (fun _ _ _ h => h) (Or.inl ⟨by rfl, ?_⟩) (by assumption) ?_
                rotate_left
                · intro w hSw
                  (try dsimp only at hSw)
                  go_simp
                  (try with_reducible rfl)
                try simp only [Act.put, List.setIfInBounds_toArray, List.set_cons_zero, List.set_cons_succ]
                refine wpAnyH_take (i := 16) (oi := ({ dst := some 91, op := Op.load 3 (Operand.tmp 90), type := 3, pos := "law.go:189", after := #[{ on := 15, ground := Ground.data }, { on := 14, ground := Ground.guard }], guard := some (14, false) } : Oper)) (v := ?_) rfl (by kernel_rfl) (by kernel_rfl) (by kernel_rfl) (fun _ _ _ h => h) (Or.inl ⟨by rfl, ?_⟩) (by assumption) ?_
                rotate_left
                · intro w hSw
                  (try dsimp only at hSw)
                  go_simp
                  (try with_reducible rfl)
                try simp only [Act.put, List.setIfInBounds_toArray, List.set_cons_zero, List.set_cons_succ]
                refine wpAnyH_take (i := 17) (oi := ({ dst := some 92, op := Op.load 27 (Operand.tmp 5), type := 27, pos := "law.go:189", after := #[{ on := 14, ground := Ground.guard }], guard := some (14, false) } : Oper)) (v := ?_) rfl (by kernel_rfl) (by kernel_rfl) (by kernel_rfl) (fun _ _ _ h => h) (Or.inl ⟨by rfl, ?_⟩) (by assumption) ?_
                rotate_left
                · intro w hSw
                  (try dsimp only at hSw)
                  go_simp
                  (try with_reducible rfl)
                try simp only [Act.put, List.setIfInBounds_toArray, List.set_cons_zero, List.set_cons_succ]
                refine wpAnyH_take (i := 18) (oi := ({ dst := some 93, op := Op.load 3 (Operand.tmp 11), type := 3, pos := "law.go:189", after := #[{ on := 14, ground := Ground.guard }], guard := some (14, false) } : Oper)) (v := ?_) rfl (by kernel_rfl) (by kernel_rfl) (by kernel_rfl) (fun _ _ _ h => h) (Or.inl ⟨by rfl, ?_⟩) (by assumption) ?_
                rotate_left
                · intro w hSw
                  (try dsimp only at hSw)
                  go_simp
                  (try with_reducible rfl)
                try simp only [Act.put, List.setIfInBounds_toArray, List.set_cons_zero, List.set_cons_succ]
                refine wpAnyH_take (i := 19) (oi := ({ dst := some 94, op := Op.indexAddr 27 (Operand.tmp 92) (Operand.tmp 93), type := 0, pos := "law.go:189", after := #[{ on := 17, ground := Ground.data }, { on := 18, ground := Ground.data }, { on := 14, ground := Ground.guard }], guard := some (14, false) } : Oper)) (v := ?_) rfl (by kernel_rfl) (by kernel_rfl) (by kernel_rfl) (fun _ _ _ h => h) (Or.inl ⟨by rfl, ?_⟩) (by assumption) ?_
                rotate_left
                · intro w hSw
                  (try dsimp only at hSw)
                  go_simp
                  (try with_reducible rfl)
                try simp only [Act.put, List.setIfInBounds_toArray, List.set_cons_zero, List.set_cons_succ]
                refine wpAnyH_take (i := 20) (oi := ({ dst := some 95, op := Op.fieldAddr 24 (Operand.tmp 94) 1, type := 0, pos := "law.go:189", after := #[{ on := 19, ground := Ground.data }, { on := 14, ground := Ground.guard }], guard := some (14, false) } : Oper)) (v := ?_) rfl (by kernel_rfl) (by kernel_rfl) (by kernel_rfl) (fun _ _ _ h => h) (Or.inl ⟨by rfl, ?_⟩) (by assumption) ?_
                rotate_left
                · intro w hSw
                  (try dsimp only at hSw)
                  go_simp
                  (try with_reducible rfl)
                try simp only [Act.put, List.setIfInBounds_toArray, List.set_cons_zero, List.set_cons_succ]
                refine wpAnyH_take (i := 21) (oi := ({ dst := some 96, op := Op.load 3 (Operand.tmp 95), type := 3, pos := "law.go:189", after := #[{ on := 20, ground := Ground.data }, { on := 14, ground := Ground.guard }], guard := some (14, false) } : Oper)) (v := ?_) rfl (by kernel_rfl) (by kernel_rfl) (by kernel_rfl) (fun _ _ _ h => h) (Or.inl ⟨by rfl, ?_⟩) (by assumption) ?_
                rotate_left
                · intro w hSw
                  (try dsimp only at hSw)
                  go_simp
                  (try with_reducible rfl)
                try simp only [Act.put, List.setIfInBounds_toArray, List.set_cons_zero, List.set_cons_succ]
                refine wpAnyH_take (i := 22) (oi := ({ dst := some 97, op := Op.binOp BinOp.neq 3 (Operand.tmp 91) (Operand.tmp 96) 3, type := 4, pos := "law.go:189", after := #[{ on := 16, ground := Ground.data }, { on := 21, ground := Ground.data }, { on := 14, ground := Ground.guard }], guard := some (14, false) } : Oper)) (v := ?_) rfl (by kernel_rfl) (by kernel_rfl) (by kernel_rfl) (fun _ _ _ h => h) (Or.inl ⟨by rfl, ?_⟩) (by assumption) ?_
                rotate_left
                · intro w hSw
                  (try dsimp only at hSw)
                  go_simp
                  (try with_reducible rfl)
                try simp only [Act.put, List.setIfInBounds_toArray, List.set_cons_zero, List.set_cons_succ]
                refine wpAnyH_take (i := 23) (oi := ({ dst := some 98, op := Op.pick (Operand.tmp 89) (Operand.const (Value.bool true)) (Operand.tmp 97), type := 4, pos := "law.go:189", after := #[{ on := 14, ground := Ground.data }, { on := 22, ground := Ground.data }], guard := none } : Oper)) (v := ?_) rfl (by kernel_rfl) (by kernel_rfl) (by kernel_rfl) (fun _ _ _ h => h) (Or.inl ⟨by rfl, ?_⟩) (by assumption) ?_
                rotate_left
                · intro w hSw
                  (try dsimp only at hSw)
                  go_simp
                  (try with_reducible rfl)
                try simp only [Act.put, List.setIfInBounds_toArray, List.set_cons_zero, List.set_cons_succ]
                refine wpAnyH_done (by kernel_rfl) ?_ _
                gi_wp2
                have hbw : Below W.heap.size W (W.drewN 1) := pw_below_drewN (Below.refl W.heap.size W) 1
                exact ⟨(keepsFrom_below hbw).trans ((KeepsOthers.setCell _ _ _).from _), (show Boxed (W.setCell ⟨gr, 0, none⟩ (.bool false)) gr 4 (.bool false) from Boxed.set _ K.out.cr), below_set (hB.trans (hbw.mono hB.size)) HX.out, rfl, HE.out⟩
            · have b0 : (a != v0) = true := by simpa using ha
              have HE := Aside0.mk (fun q => ha (HE.out.1 q).1)
              clear ha
              gi_wp2
              refine wpIn_round_held (S := fun w' => w'.cell? ⟨gk, 0, none⟩ = some (.int .i64 (k : Int)) ∧ w'.cell? ⟨gw + 1 + 1, 0, none⟩ = some (.slice (some ad) want.length e2) ∧ w'.cell? ⟨Bx, 0, none⟩ = some (.int .i64 a) ∧ w'.cell? ⟨Bx, 1, none⟩ = some (.int .i64 b) ∧ w'.cell? (ad.add (k * 2)) = some (.int .i64 v0) ∧ w'.cell? ⟨(ad.add (k * 2)).block, (ad.add (k * 2)).off + 1, none⟩ = some (.int .i64 v1)) (by kernel_rfl) (by kernel_rfl) (fun ⟨_, _, h⟩ => h) ⟨ck, cv, x0, x1, t0, t1⟩ (fun hHeld => ?_)
              refine wpAnyH_take (i := 0) (oi := ({ dst := some 75, op := Op.load 3 (Operand.tmp 11), type := 3, pos := "law.go:189", after := #[], guard := none } : Oper)) (v := ?_) rfl (by kernel_rfl) (by kernel_rfl) (by kernel_rfl) (fun _ _ _ h => h) (Or.inl ⟨by rfl, ?_⟩) (by assumption) ?_
              rotate_left
              · intro w hSw
                (try dsimp only at hSw)
                go_simp
                (try with_reducible rfl)
              try simp only [Act.put, List.setIfInBounds_toArray, List.set_cons_zero, List.set_cons_succ]
              refine wpAnyH_take (i := 1) (oi := ({ dst := some 76, op := Op.load 27 (Operand.tmp 5), type := 27, pos := "law.go:189", after := #[], guard := none } : Oper)) (v := ?_) rfl (by kernel_rfl) (by kernel_rfl) (by kernel_rfl) (fun _ _ _ h => h) (Or.inl ⟨by rfl, ?_⟩) (by assumption) ?_
              rotate_left
              · intro w hSw
                (try dsimp only at hSw)
                go_simp
                (try with_reducible rfl)
              try simp only [Act.put, List.setIfInBounds_toArray, List.set_cons_zero, List.set_cons_succ]
              refine wpAnyH_take (i := 2) (oi := ({ dst := some 77, op := Op.call { callee := Callee.builtin Builtin.len, args := #[Operand.tmp 76], argTypes := #[27] }, type := 3, pos := "law.go:189", after := #[{ on := 1, ground := Ground.data }], guard := none } : Oper)) (v := ?_) rfl (by kernel_rfl) (by kernel_rfl) (by kernel_rfl) (fun _ _ _ h => h) (Or.inl ⟨by rfl, ?_⟩) (by assumption) ?_
              rotate_left
              · intro w hSw
                (try dsimp only at hSw)
                go_simp
                (try with_reducible rfl)
              try simp only [Act.put, List.setIfInBounds_toArray, List.set_cons_zero, List.set_cons_succ]
              refine wpAnyH_take (i := 3) (oi := ({ dst := some 78, op := Op.binOp BinOp.geq 3 (Operand.tmp 75) (Operand.tmp 77) 3, type := 4, pos := "law.go:189", after := #[{ on := 0, ground := Ground.data }, { on := 2, ground := Ground.data }], guard := none } : Oper)) (v := ?_) rfl (by kernel_rfl) (by kernel_rfl) (by kernel_rfl) (fun _ _ _ h => h) (Or.inl ⟨by rfl, ?_⟩) (by assumption) ?_
              rotate_left
              · intro w hSw
                (try dsimp only at hSw)
                go_simp
                (try with_reducible rfl)
              try simp only [Act.put, List.setIfInBounds_toArray, List.set_cons_zero, List.set_cons_succ]
              refine wpAnyH_take (i := 4) (oi := ({ dst := some 79, op := Op.move (Operand.tmp 78), type := 4, pos := "law.go:189", after := #[{ on := 3, ground := Ground.data }], guard := none } : Oper)) (v := ?_) rfl (by kernel_rfl) (by kernel_rfl) (by kernel_rfl) (fun _ _ _ h => h) (Or.inl ⟨by rfl, ?_⟩) (by assumption) ?_
              rotate_left
              · intro w hSw
                (try dsimp only at hSw)
                go_simp
                (try with_reducible rfl)
              try simp only [Act.put, List.setIfInBounds_toArray, List.set_cons_zero, List.set_cons_succ]
              refine wpAnyH_take (i := 5) (oi := ({ dst := some 80, op := Op.fieldAddr 47 (Operand.tmp 12) 0, type := 0, pos := "law.go:189", after := #[{ on := 4, ground := Ground.guard }], guard := some (4, false) } : Oper)) (v := ?_) rfl (by kernel_rfl) (by kernel_rfl) (by kernel_rfl) (fun _ _ _ h => h) (Or.inl ⟨by rfl, ?_⟩) (by assumption) ?_
              rotate_left
              · intro w hSw
                (try dsimp only at hSw)
                go_simp
                (try with_reducible rfl)
              try simp only [Act.put, List.setIfInBounds_toArray, List.set_cons_zero, List.set_cons_succ]
              refine wpAnyH_take (i := 6) (oi := ({ dst := some 81, op := Op.load 41 (Operand.tmp 80), type := 41, pos := "law.go:189", after := #[{ on := 5, ground := Ground.data }, { on := 4, ground := Ground.guard }], guard := some (4, false) } : Oper)) (v := ?_) rfl (by kernel_rfl) (by kernel_rfl) (by kernel_rfl) (fun _ _ _ h => h) (Or.inl ⟨by rfl, ?_⟩) (by assumption) ?_
              rotate_left
              · intro w hSw
                (try dsimp only at hSw)
                go_simp
                (try with_reducible rfl)
              try simp only [Act.put, List.setIfInBounds_toArray, List.set_cons_zero, List.set_cons_succ]
              refine wpAnyH_take (i := 7) (oi := ({ dst := some 82, op := Op.load 27 (Operand.tmp 5), type := 27, pos := "law.go:189", after := #[{ on := 4, ground := Ground.guard }], guard := some (4, false) } : Oper)) (v := ?_) rfl (by kernel_rfl) (by kernel_rfl) (by kernel_rfl) (fun _ _ _ h => h) (Or.inl ⟨by rfl, ?_⟩) (by assumption) ?_
              rotate_left
              · intro w hSw
                (try dsimp only at hSw)
                go_simp
                (try with_reducible rfl)
              try simp only [Act.put, List.setIfInBounds_toArray, List.set_cons_zero, List.set_cons_succ]
              refine wpAnyH_take (i := 8) (oi := ({ dst := some 83, op := Op.load 3 (Operand.tmp 11), type := 3, pos := "law.go:189", after := #[{ on := 4, ground := Ground.guard }], guard := some (4, false) } : Oper)) (v := ?_) rfl (by kernel_rfl) (by kernel_rfl) (by kernel_rfl) (fun _ _ _ h => h) (Or.inl ⟨by rfl, ?_⟩) (by assumption) ?_
              rotate_left
              · intro w hSw
                (try dsimp only at hSw)
                go_simp
                (try with_reducible rfl)
              try simp only [Act.put, List.setIfInBounds_toArray, List.set_cons_zero, List.set_cons_succ]
              refine wpAnyH_take (i := 9) (oi := ({ dst := some 84, op := Op.indexAddr 27 (Operand.tmp 82) (Operand.tmp 83), type := 0, pos := "law.go:189", after := #[{ on := 7, ground := Ground.data }, { on := 8, ground := Ground.data }, { on := 4, ground := Ground.guard }], guard := some (4, false) } : Oper)) (v := ?_) rfl (by kernel_rfl) (by kernel_rfl) (by kernel_rfl) (fun _ _ _ h => h) (Or.inl ⟨by rfl, ?_⟩) (by assumption) ?_
              rotate_left
              · intro w hSw
                (try dsimp only at hSw)
                go_simp
                (try with_reducible rfl)
              try simp only [Act.put, List.setIfInBounds_toArray, List.set_cons_zero, List.set_cons_succ]
              refine wpAnyH_take (i := 10) (oi := ({ dst := some 85, op := Op.fieldAddr 24 (Operand.tmp 84) 0, type := 0, pos := "law.go:189", after := #[{ on := 9, ground := Ground.data }, { on := 4, ground := Ground.guard }], guard := some (4, false) } : Oper)) (v := ?_) rfl (by kernel_rfl) (by kernel_rfl) (by kernel_rfl) (fun _ _ _ h => h) (Or.inl ⟨by rfl, ?_⟩) (by assumption) ?_
              rotate_left
              · intro w hSw
                (try dsimp only at hSw)
                go_simp
                (try with_reducible rfl)
              try simp only [Act.put, List.setIfInBounds_toArray, List.set_cons_zero, List.set_cons_succ]
              refine wpAnyH_take (i := 11) (oi := ({ dst := some 86, op := Op.load 3 (Operand.tmp 85), type := 3, pos := "law.go:189", after := #[{ on := 10, ground := Ground.data }, { on := 4, ground := Ground.guard }], guard := some (4, false) } : Oper)) (v := ?_) rfl (by kernel_rfl) (by kernel_rfl) (by kernel_rfl) (fun _ _ _ h => h) (Or.inl ⟨by rfl, ?_⟩) (by assumption) ?_
              rotate_left
              · intro w hSw
                (try dsimp only at hSw)
                go_simp
                (try with_reducible rfl)
              try simp only [Act.put, List.setIfInBounds_toArray, List.set_cons_zero, List.set_cons_succ]
              refine wpAnyH_take (i := 12) (oi := ({ dst := some 87, op := Op.binOp BinOp.neq 3 (Operand.tmp 81) (Operand.tmp 86) 3, type := 4, pos := "law.go:189", after := #[{ on := 6, ground := Ground.data }, { on := 11, ground := Ground.data }, { on := 4, ground := Ground.guard }], guard := some (4, false) } : Oper)) (v := ?_) rfl (by kernel_rfl) (by kernel_rfl) (by kernel_rfl) (fun _ _ _ h => h) (Or.inl ⟨by rfl, ?_⟩) (by assumption) ?_
              rotate_left
              · intro w hSw
                (try dsimp only at hSw)
                go_simp
                (try with_reducible rfl)
              try simp only [Act.put, List.setIfInBounds_toArray, List.set_cons_zero, List.set_cons_succ]
              refine wpAnyH_take (i := 13) (oi := ({ dst := some 88, op := Op.pick (Operand.tmp 79) (Operand.const (Value.bool true)) (Operand.tmp 87), type := 4, pos := "law.go:189", after := #[{ on := 4, ground := Ground.data }, { on := 12, ground := Ground.data }], guard := none } : Oper)) (v := ?_) rfl (by kernel_rfl) (by kernel_rfl) (by kernel_rfl) (fun _ _ _ h => h) (Or.inl ⟨by rfl, ?_⟩) (by assumption) ?_
              rotate_left
              · intro w hSw
                (try dsimp only at hSw)
                go_simp
                (try with_reducible rfl)
              try simp only [Act.put, List.setIfInBounds_toArray, List.set_cons_zero, List.set_cons_succ]
              refine wpAnyH_take (i := 14) (oi := ({ dst := some 89, op := Op.move (Operand.tmp 88), type := 4, pos := "law.go:189", after := #[{ on := 13, ground := Ground.data }, { on := 4, ground := Ground.chain }], guard := none } : Oper)) (v := ?_) rfl (by kernel_rfl) (by kernel_rfl) (by kernel_rfl) (fun _ _ _ h => h) (Or.inl ⟨by rfl, ?_⟩) (by assumption) ?_
              rotate_left
              · intro w hSw
                (try dsimp only at hSw)
                go_simp
                (try with_reducible rfl)
              try simp only [Act.put, List.setIfInBounds_toArray, List.set_cons_zero, List.set_cons_succ]
              refine wpAnyH_take (i := 15) (oi := ({ dst := some 90, op := Op.fieldAddr 47 (Operand.tmp 12) 1, type := 0, pos := "law.go:189", after := #[{ on := 14, ground := Ground.guard }], guard := some (14, false) } : Oper)) (v := undef) rfl (by kernel_rfl) (by kernel_rfl) (by kernel_rfl) (fun _ _ _ h => h) (Or.inr ⟨by rfl, rfl⟩) (by assumption) ?_
              try simp only [Act.put, List.setIfInBounds_toArray, List.set_cons_zero, List.set_cons_succ]
              refine wpAnyH_take (i := 16) (oi := ({ dst := some 91, op := Op.load 3 (Operand.tmp 90), type := 3, pos := "law.go:189", after := #[{ on := 15, ground := Ground.data }, { on := 14, ground := Ground.guard }], guard := some (14, false) } : Oper)) (v := undef) rfl (by kernel_rfl) (by kernel_rfl) (by kernel_rfl) (fun _ _ _ h => h) (Or.inr ⟨by rfl, rfl⟩) (by assumption) ?_
              try simp only [Act.put, List.setIfInBounds_toArray, List.set_cons_zero, List.set_cons_succ]
              refine wpAnyH_take (i := 17) (oi := ({ dst := some 92, op := Op.load 27 (Operand.tmp 5), type := 27, pos := "law.go:189", after := #[{ on := 14, ground := Ground.guard }], guard := some (14, false) } : Oper)) (v := undef) rfl (by kernel_rfl) (by kernel_rfl) (by kernel_rfl) (fun _ _ _ h => h) (Or.inr ⟨by rfl, rfl⟩) (by assumption) ?_
              try simp only [Act.put, List.setIfInBounds_toArray, List.set_cons_zero, List.set_cons_succ]
              refine wpAnyH_take (i := 18) (oi := ({ dst := some 93, op := Op.load 3 (Operand.tmp 11), type := 3, pos := "law.go:189", after := #[{ on := 14, ground := Ground.guard }], guard := some (14, false) } : Oper)) (v := undef) rfl (by kernel_rfl) (by kernel_rfl) (by kernel_rfl) (fun _ _ _ h => h) (Or.inr ⟨by rfl, rfl⟩) (by assumption) ?_
              try simp only [Act.put, List.setIfInBounds_toArray, List.set_cons_zero, List.set_cons_succ]
              refine wpAnyH_take (i := 19) (oi := ({ dst := some 94, op := Op.indexAddr 27 (Operand.tmp 92) (Operand.tmp 93), type := 0, pos := "law.go:189", after := #[{ on := 17, ground := Ground.data }, { on := 18, ground := Ground.data }, { on := 14, ground := Ground.guard }], guard := some (14, false) } : Oper)) (v := undef) rfl (by kernel_rfl) (by kernel_rfl) (by kernel_rfl) (fun _ _ _ h => h) (Or.inr ⟨by rfl, rfl⟩) (by assumption) ?_
              try simp only [Act.put, List.setIfInBounds_toArray, List.set_cons_zero, List.set_cons_succ]
              refine wpAnyH_take (i := 20) (oi := ({ dst := some 95, op := Op.fieldAddr 24 (Operand.tmp 94) 1, type := 0, pos := "law.go:189", after := #[{ on := 19, ground := Ground.data }, { on := 14, ground := Ground.guard }], guard := some (14, false) } : Oper)) (v := undef) rfl (by kernel_rfl) (by kernel_rfl) (by kernel_rfl) (fun _ _ _ h => h) (Or.inr ⟨by rfl, rfl⟩) (by assumption) ?_
              try simp only [Act.put, List.setIfInBounds_toArray, List.set_cons_zero, List.set_cons_succ]
              refine wpAnyH_take (i := 21) (oi := ({ dst := some 96, op := Op.load 3 (Operand.tmp 95), type := 3, pos := "law.go:189", after := #[{ on := 20, ground := Ground.data }, { on := 14, ground := Ground.guard }], guard := some (14, false) } : Oper)) (v := undef) rfl (by kernel_rfl) (by kernel_rfl) (by kernel_rfl) (fun _ _ _ h => h) (Or.inr ⟨by rfl, rfl⟩) (by assumption) ?_
              try simp only [Act.put, List.setIfInBounds_toArray, List.set_cons_zero, List.set_cons_succ]
              refine wpAnyH_take (i := 22) (oi := ({ dst := some 97, op := Op.binOp BinOp.neq 3 (Operand.tmp 91) (Operand.tmp 96) 3, type := 4, pos := "law.go:189", after := #[{ on := 16, ground := Ground.data }, { on := 21, ground := Ground.data }, { on := 14, ground := Ground.guard }], guard := some (14, false) } : Oper)) (v := undef) rfl (by kernel_rfl) (by kernel_rfl) (by kernel_rfl) (fun _ _ _ h => h) (Or.inr ⟨by rfl, rfl⟩) (by assumption) ?_
              try simp only [Act.put, List.setIfInBounds_toArray, List.set_cons_zero, List.set_cons_succ]
              refine wpAnyH_take (i := 23) (oi := ({ dst := some 98, op := Op.pick (Operand.tmp 89) (Operand.const (Value.bool true)) (Operand.tmp 97), type := 4, pos := "law.go:189", after := #[{ on := 14, ground := Ground.data }, { on := 22, ground := Ground.data }], guard := none } : Oper)) (v := ?_) rfl (by kernel_rfl) (by kernel_rfl) (by kernel_rfl) (fun _ _ _ h => h) (Or.inl ⟨by rfl, ?_⟩) (by assumption) ?_
              rotate_left
              · intro w hSw
                (try dsimp only at hSw)
                go_simp
                (try with_reducible rfl)
              try simp only [Act.put, List.setIfInBounds_toArray, List.set_cons_zero, List.set_cons_succ]
              refine wpAnyH_done (by kernel_rfl) ?_ _
              gi_wp2
              have hbw : Below W.heap.size W (W.drewN 1) := pw_below_drewN (Below.refl W.heap.size W) 1
              exact ⟨(keepsFrom_below hbw).trans ((KeepsOthers.setCell _ _ _).from _), (show Boxed (W.setCell ⟨gr, 0, none⟩ (.bool false)) gr 4 (.bool false) from Boxed.set _ K.out.cr), below_set (hB.trans (hbw.mono hB.size)) HX.out, rfl, HE.out⟩
        case stop =>
          rintro D c pre W hD hpre ⟨i4, iB, rfl, iP⟩ hK
          exact absurd (ord_all hpre) iP
        case done =>
          rintro D zs W hDs rfl ⟨iK, hB, hKK, iP⟩ hK
          have hDr : gr < W0.heap.size := blk_lt K9.out.cr
          have hDw : w.heap.size ≤ W0.heap.size := K9.out.bel.size
          have K10 := Aside0.mk (K9.out.keptK hk9 hKK hB)
          clear K9 hcb HT hk9 hKK
          obtain ⟨B2, e2, rfl⟩ := Kd.R_slice K10.out.wt.2.2
          have ck : W.cell? ⟨gk, 0, none⟩ = some (.int .i64 (want.length : Int)) := by have h := iK.cell; rwa [List.length_map] at h
          have cv : W.cell? ⟨gw + 1 + 1, 0, none⟩ = some (.slice B2 want.length e2) := (blk_cell K10.out.wt.1 0).trans rfl
          have cr : W.cell? ⟨gr, 0, none⟩ = some (.bool false) := (blk_cell K10.out.cr 0).trans rfl
          have crf := blk_frozen K10.out.cr
          have hgrl := HX.out
          clear iK
          go_wp2_with (go_at_call 23; refine (stamp_ok (gw + 1) (want.map mk47) 0 _ w _ K10.out.st).mono ?_; rintro e w10 ⟨rfl, rfl⟩)
          have KZb : (w10.setCell ⟨gr, 0, none⟩ (.bool true)).heap[gr]? = some (.cells #[.bool true] 4 (0, 0)) := by simpa using blk_set K10.out.cr 0 (.bool true)
          have KZB : Below w.heap.size w (w10.setCell ⟨gr, 0, none⟩ (.bool true)) := below_set K10.out.bel HX.out
          have hDe := (KeepsOthers.setCell w10 ⟨gr, 0, none⟩ (.bool true)).same D _ hK rfl
          have hbe := belowK_b (w := W0) (Nat.le_refl _) _ D _ (.deferred none) hDs hDe rfl rfl
          refine ⟨by simp, .inl ⟨_, _, rfl, run_takeDeferred hDe, ?_⟩⟩
          exact ⟨_, results_bool (by rfl) _ _ gr (.bool true) (by rfl) ((blk_cell ((hbe.block _ hDr).trans KZb) 0).trans rfl), rfl, KZB.trans (hbe.mono hDw)⟩
        --DONE
  · go_wp2
    exact ⟨_, results_bool (by rfl) _ _ gr (.bool true) (by rfl) ((blk_cell (blk_set K2.out.1 0 (.bool true)) 0).trans rfl), rfl, below_set K2.out.2 HX.out⟩
end
/-- what the walk leaves: that the steps are told apart -/
def countermandlaw12_ReadsOrder.Pure : Prop := ∀ (l0 : List (S24)) (l1 : List (S34)), ∃ k b, countermandlaw12_great.f k l0 l1 = some b ∧ (b = false → l1.length ≤ 80 ∧ l0.length ≤ 40 ∧ (∀ x ∈ l0, inT x) ∧ ∀ x ∈ l1, inT x.f0)
theorem countermandlaw12_ReadsOrder.walk (P : countermandlaw12_ReadsOrder.Pure) (a0 : Option Addr) (len0 cap0 : Nat) (z0 : List (S34)) (w : World) (w0 : z0.length = len0 ∧ Kd.C k34 w a0 z0.length z0 ∧ z0.length ≤ cap0 ∧ z0.length ≤ maxLen ∧ (∀ x ∈ z0, ((Lit.int .i64 x.f0.f0).wf = true ∧ (Lit.int .i64 x.f0.f1).wf = true))) :
    Calls Try.prog 6 #[.slice a0 len0 cap0] w fun e w' => e = .returned (.bool true) ∧ Below w.heap.size w w' := by
  obtain ⟨rfl, hr0, hc0, _⟩ := w0
  exact order_main P a0 cap0 z0 w hr0 hc0

end Go.Proofs.Ytfoefgckjaafnaa.PReadsOrder
