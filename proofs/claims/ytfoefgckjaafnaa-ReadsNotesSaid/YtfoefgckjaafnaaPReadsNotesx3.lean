/- Written by a program of this session, which began as the kit's print and is turned in wip/printer: the plain form of each function, and that the Go code comes to it. -/
import Derived.Test.YtfoefgckjaafnaaPReadsNotesx0
import Derived.Test.YtfoefgckjaafnaaPReadsNotesx1
import Derived.Test.YtfoefgckjaafnaaPReadsNotesx2
import Derived.BigRegion
import Derived.Deep.RegionLaw
import Derived.IntWalk
import Derived.LoopIn
import Derived.LoopNIn
import Derived.OwnWalkIn
import Derived.RangeFuncBound
import Derived.RangeFuncCalls
import Derived.RangeFuncLeaves
import Derived.RangeFuncNested
import Derived.Shelf.Abstract
import Derived.Shelf.RegionOpen
import Derived.TacticsInMore
import Derived.Test.YtfoefgckjaafnaaWEqStruct
namespace Go.Proofs.Ytfoefgckjaafnaa.PReadsNotes
open Go.RowKit Go.Proofs.YtfoefgckjaafnaaW.PrintWords Go.Proofs.YtfoefgckjaafnaaW.PrintLast Go.Proofs.YtfoefgckjaafnaaW.PrintMore
attribute [local go_sem] max2_int min2_int max_two min_two max_three min_three max_four min_four   -- for this text's walks alone
set_option linter.unusedVariables false
set_option linter.unusedSimpArgs false
attribute [local go_sem ↓] exec39
section
attribute [local go_sem] Oper.semAt_some
set_option maxHeartbeats 25600000 in
set_option maxRecDepth 100000 in
theorem notes_main (P : ∀ (l0 : List (S24)) (l1 : List (S34)), ∃ k b, countermandlaw12_great.f k l0 l1 = some b ∧ (b = false → l1.length ≤ 80 ∧ l0.length ≤ 40 ∧ (∀ x ∈ l0, inT x) ∧ ∀ x ∈ l1, inT x.f0)) (A0 : Option Addr) (c0 : Nat) (al : List S24) (A1 : Option Addr) (c1 : Nat) (l : List S34) (kk ii : Int) (w : World) (hr0 : Kd.C k24 w A0 al.length al) (hc0 : al.length ≤ c0) (hr1 : Kd.C k34 w A1 l.length l) (hc1 : l.length ≤ c1) :
    Calls Try.prog 4 #[.slice A0 al.length c0, .slice A1 l.length c1, .int .i64 kk, .int .i64 ii] w fun e w' => e = .returned (.bool true) ∧ Below w.heap.size w w' := by
  have hu24 := Try.underlying24
  have hu27 := Try.underlying27
  have hu30 := Try.underlying30
  have hu34 := Try.underlying34
  have hu28 := Try.underlying28
  have hu31 := Try.underlying31
  have hu22 := Try.underlying22
  have hu4 := Try.underlying4
  have hu47 := Try.underlying47
  have hu50 := Try.underlying50
  have hu51 := Try.underlying51
  have hu53 := Try.underlying53
  obtain ⟨kg, bg, hg, hgb⟩ := P al l
  have H := Aside0.mk (And.intro hr0 (And.intro hr1 (And.intro hg hgb)))
  clear hr0 hr1 hg hgb P
  refine (callsIn_wide (n := 9)).1 ?_
  refine callsIn_of_wp_marks Try.func4 rfl trivial ?_ rfl
  simp only [Try.ntmps4, List.size_toArray, List.length_cons, List.length_nil, Nat.reduceAdd, Nat.reduceSub, Array.replicate_succ, Array.replicate_zero, List.push_toArray, List.append_toArray, List.nil_append, List.cons_append]
  refine wpIn_wide.2 ?_
  go_wp2_with (fail)
  have hA1 := heap_alloc_new w (.cells #[.bool false] 4)
  have hb0 := below_alloc (Below.refl w.heap.size w) (.cells #[.bool false] 4)
  obtain ⟨gr, hgr⟩ : ∃ gr, gr = w.heap.size := ⟨_, rfl⟩
  have HX := Aside0.mk (show w.heap.size ≤ gr from by omega)
  have K0 := Aside0.mk (show (w.alloc (.cells #[.bool false] 4)).heap[gr]? = some (.cells #[.bool false] 4 (0, 0)) ∧ Below w.heap.size w (w.alloc (.cells #[.bool false] 4)) from by rw [hgr]; exact ⟨hA1, hb0⟩)
  rw [← hgr]
  clear hgr hA1 hb0
  generalize w.alloc (.cells #[.bool false] 4) = W0 at K0 ⊢
  refine (alive_ok W0).mono ?_
  rintro e w1 ⟨rfl, hB1⟩
  have K1 := Aside0.mk (show w1.heap[gr]? = some (.cells #[.bool false] 4 (0, 0)) ∧ Below w.heap.size w w1 from ⟨(hB1.block _ (blk_lt K0.out.1)).trans K0.out.1, K0.out.2.trans (hB1.mono K0.out.2.size)⟩)
  clear K0 hB1
  go_wp2_with (fail)
  refine (countermandlaw12_great.calls kg A0 c0 al A1 c1 l bg _ (Kd.C_below H.out.1 K1.out.2) hc0 (Kd.C_below H.out.2.1 K1.out.2) hc1 H.out.2.2.1).mono ?_
  rintro e w2 ⟨rfl, hB2⟩
  have K2 := Aside0.mk (show w2.heap[gr]? = some (.cells #[.bool false] 4 (0, 0)) ∧ Below w.heap.size w w2 from ⟨(hB2.block _ (blk_lt K1.out.1)).trans K1.out.1, K1.out.2.trans (hB2.mono K1.out.2.size)⟩)
  clear K1 hB2
  have r2 : w2.cell? ⟨gr, 0, none⟩ = some (.bool false) := (blk_cell K2.out.1 0).trans rfl
  have f2 := blk_frozen K2.out.1
  cases bg
  · have HG := Aside0.mk (H.out.2.2.2 rfl)
    have hl80 : l.length ≤ 80 := HG.out.1
    have hal : al.length ≤ 40 := HG.out.2.1
    go_wp2_with (at_builtin; refine wpList_copy24 rfl _ _ rfl w2 A0 c0 al rfl rfl (by omega) (Kd.C_below H.out.1 K2.out.2) ?_; intro B1 d1 w3 hR3 hB3; have K3 := Aside0.mk (And.intro hR3 hB3); clear hR3 hB3)
    refine (new_ok _ _).mono ?_
    rintro e w4 ⟨rfl, rfl⟩
    go_wp2_with (fail)
    have KS := Aside0.mk (notes_start (t := (al.length : Int)) K2.out.1 K2.out.2 HX.out K3.out.1 K3.out.2)
    generalize ((((w3.alloc (Obj.cells #[Value.slice B1 al.length d1] 30)).alloc (Obj.cells #[Value.slice none 0 0, Value.int IntKind.i64 (al.length : Int)] 78)).alloc (Obj.cells #[Value.slice none 0 0, Value.slice none 0 0, Value.int IntKind.i64 (al.length : Int)] 53)).alloc (Obj.cells #[Value.pointer (some ⟨w3.heap.size + 1, 0, none⟩)] 31)).alloc (Obj.cells #[Value.pointer (some ⟨w3.heap.size + 1 + 1, 0, none⟩)] 50) = W4 at KS ⊢
    generalize w3.heap.size = g at KS ⊢
    clear r2 f2 K2 K3
    go_loopg [38] l.length (fun m v wr => ∃ (j : Nat) (wd : List S24) (ls : List S47) (t : Int) (u v' a q : Value), v = .int .i64 (j : Int) ∧ m + j = l.length ∧ Aside0 (St4 w wr gr (g + 1 + 1 + 1) (g + 1 + 1 + 1 + 1) g (g + 1) (g + 1 + 1) wd ls t ls t u v' a q ∧ (∀ e ∈ ls, inT (key47 e)) ∧ wd.length ≤ 40 + j ∧ ls.length ≤ j))
    case atStart => exact ⟨0, al, [], (al.length : Int), _, _, _, _, rfl, by omega, ⟨KS.out, (fun e he => by cases he), by omega, Nat.le_refl _⟩⟩
    case round =>
      clear KS
      obtain ⟨j, wd, ls, t, u, v', a, q, rfl, hj, HC⟩ := hrel
      by_cases hlt : j < l.length

      · have q0 : decide ((j : Int) < (l.length : Int)) = true := decide_eq_true (by omega)
        obtain ⟨ad, rfl, z0, z1, z2⟩ := at_T34 (Kd.C_below H.out.2.1 HC.out.1.bel) (j : Int) (by omega) (by omega)
        simp only [Int.toNat_natCast] at z0 z1 z2
        have hin := HG.out.2.2.2 _ (drop34 hlt)
        obtain ⟨⟨⟨y0, y1⟩, ch⟩, hy⟩ : ∃ x, x = rd_T34 l (j : Int) := ⟨_, rfl⟩
        rw [← hy] at z0 z1 z2 hin
        have HIN := Aside0.mk hin
        clear hy hin
        have p0 : ((0 : Int) ≤ (j : Int)) = True := eq_true (by omega)
        have p1 : ((j : Int) < (l.length : Int)) = True := eq_true (by omega)
        have hj9 : j ≤ 80 := by omega
        have hwl : wd.length ≤ 120 := by have := HC.out.2.2.1; omega
        have hll : ls.length ≤ 80 := by have := HC.out.2.2.2; omega
        go_upto_region 10 with (fail)
        have hbl := below_alloc (Below.refl wr.heap.size wr) (.cells #[.int .i64 y0, .int .i64 y1, .bool ch] 34)
        have K1 := Aside0.mk (HC.out.1.below hbl)
        have X1 := Aside0.mk (heap_alloc_new wr (.cells #[.int .i64 y0, .int .i64 y1, .bool ch] 34))
        clear hbl z0 z1 z2
        generalize wr.alloc (.cells #[.int .i64 y0, .int .i64 y1, .bool ch] 34) = W1 at K1 X1 ⊢
        generalize wr.heap.size = gc at X1 ⊢
        have d0 : W1.cell? ⟨gc, 0, none⟩ = some (.int .i64 y0) := (blk_cell X1.out 0).trans rfl
        have d1' : W1.cell? ⟨gc, 1, none⟩ = some (.int .i64 y1) := (blk_cell X1.out 1).trans rfl
        have d2 : W1.cell? ⟨gc, 2, none⟩ = some (.bool ch) := (blk_cell X1.out 2).trans rfl
        have c10 : W1.cell? ⟨g + 1 + 1 + 1, 0, none⟩ = some (.pointer (some ⟨g + 1, 0, none⟩)) := (blk_cell K1.out.c10 0).trans rfl
        have c11 : W1.cell? ⟨g + 1 + 1 + 1 + 1, 0, none⟩ = some (.pointer (some ⟨g + 1 + 1, 0, none⟩)) := (blk_cell K1.out.c11 0).trans rfl
        cases ch
        · have NW := fun W h => now_ok (g) wd u w W h (by omega)
          have NT := fun W h1 h2 => note_ok (g + 1) ls t v' wd y0 y1 w W h1 h2 (by omega)
          have MT := fun W hM hW hB => mnote_ok (g + 1 + 1) (g) ls t a q wd u ⟨y0, y1⟩ w W hM hW hB (by omega) (by omega) HIN.out HC.out.2.1
          dsimp only at MT
          have HON := Aside0.mk (And.intro (inT_note HC.out.2.1 (wd := wd) (t := t) HIN.out) (noteL_len wd ls t y0 y1))
          generalize noteL wd ls t y0 y1 = ls2 at NT MT HON
          generalize noteT wd ls t y0 y1 = t2 at NT MT
          generalize noteB wd ls t y0 y1 = bn at NT MT
          have hbn : (bn != bn) = false := by cases bn <;> rfl
          go_wp2_with (fail)
          go_region_held3 (fun w' => w'.cell? ⟨g + 1 + 1 + 1, 0, none⟩ = some (.pointer (some ⟨g + 1, 0, none⟩)) ∧ w'.cell? ⟨g + 1 + 1 + 1 + 1, 0, none⟩ = some (.pointer (some ⟨g + 1 + 1, 0, none⟩)) ∧ w'.cell? ⟨gc, 0, none⟩ = some (.int .i64 y0) ∧ w'.cell? ⟨gc, 1, none⟩ = some (.int .i64 y1)) (first | go_keep | exact ⟨c10, c11, d0, d1'⟩)
            (first
              | (go_at_call 17; refine (NW _ (K1.out.wd.below (pw_below_drewN (Below.refl _ _) 1))).mono ?_; rintro e w7 ⟨rfl, hb7⟩; have hb77 := (pw_below_drewN (Below.refl W1.heap.size W1) 1).trans hb7; have K7 := Aside0.mk (K1.out.below hb77); have X7 := Aside0.mk ((hb77.block gc (blk_lt X1.out)).trans X1.out); have c10 : w7.cell? ⟨g + 1 + 1 + 1, 0, none⟩ = some (.pointer (some ⟨g + 1, 0, none⟩)) := (blk_cell K7.out.c10 0).trans rfl; have c11 : w7.cell? ⟨g + 1 + 1 + 1 + 1, 0, none⟩ = some (.pointer (some ⟨g + 1 + 1, 0, none⟩)) := (blk_cell K7.out.c11 0).trans rfl; have d0 : w7.cell? ⟨gc, 0, none⟩ = some (.int .i64 y0) := (blk_cell X7.out 0).trans rfl; have d1' : w7.cell? ⟨gc, 1, none⟩ = some (.int .i64 y1) := (blk_cell X7.out 1).trans rfl; clear hb7 hb77)
              | (go_at_call 16; refine (NT _ K7.out.st K7.out.bel).mono ?_; rintro e w8 ⟨rfl, v8, hI8, hB8, hk8, hx8⟩; have K8 := Aside0.mk (K7.out.noted hI8 hB8 hk8); have X8 := Aside0.mk ((keepS_of hk8).blk X7.out (notS1 X7.out K7.out.st.1 K7.out.st.2.2 (by decide) (by decide))); have c10 : w8.cell? ⟨g + 1 + 1 + 1, 0, none⟩ = some (.pointer (some ⟨g + 1, 0, none⟩)) := (blk_cell K8.out.c10 0).trans rfl; have c11 : w8.cell? ⟨g + 1 + 1 + 1 + 1, 0, none⟩ = some (.pointer (some ⟨g + 1 + 1, 0, none⟩)) := (blk_cell K8.out.c11 0).trans rfl; have d0 : w8.cell? ⟨gc, 0, none⟩ = some (.int .i64 y0) := (blk_cell X8.out 0).trans rfl; have d1' : w8.cell? ⟨gc, 1, none⟩ = some (.int .i64 y1) := (blk_cell X8.out 1).trans rfl; clear hI8 hB8 hk8 hx8)
              | (go_at_call 21; refine (MT _ K8.out.ms K8.out.wd K8.out.bel).mono ?_; rintro e w9 ⟨rfl, a9, q9, hM9, hB9, hk9, hx9⟩; have K9 := Aside0.mk (K8.out.mnoted hM9 hB9 hk9 hx9); have X9 := Aside0.mk (hk9.blk X8.out (notMs X8.out K8.out.ms (by decide) (by decide) (by decide))); have c10 : w9.cell? ⟨g + 1 + 1 + 1, 0, none⟩ = some (.pointer (some ⟨g + 1, 0, none⟩)) := (blk_cell K9.out.c10 0).trans rfl; have c11 : w9.cell? ⟨g + 1 + 1 + 1 + 1, 0, none⟩ = some (.pointer (some ⟨g + 1 + 1, 0, none⟩)) := (blk_cell K9.out.c11 0).trans rfl; have d0 : w9.cell? ⟨gc, 0, none⟩ = some (.int .i64 y0) := (blk_cell X9.out 0).trans rfl; have d1' : w9.cell? ⟨gc, 1, none⟩ = some (.int .i64 y1) := (blk_cell X9.out 1).trans rfl; clear hM9 hB9 hk9 hx9))
          go_wp2_with (fail)
          clear NW NT MT d0 d1' d2 c10 c11 K7 K8 X7 X8 X9
          have HL := Aside0.mk HON.out.1
          have hwl9 : wd.length ≤ 40 + (j + 1) := by have := HC.out.2.2.1; omega
          have hll9 : ls2.length ≤ j + 1 := by have := HC.out.2.2.2; have := HON.out.2; omega
          obtain ⟨wd9, hwd9⟩ : ∃ x, x = wd := ⟨_, rfl⟩
          rw [← hwd9] at K9 hwl9
          clear hwd9
          obtain ⟨A9, s9, Q9, r9, ha9, hq9⟩ := K9.out.ms.slices
          rw [ha9, hq9] at K9
          clear ha9 hq9
          have NW := fun W h => now_ok (g) wd9 u w W h (by omega)
          have VA := fun W h => valid_ok (g + 1) ls2 t2 v8 wd9 w W h (by omega)
          have MV := fun W h1 h2 => mvalid_ok (g + 1 + 1) (g) ls2 t2 (.slice A9 ls2.length s9) (.slice Q9 ls2.length r9) wd9 u w W h1 h2 (by omega) (by omega)
          rw [then_valid HL.out] at MV
          generalize validB wd9 ls2 = vb at VA MV
          have hvb : (vb != vb) = false := by cases vb <;> rfl
          have SP := fun W h => stamp_ok (g + 1) ls2 t2 v8 w W h
          have LN := fun W h => len_ok (g + 1) ls2 t2 v8 w W h
          have c10 : w9.cell? ⟨g + 1 + 1 + 1, 0, none⟩ = some (.pointer (some ⟨g + 1, 0, none⟩)) := (blk_cell K9.out.c10 0).trans rfl
          have c11 : w9.cell? ⟨g + 1 + 1 + 1 + 1, 0, none⟩ = some (.pointer (some ⟨g + 1 + 1, 0, none⟩)) := (blk_cell K9.out.c11 0).trans rfl
          have m0 : w9.cell? ⟨g + 1 + 1, 0, none⟩ = some (.slice A9 ls2.length s9) := (blk_cell K9.out.ms.1 0).trans rfl
          have m2 : w9.cell? ⟨g + 1 + 1, 2, none⟩ = some (.int .i64 t2) := (blk_cell K9.out.ms.1 2).trans rfl
          refine name_post (fun Qx hQx => ?_)
          have HQx := Aside0.mk hQx
          clear hQx
          refine wp_region_noPanic ?_
          refine wp_region_held_drew (S := (fun w' => w'.cell? ⟨g + 1 + 1 + 1, 0, none⟩ = some (.pointer (some ⟨g + 1, 0, none⟩)) ∧ w'.cell? ⟨g + 1 + 1 + 1 + 1, 0, none⟩ = some (.pointer (some ⟨g + 1 + 1, 0, none⟩)) ∧ w'.cell? ⟨g + 1 + 1, 0, none⟩ = some (.slice A9 ls2.length s9) ∧ w'.cell? ⟨g + 1 + 1, 2, none⟩ = some (.int .i64 t2))) (by kernel_rfl) ⟨c10, c11, m0, m2⟩ (fun hHeld => ?_)
          refine wpAnyH_take (i := 0) (oi := ({ dst := some 71, op := Op.load 31 (Operand.tmp 10), type := 31, pos := "law.go:71", after := #[], guard := none } : Oper)) (v := ?_) rfl (by kernel_rfl) (by kernel_rfl) (by kernel_rfl) (fun _ _ _ h => h) (Or.inl ⟨by rfl, ?_⟩) (by assumption) ?_
          rotate_left
          · intro w hSw
            (try dsimp only at hSw)
            go_simp
            (try with_reducible rfl)
          try simp only [Act.put, List.setIfInBounds_toArray, List.set_cons_zero, List.set_cons_succ]
          refine wpAnyH_take (i := 1) (oi := ({ dst := some 72, op := Op.move (Operand.tmp 9), type := 28, pos := "law.go:71", after := #[], guard := none } : Oper)) (v := ?_) rfl (by kernel_rfl) (by kernel_rfl) (by kernel_rfl) (fun _ _ _ h => h) (Or.inl ⟨by rfl, ?_⟩) (by assumption) ?_
          rotate_left
          · intro w hSw
            (try dsimp only at hSw)
            go_simp
            (try with_reducible rfl)
          try simp only [Act.put, List.setIfInBounds_toArray, List.set_cons_zero, List.set_cons_succ]
          refine wpAnyH_take (i := 4) (oi := ({ dst := some 75, op := Op.load 50 (Operand.tmp 11), type := 50, pos := "law.go:71", after := #[], guard := none } : Oper)) (v := ?_) rfl (by kernel_rfl) (by kernel_rfl) (by kernel_rfl) (fun _ _ _ h => h) (Or.inl ⟨by rfl, ?_⟩) (by assumption) ?_
          rotate_left
          · intro w hSw
            (try dsimp only at hSw)
            go_simp
            (try with_reducible rfl)
          try simp only [Act.put, List.setIfInBounds_toArray, List.set_cons_zero, List.set_cons_succ]
          refine wpAnyH_take (i := 5) (oi := ({ dst := some 76, op := Op.move (Operand.tmp 9), type := 28, pos := "law.go:71", after := #[], guard := none } : Oper)) (v := ?_) rfl (by kernel_rfl) (by kernel_rfl) (by kernel_rfl) (fun _ _ _ h => h) (Or.inl ⟨by rfl, ?_⟩) (by assumption) ?_
          rotate_left
          · intro w hSw
            (try dsimp only at hSw)
            go_simp
            (try with_reducible rfl)
          try simp only [Act.put, List.setIfInBounds_toArray, List.set_cons_zero, List.set_cons_succ]
          refine wpAnyH_ready (rs := [2]) (by kernel_rfl) (by simp) ?_
          refine AllReadyH.cons (o := ({ dst := some 73, op := Op.call { callee := Callee.value (Operand.func 17), args := #[Operand.tmp 72], argTypes := #[28] }, type := 39, pos := "law.go:71", after := #[{ on := 1, ground := Ground.data }], guard := none } : Oper)) rfl (fun Kc hKc => ?_) AllReadyH.nil
          go_simp
          refine (NW _ (K9.out.wd.below (pw_below_drewN (Below.refl _ _) 1))).mono ?_
          rintro e wa ⟨rfl, hb7⟩
          have hb77 := (pw_below_drewN (Below.refl w9.heap.size w9) 1).trans hb7
          have Ka := Aside0.mk (K9.out.below hb77)
          have c10 := at_below hb77 c10
          have c11 := at_below hb77 c11
          have m0 := at_below hb77 m0
          have m2 := at_below hb77 m2
          clear hb7 hb77
          refine hKc.out _ _ ⟨c10, c11, m0, m2⟩ (fun hHeld => ?_)
          clear hKc Kc
          try simp only [Act.put, List.setIfInBounds_toArray, List.set_cons_zero, List.set_cons_succ]
          refine wpAnyH_ready (rs := [3]) (by kernel_rfl) (by simp) ?_
          refine AllReadyH.cons (o := ({ dst := some 74, op := Op.call { callee := Callee.value (Operand.func 18), args := #[Operand.tmp 71, Operand.tmp 73], argTypes := #[31, 39] }, type := 4, pos := "law.go:71", after := #[{ on := 0, ground := Ground.data }, { on := 2, ground := Ground.data }, { on := 2, ground := Ground.chain }], guard := none } : Oper)) rfl (fun Kc hKc => ?_) AllReadyH.nil
          go_simp
          refine (VA _ Ka.out.st).mono ?_
          rintro e wb ⟨rfl, hb7⟩
          have Kb := Aside0.mk (Ka.out.below hb7)
          have c10 := at_below hb7 c10
          have c11 := at_below hb7 c11
          have m0 := at_below hb7 m0
          have m2 := at_below hb7 m2
          clear hb7
          refine hKc.out _ _ ⟨c10, c11, m0, m2⟩ (fun hHeld => ?_)
          clear hKc Kc
          try simp only [Act.put, List.setIfInBounds_toArray, List.set_cons_zero, List.set_cons_succ]
          refine wpAnyH_ready (rs := [6]) (by kernel_rfl) (by simp) ?_
          refine AllReadyH.cons (o := ({ dst := some 77, op := Op.call { callee := Callee.value (Operand.func 22), args := #[Operand.tmp 75, Operand.tmp 76], argTypes := #[50, 28] }, type := 4, pos := "law.go:71", after := #[{ on := 4, ground := Ground.data }, { on := 5, ground := Ground.data }, { on := 3, ground := Ground.chain }], guard := none } : Oper)) rfl (fun Kc hKc => ?_) AllReadyH.nil
          go_simp
          refine (MV _ Kb.out.ms Kb.out.wd).mono ?_
          rintro e wc ⟨rfl, hb7⟩
          have KC := Aside0.mk (Kb.out.below hb7)
          have c10 := at_below hb7 c10
          have c11 := at_below hb7 c11
          have m0 := at_below hb7 m0
          have m2 := at_below hb7 m2
          clear hb7
          refine hKc.out _ _ ⟨c10, c11, m0, m2⟩ (fun hHeld => ?_)
          clear hKc Kc
          try simp only [Act.put, List.setIfInBounds_toArray, List.set_cons_zero, List.set_cons_succ]
          refine wpAnyH_take (i := 7) (oi := ({ dst := some 78, op := Op.binOp BinOp.neq 4 (Operand.tmp 74) (Operand.tmp 77) 4, type := 4, pos := "law.go:71", after := #[{ on := 3, ground := Ground.data }, { on := 6, ground := Ground.data }], guard := none } : Oper)) (v := ?_) rfl (by kernel_rfl) (by kernel_rfl) (by kernel_rfl) (fun _ _ _ h => h) (Or.inl ⟨by rfl, ?_⟩) (by assumption) ?_
          rotate_left
          · intro w hSw
            (try dsimp only at hSw)
            go_simp
            (try with_reducible rfl)
          try simp only [Act.put, List.setIfInBounds_toArray, List.set_cons_zero, List.set_cons_succ]
          refine wpAnyH_take (i := 8) (oi := ({ dst := some 79, op := Op.move (Operand.tmp 78), type := 4, pos := "law.go:71", after := #[{ on := 7, ground := Ground.data }, { on := 6, ground := Ground.chain }], guard := none } : Oper)) (v := ?_) rfl (by kernel_rfl) (by kernel_rfl) (by kernel_rfl) (fun _ _ _ h => h) (Or.inl ⟨by rfl, ?_⟩) (by assumption) ?_
          rotate_left
          · intro w hSw
            (try dsimp only at hSw)
            go_simp
            (try with_reducible rfl)
          try simp only [Act.put, List.setIfInBounds_toArray, List.set_cons_zero, List.set_cons_succ]
          refine wpAnyH_take (i := 9) (oi := ({ dst := some 80, op := Op.load 31 (Operand.tmp 10), type := 31, pos := "law.go:71", after := #[{ on := 8, ground := Ground.guard }], guard := some (8, false) } : Oper)) (v := ?_) rfl (by kernel_rfl) (by kernel_rfl) (by kernel_rfl) (fun _ _ _ h => h) (Or.inl ⟨by rfl, ?_⟩) (by assumption) ?_
          rotate_left
          · intro w hSw
            (try dsimp only at hSw)
            go_simp
            (try with_reducible rfl)
          try simp only [Act.put, List.setIfInBounds_toArray, List.set_cons_zero, List.set_cons_succ]
          refine wpAnyH_take (i := 11) (oi := ({ dst := some 82, op := Op.load 50 (Operand.tmp 11), type := 50, pos := "law.go:71", after := #[{ on := 8, ground := Ground.guard }], guard := some (8, false) } : Oper)) (v := ?_) rfl (by kernel_rfl) (by kernel_rfl) (by kernel_rfl) (fun _ _ _ h => h) (Or.inl ⟨by rfl, ?_⟩) (by assumption) ?_
          rotate_left
          · intro w hSw
            (try dsimp only at hSw)
            go_simp
            (try with_reducible rfl)
          try simp only [Act.put, List.setIfInBounds_toArray, List.set_cons_zero, List.set_cons_succ]
          refine wpAnyH_take (i := 12) (oi := ({ dst := some 83, op := Op.nilCheck (Operand.tmp 82), type := 0, pos := "law.go:71", after := #[{ on := 11, ground := Ground.data }, { on := 8, ground := Ground.guard }], guard := some (8, false) } : Oper)) (v := ?_) rfl (by kernel_rfl) (by kernel_rfl) (by kernel_rfl) (fun _ _ _ h => h) (Or.inl ⟨by rfl, ?_⟩) (by assumption) ?_
          rotate_left
          · intro w hSw
            (try dsimp only at hSw)
            go_simp
            (try with_reducible rfl)
          try simp only [Act.put, List.setIfInBounds_toArray, List.set_cons_zero, List.set_cons_succ]
          refine wpAnyH_take (i := 13) (oi := ({ dst := some 84, op := Op.fieldAddr 53 (Operand.tmp 83) 2, type := 0, pos := "law.go:71", after := #[{ on := 12, ground := Ground.data }, { on := 8, ground := Ground.guard }], guard := some (8, false) } : Oper)) (v := ?_) rfl (by kernel_rfl) (by kernel_rfl) (by kernel_rfl) (fun _ _ _ h => h) (Or.inl ⟨by rfl, ?_⟩) (by assumption) ?_
          rotate_left
          · intro w hSw
            (try dsimp only at hSw)
            go_simp
            (try with_reducible rfl)
          try simp only [Act.put, List.setIfInBounds_toArray, List.set_cons_zero, List.set_cons_succ]
          refine wpAnyH_take (i := 14) (oi := ({ dst := some 85, op := Op.load 3 (Operand.tmp 84), type := 3, pos := "law.go:71", after := #[{ on := 13, ground := Ground.data }, { on := 8, ground := Ground.guard }], guard := some (8, false) } : Oper)) (v := ?_) rfl (by kernel_rfl) (by kernel_rfl) (by kernel_rfl) (fun _ _ _ h => h) (Or.inl ⟨by rfl, ?_⟩) (by assumption) ?_
          rotate_left
          · intro w hSw
            (try dsimp only at hSw)
            go_simp
            (try with_reducible rfl)
          try simp only [Act.put, List.setIfInBounds_toArray, List.set_cons_zero, List.set_cons_succ]
          refine wpAnyH_ready (rs := [10]) (by kernel_rfl) (by simp) ?_
          refine AllReadyH.cons (o := ({ dst := some 81, op := Op.call { callee := Callee.value (Operand.func 23), args := #[Operand.tmp 80], argTypes := #[31] }, type := 3, pos := "law.go:71", after := #[{ on := 9, ground := Ground.data }, { on := 8, ground := Ground.chain }, { on := 8, ground := Ground.guard }], guard := some (8, false) } : Oper)) rfl (fun Kc hKc => ?_) AllReadyH.nil
          go_simp
          refine (SP _ KC.out.st).mono ?_
          rintro e wd ⟨rfl, rfl⟩
          refine hKc.out _ _ ⟨c10, c11, m0, m2⟩ (fun hHeld => ?_)
          clear hKc Kc
          try simp only [Act.put, List.setIfInBounds_toArray, List.set_cons_zero, List.set_cons_succ]
          refine wpAnyH_take (i := 15) (oi := ({ dst := some 86, op := Op.binOp BinOp.neq 3 (Operand.tmp 81) (Operand.tmp 85) 3, type := 4, pos := "law.go:71", after := #[{ on := 10, ground := Ground.data }, { on := 14, ground := Ground.data }, { on := 8, ground := Ground.guard }], guard := some (8, false) } : Oper)) (v := ?_) rfl (by kernel_rfl) (by kernel_rfl) (by kernel_rfl) (fun _ _ _ h => h) (Or.inl ⟨by rfl, ?_⟩) (by assumption) ?_
          rotate_left
          · intro w hSw
            (try dsimp only at hSw)
            go_simp
            (try with_reducible rfl)
          try simp only [Act.put, List.setIfInBounds_toArray, List.set_cons_zero, List.set_cons_succ]
          refine wpAnyH_take (i := 16) (oi := ({ dst := some 87, op := Op.pick (Operand.tmp 79) (Operand.const (Value.bool true)) (Operand.tmp 86), type := 4, pos := "law.go:71", after := #[{ on := 8, ground := Ground.data }, { on := 15, ground := Ground.data }], guard := none } : Oper)) (v := ?_) rfl (by kernel_rfl) (by kernel_rfl) (by kernel_rfl) (fun _ _ _ h => h) (Or.inl ⟨by rfl, ?_⟩) (by assumption) ?_
          rotate_left
          · intro w hSw
            (try dsimp only at hSw)
            go_simp
            (try with_reducible rfl)
          try simp only [Act.put, List.setIfInBounds_toArray, List.set_cons_zero, List.set_cons_succ]
          refine wpAnyH_take (i := 17) (oi := ({ dst := some 88, op := Op.move (Operand.tmp 87), type := 4, pos := "law.go:71", after := #[{ on := 16, ground := Ground.data }, { on := 10, ground := Ground.chain }], guard := none } : Oper)) (v := ?_) rfl (by kernel_rfl) (by kernel_rfl) (by kernel_rfl) (fun _ _ _ h => h) (Or.inl ⟨by rfl, ?_⟩) (by assumption) ?_
          rotate_left
          · intro w hSw
            (try dsimp only at hSw)
            go_simp
            (try with_reducible rfl)
          try simp only [Act.put, List.setIfInBounds_toArray, List.set_cons_zero, List.set_cons_succ]
          refine wpAnyH_take (i := 18) (oi := ({ dst := some 89, op := Op.load 31 (Operand.tmp 10), type := 31, pos := "law.go:71", after := #[{ on := 17, ground := Ground.guard }], guard := some (17, false) } : Oper)) (v := ?_) rfl (by kernel_rfl) (by kernel_rfl) (by kernel_rfl) (fun _ _ _ h => h) (Or.inl ⟨by rfl, ?_⟩) (by assumption) ?_
          rotate_left
          · intro w hSw
            (try dsimp only at hSw)
            go_simp
            (try with_reducible rfl)
          try simp only [Act.put, List.setIfInBounds_toArray, List.set_cons_zero, List.set_cons_succ]
          refine wpAnyH_take (i := 20) (oi := ({ dst := some 91, op := Op.load 50 (Operand.tmp 11), type := 50, pos := "law.go:71", after := #[{ on := 17, ground := Ground.guard }], guard := some (17, false) } : Oper)) (v := ?_) rfl (by kernel_rfl) (by kernel_rfl) (by kernel_rfl) (fun _ _ _ h => h) (Or.inl ⟨by rfl, ?_⟩) (by assumption) ?_
          rotate_left
          · intro w hSw
            (try dsimp only at hSw)
            go_simp
            (try with_reducible rfl)
          try simp only [Act.put, List.setIfInBounds_toArray, List.set_cons_zero, List.set_cons_succ]
          refine wpAnyH_take (i := 21) (oi := ({ dst := some 92, op := Op.nilCheck (Operand.tmp 91), type := 0, pos := "law.go:71", after := #[{ on := 20, ground := Ground.data }, { on := 17, ground := Ground.guard }], guard := some (17, false) } : Oper)) (v := ?_) rfl (by kernel_rfl) (by kernel_rfl) (by kernel_rfl) (fun _ _ _ h => h) (Or.inl ⟨by rfl, ?_⟩) (by assumption) ?_
          rotate_left
          · intro w hSw
            (try dsimp only at hSw)
            go_simp
            (try with_reducible rfl)
          try simp only [Act.put, List.setIfInBounds_toArray, List.set_cons_zero, List.set_cons_succ]
          refine wpAnyH_take (i := 22) (oi := ({ dst := some 93, op := Op.fieldAddr 53 (Operand.tmp 92) 0, type := 0, pos := "law.go:71", after := #[{ on := 21, ground := Ground.data }, { on := 17, ground := Ground.guard }], guard := some (17, false) } : Oper)) (v := ?_) rfl (by kernel_rfl) (by kernel_rfl) (by kernel_rfl) (fun _ _ _ h => h) (Or.inl ⟨by rfl, ?_⟩) (by assumption) ?_
          rotate_left
          · intro w hSw
            (try dsimp only at hSw)
            go_simp
            (try with_reducible rfl)
          try simp only [Act.put, List.setIfInBounds_toArray, List.set_cons_zero, List.set_cons_succ]
          refine wpAnyH_take (i := 23) (oi := ({ dst := some 94, op := Op.load 27 (Operand.tmp 93), type := 27, pos := "law.go:71", after := #[{ on := 22, ground := Ground.data }, { on := 17, ground := Ground.guard }], guard := some (17, false) } : Oper)) (v := ?_) rfl (by kernel_rfl) (by kernel_rfl) (by kernel_rfl) (fun _ _ _ h => h) (Or.inl ⟨by rfl, ?_⟩) (by assumption) ?_
          rotate_left
          · intro w hSw
            (try dsimp only at hSw)
            go_simp
            (try with_reducible rfl)
          try simp only [Act.put, List.setIfInBounds_toArray, List.set_cons_zero, List.set_cons_succ]
          refine wpAnyH_take (i := 24) (oi := ({ dst := some 95, op := Op.call { callee := Callee.builtin Builtin.len, args := #[Operand.tmp 94], argTypes := #[27] }, type := 3, pos := "law.go:71", after := #[{ on := 23, ground := Ground.data }, { on := 17, ground := Ground.guard }], guard := some (17, false) } : Oper)) (v := ?_) rfl (by kernel_rfl) (by kernel_rfl) (by kernel_rfl) (fun _ _ _ h => h) (Or.inl ⟨by rfl, ?_⟩) (by assumption) ?_
          rotate_left
          · intro w hSw
            (try dsimp only at hSw)
            go_simp
            (try with_reducible rfl)
          try simp only [Act.put, List.setIfInBounds_toArray, List.set_cons_zero, List.set_cons_succ]
          refine wpAnyH_ready (rs := [19]) (by kernel_rfl) (by simp) ?_
          refine AllReadyH.cons (o := ({ dst := some 90, op := Op.call { callee := Callee.value (Operand.func 24), args := #[Operand.tmp 89], argTypes := #[31] }, type := 3, pos := "law.go:71", after := #[{ on := 18, ground := Ground.data }, { on := 17, ground := Ground.chain }, { on := 17, ground := Ground.guard }], guard := some (17, false) } : Oper)) rfl (fun Kc hKc => ?_) AllReadyH.nil
          go_simp
          refine (LN _ KC.out.st).mono ?_
          rintro e we ⟨rfl, rfl⟩
          refine hKc.out _ _ ⟨c10, c11, m0, m2⟩ (fun hHeld => ?_)
          clear hKc Kc
          try simp only [Act.put, List.setIfInBounds_toArray, List.set_cons_zero, List.set_cons_succ]
          refine wpAnyH_take (i := 25) (oi := ({ dst := some 96, op := Op.binOp BinOp.neq 3 (Operand.tmp 90) (Operand.tmp 95) 3, type := 4, pos := "law.go:71", after := #[{ on := 19, ground := Ground.data }, { on := 24, ground := Ground.data }, { on := 17, ground := Ground.guard }], guard := some (17, false) } : Oper)) (v := ?_) rfl (by kernel_rfl) (by kernel_rfl) (by kernel_rfl) (fun _ _ _ h => h) (Or.inl ⟨by rfl, ?_⟩) (by assumption) ?_
          rotate_left
          · intro w hSw
            (try dsimp only at hSw)
            go_simp
            (try with_reducible rfl)
          try simp only [Act.put, List.setIfInBounds_toArray, List.set_cons_zero, List.set_cons_succ]
          refine wpAnyH_take (i := 26) (oi := ({ dst := some 97, op := Op.pick (Operand.tmp 88) (Operand.const (Value.bool true)) (Operand.tmp 96), type := 4, pos := "law.go:71", after := #[{ on := 17, ground := Ground.data }, { on := 25, ground := Ground.data }], guard := none } : Oper)) (v := ?_) rfl (by kernel_rfl) (by kernel_rfl) (by kernel_rfl) (fun _ _ _ h => h) (Or.inl ⟨by rfl, ?_⟩) (by assumption) ?_
          rotate_left
          · intro w hSw
            (try dsimp only at hSw)
            go_simp
            (try with_reducible rfl)
          try simp only [Act.put, List.setIfInBounds_toArray, List.set_cons_zero, List.set_cons_succ]
          refine wpAnyH_done (by kernel_rfl) ?_ _
          refine NoPanic.normal ?_
          rw [HQx.out]
          clear HQx
          go_wp2
          go_roundg (l.length - (j + 1))
          case rel => exact ⟨j + 1, wd9, ls2, t2, _, _, _, _, (by rw [Int.natCast_add]; rfl), (by omega), ⟨KC.out, HL.out, hwl9, hll9⟩⟩
          case measure => omega
        · go_wp2_with (fail)
          obtain ⟨B2, e2, rfl⟩ := Kd.R_slice HC.out.1.wd.2.2
          have m0 : W1.cell? ⟨g, 0, none⟩ = some (.slice B2 wd.length e2) := (blk_cell K1.out.wd.1 0).trans rfl
          have mf := blk_frozen K1.out.wd.1
          have hown : some (g) ≠ (Value.slice B2 wd.length e2).ownBlock := K1.out.wd.own
          have hR1 : k24.R 24 (W1.drewN 1) w.heap.size (fun q => (Value.slice B2 wd.length e2).ownBlock = some q ∨ (W1.drewN 1).heap.size ≤ q) (.slice B2 wd.length e2) wd := Kd.R_mono (K1.out.wd.below (pw_below_drewN (Below.refl _ _) 1)).2.2 (fun _ hq => .inl hq)
          have hB1 : Below w.heap.size w (W1.drewN 1) := pw_below_drewN K1.out.bel 1
          have hgl : g < W1.heap.size := blk_lt K1.out.wd.1
          refine wp_region_noPanic ?_
          go_region_law (((refine Kd.R_append_step k24 (w0 := w) (W := (W1.drewN 1)) w.heap.size (by rfl) (.tmp 48) (.tmp 51) 27 24 (.agg #[(.int .i64 0), (.int .i64 0)]) 16 (by rfl) hu27 info24D rfl (by decide) (by omega) (.slice B2 wd.length e2) wd (⟨y0, y1⟩ : S24) [.int .i64 y0, .int .i64 y1] (fun z => (Value.slice B2 wd.length e2).ownBlock = some z ∨ (W1.drewN 1).heap.size ≤ z) (fun _ => False) (by rfl) (by rfl) (k24_mkM _ _ _ (⟨y0, y1⟩ : S24)) (fun _ hk => hk.elim) (fun _ hk => .inr hk) hR1 hB1 hB1.size (by omega) ?_; intro v7 w7 hO7 hB7 hg7 hat7; have h7 := (hg7.block (g) hgl hown).trans K1.out.wd.1; have d7 : w7.cell? ⟨g, 0, none⟩ = some (.slice B2 wd.length e2) := (blk_cell h7 0).trans rfl; have f7 := blk_frozen h7 0; have hs7 := Kd.R_slice hO7; rw [List.length_append, List.length_singleton] at hs7; obtain ⟨A7, e7, rfl⟩ := hs7)))
          all_goals refine NoPanic.normal ?_
          all_goals go_wp2_with (fail)
          all_goals
            have K9 := Aside0.mk (St4.changed (y := ⟨y0, y1⟩) (A7 := A7) (e7 := e7) K1.out (by simpa only [List.length_append, List.length_singleton] using hO7) hB7 hg7)
            simp only [List.length_append, List.length_singleton] at K9
            clear d7 f7 h7 hat7 hg7 hB7 hO7 m0 mf hR1 hB1 hgl hown d0 d1' d2 c10 c11
            generalize w7.setCell ⟨g, 0, none⟩ (.slice A7 (wd.length + 1) e7) = w9 at K9 ⊢
            have HL := Aside0.mk HC.out.2.1
            have hwl9 : (wd ++ [(⟨y0, y1⟩ : S24)]).length ≤ 40 + (j + 1) := by rw [List.length_append, List.length_singleton]; have := HC.out.2.2.1; omega
            have hll9 : ls.length ≤ j + 1 := by have := HC.out.2.2.2; omega
            obtain ⟨wd9, hwd9⟩ : ∃ x, x = wd ++ [(⟨y0, y1⟩ : S24)] := ⟨_, rfl⟩
            rw [← hwd9] at K9 hwl9
            clear hwd9
            obtain ⟨A9, s9, Q9, r9, ha9, hq9⟩ := K9.out.ms.slices
            rw [ha9, hq9] at K9
            clear ha9 hq9
            have NW := fun W h => now_ok (g) wd9 (.slice A7 (wd.length + 1) e7) w W h (by omega)
            have VA := fun W h => valid_ok (g + 1) ls t v' wd9 w W h (by omega)
            have MV := fun W h1 h2 => mvalid_ok (g + 1 + 1) (g) ls t (.slice A9 ls.length s9) (.slice Q9 ls.length r9) wd9 (.slice A7 (wd.length + 1) e7) w W h1 h2 (by omega) (by omega)
            rw [then_valid HL.out] at MV
            generalize validB wd9 ls = vb at VA MV
            have hvb : (vb != vb) = false := by cases vb <;> rfl
            have SP := fun W h => stamp_ok (g + 1) ls t v' w W h
            have LN := fun W h => len_ok (g + 1) ls t v' w W h
            have c10 : w9.cell? ⟨g + 1 + 1 + 1, 0, none⟩ = some (.pointer (some ⟨g + 1, 0, none⟩)) := (blk_cell K9.out.c10 0).trans rfl
            have c11 : w9.cell? ⟨g + 1 + 1 + 1 + 1, 0, none⟩ = some (.pointer (some ⟨g + 1 + 1, 0, none⟩)) := (blk_cell K9.out.c11 0).trans rfl
            have m0 : w9.cell? ⟨g + 1 + 1, 0, none⟩ = some (.slice A9 ls.length s9) := (blk_cell K9.out.ms.1 0).trans rfl
            have m2 : w9.cell? ⟨g + 1 + 1, 2, none⟩ = some (.int .i64 t) := (blk_cell K9.out.ms.1 2).trans rfl
            refine name_post (fun Qx hQx => ?_)
            have HQx := Aside0.mk hQx
            clear hQx
            refine wp_region_noPanic ?_
            refine wp_region_held_drew (S := (fun w' => w'.cell? ⟨g + 1 + 1 + 1, 0, none⟩ = some (.pointer (some ⟨g + 1, 0, none⟩)) ∧ w'.cell? ⟨g + 1 + 1 + 1 + 1, 0, none⟩ = some (.pointer (some ⟨g + 1 + 1, 0, none⟩)) ∧ w'.cell? ⟨g + 1 + 1, 0, none⟩ = some (.slice A9 ls.length s9) ∧ w'.cell? ⟨g + 1 + 1, 2, none⟩ = some (.int .i64 t))) (by kernel_rfl) ⟨c10, c11, m0, m2⟩ (fun hHeld => ?_)
            refine wpAnyH_take (i := 0) (oi := ({ dst := some 71, op := Op.load 31 (Operand.tmp 10), type := 31, pos := "law.go:71", after := #[], guard := none } : Oper)) (v := ?_) rfl (by kernel_rfl) (by kernel_rfl) (by kernel_rfl) (fun _ _ _ h => h) (Or.inl ⟨by rfl, ?_⟩) (by assumption) ?_
            rotate_left
            · intro w hSw
              (try dsimp only at hSw)
              go_simp
              (try with_reducible rfl)
            try simp only [Act.put, List.setIfInBounds_toArray, List.set_cons_zero, List.set_cons_succ]
            refine wpAnyH_take (i := 1) (oi := ({ dst := some 72, op := Op.move (Operand.tmp 9), type := 28, pos := "law.go:71", after := #[], guard := none } : Oper)) (v := ?_) rfl (by kernel_rfl) (by kernel_rfl) (by kernel_rfl) (fun _ _ _ h => h) (Or.inl ⟨by rfl, ?_⟩) (by assumption) ?_
            rotate_left
            · intro w hSw
              (try dsimp only at hSw)
              go_simp
              (try with_reducible rfl)
            try simp only [Act.put, List.setIfInBounds_toArray, List.set_cons_zero, List.set_cons_succ]
            refine wpAnyH_take (i := 4) (oi := ({ dst := some 75, op := Op.load 50 (Operand.tmp 11), type := 50, pos := "law.go:71", after := #[], guard := none } : Oper)) (v := ?_) rfl (by kernel_rfl) (by kernel_rfl) (by kernel_rfl) (fun _ _ _ h => h) (Or.inl ⟨by rfl, ?_⟩) (by assumption) ?_
            rotate_left
            · intro w hSw
              (try dsimp only at hSw)
              go_simp
              (try with_reducible rfl)
            try simp only [Act.put, List.setIfInBounds_toArray, List.set_cons_zero, List.set_cons_succ]
            refine wpAnyH_take (i := 5) (oi := ({ dst := some 76, op := Op.move (Operand.tmp 9), type := 28, pos := "law.go:71", after := #[], guard := none } : Oper)) (v := ?_) rfl (by kernel_rfl) (by kernel_rfl) (by kernel_rfl) (fun _ _ _ h => h) (Or.inl ⟨by rfl, ?_⟩) (by assumption) ?_
            rotate_left
            · intro w hSw
              (try dsimp only at hSw)
              go_simp
              (try with_reducible rfl)
            try simp only [Act.put, List.setIfInBounds_toArray, List.set_cons_zero, List.set_cons_succ]
            refine wpAnyH_ready (rs := [2]) (by kernel_rfl) (by simp) ?_
            refine AllReadyH.cons (o := ({ dst := some 73, op := Op.call { callee := Callee.value (Operand.func 17), args := #[Operand.tmp 72], argTypes := #[28] }, type := 39, pos := "law.go:71", after := #[{ on := 1, ground := Ground.data }], guard := none } : Oper)) rfl (fun Kc hKc => ?_) AllReadyH.nil
            go_simp
            refine (NW _ (K9.out.wd.below (pw_below_drewN (Below.refl _ _) 1))).mono ?_
            rintro e wa ⟨rfl, hb7⟩
            have hb77 := (pw_below_drewN (Below.refl w9.heap.size w9) 1).trans hb7
            have Ka := Aside0.mk (K9.out.below hb77)
            have c10 := at_below hb77 c10
            have c11 := at_below hb77 c11
            have m0 := at_below hb77 m0
            have m2 := at_below hb77 m2
            clear hb7 hb77
            refine hKc.out _ _ ⟨c10, c11, m0, m2⟩ (fun hHeld => ?_)
            clear hKc Kc
            try simp only [Act.put, List.setIfInBounds_toArray, List.set_cons_zero, List.set_cons_succ]
            refine wpAnyH_ready (rs := [3]) (by kernel_rfl) (by simp) ?_
            refine AllReadyH.cons (o := ({ dst := some 74, op := Op.call { callee := Callee.value (Operand.func 18), args := #[Operand.tmp 71, Operand.tmp 73], argTypes := #[31, 39] }, type := 4, pos := "law.go:71", after := #[{ on := 0, ground := Ground.data }, { on := 2, ground := Ground.data }, { on := 2, ground := Ground.chain }], guard := none } : Oper)) rfl (fun Kc hKc => ?_) AllReadyH.nil
            go_simp
            refine (VA _ Ka.out.st).mono ?_
            rintro e wb ⟨rfl, hb7⟩
            have Kb := Aside0.mk (Ka.out.below hb7)
            have c10 := at_below hb7 c10
            have c11 := at_below hb7 c11
            have m0 := at_below hb7 m0
            have m2 := at_below hb7 m2
            clear hb7
            refine hKc.out _ _ ⟨c10, c11, m0, m2⟩ (fun hHeld => ?_)
            clear hKc Kc
            try simp only [Act.put, List.setIfInBounds_toArray, List.set_cons_zero, List.set_cons_succ]
            refine wpAnyH_ready (rs := [6]) (by kernel_rfl) (by simp) ?_
            refine AllReadyH.cons (o := ({ dst := some 77, op := Op.call { callee := Callee.value (Operand.func 22), args := #[Operand.tmp 75, Operand.tmp 76], argTypes := #[50, 28] }, type := 4, pos := "law.go:71", after := #[{ on := 4, ground := Ground.data }, { on := 5, ground := Ground.data }, { on := 3, ground := Ground.chain }], guard := none } : Oper)) rfl (fun Kc hKc => ?_) AllReadyH.nil
            go_simp
            refine (MV _ Kb.out.ms Kb.out.wd).mono ?_
            rintro e wc ⟨rfl, hb7⟩
            have KC := Aside0.mk (Kb.out.below hb7)
            have c10 := at_below hb7 c10
            have c11 := at_below hb7 c11
            have m0 := at_below hb7 m0
            have m2 := at_below hb7 m2
            clear hb7
            refine hKc.out _ _ ⟨c10, c11, m0, m2⟩ (fun hHeld => ?_)
            clear hKc Kc
            try simp only [Act.put, List.setIfInBounds_toArray, List.set_cons_zero, List.set_cons_succ]
            refine wpAnyH_take (i := 7) (oi := ({ dst := some 78, op := Op.binOp BinOp.neq 4 (Operand.tmp 74) (Operand.tmp 77) 4, type := 4, pos := "law.go:71", after := #[{ on := 3, ground := Ground.data }, { on := 6, ground := Ground.data }], guard := none } : Oper)) (v := ?_) rfl (by kernel_rfl) (by kernel_rfl) (by kernel_rfl) (fun _ _ _ h => h) (Or.inl ⟨by rfl, ?_⟩) (by assumption) ?_
            rotate_left
            · intro w hSw
              (try dsimp only at hSw)
              go_simp
              (try with_reducible rfl)
            try simp only [Act.put, List.setIfInBounds_toArray, List.set_cons_zero, List.set_cons_succ]
            refine wpAnyH_take (i := 8) (oi := ({ dst := some 79, op := Op.move (Operand.tmp 78), type := 4, pos := "law.go:71", after := #[{ on := 7, ground := Ground.data }, { on := 6, ground := Ground.chain }], guard := none } : Oper)) (v := ?_) rfl (by kernel_rfl) (by kernel_rfl) (by kernel_rfl) (fun _ _ _ h => h) (Or.inl ⟨by rfl, ?_⟩) (by assumption) ?_
            rotate_left
            · intro w hSw
              (try dsimp only at hSw)
              go_simp
              (try with_reducible rfl)
            try simp only [Act.put, List.setIfInBounds_toArray, List.set_cons_zero, List.set_cons_succ]
            refine wpAnyH_take (i := 9) (oi := ({ dst := some 80, op := Op.load 31 (Operand.tmp 10), type := 31, pos := "law.go:71", after := #[{ on := 8, ground := Ground.guard }], guard := some (8, false) } : Oper)) (v := ?_) rfl (by kernel_rfl) (by kernel_rfl) (by kernel_rfl) (fun _ _ _ h => h) (Or.inl ⟨by rfl, ?_⟩) (by assumption) ?_
            rotate_left
            · intro w hSw
              (try dsimp only at hSw)
              go_simp
              (try with_reducible rfl)
            try simp only [Act.put, List.setIfInBounds_toArray, List.set_cons_zero, List.set_cons_succ]
            refine wpAnyH_take (i := 11) (oi := ({ dst := some 82, op := Op.load 50 (Operand.tmp 11), type := 50, pos := "law.go:71", after := #[{ on := 8, ground := Ground.guard }], guard := some (8, false) } : Oper)) (v := ?_) rfl (by kernel_rfl) (by kernel_rfl) (by kernel_rfl) (fun _ _ _ h => h) (Or.inl ⟨by rfl, ?_⟩) (by assumption) ?_
            rotate_left
            · intro w hSw
              (try dsimp only at hSw)
              go_simp
              (try with_reducible rfl)
            try simp only [Act.put, List.setIfInBounds_toArray, List.set_cons_zero, List.set_cons_succ]
            refine wpAnyH_take (i := 12) (oi := ({ dst := some 83, op := Op.nilCheck (Operand.tmp 82), type := 0, pos := "law.go:71", after := #[{ on := 11, ground := Ground.data }, { on := 8, ground := Ground.guard }], guard := some (8, false) } : Oper)) (v := ?_) rfl (by kernel_rfl) (by kernel_rfl) (by kernel_rfl) (fun _ _ _ h => h) (Or.inl ⟨by rfl, ?_⟩) (by assumption) ?_
            rotate_left
            · intro w hSw
              (try dsimp only at hSw)
              go_simp
              (try with_reducible rfl)
            try simp only [Act.put, List.setIfInBounds_toArray, List.set_cons_zero, List.set_cons_succ]
            refine wpAnyH_take (i := 13) (oi := ({ dst := some 84, op := Op.fieldAddr 53 (Operand.tmp 83) 2, type := 0, pos := "law.go:71", after := #[{ on := 12, ground := Ground.data }, { on := 8, ground := Ground.guard }], guard := some (8, false) } : Oper)) (v := ?_) rfl (by kernel_rfl) (by kernel_rfl) (by kernel_rfl) (fun _ _ _ h => h) (Or.inl ⟨by rfl, ?_⟩) (by assumption) ?_
            rotate_left
            · intro w hSw
              (try dsimp only at hSw)
              go_simp
              (try with_reducible rfl)
            try simp only [Act.put, List.setIfInBounds_toArray, List.set_cons_zero, List.set_cons_succ]
            refine wpAnyH_take (i := 14) (oi := ({ dst := some 85, op := Op.load 3 (Operand.tmp 84), type := 3, pos := "law.go:71", after := #[{ on := 13, ground := Ground.data }, { on := 8, ground := Ground.guard }], guard := some (8, false) } : Oper)) (v := ?_) rfl (by kernel_rfl) (by kernel_rfl) (by kernel_rfl) (fun _ _ _ h => h) (Or.inl ⟨by rfl, ?_⟩) (by assumption) ?_
            rotate_left
            · intro w hSw
              (try dsimp only at hSw)
              go_simp
              (try with_reducible rfl)
            try simp only [Act.put, List.setIfInBounds_toArray, List.set_cons_zero, List.set_cons_succ]
            refine wpAnyH_ready (rs := [10]) (by kernel_rfl) (by simp) ?_
            refine AllReadyH.cons (o := ({ dst := some 81, op := Op.call { callee := Callee.value (Operand.func 23), args := #[Operand.tmp 80], argTypes := #[31] }, type := 3, pos := "law.go:71", after := #[{ on := 9, ground := Ground.data }, { on := 8, ground := Ground.chain }, { on := 8, ground := Ground.guard }], guard := some (8, false) } : Oper)) rfl (fun Kc hKc => ?_) AllReadyH.nil
            go_simp
            refine (SP _ KC.out.st).mono ?_
            rintro e wd ⟨rfl, rfl⟩
            refine hKc.out _ _ ⟨c10, c11, m0, m2⟩ (fun hHeld => ?_)
            clear hKc Kc
            try simp only [Act.put, List.setIfInBounds_toArray, List.set_cons_zero, List.set_cons_succ]
            refine wpAnyH_take (i := 15) (oi := ({ dst := some 86, op := Op.binOp BinOp.neq 3 (Operand.tmp 81) (Operand.tmp 85) 3, type := 4, pos := "law.go:71", after := #[{ on := 10, ground := Ground.data }, { on := 14, ground := Ground.data }, { on := 8, ground := Ground.guard }], guard := some (8, false) } : Oper)) (v := ?_) rfl (by kernel_rfl) (by kernel_rfl) (by kernel_rfl) (fun _ _ _ h => h) (Or.inl ⟨by rfl, ?_⟩) (by assumption) ?_
            rotate_left
            · intro w hSw
              (try dsimp only at hSw)
              go_simp
              (try with_reducible rfl)
            try simp only [Act.put, List.setIfInBounds_toArray, List.set_cons_zero, List.set_cons_succ]
            refine wpAnyH_take (i := 16) (oi := ({ dst := some 87, op := Op.pick (Operand.tmp 79) (Operand.const (Value.bool true)) (Operand.tmp 86), type := 4, pos := "law.go:71", after := #[{ on := 8, ground := Ground.data }, { on := 15, ground := Ground.data }], guard := none } : Oper)) (v := ?_) rfl (by kernel_rfl) (by kernel_rfl) (by kernel_rfl) (fun _ _ _ h => h) (Or.inl ⟨by rfl, ?_⟩) (by assumption) ?_
            rotate_left
            · intro w hSw
              (try dsimp only at hSw)
              go_simp
              (try with_reducible rfl)
            try simp only [Act.put, List.setIfInBounds_toArray, List.set_cons_zero, List.set_cons_succ]
            refine wpAnyH_take (i := 17) (oi := ({ dst := some 88, op := Op.move (Operand.tmp 87), type := 4, pos := "law.go:71", after := #[{ on := 16, ground := Ground.data }, { on := 10, ground := Ground.chain }], guard := none } : Oper)) (v := ?_) rfl (by kernel_rfl) (by kernel_rfl) (by kernel_rfl) (fun _ _ _ h => h) (Or.inl ⟨by rfl, ?_⟩) (by assumption) ?_
            rotate_left
            · intro w hSw
              (try dsimp only at hSw)
              go_simp
              (try with_reducible rfl)
            try simp only [Act.put, List.setIfInBounds_toArray, List.set_cons_zero, List.set_cons_succ]
            refine wpAnyH_take (i := 18) (oi := ({ dst := some 89, op := Op.load 31 (Operand.tmp 10), type := 31, pos := "law.go:71", after := #[{ on := 17, ground := Ground.guard }], guard := some (17, false) } : Oper)) (v := ?_) rfl (by kernel_rfl) (by kernel_rfl) (by kernel_rfl) (fun _ _ _ h => h) (Or.inl ⟨by rfl, ?_⟩) (by assumption) ?_
            rotate_left
            · intro w hSw
              (try dsimp only at hSw)
              go_simp
              (try with_reducible rfl)
            try simp only [Act.put, List.setIfInBounds_toArray, List.set_cons_zero, List.set_cons_succ]
            refine wpAnyH_take (i := 20) (oi := ({ dst := some 91, op := Op.load 50 (Operand.tmp 11), type := 50, pos := "law.go:71", after := #[{ on := 17, ground := Ground.guard }], guard := some (17, false) } : Oper)) (v := ?_) rfl (by kernel_rfl) (by kernel_rfl) (by kernel_rfl) (fun _ _ _ h => h) (Or.inl ⟨by rfl, ?_⟩) (by assumption) ?_
            rotate_left
            · intro w hSw
              (try dsimp only at hSw)
              go_simp
              (try with_reducible rfl)
            try simp only [Act.put, List.setIfInBounds_toArray, List.set_cons_zero, List.set_cons_succ]
            refine wpAnyH_take (i := 21) (oi := ({ dst := some 92, op := Op.nilCheck (Operand.tmp 91), type := 0, pos := "law.go:71", after := #[{ on := 20, ground := Ground.data }, { on := 17, ground := Ground.guard }], guard := some (17, false) } : Oper)) (v := ?_) rfl (by kernel_rfl) (by kernel_rfl) (by kernel_rfl) (fun _ _ _ h => h) (Or.inl ⟨by rfl, ?_⟩) (by assumption) ?_
            rotate_left
            · intro w hSw
              (try dsimp only at hSw)
              go_simp
              (try with_reducible rfl)
            try simp only [Act.put, List.setIfInBounds_toArray, List.set_cons_zero, List.set_cons_succ]
            refine wpAnyH_take (i := 22) (oi := ({ dst := some 93, op := Op.fieldAddr 53 (Operand.tmp 92) 0, type := 0, pos := "law.go:71", after := #[{ on := 21, ground := Ground.data }, { on := 17, ground := Ground.guard }], guard := some (17, false) } : Oper)) (v := ?_) rfl (by kernel_rfl) (by kernel_rfl) (by kernel_rfl) (fun _ _ _ h => h) (Or.inl ⟨by rfl, ?_⟩) (by assumption) ?_
            rotate_left
            · intro w hSw
              (try dsimp only at hSw)
              go_simp
              (try with_reducible rfl)
            try simp only [Act.put, List.setIfInBounds_toArray, List.set_cons_zero, List.set_cons_succ]
            refine wpAnyH_take (i := 23) (oi := ({ dst := some 94, op := Op.load 27 (Operand.tmp 93), type := 27, pos := "law.go:71", after := #[{ on := 22, ground := Ground.data }, { on := 17, ground := Ground.guard }], guard := some (17, false) } : Oper)) (v := ?_) rfl (by kernel_rfl) (by kernel_rfl) (by kernel_rfl) (fun _ _ _ h => h) (Or.inl ⟨by rfl, ?_⟩) (by assumption) ?_
            rotate_left
            · intro w hSw
              (try dsimp only at hSw)
              go_simp
              (try with_reducible rfl)
            try simp only [Act.put, List.setIfInBounds_toArray, List.set_cons_zero, List.set_cons_succ]
            refine wpAnyH_take (i := 24) (oi := ({ dst := some 95, op := Op.call { callee := Callee.builtin Builtin.len, args := #[Operand.tmp 94], argTypes := #[27] }, type := 3, pos := "law.go:71", after := #[{ on := 23, ground := Ground.data }, { on := 17, ground := Ground.guard }], guard := some (17, false) } : Oper)) (v := ?_) rfl (by kernel_rfl) (by kernel_rfl) (by kernel_rfl) (fun _ _ _ h => h) (Or.inl ⟨by rfl, ?_⟩) (by assumption) ?_
            rotate_left
            · intro w hSw
              (try dsimp only at hSw)
              go_simp
              (try with_reducible rfl)
            try simp only [Act.put, List.setIfInBounds_toArray, List.set_cons_zero, List.set_cons_succ]
            refine wpAnyH_ready (rs := [19]) (by kernel_rfl) (by simp) ?_
            refine AllReadyH.cons (o := ({ dst := some 90, op := Op.call { callee := Callee.value (Operand.func 24), args := #[Operand.tmp 89], argTypes := #[31] }, type := 3, pos := "law.go:71", after := #[{ on := 18, ground := Ground.data }, { on := 17, ground := Ground.chain }, { on := 17, ground := Ground.guard }], guard := some (17, false) } : Oper)) rfl (fun Kc hKc => ?_) AllReadyH.nil
            go_simp
            refine (LN _ KC.out.st).mono ?_
            rintro e we ⟨rfl, rfl⟩
            refine hKc.out _ _ ⟨c10, c11, m0, m2⟩ (fun hHeld => ?_)
            clear hKc Kc
            try simp only [Act.put, List.setIfInBounds_toArray, List.set_cons_zero, List.set_cons_succ]
            refine wpAnyH_take (i := 25) (oi := ({ dst := some 96, op := Op.binOp BinOp.neq 3 (Operand.tmp 90) (Operand.tmp 95) 3, type := 4, pos := "law.go:71", after := #[{ on := 19, ground := Ground.data }, { on := 24, ground := Ground.data }, { on := 17, ground := Ground.guard }], guard := some (17, false) } : Oper)) (v := ?_) rfl (by kernel_rfl) (by kernel_rfl) (by kernel_rfl) (fun _ _ _ h => h) (Or.inl ⟨by rfl, ?_⟩) (by assumption) ?_
            rotate_left
            · intro w hSw
              (try dsimp only at hSw)
              go_simp
              (try with_reducible rfl)
            try simp only [Act.put, List.setIfInBounds_toArray, List.set_cons_zero, List.set_cons_succ]
            refine wpAnyH_take (i := 26) (oi := ({ dst := some 97, op := Op.pick (Operand.tmp 88) (Operand.const (Value.bool true)) (Operand.tmp 96), type := 4, pos := "law.go:71", after := #[{ on := 17, ground := Ground.data }, { on := 25, ground := Ground.data }], guard := none } : Oper)) (v := ?_) rfl (by kernel_rfl) (by kernel_rfl) (by kernel_rfl) (fun _ _ _ h => h) (Or.inl ⟨by rfl, ?_⟩) (by assumption) ?_
            rotate_left
            · intro w hSw
              (try dsimp only at hSw)
              go_simp
              (try with_reducible rfl)
            try simp only [Act.put, List.setIfInBounds_toArray, List.set_cons_zero, List.set_cons_succ]
            refine wpAnyH_done (by kernel_rfl) ?_ _
            refine NoPanic.normal ?_
            rw [HQx.out]
            clear HQx
            go_wp2
            go_roundg (l.length - (j + 1))
            case rel => exact ⟨j + 1, wd9, ls, t, _, _, _, _, (by rw [Int.natCast_add]; rfl), (by omega), ⟨KC.out, HL.out, hwl9, hll9⟩⟩
            case measure => omega
      · have r0 : decide ((j : Int) < (l.length : Int)) = false := decide_eq_false (by omega)
        have hwl : wd.length ≤ 120 := by have := HC.out.2.2.1; omega
        have hll : ls.length ≤ 80 := by have := HC.out.2.2.2; omega
        obtain ⟨Al, cl, rfl⟩ := Kd.R_slice HC.out.1.st.2.2
        obtain ⟨Am, cm, Qm, dm, rfl, rfl⟩ := HC.out.1.ms.slices
        obtain ⟨B5, e5, rfl⟩ := Kd.R_slice HC.out.1.wd.2.2
        have c10 : (wr.alloc (.cells #[.int .i64 0] 3)).cell? ⟨g + 1 + 1 + 1, 0, none⟩ = some (.pointer (some ⟨g + 1, 0, none⟩)) := old_cell ((blk_cell HC.out.1.c10 0).trans rfl) _
        have hqk : some wr.heap.size ≠ (Value.slice Qm ls.length dm).ownBlock := Kd.R_ne_new HC.out.1.ms.2.2.2 0
        go_wp2_with (go_at_call 19; refine (all_ok (g + 1) ls t Al cl w _ (HC.out.1.st.below (below_alloc (Below.refl _ _) _))).mono ?_; rintro e w9 ⟨rfl, rfl⟩)
        clear c10
        have HL := Aside0.mk HC.out.2.1
        have hb1 := below_alloc (Below.refl wr.heap.size wr) (.cells #[.int .i64 0] 3)
        have hk1 := heap_alloc_new wr (.cells #[.int .i64 0] 3)
        have hgk : w.heap.size ≤ wr.heap.size := HC.out.1.bel.size
        have hs1 : (wr.alloc (.cells #[.int .i64 0] 3)).heap.size = wr.heap.size + 1 := by simp
        have K8 := Aside0.mk (HC.out.1.below hb1)
        generalize wr.alloc (.cells #[.int .i64 0] 3) = W8 at hb1 hk1 hs1 K8 ⊢
        have hb2 := below_alloc (Below.refl W8.heap.size W8) (.cells #[.slice Al ls.length cl] 76)
        have K9 := Aside0.mk (K8.out.below hb2)
        have hcb := heap_alloc_new W8 (.cells #[.slice Al ls.length cl] 76)
        have hk9 := (hb2.block _ (blk_lt hk1)).trans hk1
        generalize W8.alloc (.cells #[.slice Al ls.length cl] 76) = W0 at K9 hcb hk9 ⊢
        rw [hs1] at hcb
        generalize wr.heap.size = gk at hk9 hgk hcb hqk ⊢
        clear hb1 hk1 hs1 K8 hb2 HC
        refine name_act (fun T hT => ?_)
        dsimp only at hT
        have HT := Aside0.mk hT
        clear hT
        refine (wpIn_wide (n := 9)).1 ?_
        refine wpIn_rangeFunc_ownH rfl (by decide) (gf := 46) (lb := #[.pointer (some ⟨gk + 1, 0, none⟩)]) rfl trivial (enters_of Try.func46 (by kernel_rfl) rfl)
          (valuesk_stops Fence.wide 8 trivial rfl (by decide) (gk + 1) Al cl ls (by omega) W0 W0.heap.size gk rfl hcb (ty_ne hcb hk9 (by decide)) K9.out.st.2.2 (Kd.R_ne K9.out.st.2.2 hk9 (by decide))) KeepK.trans (KeepK.book (Nat.le_refl _)) (Below.refl _ _) (fun _ => rfl)
          (fun pre W => Boxed W gk 3 (.int .i64 (pre.length : Int)) ∧ Below w.heap.size w W ∧ KeepK W0.heap.size gk W0 W ∧ pre <+: ls)
          (fun c pre W => Boxed W gr 4 (.bool false) ∧ Below w.heap.size w W ∧ (c = .ret ∧ ¬ pre <+: ls))
          (OwnFrom.and (Own.from (boxed_own gk 3 (fun pre : List S47 => .int .i64 (pre.length : Int))) _) (OwnFrom.and (ownFrom_below (Nat.le_refl _) K9.out.bel.size) (OwnFrom.and (keepK_own (Nat.le_refl _)) (ownFrom_pure _ (fun pre : List S47 => pre <+: ls)))))
          (fun c => OwnFrom.and (Own.from (boxed_own gr 4 (fun _ : List S47 => .bool false)) _) (OwnFrom.and (ownFrom_below (Nat.le_refl _) K9.out.bel.size) (ownFrom_pure _ (fun pre : List S47 => c = .ret ∧ ¬ pre <+: ls))))
          ⟨hk9, K9.out.bel, KeepK.refl _ _ _, List.nil_prefix⟩
          (fun x a' W => ∃ Bx, W0.heap.size ≤ Bx ∧ W.heap[Bx]? = some (.cells (ent x) 47 (0, 0)) ∧ a' = ⟨(T.setIfInBounds 101 (.agg (ent x))).setIfInBounds 15 (.pointer (some ⟨Bx, 0, none⟩)), []⟩)
          (fun x a' _ X Y row hs hg hr => by obtain ⟨Bx, h1, h2, h3⟩ := hs; exact ⟨Bx, h1, cells_own h2 hg (fun r e => (hr r e).2), h3⟩)
          ?assign ?body ?done ?stop
        case assign =>
          rintro lp pre ⟨a, b, d⟩ W K ⟨iK, hB, hKK, iP⟩ hK
          dsimp only [ent]
          gi_wp2
          exact hK _ _ ((KeepsOthers.alloc _ _).from _) (KeepK.of (below_alloc (Below.refl W.heap.size W) _) hKK.1) ⟨iK.alloc _, hB.alloc hB.size _, hKK.trans (KeepK.of (below_alloc (Below.refl W.heap.size W) _) hKK.1), iP⟩ ⟨W.heap.size, hKK.1, heap_alloc_new W _, by rw [HT.out]; rfl⟩
        case stop =>
          rintro D c pre W hD hpre ⟨i4, iB, rfl, iP⟩ hK
          exact absurd hpre iP
        case body =>
          rintro lp pre ⟨a, b, d⟩ a' W hlp ⟨r, hr⟩ ⟨iK, hB, hKK, iP⟩ ⟨Bx, hBx, bX, rfl⟩ hlt
          have K := Aside0.mk (K9.out.keptK hk9 hqk hKK hB)
          have hpl := iP.length_le
          have IP := Aside0.mk iP
          clear iP
          rw [HT.out]
          simp only [List.setIfInBounds_toArray, List.set_cons_zero, List.set_cons_succ]
          clear HT hcb
          have ck : W.cell? ⟨gk, 0, none⟩ = some (.int .i64 (pre.length : Int)) := iK.cell
          have cf := iK.frozen
          have c10 : W.cell? ⟨g + 1 + 1 + 1, 0, none⟩ = some (.pointer (some ⟨g + 1, 0, none⟩)) := (blk_cell K.out.c10 0).trans rfl
          have c11 : W.cell? ⟨g + 1 + 1 + 1 + 1, 0, none⟩ = some (.pointer (some ⟨g + 1 + 1, 0, none⟩)) := (blk_cell K.out.c11 0).trans rfl
          have m0 : W.cell? ⟨g + 1 + 1, 0, none⟩ = some (.slice Am ls.length cm) := (blk_cell K.out.ms.1 0).trans rfl
          have m1 : W.cell? ⟨g + 1 + 1, 1, none⟩ = some (.slice Qm ls.length dm) := (blk_cell K.out.ms.1 1).trans rfl
          have cr : W.cell? ⟨gr, 0, none⟩ = some (.bool false) := (blk_cell K.out.cr 0).trans rfl
          have crf := blk_frozen K.out.cr
          have x0 : W.cell? ⟨Bx, 0, none⟩ = some (.int .i64 a) := (blk_cell bX 0).trans rfl
          have x1 : W.cell? ⟨Bx, 1, none⟩ = some (.int .i64 b) := (blk_cell bX 1).trans rfl
          have x2 : W.cell? ⟨Bx, 2, none⟩ = some (.int .i64 d) := (blk_cell bX 2).trans rfl
          have hlt : pre.length < 1001 := by omega
          obtain ⟨k, hkk⟩ : ∃ k, k = pre.length := ⟨_, rfl⟩
          have HK := Aside0.mk hkk
          rw [← hkk] at ck hpl
          have p0 : ((0 : Int) ≤ (k : Int)) = True := eq_true (by omega)
          by_cases hlong : ls.length ≤ k
          · have q0 : decide ((ls.length : Int) ≤ (k : Int)) = true := decide_eq_true (by omega)
            have HE := Aside0.mk (st_long (x := ⟨a, b, d⟩) (hkk ▸ hlong))
            clear hkk
            gi_wp2
            refine wpIn_round_held (S := fun w' => w'.cell? ⟨gk, 0, none⟩ = some (.int .i64 (k : Int)) ∧ w'.cell? ⟨g + 1 + 1 + 1, 0, none⟩ = some (.pointer (some ⟨g + 1, 0, none⟩)) ∧ w'.cell? ⟨g + 1 + 1 + 1 + 1, 0, none⟩ = some (.pointer (some ⟨g + 1 + 1, 0, none⟩)) ∧ w'.cell? ⟨g + 1 + 1, 0, none⟩ = some (.slice Am ls.length cm) ∧ w'.cell? ⟨g + 1 + 1, 1, none⟩ = some (.slice Qm ls.length dm) ∧ w'.cell? ⟨Bx, 0, none⟩ = some (.int .i64 a) ∧ w'.cell? ⟨Bx, 1, none⟩ = some (.int .i64 b) ∧ w'.cell? ⟨Bx, 2, none⟩ = some (.int .i64 d)) (by kernel_rfl) (by kernel_rfl) (fun ⟨_, _, h⟩ => h) ⟨ck, c10, c11, m0, m1, x0, x1, x2⟩ (fun hHeld => ?_)
            refine wpAnyH_take (i := 0) (oi := ({ dst := some 102, op := Op.load 3 (Operand.tmp 14), type := 3, pos := "law.go:77", after := #[], guard := none } : Oper)) (v := ?_) rfl (by kernel_rfl) (by kernel_rfl) (by kernel_rfl) (fun _ _ _ h => h) (Or.inl ⟨by rfl, ?_⟩) (by assumption) ?_
            rotate_left
            · intro w hSw
              (try dsimp only at hSw)
              go_simp
              (try with_reducible rfl)
            try simp only [Act.put, List.setIfInBounds_toArray, List.set_cons_zero, List.set_cons_succ]
            refine wpAnyH_take (i := 1) (oi := ({ dst := some 103, op := Op.load 50 (Operand.tmp 11), type := 50, pos := "law.go:77", after := #[], guard := none } : Oper)) (v := ?_) rfl (by kernel_rfl) (by kernel_rfl) (by kernel_rfl) (fun _ _ _ h => h) (Or.inl ⟨by rfl, ?_⟩) (by assumption) ?_
            rotate_left
            · intro w hSw
              (try dsimp only at hSw)
              go_simp
              (try with_reducible rfl)
            try simp only [Act.put, List.setIfInBounds_toArray, List.set_cons_zero, List.set_cons_succ]
            refine wpAnyH_take (i := 2) (oi := ({ dst := some 104, op := Op.nilCheck (Operand.tmp 103), type := 0, pos := "law.go:77", after := #[{ on := 1, ground := Ground.data }], guard := none } : Oper)) (v := ?_) rfl (by kernel_rfl) (by kernel_rfl) (by kernel_rfl) (fun _ _ _ h => h) (Or.inl ⟨by rfl, ?_⟩) (by assumption) ?_
            rotate_left
            · intro w hSw
              (try dsimp only at hSw)
              go_simp
              (try with_reducible rfl)
            try simp only [Act.put, List.setIfInBounds_toArray, List.set_cons_zero, List.set_cons_succ]
            refine wpAnyH_take (i := 3) (oi := ({ dst := some 105, op := Op.fieldAddr 53 (Operand.tmp 104) 0, type := 0, pos := "law.go:77", after := #[{ on := 2, ground := Ground.data }], guard := none } : Oper)) (v := ?_) rfl (by kernel_rfl) (by kernel_rfl) (by kernel_rfl) (fun _ _ _ h => h) (Or.inl ⟨by rfl, ?_⟩) (by assumption) ?_
            rotate_left
            · intro w hSw
              (try dsimp only at hSw)
              go_simp
              (try with_reducible rfl)
            try simp only [Act.put, List.setIfInBounds_toArray, List.set_cons_zero, List.set_cons_succ]
            refine wpAnyH_take (i := 4) (oi := ({ dst := some 106, op := Op.load 27 (Operand.tmp 105), type := 27, pos := "law.go:77", after := #[{ on := 3, ground := Ground.data }], guard := none } : Oper)) (v := ?_) rfl (by kernel_rfl) (by kernel_rfl) (by kernel_rfl) (fun _ _ _ h => h) (Or.inl ⟨by rfl, ?_⟩) (by assumption) ?_
            rotate_left
            · intro w hSw
              (try dsimp only at hSw)
              go_simp
              (try with_reducible rfl)
            try simp only [Act.put, List.setIfInBounds_toArray, List.set_cons_zero, List.set_cons_succ]
            refine wpAnyH_take (i := 5) (oi := ({ dst := some 107, op := Op.call { callee := Callee.builtin Builtin.len, args := #[Operand.tmp 106], argTypes := #[27] }, type := 3, pos := "law.go:77", after := #[{ on := 4, ground := Ground.data }], guard := none } : Oper)) (v := ?_) rfl (by kernel_rfl) (by kernel_rfl) (by kernel_rfl) (fun _ _ _ h => h) (Or.inl ⟨by rfl, ?_⟩) (by assumption) ?_
            rotate_left
            · intro w hSw
              (try dsimp only at hSw)
              go_simp
              (try with_reducible rfl)
            try simp only [Act.put, List.setIfInBounds_toArray, List.set_cons_zero, List.set_cons_succ]
            refine wpAnyH_take (i := 6) (oi := ({ dst := some 108, op := Op.binOp BinOp.geq 3 (Operand.tmp 102) (Operand.tmp 107) 3, type := 4, pos := "law.go:77", after := #[{ on := 0, ground := Ground.data }, { on := 5, ground := Ground.data }], guard := none } : Oper)) (v := ?_) rfl (by kernel_rfl) (by kernel_rfl) (by kernel_rfl) (fun _ _ _ h => h) (Or.inl ⟨by rfl, ?_⟩) (by assumption) ?_
            rotate_left
            · intro w hSw
              (try dsimp only at hSw)
              go_simp
              (try with_reducible rfl)
            try simp only [Act.put, List.setIfInBounds_toArray, List.set_cons_zero, List.set_cons_succ]
            refine wpAnyH_take (i := 7) (oi := ({ dst := some 109, op := Op.move (Operand.tmp 108), type := 4, pos := "law.go:77", after := #[{ on := 6, ground := Ground.data }], guard := none } : Oper)) (v := ?_) rfl (by kernel_rfl) (by kernel_rfl) (by kernel_rfl) (fun _ _ _ h => h) (Or.inl ⟨by rfl, ?_⟩) (by assumption) ?_
            rotate_left
            · intro w hSw
              (try dsimp only at hSw)
              go_simp
              (try with_reducible rfl)
            try simp only [Act.put, List.setIfInBounds_toArray, List.set_cons_zero, List.set_cons_succ]
            refine wpAnyH_take (i := 8) (oi := ({ dst := some 110, op := Op.fieldAddr 47 (Operand.tmp 15) 0, type := 0, pos := "law.go:77", after := #[{ on := 7, ground := Ground.guard }], guard := some (7, false) } : Oper)) (v := undef) rfl (by kernel_rfl) (by kernel_rfl) (by kernel_rfl) (fun _ _ _ h => h) (Or.inr ⟨by rfl, rfl⟩) (by assumption) ?_
            try simp only [Act.put, List.setIfInBounds_toArray, List.set_cons_zero, List.set_cons_succ]
            refine wpAnyH_take (i := 9) (oi := ({ dst := some 111, op := Op.load 41 (Operand.tmp 110), type := 41, pos := "law.go:77", after := #[{ on := 8, ground := Ground.data }, { on := 7, ground := Ground.guard }], guard := some (7, false) } : Oper)) (v := undef) rfl (by kernel_rfl) (by kernel_rfl) (by kernel_rfl) (fun _ _ _ h => h) (Or.inr ⟨by rfl, rfl⟩) (by assumption) ?_
            try simp only [Act.put, List.setIfInBounds_toArray, List.set_cons_zero, List.set_cons_succ]
            refine wpAnyH_take (i := 10) (oi := ({ dst := some 112, op := Op.load 50 (Operand.tmp 11), type := 50, pos := "law.go:77", after := #[{ on := 7, ground := Ground.guard }], guard := some (7, false) } : Oper)) (v := undef) rfl (by kernel_rfl) (by kernel_rfl) (by kernel_rfl) (fun _ _ _ h => h) (Or.inr ⟨by rfl, rfl⟩) (by assumption) ?_
            try simp only [Act.put, List.setIfInBounds_toArray, List.set_cons_zero, List.set_cons_succ]
            refine wpAnyH_take (i := 11) (oi := ({ dst := some 113, op := Op.nilCheck (Operand.tmp 112), type := 0, pos := "law.go:77", after := #[{ on := 10, ground := Ground.data }, { on := 7, ground := Ground.guard }], guard := some (7, false) } : Oper)) (v := undef) rfl (by kernel_rfl) (by kernel_rfl) (by kernel_rfl) (fun _ _ _ h => h) (Or.inr ⟨by rfl, rfl⟩) (by assumption) ?_
            try simp only [Act.put, List.setIfInBounds_toArray, List.set_cons_zero, List.set_cons_succ]
            refine wpAnyH_take (i := 12) (oi := ({ dst := some 114, op := Op.fieldAddr 53 (Operand.tmp 113) 0, type := 0, pos := "law.go:77", after := #[{ on := 11, ground := Ground.data }, { on := 7, ground := Ground.guard }], guard := some (7, false) } : Oper)) (v := undef) rfl (by kernel_rfl) (by kernel_rfl) (by kernel_rfl) (fun _ _ _ h => h) (Or.inr ⟨by rfl, rfl⟩) (by assumption) ?_
            try simp only [Act.put, List.setIfInBounds_toArray, List.set_cons_zero, List.set_cons_succ]
            refine wpAnyH_take (i := 13) (oi := ({ dst := some 115, op := Op.load 27 (Operand.tmp 114), type := 27, pos := "law.go:77", after := #[{ on := 12, ground := Ground.data }, { on := 7, ground := Ground.guard }], guard := some (7, false) } : Oper)) (v := undef) rfl (by kernel_rfl) (by kernel_rfl) (by kernel_rfl) (fun _ _ _ h => h) (Or.inr ⟨by rfl, rfl⟩) (by assumption) ?_
            try simp only [Act.put, List.setIfInBounds_toArray, List.set_cons_zero, List.set_cons_succ]
            refine wpAnyH_take (i := 14) (oi := ({ dst := some 116, op := Op.load 3 (Operand.tmp 14), type := 3, pos := "law.go:77", after := #[{ on := 7, ground := Ground.guard }], guard := some (7, false) } : Oper)) (v := undef) rfl (by kernel_rfl) (by kernel_rfl) (by kernel_rfl) (fun _ _ _ h => h) (Or.inr ⟨by rfl, rfl⟩) (by assumption) ?_
            try simp only [Act.put, List.setIfInBounds_toArray, List.set_cons_zero, List.set_cons_succ]
            refine wpAnyH_take (i := 15) (oi := ({ dst := some 117, op := Op.indexAddr 27 (Operand.tmp 115) (Operand.tmp 116), type := 0, pos := "law.go:77", after := #[{ on := 13, ground := Ground.data }, { on := 14, ground := Ground.data }, { on := 7, ground := Ground.guard }], guard := some (7, false) } : Oper)) (v := undef) rfl (by kernel_rfl) (by kernel_rfl) (by kernel_rfl) (fun _ _ _ h => h) (Or.inr ⟨by rfl, rfl⟩) (by assumption) ?_
            try simp only [Act.put, List.setIfInBounds_toArray, List.set_cons_zero, List.set_cons_succ]
            refine wpAnyH_take (i := 16) (oi := ({ dst := some 118, op := Op.fieldAddr 24 (Operand.tmp 117) 0, type := 0, pos := "law.go:77", after := #[{ on := 15, ground := Ground.data }, { on := 7, ground := Ground.guard }], guard := some (7, false) } : Oper)) (v := undef) rfl (by kernel_rfl) (by kernel_rfl) (by kernel_rfl) (fun _ _ _ h => h) (Or.inr ⟨by rfl, rfl⟩) (by assumption) ?_
            try simp only [Act.put, List.setIfInBounds_toArray, List.set_cons_zero, List.set_cons_succ]
            refine wpAnyH_take (i := 17) (oi := ({ dst := some 119, op := Op.load 3 (Operand.tmp 118), type := 3, pos := "law.go:77", after := #[{ on := 16, ground := Ground.data }, { on := 7, ground := Ground.guard }], guard := some (7, false) } : Oper)) (v := undef) rfl (by kernel_rfl) (by kernel_rfl) (by kernel_rfl) (fun _ _ _ h => h) (Or.inr ⟨by rfl, rfl⟩) (by assumption) ?_
            try simp only [Act.put, List.setIfInBounds_toArray, List.set_cons_zero, List.set_cons_succ]
            refine wpAnyH_take (i := 18) (oi := ({ dst := some 120, op := Op.binOp BinOp.neq 3 (Operand.tmp 111) (Operand.tmp 119) 3, type := 4, pos := "law.go:77", after := #[{ on := 9, ground := Ground.data }, { on := 17, ground := Ground.data }, { on := 7, ground := Ground.guard }], guard := some (7, false) } : Oper)) (v := undef) rfl (by kernel_rfl) (by kernel_rfl) (by kernel_rfl) (fun _ _ _ h => h) (Or.inr ⟨by rfl, rfl⟩) (by assumption) ?_
            try simp only [Act.put, List.setIfInBounds_toArray, List.set_cons_zero, List.set_cons_succ]
            refine wpAnyH_take (i := 19) (oi := ({ dst := some 121, op := Op.pick (Operand.tmp 109) (Operand.const (Value.bool true)) (Operand.tmp 120), type := 4, pos := "law.go:77", after := #[{ on := 7, ground := Ground.data }, { on := 18, ground := Ground.data }], guard := none } : Oper)) (v := ?_) rfl (by kernel_rfl) (by kernel_rfl) (by kernel_rfl) (fun _ _ _ h => h) (Or.inl ⟨by rfl, ?_⟩) (by assumption) ?_
            rotate_left
            · intro w hSw
              (try dsimp only at hSw)
              go_simp
              (try with_reducible rfl)
            try simp only [Act.put, List.setIfInBounds_toArray, List.set_cons_zero, List.set_cons_succ]
            refine wpAnyH_take (i := 20) (oi := ({ dst := some 122, op := Op.move (Operand.tmp 121), type := 4, pos := "law.go:77", after := #[{ on := 19, ground := Ground.data }, { on := 7, ground := Ground.chain }], guard := none } : Oper)) (v := ?_) rfl (by kernel_rfl) (by kernel_rfl) (by kernel_rfl) (fun _ _ _ h => h) (Or.inl ⟨by rfl, ?_⟩) (by assumption) ?_
            rotate_left
            · intro w hSw
              (try dsimp only at hSw)
              go_simp
              (try with_reducible rfl)
            try simp only [Act.put, List.setIfInBounds_toArray, List.set_cons_zero, List.set_cons_succ]
            refine wpAnyH_take (i := 21) (oi := ({ dst := some 123, op := Op.fieldAddr 47 (Operand.tmp 15) 1, type := 0, pos := "law.go:77", after := #[{ on := 20, ground := Ground.guard }], guard := some (20, false) } : Oper)) (v := undef) rfl (by kernel_rfl) (by kernel_rfl) (by kernel_rfl) (fun _ _ _ h => h) (Or.inr ⟨by rfl, rfl⟩) (by assumption) ?_
            try simp only [Act.put, List.setIfInBounds_toArray, List.set_cons_zero, List.set_cons_succ]
            refine wpAnyH_take (i := 22) (oi := ({ dst := some 124, op := Op.load 3 (Operand.tmp 123), type := 3, pos := "law.go:77", after := #[{ on := 21, ground := Ground.data }, { on := 20, ground := Ground.guard }], guard := some (20, false) } : Oper)) (v := undef) rfl (by kernel_rfl) (by kernel_rfl) (by kernel_rfl) (fun _ _ _ h => h) (Or.inr ⟨by rfl, rfl⟩) (by assumption) ?_
            try simp only [Act.put, List.setIfInBounds_toArray, List.set_cons_zero, List.set_cons_succ]
            refine wpAnyH_take (i := 23) (oi := ({ dst := some 125, op := Op.load 50 (Operand.tmp 11), type := 50, pos := "law.go:77", after := #[{ on := 20, ground := Ground.guard }], guard := some (20, false) } : Oper)) (v := undef) rfl (by kernel_rfl) (by kernel_rfl) (by kernel_rfl) (fun _ _ _ h => h) (Or.inr ⟨by rfl, rfl⟩) (by assumption) ?_
            try simp only [Act.put, List.setIfInBounds_toArray, List.set_cons_zero, List.set_cons_succ]
            refine wpAnyH_take (i := 24) (oi := ({ dst := some 126, op := Op.nilCheck (Operand.tmp 125), type := 0, pos := "law.go:77", after := #[{ on := 23, ground := Ground.data }, { on := 20, ground := Ground.guard }], guard := some (20, false) } : Oper)) (v := undef) rfl (by kernel_rfl) (by kernel_rfl) (by kernel_rfl) (fun _ _ _ h => h) (Or.inr ⟨by rfl, rfl⟩) (by assumption) ?_
            try simp only [Act.put, List.setIfInBounds_toArray, List.set_cons_zero, List.set_cons_succ]
            refine wpAnyH_take (i := 25) (oi := ({ dst := some 127, op := Op.fieldAddr 53 (Operand.tmp 126) 0, type := 0, pos := "law.go:77", after := #[{ on := 24, ground := Ground.data }, { on := 20, ground := Ground.guard }], guard := some (20, false) } : Oper)) (v := undef) rfl (by kernel_rfl) (by kernel_rfl) (by kernel_rfl) (fun _ _ _ h => h) (Or.inr ⟨by rfl, rfl⟩) (by assumption) ?_
            try simp only [Act.put, List.setIfInBounds_toArray, List.set_cons_zero, List.set_cons_succ]
            refine wpAnyH_take (i := 26) (oi := ({ dst := some 128, op := Op.load 27 (Operand.tmp 127), type := 27, pos := "law.go:77", after := #[{ on := 25, ground := Ground.data }, { on := 20, ground := Ground.guard }], guard := some (20, false) } : Oper)) (v := undef) rfl (by kernel_rfl) (by kernel_rfl) (by kernel_rfl) (fun _ _ _ h => h) (Or.inr ⟨by rfl, rfl⟩) (by assumption) ?_
            try simp only [Act.put, List.setIfInBounds_toArray, List.set_cons_zero, List.set_cons_succ]
            refine wpAnyH_take (i := 27) (oi := ({ dst := some 129, op := Op.load 3 (Operand.tmp 14), type := 3, pos := "law.go:77", after := #[{ on := 20, ground := Ground.guard }], guard := some (20, false) } : Oper)) (v := undef) rfl (by kernel_rfl) (by kernel_rfl) (by kernel_rfl) (fun _ _ _ h => h) (Or.inr ⟨by rfl, rfl⟩) (by assumption) ?_
            try simp only [Act.put, List.setIfInBounds_toArray, List.set_cons_zero, List.set_cons_succ]
            refine wpAnyH_take (i := 28) (oi := ({ dst := some 130, op := Op.indexAddr 27 (Operand.tmp 128) (Operand.tmp 129), type := 0, pos := "law.go:77", after := #[{ on := 26, ground := Ground.data }, { on := 27, ground := Ground.data }, { on := 20, ground := Ground.guard }], guard := some (20, false) } : Oper)) (v := undef) rfl (by kernel_rfl) (by kernel_rfl) (by kernel_rfl) (fun _ _ _ h => h) (Or.inr ⟨by rfl, rfl⟩) (by assumption) ?_
            try simp only [Act.put, List.setIfInBounds_toArray, List.set_cons_zero, List.set_cons_succ]
            refine wpAnyH_take (i := 29) (oi := ({ dst := some 131, op := Op.fieldAddr 24 (Operand.tmp 130) 1, type := 0, pos := "law.go:77", after := #[{ on := 28, ground := Ground.data }, { on := 20, ground := Ground.guard }], guard := some (20, false) } : Oper)) (v := undef) rfl (by kernel_rfl) (by kernel_rfl) (by kernel_rfl) (fun _ _ _ h => h) (Or.inr ⟨by rfl, rfl⟩) (by assumption) ?_
            try simp only [Act.put, List.setIfInBounds_toArray, List.set_cons_zero, List.set_cons_succ]
            refine wpAnyH_take (i := 30) (oi := ({ dst := some 132, op := Op.load 3 (Operand.tmp 131), type := 3, pos := "law.go:77", after := #[{ on := 29, ground := Ground.data }, { on := 20, ground := Ground.guard }], guard := some (20, false) } : Oper)) (v := undef) rfl (by kernel_rfl) (by kernel_rfl) (by kernel_rfl) (fun _ _ _ h => h) (Or.inr ⟨by rfl, rfl⟩) (by assumption) ?_
            try simp only [Act.put, List.setIfInBounds_toArray, List.set_cons_zero, List.set_cons_succ]
            refine wpAnyH_take (i := 31) (oi := ({ dst := some 133, op := Op.binOp BinOp.neq 3 (Operand.tmp 124) (Operand.tmp 132) 3, type := 4, pos := "law.go:77", after := #[{ on := 22, ground := Ground.data }, { on := 30, ground := Ground.data }, { on := 20, ground := Ground.guard }], guard := some (20, false) } : Oper)) (v := undef) rfl (by kernel_rfl) (by kernel_rfl) (by kernel_rfl) (fun _ _ _ h => h) (Or.inr ⟨by rfl, rfl⟩) (by assumption) ?_
            try simp only [Act.put, List.setIfInBounds_toArray, List.set_cons_zero, List.set_cons_succ]
            refine wpAnyH_take (i := 32) (oi := ({ dst := some 134, op := Op.pick (Operand.tmp 122) (Operand.const (Value.bool true)) (Operand.tmp 133), type := 4, pos := "law.go:77", after := #[{ on := 20, ground := Ground.data }, { on := 31, ground := Ground.data }], guard := none } : Oper)) (v := ?_) rfl (by kernel_rfl) (by kernel_rfl) (by kernel_rfl) (fun _ _ _ h => h) (Or.inl ⟨by rfl, ?_⟩) (by assumption) ?_
            rotate_left
            · intro w hSw
              (try dsimp only at hSw)
              go_simp
              (try with_reducible rfl)
            try simp only [Act.put, List.setIfInBounds_toArray, List.set_cons_zero, List.set_cons_succ]
            refine wpAnyH_take (i := 33) (oi := ({ dst := some 135, op := Op.move (Operand.tmp 134), type := 4, pos := "law.go:77", after := #[{ on := 32, ground := Ground.data }, { on := 20, ground := Ground.chain }], guard := none } : Oper)) (v := ?_) rfl (by kernel_rfl) (by kernel_rfl) (by kernel_rfl) (fun _ _ _ h => h) (Or.inl ⟨by rfl, ?_⟩) (by assumption) ?_
            rotate_left
            · intro w hSw
              (try dsimp only at hSw)
              go_simp
              (try with_reducible rfl)
            try simp only [Act.put, List.setIfInBounds_toArray, List.set_cons_zero, List.set_cons_succ]
            refine wpAnyH_take (i := 34) (oi := ({ dst := some 136, op := Op.fieldAddr 47 (Operand.tmp 15) 2, type := 0, pos := "law.go:77", after := #[{ on := 33, ground := Ground.guard }], guard := some (33, false) } : Oper)) (v := undef) rfl (by kernel_rfl) (by kernel_rfl) (by kernel_rfl) (fun _ _ _ h => h) (Or.inr ⟨by rfl, rfl⟩) (by assumption) ?_
            try simp only [Act.put, List.setIfInBounds_toArray, List.set_cons_zero, List.set_cons_succ]
            refine wpAnyH_take (i := 35) (oi := ({ dst := some 137, op := Op.load 3 (Operand.tmp 136), type := 3, pos := "law.go:77", after := #[{ on := 34, ground := Ground.data }, { on := 33, ground := Ground.guard }], guard := some (33, false) } : Oper)) (v := undef) rfl (by kernel_rfl) (by kernel_rfl) (by kernel_rfl) (fun _ _ _ h => h) (Or.inr ⟨by rfl, rfl⟩) (by assumption) ?_
            try simp only [Act.put, List.setIfInBounds_toArray, List.set_cons_zero, List.set_cons_succ]
            refine wpAnyH_take (i := 36) (oi := ({ dst := some 138, op := Op.load 50 (Operand.tmp 11), type := 50, pos := "law.go:77", after := #[{ on := 33, ground := Ground.guard }], guard := some (33, false) } : Oper)) (v := undef) rfl (by kernel_rfl) (by kernel_rfl) (by kernel_rfl) (fun _ _ _ h => h) (Or.inr ⟨by rfl, rfl⟩) (by assumption) ?_
            try simp only [Act.put, List.setIfInBounds_toArray, List.set_cons_zero, List.set_cons_succ]
            refine wpAnyH_take (i := 37) (oi := ({ dst := some 139, op := Op.nilCheck (Operand.tmp 138), type := 0, pos := "law.go:77", after := #[{ on := 36, ground := Ground.data }, { on := 33, ground := Ground.guard }], guard := some (33, false) } : Oper)) (v := undef) rfl (by kernel_rfl) (by kernel_rfl) (by kernel_rfl) (fun _ _ _ h => h) (Or.inr ⟨by rfl, rfl⟩) (by assumption) ?_
            try simp only [Act.put, List.setIfInBounds_toArray, List.set_cons_zero, List.set_cons_succ]
            refine wpAnyH_take (i := 38) (oi := ({ dst := some 140, op := Op.fieldAddr 53 (Operand.tmp 139) 1, type := 0, pos := "law.go:77", after := #[{ on := 37, ground := Ground.data }, { on := 33, ground := Ground.guard }], guard := some (33, false) } : Oper)) (v := undef) rfl (by kernel_rfl) (by kernel_rfl) (by kernel_rfl) (fun _ _ _ h => h) (Or.inr ⟨by rfl, rfl⟩) (by assumption) ?_
            try simp only [Act.put, List.setIfInBounds_toArray, List.set_cons_zero, List.set_cons_succ]
            refine wpAnyH_take (i := 39) (oi := ({ dst := some 141, op := Op.load 51 (Operand.tmp 140), type := 51, pos := "law.go:77", after := #[{ on := 38, ground := Ground.data }, { on := 33, ground := Ground.guard }], guard := some (33, false) } : Oper)) (v := undef) rfl (by kernel_rfl) (by kernel_rfl) (by kernel_rfl) (fun _ _ _ h => h) (Or.inr ⟨by rfl, rfl⟩) (by assumption) ?_
            try simp only [Act.put, List.setIfInBounds_toArray, List.set_cons_zero, List.set_cons_succ]
            refine wpAnyH_take (i := 40) (oi := ({ dst := some 142, op := Op.load 3 (Operand.tmp 14), type := 3, pos := "law.go:77", after := #[{ on := 33, ground := Ground.guard }], guard := some (33, false) } : Oper)) (v := undef) rfl (by kernel_rfl) (by kernel_rfl) (by kernel_rfl) (fun _ _ _ h => h) (Or.inr ⟨by rfl, rfl⟩) (by assumption) ?_
            try simp only [Act.put, List.setIfInBounds_toArray, List.set_cons_zero, List.set_cons_succ]
            refine wpAnyH_take (i := 41) (oi := ({ dst := some 143, op := Op.indexAddr 51 (Operand.tmp 141) (Operand.tmp 142), type := 0, pos := "law.go:77", after := #[{ on := 39, ground := Ground.data }, { on := 40, ground := Ground.data }, { on := 33, ground := Ground.guard }], guard := some (33, false) } : Oper)) (v := undef) rfl (by kernel_rfl) (by kernel_rfl) (by kernel_rfl) (fun _ _ _ h => h) (Or.inr ⟨by rfl, rfl⟩) (by assumption) ?_
            try simp only [Act.put, List.setIfInBounds_toArray, List.set_cons_zero, List.set_cons_succ]
            refine wpAnyH_take (i := 42) (oi := ({ dst := some 144, op := Op.load 3 (Operand.tmp 143), type := 3, pos := "law.go:77", after := #[{ on := 41, ground := Ground.data }, { on := 33, ground := Ground.guard }], guard := some (33, false) } : Oper)) (v := undef) rfl (by kernel_rfl) (by kernel_rfl) (by kernel_rfl) (fun _ _ _ h => h) (Or.inr ⟨by rfl, rfl⟩) (by assumption) ?_
            try simp only [Act.put, List.setIfInBounds_toArray, List.set_cons_zero, List.set_cons_succ]
            refine wpAnyH_take (i := 43) (oi := ({ dst := some 145, op := Op.binOp BinOp.neq 3 (Operand.tmp 137) (Operand.tmp 144) 3, type := 4, pos := "law.go:77", after := #[{ on := 35, ground := Ground.data }, { on := 42, ground := Ground.data }, { on := 33, ground := Ground.guard }], guard := some (33, false) } : Oper)) (v := undef) rfl (by kernel_rfl) (by kernel_rfl) (by kernel_rfl) (fun _ _ _ h => h) (Or.inr ⟨by rfl, rfl⟩) (by assumption) ?_
            try simp only [Act.put, List.setIfInBounds_toArray, List.set_cons_zero, List.set_cons_succ]
            refine wpAnyH_take (i := 44) (oi := ({ dst := some 146, op := Op.pick (Operand.tmp 135) (Operand.const (Value.bool true)) (Operand.tmp 145), type := 4, pos := "law.go:77", after := #[{ on := 33, ground := Ground.data }, { on := 43, ground := Ground.data }], guard := none } : Oper)) (v := ?_) rfl (by kernel_rfl) (by kernel_rfl) (by kernel_rfl) (fun _ _ _ h => h) (Or.inl ⟨by rfl, ?_⟩) (by assumption) ?_
            rotate_left
            · intro w hSw
              (try dsimp only at hSw)
              go_simp
              (try with_reducible rfl)
            try simp only [Act.put, List.setIfInBounds_toArray, List.set_cons_zero, List.set_cons_succ]
            refine wpAnyH_take (i := 45) (oi := ({ dst := some 147, op := Op.move (Operand.tmp 146), type := 4, pos := "law.go:77", after := #[{ on := 44, ground := Ground.data }, { on := 33, ground := Ground.chain }], guard := none } : Oper)) (v := ?_) rfl (by kernel_rfl) (by kernel_rfl) (by kernel_rfl) (fun _ _ _ h => h) (Or.inl ⟨by rfl, ?_⟩) (by assumption) ?_
            rotate_left
            · intro w hSw
              (try dsimp only at hSw)
              go_simp
              (try with_reducible rfl)
            try simp only [Act.put, List.setIfInBounds_toArray, List.set_cons_zero, List.set_cons_succ]
            refine wpAnyH_take (i := 46) (oi := ({ dst := some 148, op := Op.load 31 (Operand.tmp 10), type := 31, pos := "law.go:77", after := #[{ on := 45, ground := Ground.guard }], guard := some (45, false) } : Oper)) (v := undef) rfl (by kernel_rfl) (by kernel_rfl) (by kernel_rfl) (fun _ _ _ h => h) (Or.inr ⟨by rfl, rfl⟩) (by assumption) ?_
            try simp only [Act.put, List.setIfInBounds_toArray, List.set_cons_zero, List.set_cons_succ]
            refine wpAnyH_take (i := 47) (oi := ({ dst := some 149, op := Op.fieldAddr 47 (Operand.tmp 15) 0, type := 0, pos := "law.go:77", after := #[{ on := 45, ground := Ground.guard }], guard := some (45, false) } : Oper)) (v := undef) rfl (by kernel_rfl) (by kernel_rfl) (by kernel_rfl) (fun _ _ _ h => h) (Or.inr ⟨by rfl, rfl⟩) (by assumption) ?_
            try simp only [Act.put, List.setIfInBounds_toArray, List.set_cons_zero, List.set_cons_succ]
            refine wpAnyH_take (i := 48) (oi := ({ dst := some 150, op := Op.load 41 (Operand.tmp 149), type := 41, pos := "law.go:77", after := #[{ on := 47, ground := Ground.data }, { on := 45, ground := Ground.guard }], guard := some (45, false) } : Oper)) (v := undef) rfl (by kernel_rfl) (by kernel_rfl) (by kernel_rfl) (fun _ _ _ h => h) (Or.inr ⟨by rfl, rfl⟩) (by assumption) ?_
            try simp only [Act.put, List.setIfInBounds_toArray, List.set_cons_zero, List.set_cons_succ]
            refine wpAnyH_take (i := 49) (oi := ({ dst := some 151, op := Op.fieldAddr 47 (Operand.tmp 15) 1, type := 0, pos := "law.go:77", after := #[{ on := 45, ground := Ground.guard }], guard := some (45, false) } : Oper)) (v := undef) rfl (by kernel_rfl) (by kernel_rfl) (by kernel_rfl) (fun _ _ _ h => h) (Or.inr ⟨by rfl, rfl⟩) (by assumption) ?_
            try simp only [Act.put, List.setIfInBounds_toArray, List.set_cons_zero, List.set_cons_succ]
            refine wpAnyH_take (i := 50) (oi := ({ dst := some 152, op := Op.load 3 (Operand.tmp 151), type := 3, pos := "law.go:77", after := #[{ on := 49, ground := Ground.data }, { on := 45, ground := Ground.guard }], guard := some (45, false) } : Oper)) (v := undef) rfl (by kernel_rfl) (by kernel_rfl) (by kernel_rfl) (fun _ _ _ h => h) (Or.inr ⟨by rfl, rfl⟩) (by assumption) ?_
            try simp only [Act.put, List.setIfInBounds_toArray, List.set_cons_zero, List.set_cons_succ]
            refine wpAnyH_take (i := 51) (oi := ({ dst := some 153, op := Op.call { callee := Callee.value (Operand.func 20), args := #[Operand.tmp 148, Operand.tmp 150, Operand.tmp 152], argTypes := #[31, 41, 3] }, type := 4, pos := "law.go:77", after := #[{ on := 46, ground := Ground.data }, { on := 48, ground := Ground.data }, { on := 50, ground := Ground.data }, { on := 45, ground := Ground.chain }, { on := 45, ground := Ground.guard }], guard := some (45, false) } : Oper)) (v := undef) rfl (by kernel_rfl) (by kernel_rfl) (by kernel_rfl) (fun _ _ _ h => h) (Or.inr ⟨by rfl, rfl⟩) (by assumption) ?_
            try simp only [Act.put, List.setIfInBounds_toArray, List.set_cons_zero, List.set_cons_succ]
            refine wpAnyH_take (i := 52) (oi := ({ dst := some 154, op := Op.unOp UnOp.not 4 (Operand.tmp 153), type := 4, pos := "law.go:77", after := #[{ on := 51, ground := Ground.data }, { on := 45, ground := Ground.guard }], guard := some (45, false) } : Oper)) (v := undef) rfl (by kernel_rfl) (by kernel_rfl) (by kernel_rfl) (fun _ _ _ h => h) (Or.inr ⟨by rfl, rfl⟩) (by assumption) ?_
            try simp only [Act.put, List.setIfInBounds_toArray, List.set_cons_zero, List.set_cons_succ]
            refine wpAnyH_take (i := 53) (oi := ({ dst := some 155, op := Op.pick (Operand.tmp 147) (Operand.const (Value.bool true)) (Operand.tmp 154), type := 4, pos := "law.go:77", after := #[{ on := 45, ground := Ground.data }, { on := 52, ground := Ground.data }], guard := none } : Oper)) (v := ?_) rfl (by kernel_rfl) (by kernel_rfl) (by kernel_rfl) (fun _ _ _ h => h) (Or.inl ⟨by rfl, ?_⟩) (by assumption) ?_
            rotate_left
            · intro w hSw
              (try dsimp only at hSw)
              go_simp
              (try with_reducible rfl)
            try simp only [Act.put, List.setIfInBounds_toArray, List.set_cons_zero, List.set_cons_succ]
            refine wpAnyH_done (by kernel_rfl) ?_ _
            gi_wp2
            have hbw : Below W.heap.size W (W.drewN 1) := pw_below_drewN (Below.refl W.heap.size W) 1
            exact ⟨(keepsFrom_below hbw).trans ((KeepsOthers.setCell _ _ _).from _), (show Boxed (W.setCell ⟨gr, 0, none⟩ (.bool false)) gr 4 (.bool false) from Boxed.set _ K.out.cr), below_set (hB.trans (hbw.mono hB.size)) HX.out, rfl, HE.out⟩
          · have q0 : decide ((ls.length : Int) ≤ (k : Int)) = false := decide_eq_false (by omega)
            have p1 : ((k : Int) < (ls.length : Int)) = True := eq_true (by omega)
            have hk2 : k < ls.length := by omega
            obtain ⟨adm, aqm, rfl, rfl, t0, t1, t2⟩ := ms_read K.out.ms hk2
            have hmem := rd47_in hk2
            obtain ⟨⟨v0, v1, v2⟩, hv⟩ : ∃ x, x = rd_T47 ls (k : Int) := ⟨_, rfl⟩
            rw [← hv] at t0 t1 t2 hmem
            have HE := Aside0.mk (st_step (a := a) (b := b) (d := d) (v0 := v0) (v1 := v1) (v2 := v2) IP.out (by omega) (by rw [← hkk]; exact hv.symm))
            have HS := fun W h => has_ok (g + 1) ls t (.slice Al ls.length cl) a b w W h (by omega)
            have HM := Aside0.mk hmem
            clear hv hkk hmem
            gi_wp2
            refine wpIn_round_held (S := fun w' => w'.cell? ⟨gk, 0, none⟩ = some (.int .i64 (k : Int)) ∧ w'.cell? ⟨g + 1 + 1 + 1, 0, none⟩ = some (.pointer (some ⟨g + 1, 0, none⟩)) ∧ w'.cell? ⟨g + 1 + 1 + 1 + 1, 0, none⟩ = some (.pointer (some ⟨g + 1 + 1, 0, none⟩)) ∧ w'.cell? ⟨g + 1 + 1, 0, none⟩ = some (.slice (some adm) ls.length cm) ∧ w'.cell? ⟨g + 1 + 1, 1, none⟩ = some (.slice (some aqm) ls.length dm) ∧ w'.cell? ⟨Bx, 0, none⟩ = some (.int .i64 a) ∧ w'.cell? ⟨Bx, 1, none⟩ = some (.int .i64 b) ∧ w'.cell? ⟨Bx, 2, none⟩ = some (.int .i64 d) ∧ w'.cell? (adm.add (k * 2)) = some (.int .i64 v0) ∧ w'.cell? ⟨(adm.add (k * 2)).block, (adm.add (k * 2)).off + 1, none⟩ = some (.int .i64 v1) ∧ w'.cell? (aqm.add k) = some (.int .i64 v2)) (by kernel_rfl) (by kernel_rfl) (fun ⟨_, _, h⟩ => h) ⟨ck, c10, c11, m0, m1, x0, x1, x2, t0, t1, t2⟩ (fun hHeld => ?_)
            refine wpAnyH_take (i := 0) (oi := ({ dst := some 102, op := Op.load 3 (Operand.tmp 14), type := 3, pos := "law.go:77", after := #[], guard := none } : Oper)) (v := ?_) rfl (by kernel_rfl) (by kernel_rfl) (by kernel_rfl) (fun _ _ _ h => h) (Or.inl ⟨by rfl, ?_⟩) (by assumption) ?_
            rotate_left
            · intro w hSw
              (try dsimp only at hSw)
              go_simp
              (try with_reducible rfl)
            try simp only [Act.put, List.setIfInBounds_toArray, List.set_cons_zero, List.set_cons_succ]
            refine wpAnyH_take (i := 1) (oi := ({ dst := some 103, op := Op.load 50 (Operand.tmp 11), type := 50, pos := "law.go:77", after := #[], guard := none } : Oper)) (v := ?_) rfl (by kernel_rfl) (by kernel_rfl) (by kernel_rfl) (fun _ _ _ h => h) (Or.inl ⟨by rfl, ?_⟩) (by assumption) ?_
            rotate_left
            · intro w hSw
              (try dsimp only at hSw)
              go_simp
              (try with_reducible rfl)
            try simp only [Act.put, List.setIfInBounds_toArray, List.set_cons_zero, List.set_cons_succ]
            refine wpAnyH_take (i := 2) (oi := ({ dst := some 104, op := Op.nilCheck (Operand.tmp 103), type := 0, pos := "law.go:77", after := #[{ on := 1, ground := Ground.data }], guard := none } : Oper)) (v := ?_) rfl (by kernel_rfl) (by kernel_rfl) (by kernel_rfl) (fun _ _ _ h => h) (Or.inl ⟨by rfl, ?_⟩) (by assumption) ?_
            rotate_left
            · intro w hSw
              (try dsimp only at hSw)
              go_simp
              (try with_reducible rfl)
            try simp only [Act.put, List.setIfInBounds_toArray, List.set_cons_zero, List.set_cons_succ]
            refine wpAnyH_take (i := 3) (oi := ({ dst := some 105, op := Op.fieldAddr 53 (Operand.tmp 104) 0, type := 0, pos := "law.go:77", after := #[{ on := 2, ground := Ground.data }], guard := none } : Oper)) (v := ?_) rfl (by kernel_rfl) (by kernel_rfl) (by kernel_rfl) (fun _ _ _ h => h) (Or.inl ⟨by rfl, ?_⟩) (by assumption) ?_
            rotate_left
            · intro w hSw
              (try dsimp only at hSw)
              go_simp
              (try with_reducible rfl)
            try simp only [Act.put, List.setIfInBounds_toArray, List.set_cons_zero, List.set_cons_succ]
            refine wpAnyH_take (i := 4) (oi := ({ dst := some 106, op := Op.load 27 (Operand.tmp 105), type := 27, pos := "law.go:77", after := #[{ on := 3, ground := Ground.data }], guard := none } : Oper)) (v := ?_) rfl (by kernel_rfl) (by kernel_rfl) (by kernel_rfl) (fun _ _ _ h => h) (Or.inl ⟨by rfl, ?_⟩) (by assumption) ?_
            rotate_left
            · intro w hSw
              (try dsimp only at hSw)
              go_simp
              (try with_reducible rfl)
            try simp only [Act.put, List.setIfInBounds_toArray, List.set_cons_zero, List.set_cons_succ]
            refine wpAnyH_take (i := 5) (oi := ({ dst := some 107, op := Op.call { callee := Callee.builtin Builtin.len, args := #[Operand.tmp 106], argTypes := #[27] }, type := 3, pos := "law.go:77", after := #[{ on := 4, ground := Ground.data }], guard := none } : Oper)) (v := ?_) rfl (by kernel_rfl) (by kernel_rfl) (by kernel_rfl) (fun _ _ _ h => h) (Or.inl ⟨by rfl, ?_⟩) (by assumption) ?_
            rotate_left
            · intro w hSw
              (try dsimp only at hSw)
              go_simp
              (try with_reducible rfl)
            try simp only [Act.put, List.setIfInBounds_toArray, List.set_cons_zero, List.set_cons_succ]
            refine wpAnyH_take (i := 6) (oi := ({ dst := some 108, op := Op.binOp BinOp.geq 3 (Operand.tmp 102) (Operand.tmp 107) 3, type := 4, pos := "law.go:77", after := #[{ on := 0, ground := Ground.data }, { on := 5, ground := Ground.data }], guard := none } : Oper)) (v := ?_) rfl (by kernel_rfl) (by kernel_rfl) (by kernel_rfl) (fun _ _ _ h => h) (Or.inl ⟨by rfl, ?_⟩) (by assumption) ?_
            rotate_left
            · intro w hSw
              (try dsimp only at hSw)
              go_simp
              (try with_reducible rfl)
            try simp only [Act.put, List.setIfInBounds_toArray, List.set_cons_zero, List.set_cons_succ]
            refine wpAnyH_take (i := 7) (oi := ({ dst := some 109, op := Op.move (Operand.tmp 108), type := 4, pos := "law.go:77", after := #[{ on := 6, ground := Ground.data }], guard := none } : Oper)) (v := ?_) rfl (by kernel_rfl) (by kernel_rfl) (by kernel_rfl) (fun _ _ _ h => h) (Or.inl ⟨by rfl, ?_⟩) (by assumption) ?_
            rotate_left
            · intro w hSw
              (try dsimp only at hSw)
              go_simp
              (try with_reducible rfl)
            try simp only [Act.put, List.setIfInBounds_toArray, List.set_cons_zero, List.set_cons_succ]
            refine wpAnyH_take (i := 8) (oi := ({ dst := some 110, op := Op.fieldAddr 47 (Operand.tmp 15) 0, type := 0, pos := "law.go:77", after := #[{ on := 7, ground := Ground.guard }], guard := some (7, false) } : Oper)) (v := ?_) rfl (by kernel_rfl) (by kernel_rfl) (by kernel_rfl) (fun _ _ _ h => h) (Or.inl ⟨by rfl, ?_⟩) (by assumption) ?_
            rotate_left
            · intro w hSw
              (try dsimp only at hSw)
              go_simp
              (try with_reducible rfl)
            try simp only [Act.put, List.setIfInBounds_toArray, List.set_cons_zero, List.set_cons_succ]
            refine wpAnyH_take (i := 9) (oi := ({ dst := some 111, op := Op.load 41 (Operand.tmp 110), type := 41, pos := "law.go:77", after := #[{ on := 8, ground := Ground.data }, { on := 7, ground := Ground.guard }], guard := some (7, false) } : Oper)) (v := ?_) rfl (by kernel_rfl) (by kernel_rfl) (by kernel_rfl) (fun _ _ _ h => h) (Or.inl ⟨by rfl, ?_⟩) (by assumption) ?_
            rotate_left
            · intro w hSw
              (try dsimp only at hSw)
              go_simp
              (try with_reducible rfl)
            try simp only [Act.put, List.setIfInBounds_toArray, List.set_cons_zero, List.set_cons_succ]
            refine wpAnyH_take (i := 10) (oi := ({ dst := some 112, op := Op.load 50 (Operand.tmp 11), type := 50, pos := "law.go:77", after := #[{ on := 7, ground := Ground.guard }], guard := some (7, false) } : Oper)) (v := ?_) rfl (by kernel_rfl) (by kernel_rfl) (by kernel_rfl) (fun _ _ _ h => h) (Or.inl ⟨by rfl, ?_⟩) (by assumption) ?_
            rotate_left
            · intro w hSw
              (try dsimp only at hSw)
              go_simp
              (try with_reducible rfl)
            try simp only [Act.put, List.setIfInBounds_toArray, List.set_cons_zero, List.set_cons_succ]
            refine wpAnyH_take (i := 11) (oi := ({ dst := some 113, op := Op.nilCheck (Operand.tmp 112), type := 0, pos := "law.go:77", after := #[{ on := 10, ground := Ground.data }, { on := 7, ground := Ground.guard }], guard := some (7, false) } : Oper)) (v := ?_) rfl (by kernel_rfl) (by kernel_rfl) (by kernel_rfl) (fun _ _ _ h => h) (Or.inl ⟨by rfl, ?_⟩) (by assumption) ?_
            rotate_left
            · intro w hSw
              (try dsimp only at hSw)
              go_simp
              (try with_reducible rfl)
            try simp only [Act.put, List.setIfInBounds_toArray, List.set_cons_zero, List.set_cons_succ]
            refine wpAnyH_take (i := 12) (oi := ({ dst := some 114, op := Op.fieldAddr 53 (Operand.tmp 113) 0, type := 0, pos := "law.go:77", after := #[{ on := 11, ground := Ground.data }, { on := 7, ground := Ground.guard }], guard := some (7, false) } : Oper)) (v := ?_) rfl (by kernel_rfl) (by kernel_rfl) (by kernel_rfl) (fun _ _ _ h => h) (Or.inl ⟨by rfl, ?_⟩) (by assumption) ?_
            rotate_left
            · intro w hSw
              (try dsimp only at hSw)
              go_simp
              (try with_reducible rfl)
            try simp only [Act.put, List.setIfInBounds_toArray, List.set_cons_zero, List.set_cons_succ]
            refine wpAnyH_take (i := 13) (oi := ({ dst := some 115, op := Op.load 27 (Operand.tmp 114), type := 27, pos := "law.go:77", after := #[{ on := 12, ground := Ground.data }, { on := 7, ground := Ground.guard }], guard := some (7, false) } : Oper)) (v := ?_) rfl (by kernel_rfl) (by kernel_rfl) (by kernel_rfl) (fun _ _ _ h => h) (Or.inl ⟨by rfl, ?_⟩) (by assumption) ?_
            rotate_left
            · intro w hSw
              (try dsimp only at hSw)
              go_simp
              (try with_reducible rfl)
            try simp only [Act.put, List.setIfInBounds_toArray, List.set_cons_zero, List.set_cons_succ]
            refine wpAnyH_take (i := 14) (oi := ({ dst := some 116, op := Op.load 3 (Operand.tmp 14), type := 3, pos := "law.go:77", after := #[{ on := 7, ground := Ground.guard }], guard := some (7, false) } : Oper)) (v := ?_) rfl (by kernel_rfl) (by kernel_rfl) (by kernel_rfl) (fun _ _ _ h => h) (Or.inl ⟨by rfl, ?_⟩) (by assumption) ?_
            rotate_left
            · intro w hSw
              (try dsimp only at hSw)
              go_simp
              (try with_reducible rfl)
            try simp only [Act.put, List.setIfInBounds_toArray, List.set_cons_zero, List.set_cons_succ]
            refine wpAnyH_take (i := 15) (oi := ({ dst := some 117, op := Op.indexAddr 27 (Operand.tmp 115) (Operand.tmp 116), type := 0, pos := "law.go:77", after := #[{ on := 13, ground := Ground.data }, { on := 14, ground := Ground.data }, { on := 7, ground := Ground.guard }], guard := some (7, false) } : Oper)) (v := ?_) rfl (by kernel_rfl) (by kernel_rfl) (by kernel_rfl) (fun _ _ _ h => h) (Or.inl ⟨by rfl, ?_⟩) (by assumption) ?_
            rotate_left
            · intro w hSw
              (try dsimp only at hSw)
              go_simp
              (try with_reducible rfl)
            try simp only [Act.put, List.setIfInBounds_toArray, List.set_cons_zero, List.set_cons_succ]
            refine wpAnyH_take (i := 16) (oi := ({ dst := some 118, op := Op.fieldAddr 24 (Operand.tmp 117) 0, type := 0, pos := "law.go:77", after := #[{ on := 15, ground := Ground.data }, { on := 7, ground := Ground.guard }], guard := some (7, false) } : Oper)) (v := ?_) rfl (by kernel_rfl) (by kernel_rfl) (by kernel_rfl) (fun _ _ _ h => h) (Or.inl ⟨by rfl, ?_⟩) (by assumption) ?_
            rotate_left
            · intro w hSw
              (try dsimp only at hSw)
              go_simp
              (try with_reducible rfl)
            try simp only [Act.put, List.setIfInBounds_toArray, List.set_cons_zero, List.set_cons_succ]
            refine wpAnyH_take (i := 17) (oi := ({ dst := some 119, op := Op.load 3 (Operand.tmp 118), type := 3, pos := "law.go:77", after := #[{ on := 16, ground := Ground.data }, { on := 7, ground := Ground.guard }], guard := some (7, false) } : Oper)) (v := ?_) rfl (by kernel_rfl) (by kernel_rfl) (by kernel_rfl) (fun _ _ _ h => h) (Or.inl ⟨by rfl, ?_⟩) (by assumption) ?_
            rotate_left
            · intro w hSw
              (try dsimp only at hSw)
              go_simp
              (try with_reducible rfl)
            try simp only [Act.put, List.setIfInBounds_toArray, List.set_cons_zero, List.set_cons_succ]
            by_cases ha : a = v0
            · have b0 : (a != v0) = false := by simpa using ha
              refine wpAnyH_take (i := 18) (oi := ({ dst := some 120, op := Op.binOp BinOp.neq 3 (Operand.tmp 111) (Operand.tmp 119) 3, type := 4, pos := "law.go:77", after := #[{ on := 9, ground := Ground.data }, { on := 17, ground := Ground.data }, { on := 7, ground := Ground.guard }], guard := some (7, false) } : Oper)) (v := ?_) rfl (by kernel_rfl) (by kernel_rfl) (by kernel_rfl) (fun _ _ _ h => h) (Or.inl ⟨by rfl, ?_⟩) (by assumption) ?_
              rotate_left
              · intro w hSw
                (try dsimp only at hSw)
                go_simp
                (try with_reducible rfl)
              try simp only [Act.put, List.setIfInBounds_toArray, List.set_cons_zero, List.set_cons_succ]
              refine wpAnyH_take (i := 19) (oi := ({ dst := some 121, op := Op.pick (Operand.tmp 109) (Operand.const (Value.bool true)) (Operand.tmp 120), type := 4, pos := "law.go:77", after := #[{ on := 7, ground := Ground.data }, { on := 18, ground := Ground.data }], guard := none } : Oper)) (v := ?_) rfl (by kernel_rfl) (by kernel_rfl) (by kernel_rfl) (fun _ _ _ h => h) (Or.inl ⟨by rfl, ?_⟩) (by assumption) ?_
              rotate_left
              · intro w hSw
                (try dsimp only at hSw)
                go_simp
                (try with_reducible rfl)
              try simp only [Act.put, List.setIfInBounds_toArray, List.set_cons_zero, List.set_cons_succ]
              refine wpAnyH_take (i := 20) (oi := ({ dst := some 122, op := Op.move (Operand.tmp 121), type := 4, pos := "law.go:77", after := #[{ on := 19, ground := Ground.data }, { on := 7, ground := Ground.chain }], guard := none } : Oper)) (v := ?_) rfl (by kernel_rfl) (by kernel_rfl) (by kernel_rfl) (fun _ _ _ h => h) (Or.inl ⟨by rfl, ?_⟩) (by assumption) ?_
              rotate_left
              · intro w hSw
                (try dsimp only at hSw)
                go_simp
                (try with_reducible rfl)
              try simp only [Act.put, List.setIfInBounds_toArray, List.set_cons_zero, List.set_cons_succ]
              refine wpAnyH_take (i := 21) (oi := ({ dst := some 123, op := Op.fieldAddr 47 (Operand.tmp 15) 1, type := 0, pos := "law.go:77", after := #[{ on := 20, ground := Ground.guard }], guard := some (20, false) } : Oper)) (v := ?_) rfl (by kernel_rfl) (by kernel_rfl) (by kernel_rfl) (fun _ _ _ h => h) (Or.inl ⟨by rfl, ?_⟩) (by assumption) ?_
              rotate_left
              · intro w hSw
                (try dsimp only at hSw)
                go_simp
                (try with_reducible rfl)
              try simp only [Act.put, List.setIfInBounds_toArray, List.set_cons_zero, List.set_cons_succ]
              refine wpAnyH_take (i := 22) (oi := ({ dst := some 124, op := Op.load 3 (Operand.tmp 123), type := 3, pos := "law.go:77", after := #[{ on := 21, ground := Ground.data }, { on := 20, ground := Ground.guard }], guard := some (20, false) } : Oper)) (v := ?_) rfl (by kernel_rfl) (by kernel_rfl) (by kernel_rfl) (fun _ _ _ h => h) (Or.inl ⟨by rfl, ?_⟩) (by assumption) ?_
              rotate_left
              · intro w hSw
                (try dsimp only at hSw)
                go_simp
                (try with_reducible rfl)
              try simp only [Act.put, List.setIfInBounds_toArray, List.set_cons_zero, List.set_cons_succ]
              refine wpAnyH_take (i := 23) (oi := ({ dst := some 125, op := Op.load 50 (Operand.tmp 11), type := 50, pos := "law.go:77", after := #[{ on := 20, ground := Ground.guard }], guard := some (20, false) } : Oper)) (v := ?_) rfl (by kernel_rfl) (by kernel_rfl) (by kernel_rfl) (fun _ _ _ h => h) (Or.inl ⟨by rfl, ?_⟩) (by assumption) ?_
              rotate_left
              · intro w hSw
                (try dsimp only at hSw)
                go_simp
                (try with_reducible rfl)
              try simp only [Act.put, List.setIfInBounds_toArray, List.set_cons_zero, List.set_cons_succ]
              refine wpAnyH_take (i := 24) (oi := ({ dst := some 126, op := Op.nilCheck (Operand.tmp 125), type := 0, pos := "law.go:77", after := #[{ on := 23, ground := Ground.data }, { on := 20, ground := Ground.guard }], guard := some (20, false) } : Oper)) (v := ?_) rfl (by kernel_rfl) (by kernel_rfl) (by kernel_rfl) (fun _ _ _ h => h) (Or.inl ⟨by rfl, ?_⟩) (by assumption) ?_
              rotate_left
              · intro w hSw
                (try dsimp only at hSw)
                go_simp
                (try with_reducible rfl)
              try simp only [Act.put, List.setIfInBounds_toArray, List.set_cons_zero, List.set_cons_succ]
              refine wpAnyH_take (i := 25) (oi := ({ dst := some 127, op := Op.fieldAddr 53 (Operand.tmp 126) 0, type := 0, pos := "law.go:77", after := #[{ on := 24, ground := Ground.data }, { on := 20, ground := Ground.guard }], guard := some (20, false) } : Oper)) (v := ?_) rfl (by kernel_rfl) (by kernel_rfl) (by kernel_rfl) (fun _ _ _ h => h) (Or.inl ⟨by rfl, ?_⟩) (by assumption) ?_
              rotate_left
              · intro w hSw
                (try dsimp only at hSw)
                go_simp
                (try with_reducible rfl)
              try simp only [Act.put, List.setIfInBounds_toArray, List.set_cons_zero, List.set_cons_succ]
              refine wpAnyH_take (i := 26) (oi := ({ dst := some 128, op := Op.load 27 (Operand.tmp 127), type := 27, pos := "law.go:77", after := #[{ on := 25, ground := Ground.data }, { on := 20, ground := Ground.guard }], guard := some (20, false) } : Oper)) (v := ?_) rfl (by kernel_rfl) (by kernel_rfl) (by kernel_rfl) (fun _ _ _ h => h) (Or.inl ⟨by rfl, ?_⟩) (by assumption) ?_
              rotate_left
              · intro w hSw
                (try dsimp only at hSw)
                go_simp
                (try with_reducible rfl)
              try simp only [Act.put, List.setIfInBounds_toArray, List.set_cons_zero, List.set_cons_succ]
              refine wpAnyH_take (i := 27) (oi := ({ dst := some 129, op := Op.load 3 (Operand.tmp 14), type := 3, pos := "law.go:77", after := #[{ on := 20, ground := Ground.guard }], guard := some (20, false) } : Oper)) (v := ?_) rfl (by kernel_rfl) (by kernel_rfl) (by kernel_rfl) (fun _ _ _ h => h) (Or.inl ⟨by rfl, ?_⟩) (by assumption) ?_
              rotate_left
              · intro w hSw
                (try dsimp only at hSw)
                go_simp
                (try with_reducible rfl)
              try simp only [Act.put, List.setIfInBounds_toArray, List.set_cons_zero, List.set_cons_succ]
              refine wpAnyH_take (i := 28) (oi := ({ dst := some 130, op := Op.indexAddr 27 (Operand.tmp 128) (Operand.tmp 129), type := 0, pos := "law.go:77", after := #[{ on := 26, ground := Ground.data }, { on := 27, ground := Ground.data }, { on := 20, ground := Ground.guard }], guard := some (20, false) } : Oper)) (v := ?_) rfl (by kernel_rfl) (by kernel_rfl) (by kernel_rfl) (fun _ _ _ h => h) (Or.inl ⟨by rfl, ?_⟩) (by assumption) ?_
              rotate_left
              · intro w hSw
                (try dsimp only at hSw)
                go_simp
                (try with_reducible rfl)
              try simp only [Act.put, List.setIfInBounds_toArray, List.set_cons_zero, List.set_cons_succ]
              refine wpAnyH_take (i := 29) (oi := ({ dst := some 131, op := Op.fieldAddr 24 (Operand.tmp 130) 1, type := 0, pos := "law.go:77", after := #[{ on := 28, ground := Ground.data }, { on := 20, ground := Ground.guard }], guard := some (20, false) } : Oper)) (v := ?_) rfl (by kernel_rfl) (by kernel_rfl) (by kernel_rfl) (fun _ _ _ h => h) (Or.inl ⟨by rfl, ?_⟩) (by assumption) ?_
              rotate_left
              · intro w hSw
                (try dsimp only at hSw)
                go_simp
                (try with_reducible rfl)
              try simp only [Act.put, List.setIfInBounds_toArray, List.set_cons_zero, List.set_cons_succ]
              refine wpAnyH_take (i := 30) (oi := ({ dst := some 132, op := Op.load 3 (Operand.tmp 131), type := 3, pos := "law.go:77", after := #[{ on := 29, ground := Ground.data }, { on := 20, ground := Ground.guard }], guard := some (20, false) } : Oper)) (v := ?_) rfl (by kernel_rfl) (by kernel_rfl) (by kernel_rfl) (fun _ _ _ h => h) (Or.inl ⟨by rfl, ?_⟩) (by assumption) ?_
              rotate_left
              · intro w hSw
                (try dsimp only at hSw)
                go_simp
                (try with_reducible rfl)
              try simp only [Act.put, List.setIfInBounds_toArray, List.set_cons_zero, List.set_cons_succ]
              by_cases hb : b = v1
              · have b1 : (b != v1) = false := by simpa using hb
                refine wpAnyH_take (i := 31) (oi := ({ dst := some 133, op := Op.binOp BinOp.neq 3 (Operand.tmp 124) (Operand.tmp 132) 3, type := 4, pos := "law.go:77", after := #[{ on := 22, ground := Ground.data }, { on := 30, ground := Ground.data }, { on := 20, ground := Ground.guard }], guard := some (20, false) } : Oper)) (v := ?_) rfl (by kernel_rfl) (by kernel_rfl) (by kernel_rfl) (fun _ _ _ h => h) (Or.inl ⟨by rfl, ?_⟩) (by assumption) ?_
                rotate_left
                · intro w hSw
                  (try dsimp only at hSw)
                  go_simp
                  (try with_reducible rfl)
                try simp only [Act.put, List.setIfInBounds_toArray, List.set_cons_zero, List.set_cons_succ]
                refine wpAnyH_take (i := 32) (oi := ({ dst := some 134, op := Op.pick (Operand.tmp 122) (Operand.const (Value.bool true)) (Operand.tmp 133), type := 4, pos := "law.go:77", after := #[{ on := 20, ground := Ground.data }, { on := 31, ground := Ground.data }], guard := none } : Oper)) (v := ?_) rfl (by kernel_rfl) (by kernel_rfl) (by kernel_rfl) (fun _ _ _ h => h) (Or.inl ⟨by rfl, ?_⟩) (by assumption) ?_
                rotate_left
                · intro w hSw
                  (try dsimp only at hSw)
                  go_simp
                  (try with_reducible rfl)
                try simp only [Act.put, List.setIfInBounds_toArray, List.set_cons_zero, List.set_cons_succ]
                refine wpAnyH_take (i := 33) (oi := ({ dst := some 135, op := Op.move (Operand.tmp 134), type := 4, pos := "law.go:77", after := #[{ on := 32, ground := Ground.data }, { on := 20, ground := Ground.chain }], guard := none } : Oper)) (v := ?_) rfl (by kernel_rfl) (by kernel_rfl) (by kernel_rfl) (fun _ _ _ h => h) (Or.inl ⟨by rfl, ?_⟩) (by assumption) ?_
                rotate_left
                · intro w hSw
                  (try dsimp only at hSw)
                  go_simp
                  (try with_reducible rfl)
                try simp only [Act.put, List.setIfInBounds_toArray, List.set_cons_zero, List.set_cons_succ]
                refine wpAnyH_take (i := 34) (oi := ({ dst := some 136, op := Op.fieldAddr 47 (Operand.tmp 15) 2, type := 0, pos := "law.go:77", after := #[{ on := 33, ground := Ground.guard }], guard := some (33, false) } : Oper)) (v := ?_) rfl (by kernel_rfl) (by kernel_rfl) (by kernel_rfl) (fun _ _ _ h => h) (Or.inl ⟨by rfl, ?_⟩) (by assumption) ?_
                rotate_left
                · intro w hSw
                  (try dsimp only at hSw)
                  go_simp
                  (try with_reducible rfl)
                try simp only [Act.put, List.setIfInBounds_toArray, List.set_cons_zero, List.set_cons_succ]
                refine wpAnyH_take (i := 35) (oi := ({ dst := some 137, op := Op.load 3 (Operand.tmp 136), type := 3, pos := "law.go:77", after := #[{ on := 34, ground := Ground.data }, { on := 33, ground := Ground.guard }], guard := some (33, false) } : Oper)) (v := ?_) rfl (by kernel_rfl) (by kernel_rfl) (by kernel_rfl) (fun _ _ _ h => h) (Or.inl ⟨by rfl, ?_⟩) (by assumption) ?_
                rotate_left
                · intro w hSw
                  (try dsimp only at hSw)
                  go_simp
                  (try with_reducible rfl)
                try simp only [Act.put, List.setIfInBounds_toArray, List.set_cons_zero, List.set_cons_succ]
                refine wpAnyH_take (i := 36) (oi := ({ dst := some 138, op := Op.load 50 (Operand.tmp 11), type := 50, pos := "law.go:77", after := #[{ on := 33, ground := Ground.guard }], guard := some (33, false) } : Oper)) (v := ?_) rfl (by kernel_rfl) (by kernel_rfl) (by kernel_rfl) (fun _ _ _ h => h) (Or.inl ⟨by rfl, ?_⟩) (by assumption) ?_
                rotate_left
                · intro w hSw
                  (try dsimp only at hSw)
                  go_simp
                  (try with_reducible rfl)
                try simp only [Act.put, List.setIfInBounds_toArray, List.set_cons_zero, List.set_cons_succ]
                refine wpAnyH_take (i := 37) (oi := ({ dst := some 139, op := Op.nilCheck (Operand.tmp 138), type := 0, pos := "law.go:77", after := #[{ on := 36, ground := Ground.data }, { on := 33, ground := Ground.guard }], guard := some (33, false) } : Oper)) (v := ?_) rfl (by kernel_rfl) (by kernel_rfl) (by kernel_rfl) (fun _ _ _ h => h) (Or.inl ⟨by rfl, ?_⟩) (by assumption) ?_
                rotate_left
                · intro w hSw
                  (try dsimp only at hSw)
                  go_simp
                  (try with_reducible rfl)
                try simp only [Act.put, List.setIfInBounds_toArray, List.set_cons_zero, List.set_cons_succ]
                refine wpAnyH_take (i := 38) (oi := ({ dst := some 140, op := Op.fieldAddr 53 (Operand.tmp 139) 1, type := 0, pos := "law.go:77", after := #[{ on := 37, ground := Ground.data }, { on := 33, ground := Ground.guard }], guard := some (33, false) } : Oper)) (v := ?_) rfl (by kernel_rfl) (by kernel_rfl) (by kernel_rfl) (fun _ _ _ h => h) (Or.inl ⟨by rfl, ?_⟩) (by assumption) ?_
                rotate_left
                · intro w hSw
                  (try dsimp only at hSw)
                  go_simp
                  (try with_reducible rfl)
                try simp only [Act.put, List.setIfInBounds_toArray, List.set_cons_zero, List.set_cons_succ]
                refine wpAnyH_take (i := 39) (oi := ({ dst := some 141, op := Op.load 51 (Operand.tmp 140), type := 51, pos := "law.go:77", after := #[{ on := 38, ground := Ground.data }, { on := 33, ground := Ground.guard }], guard := some (33, false) } : Oper)) (v := ?_) rfl (by kernel_rfl) (by kernel_rfl) (by kernel_rfl) (fun _ _ _ h => h) (Or.inl ⟨by rfl, ?_⟩) (by assumption) ?_
                rotate_left
                · intro w hSw
                  (try dsimp only at hSw)
                  go_simp
                  (try with_reducible rfl)
                try simp only [Act.put, List.setIfInBounds_toArray, List.set_cons_zero, List.set_cons_succ]
                refine wpAnyH_take (i := 40) (oi := ({ dst := some 142, op := Op.load 3 (Operand.tmp 14), type := 3, pos := "law.go:77", after := #[{ on := 33, ground := Ground.guard }], guard := some (33, false) } : Oper)) (v := ?_) rfl (by kernel_rfl) (by kernel_rfl) (by kernel_rfl) (fun _ _ _ h => h) (Or.inl ⟨by rfl, ?_⟩) (by assumption) ?_
                rotate_left
                · intro w hSw
                  (try dsimp only at hSw)
                  go_simp
                  (try with_reducible rfl)
                try simp only [Act.put, List.setIfInBounds_toArray, List.set_cons_zero, List.set_cons_succ]
                refine wpAnyH_take (i := 41) (oi := ({ dst := some 143, op := Op.indexAddr 51 (Operand.tmp 141) (Operand.tmp 142), type := 0, pos := "law.go:77", after := #[{ on := 39, ground := Ground.data }, { on := 40, ground := Ground.data }, { on := 33, ground := Ground.guard }], guard := some (33, false) } : Oper)) (v := ?_) rfl (by kernel_rfl) (by kernel_rfl) (by kernel_rfl) (fun _ _ _ h => h) (Or.inl ⟨by rfl, ?_⟩) (by assumption) ?_
                rotate_left
                · intro w hSw
                  (try dsimp only at hSw)
                  go_simp
                  (try with_reducible rfl)
                try simp only [Act.put, List.setIfInBounds_toArray, List.set_cons_zero, List.set_cons_succ]
                refine wpAnyH_take (i := 42) (oi := ({ dst := some 144, op := Op.load 3 (Operand.tmp 143), type := 3, pos := "law.go:77", after := #[{ on := 41, ground := Ground.data }, { on := 33, ground := Ground.guard }], guard := some (33, false) } : Oper)) (v := ?_) rfl (by kernel_rfl) (by kernel_rfl) (by kernel_rfl) (fun _ _ _ h => h) (Or.inl ⟨by rfl, ?_⟩) (by assumption) ?_
                rotate_left
                · intro w hSw
                  (try dsimp only at hSw)
                  go_simp
                  (try with_reducible rfl)
                try simp only [Act.put, List.setIfInBounds_toArray, List.set_cons_zero, List.set_cons_succ]
                by_cases hd : d = v2
                · have b2 : (d != v2) = false := by simpa using hd
                  have hpl0 : decide (0 ≤ placeI ls a b) = true := decide_eq_true (by have := place_mem HM.out; rw [ha, hb]; exact this)
                  rw [hpl0] at HS
                  have HE := Aside0.mk (HE.out.2 ⟨ha, hb, hd⟩)
                  clear ha hb hd hpl0
                  refine wpAnyH_take (i := 43) (oi := ({ dst := some 145, op := Op.binOp BinOp.neq 3 (Operand.tmp 137) (Operand.tmp 144) 3, type := 4, pos := "law.go:77", after := #[{ on := 35, ground := Ground.data }, { on := 42, ground := Ground.data }, { on := 33, ground := Ground.guard }], guard := some (33, false) } : Oper)) (v := ?_) rfl (by kernel_rfl) (by kernel_rfl) (by kernel_rfl) (fun _ _ _ h => h) (Or.inl ⟨by rfl, ?_⟩) (by assumption) ?_
                  rotate_left
                  · intro w hSw
                    (try dsimp only at hSw)
                    go_simp
                    (try with_reducible rfl)
                  try simp only [Act.put, List.setIfInBounds_toArray, List.set_cons_zero, List.set_cons_succ]
                  refine wpAnyH_take (i := 44) (oi := ({ dst := some 146, op := Op.pick (Operand.tmp 135) (Operand.const (Value.bool true)) (Operand.tmp 145), type := 4, pos := "law.go:77", after := #[{ on := 33, ground := Ground.data }, { on := 43, ground := Ground.data }], guard := none } : Oper)) (v := ?_) rfl (by kernel_rfl) (by kernel_rfl) (by kernel_rfl) (fun _ _ _ h => h) (Or.inl ⟨by rfl, ?_⟩) (by assumption) ?_
                  rotate_left
                  · intro w hSw
                    (try dsimp only at hSw)
                    go_simp
                    (try with_reducible rfl)
                  try simp only [Act.put, List.setIfInBounds_toArray, List.set_cons_zero, List.set_cons_succ]
                  refine wpAnyH_take (i := 45) (oi := ({ dst := some 147, op := Op.move (Operand.tmp 146), type := 4, pos := "law.go:77", after := #[{ on := 44, ground := Ground.data }, { on := 33, ground := Ground.chain }], guard := none } : Oper)) (v := ?_) rfl (by kernel_rfl) (by kernel_rfl) (by kernel_rfl) (fun _ _ _ h => h) (Or.inl ⟨by rfl, ?_⟩) (by assumption) ?_
                  rotate_left
                  · intro w hSw
                    (try dsimp only at hSw)
                    go_simp
                    (try with_reducible rfl)
                  try simp only [Act.put, List.setIfInBounds_toArray, List.set_cons_zero, List.set_cons_succ]
                  refine wpAnyH_take (i := 46) (oi := ({ dst := some 148, op := Op.load 31 (Operand.tmp 10), type := 31, pos := "law.go:77", after := #[{ on := 45, ground := Ground.guard }], guard := some (45, false) } : Oper)) (v := ?_) rfl (by kernel_rfl) (by kernel_rfl) (by kernel_rfl) (fun _ _ _ h => h) (Or.inl ⟨by rfl, ?_⟩) (by assumption) ?_
                  rotate_left
                  · intro w hSw
                    (try dsimp only at hSw)
                    go_simp
                    (try with_reducible rfl)
                  try simp only [Act.put, List.setIfInBounds_toArray, List.set_cons_zero, List.set_cons_succ]
                  refine wpAnyH_take (i := 47) (oi := ({ dst := some 149, op := Op.fieldAddr 47 (Operand.tmp 15) 0, type := 0, pos := "law.go:77", after := #[{ on := 45, ground := Ground.guard }], guard := some (45, false) } : Oper)) (v := ?_) rfl (by kernel_rfl) (by kernel_rfl) (by kernel_rfl) (fun _ _ _ h => h) (Or.inl ⟨by rfl, ?_⟩) (by assumption) ?_
                  rotate_left
                  · intro w hSw
                    (try dsimp only at hSw)
                    go_simp
                    (try with_reducible rfl)
                  try simp only [Act.put, List.setIfInBounds_toArray, List.set_cons_zero, List.set_cons_succ]
                  refine wpAnyH_take (i := 48) (oi := ({ dst := some 150, op := Op.load 41 (Operand.tmp 149), type := 41, pos := "law.go:77", after := #[{ on := 47, ground := Ground.data }, { on := 45, ground := Ground.guard }], guard := some (45, false) } : Oper)) (v := ?_) rfl (by kernel_rfl) (by kernel_rfl) (by kernel_rfl) (fun _ _ _ h => h) (Or.inl ⟨by rfl, ?_⟩) (by assumption) ?_
                  rotate_left
                  · intro w hSw
                    (try dsimp only at hSw)
                    go_simp
                    (try with_reducible rfl)
                  try simp only [Act.put, List.setIfInBounds_toArray, List.set_cons_zero, List.set_cons_succ]
                  refine wpAnyH_take (i := 49) (oi := ({ dst := some 151, op := Op.fieldAddr 47 (Operand.tmp 15) 1, type := 0, pos := "law.go:77", after := #[{ on := 45, ground := Ground.guard }], guard := some (45, false) } : Oper)) (v := ?_) rfl (by kernel_rfl) (by kernel_rfl) (by kernel_rfl) (fun _ _ _ h => h) (Or.inl ⟨by rfl, ?_⟩) (by assumption) ?_
                  rotate_left
                  · intro w hSw
                    (try dsimp only at hSw)
                    go_simp
                    (try with_reducible rfl)
                  try simp only [Act.put, List.setIfInBounds_toArray, List.set_cons_zero, List.set_cons_succ]
                  refine wpAnyH_take (i := 50) (oi := ({ dst := some 152, op := Op.load 3 (Operand.tmp 151), type := 3, pos := "law.go:77", after := #[{ on := 49, ground := Ground.data }, { on := 45, ground := Ground.guard }], guard := some (45, false) } : Oper)) (v := ?_) rfl (by kernel_rfl) (by kernel_rfl) (by kernel_rfl) (fun _ _ _ h => h) (Or.inl ⟨by rfl, ?_⟩) (by assumption) ?_
                  rotate_left
                  · intro w hSw
                    (try dsimp only at hSw)
                    go_simp
                    (try with_reducible rfl)
                  try simp only [Act.put, List.setIfInBounds_toArray, List.set_cons_zero, List.set_cons_succ]
                  refine wpAnyH_ready (rs := [51]) (by kernel_rfl) (by simp) ?_
                  refine AllReadyH.cons (o := ({ dst := some 153, op := Op.call { callee := Callee.value (Operand.func 20), args := #[Operand.tmp 148, Operand.tmp 150, Operand.tmp 152], argTypes := #[31, 41, 3] }, type := 4, pos := "law.go:77", after := #[{ on := 46, ground := Ground.data }, { on := 48, ground := Ground.data }, { on := 50, ground := Ground.data }, { on := 45, ground := Ground.chain }, { on := 45, ground := Ground.guard }], guard := some (45, false) } : Oper)) rfl (fun Kc hKc => ?_) AllReadyH.nil
                  go_simp
                  refine (HS _ (K.out.st.below (pw_below_drewN (Below.refl _ _) 1))).mono ?_
                  rintro e w7 ⟨rfl, hb7⟩
                  have hb77 := (pw_below_drewN (Below.refl W.heap.size W) 1).trans hb7
                  have ck := at_below hb77 ck
                  have c10 := at_below hb77 c10
                  have c11 := at_below hb77 c11
                  have m0 := at_below hb77 m0
                  have m1 := at_below hb77 m1
                  have x0 := at_below hb77 x0
                  have x1 := at_below hb77 x1
                  have x2 := at_below hb77 x2
                  have t0 := at_below hb77 t0
                  have t1 := at_below hb77 t1
                  have t2 := at_below hb77 t2
                  have cf := blk_frozen ((hb77.block _ iK.lt).trans iK)

                  refine hKc.out _ _ ⟨ck, c10, c11, m0, m1, x0, x1, x2, t0, t1, t2⟩ (fun hHeld => ?_)
                  clear hKc Kc
                  try simp only [Act.put, List.setIfInBounds_toArray, List.set_cons_zero, List.set_cons_succ]
                  refine wpAnyH_take (i := 52) (oi := ({ dst := some 154, op := Op.unOp UnOp.not 4 (Operand.tmp 153), type := 4, pos := "law.go:77", after := #[{ on := 51, ground := Ground.data }, { on := 45, ground := Ground.guard }], guard := some (45, false) } : Oper)) (v := ?_) rfl (by kernel_rfl) (by kernel_rfl) (by kernel_rfl) (fun _ _ _ h => h) (Or.inl ⟨by rfl, ?_⟩) (by assumption) ?_
                  rotate_left
                  · intro w hSw
                    (try dsimp only at hSw)
                    go_simp
                    (try with_reducible rfl)
                  try simp only [Act.put, List.setIfInBounds_toArray, List.set_cons_zero, List.set_cons_succ]
                  refine wpAnyH_take (i := 53) (oi := ({ dst := some 155, op := Op.pick (Operand.tmp 147) (Operand.const (Value.bool true)) (Operand.tmp 154), type := 4, pos := "law.go:77", after := #[{ on := 45, ground := Ground.data }, { on := 52, ground := Ground.data }], guard := none } : Oper)) (v := ?_) rfl (by kernel_rfl) (by kernel_rfl) (by kernel_rfl) (fun _ _ _ h => h) (Or.inl ⟨by rfl, ?_⟩) (by assumption) ?_
                  rotate_left
                  · intro w hSw
                    (try dsimp only at hSw)
                    go_simp
                    (try with_reducible rfl)
                  try simp only [Act.put, List.setIfInBounds_toArray, List.set_cons_zero, List.set_cons_succ]
                  refine wpAnyH_done (by kernel_rfl) ?_ _
                  gi_wp2
                  have hK1 : KeepK W0.heap.size gk W (w7.setCell ⟨gk, 0, none⟩ (.int .i64 ((k : Int) + 1))) := (KeepK.of hb77 hKK.1).trans (KeepK.set _ _ _)
                  exact ⟨(keepsFrom_below hb77).trans ((KeepsOthers.setCell _ _ _).from _), hK1, by rw [List.length_append, List.length_singleton, ← HK.out, Int.natCast_add]; exact (show Boxed (w7.setCell ⟨gk, 0, none⟩ (.int .i64 ((k : Int) + 1))) gk 3 _ from Boxed.set _ ((hb77.block _ iK.lt).trans iK)), below_set (hB.trans (hb77.mono hB.size)) hgk, hKK.trans hK1, HE.out⟩
                · have b2 : (d != v2) = true := by simpa using hd
                  have HE := Aside0.mk (fun q => hd (HE.out.1 q).2.2)
                  clear ha hb hd
                  refine wpAnyH_take (i := 43) (oi := ({ dst := some 145, op := Op.binOp BinOp.neq 3 (Operand.tmp 137) (Operand.tmp 144) 3, type := 4, pos := "law.go:77", after := #[{ on := 35, ground := Ground.data }, { on := 42, ground := Ground.data }, { on := 33, ground := Ground.guard }], guard := some (33, false) } : Oper)) (v := ?_) rfl (by kernel_rfl) (by kernel_rfl) (by kernel_rfl) (fun _ _ _ h => h) (Or.inl ⟨by rfl, ?_⟩) (by assumption) ?_
                  rotate_left
                  · intro w hSw
                    (try dsimp only at hSw)
                    go_simp
                    (try with_reducible rfl)
                  try simp only [Act.put, List.setIfInBounds_toArray, List.set_cons_zero, List.set_cons_succ]
                  refine wpAnyH_take (i := 44) (oi := ({ dst := some 146, op := Op.pick (Operand.tmp 135) (Operand.const (Value.bool true)) (Operand.tmp 145), type := 4, pos := "law.go:77", after := #[{ on := 33, ground := Ground.data }, { on := 43, ground := Ground.data }], guard := none } : Oper)) (v := ?_) rfl (by kernel_rfl) (by kernel_rfl) (by kernel_rfl) (fun _ _ _ h => h) (Or.inl ⟨by rfl, ?_⟩) (by assumption) ?_
                  rotate_left
                  · intro w hSw
                    (try dsimp only at hSw)
                    go_simp
                    (try with_reducible rfl)
                  try simp only [Act.put, List.setIfInBounds_toArray, List.set_cons_zero, List.set_cons_succ]
                  refine wpAnyH_take (i := 45) (oi := ({ dst := some 147, op := Op.move (Operand.tmp 146), type := 4, pos := "law.go:77", after := #[{ on := 44, ground := Ground.data }, { on := 33, ground := Ground.chain }], guard := none } : Oper)) (v := ?_) rfl (by kernel_rfl) (by kernel_rfl) (by kernel_rfl) (fun _ _ _ h => h) (Or.inl ⟨by rfl, ?_⟩) (by assumption) ?_
                  rotate_left
                  · intro w hSw
                    (try dsimp only at hSw)
                    go_simp
                    (try with_reducible rfl)
                  try simp only [Act.put, List.setIfInBounds_toArray, List.set_cons_zero, List.set_cons_succ]
                  refine wpAnyH_take (i := 46) (oi := ({ dst := some 148, op := Op.load 31 (Operand.tmp 10), type := 31, pos := "law.go:77", after := #[{ on := 45, ground := Ground.guard }], guard := some (45, false) } : Oper)) (v := undef) rfl (by kernel_rfl) (by kernel_rfl) (by kernel_rfl) (fun _ _ _ h => h) (Or.inr ⟨by rfl, rfl⟩) (by assumption) ?_
                  try simp only [Act.put, List.setIfInBounds_toArray, List.set_cons_zero, List.set_cons_succ]
                  refine wpAnyH_take (i := 47) (oi := ({ dst := some 149, op := Op.fieldAddr 47 (Operand.tmp 15) 0, type := 0, pos := "law.go:77", after := #[{ on := 45, ground := Ground.guard }], guard := some (45, false) } : Oper)) (v := undef) rfl (by kernel_rfl) (by kernel_rfl) (by kernel_rfl) (fun _ _ _ h => h) (Or.inr ⟨by rfl, rfl⟩) (by assumption) ?_
                  try simp only [Act.put, List.setIfInBounds_toArray, List.set_cons_zero, List.set_cons_succ]
                  refine wpAnyH_take (i := 48) (oi := ({ dst := some 150, op := Op.load 41 (Operand.tmp 149), type := 41, pos := "law.go:77", after := #[{ on := 47, ground := Ground.data }, { on := 45, ground := Ground.guard }], guard := some (45, false) } : Oper)) (v := undef) rfl (by kernel_rfl) (by kernel_rfl) (by kernel_rfl) (fun _ _ _ h => h) (Or.inr ⟨by rfl, rfl⟩) (by assumption) ?_
                  try simp only [Act.put, List.setIfInBounds_toArray, List.set_cons_zero, List.set_cons_succ]
                  refine wpAnyH_take (i := 49) (oi := ({ dst := some 151, op := Op.fieldAddr 47 (Operand.tmp 15) 1, type := 0, pos := "law.go:77", after := #[{ on := 45, ground := Ground.guard }], guard := some (45, false) } : Oper)) (v := undef) rfl (by kernel_rfl) (by kernel_rfl) (by kernel_rfl) (fun _ _ _ h => h) (Or.inr ⟨by rfl, rfl⟩) (by assumption) ?_
                  try simp only [Act.put, List.setIfInBounds_toArray, List.set_cons_zero, List.set_cons_succ]
                  refine wpAnyH_take (i := 50) (oi := ({ dst := some 152, op := Op.load 3 (Operand.tmp 151), type := 3, pos := "law.go:77", after := #[{ on := 49, ground := Ground.data }, { on := 45, ground := Ground.guard }], guard := some (45, false) } : Oper)) (v := undef) rfl (by kernel_rfl) (by kernel_rfl) (by kernel_rfl) (fun _ _ _ h => h) (Or.inr ⟨by rfl, rfl⟩) (by assumption) ?_
                  try simp only [Act.put, List.setIfInBounds_toArray, List.set_cons_zero, List.set_cons_succ]
                  refine wpAnyH_take (i := 51) (oi := ({ dst := some 153, op := Op.call { callee := Callee.value (Operand.func 20), args := #[Operand.tmp 148, Operand.tmp 150, Operand.tmp 152], argTypes := #[31, 41, 3] }, type := 4, pos := "law.go:77", after := #[{ on := 46, ground := Ground.data }, { on := 48, ground := Ground.data }, { on := 50, ground := Ground.data }, { on := 45, ground := Ground.chain }, { on := 45, ground := Ground.guard }], guard := some (45, false) } : Oper)) (v := undef) rfl (by kernel_rfl) (by kernel_rfl) (by kernel_rfl) (fun _ _ _ h => h) (Or.inr ⟨by rfl, rfl⟩) (by assumption) ?_
                  try simp only [Act.put, List.setIfInBounds_toArray, List.set_cons_zero, List.set_cons_succ]
                  refine wpAnyH_take (i := 52) (oi := ({ dst := some 154, op := Op.unOp UnOp.not 4 (Operand.tmp 153), type := 4, pos := "law.go:77", after := #[{ on := 51, ground := Ground.data }, { on := 45, ground := Ground.guard }], guard := some (45, false) } : Oper)) (v := undef) rfl (by kernel_rfl) (by kernel_rfl) (by kernel_rfl) (fun _ _ _ h => h) (Or.inr ⟨by rfl, rfl⟩) (by assumption) ?_
                  try simp only [Act.put, List.setIfInBounds_toArray, List.set_cons_zero, List.set_cons_succ]
                  refine wpAnyH_take (i := 53) (oi := ({ dst := some 155, op := Op.pick (Operand.tmp 147) (Operand.const (Value.bool true)) (Operand.tmp 154), type := 4, pos := "law.go:77", after := #[{ on := 45, ground := Ground.data }, { on := 52, ground := Ground.data }], guard := none } : Oper)) (v := ?_) rfl (by kernel_rfl) (by kernel_rfl) (by kernel_rfl) (fun _ _ _ h => h) (Or.inl ⟨by rfl, ?_⟩) (by assumption) ?_
                  rotate_left
                  · intro w hSw
                    (try dsimp only at hSw)
                    go_simp
                    (try with_reducible rfl)
                  try simp only [Act.put, List.setIfInBounds_toArray, List.set_cons_zero, List.set_cons_succ]
                  refine wpAnyH_done (by kernel_rfl) ?_ _
                  gi_wp2
                  have hbw : Below W.heap.size W (W.drewN 1) := pw_below_drewN (Below.refl W.heap.size W) 1
                  exact ⟨(keepsFrom_below hbw).trans ((KeepsOthers.setCell _ _ _).from _), (show Boxed (W.setCell ⟨gr, 0, none⟩ (.bool false)) gr 4 (.bool false) from Boxed.set _ K.out.cr), below_set (hB.trans (hbw.mono hB.size)) HX.out, rfl, HE.out⟩
              · have b1 : (b != v1) = true := by simpa using hb
                have HE := Aside0.mk (fun q => hb (HE.out.1 q).2.1)
                clear ha hb
                refine wpAnyH_take (i := 31) (oi := ({ dst := some 133, op := Op.binOp BinOp.neq 3 (Operand.tmp 124) (Operand.tmp 132) 3, type := 4, pos := "law.go:77", after := #[{ on := 22, ground := Ground.data }, { on := 30, ground := Ground.data }, { on := 20, ground := Ground.guard }], guard := some (20, false) } : Oper)) (v := ?_) rfl (by kernel_rfl) (by kernel_rfl) (by kernel_rfl) (fun _ _ _ h => h) (Or.inl ⟨by rfl, ?_⟩) (by assumption) ?_
                rotate_left
                · intro w hSw
                  (try dsimp only at hSw)
                  go_simp
                  (try with_reducible rfl)
                try simp only [Act.put, List.setIfInBounds_toArray, List.set_cons_zero, List.set_cons_succ]
                refine wpAnyH_take (i := 32) (oi := ({ dst := some 134, op := Op.pick (Operand.tmp 122) (Operand.const (Value.bool true)) (Operand.tmp 133), type := 4, pos := "law.go:77", after := #[{ on := 20, ground := Ground.data }, { on := 31, ground := Ground.data }], guard := none } : Oper)) (v := ?_) rfl (by kernel_rfl) (by kernel_rfl) (by kernel_rfl) (fun _ _ _ h => h) (Or.inl ⟨by rfl, ?_⟩) (by assumption) ?_
                rotate_left
                · intro w hSw
                  (try dsimp only at hSw)
                  go_simp
                  (try with_reducible rfl)
                try simp only [Act.put, List.setIfInBounds_toArray, List.set_cons_zero, List.set_cons_succ]
                refine wpAnyH_take (i := 33) (oi := ({ dst := some 135, op := Op.move (Operand.tmp 134), type := 4, pos := "law.go:77", after := #[{ on := 32, ground := Ground.data }, { on := 20, ground := Ground.chain }], guard := none } : Oper)) (v := ?_) rfl (by kernel_rfl) (by kernel_rfl) (by kernel_rfl) (fun _ _ _ h => h) (Or.inl ⟨by rfl, ?_⟩) (by assumption) ?_
                rotate_left
                · intro w hSw
                  (try dsimp only at hSw)
                  go_simp
                  (try with_reducible rfl)
                try simp only [Act.put, List.setIfInBounds_toArray, List.set_cons_zero, List.set_cons_succ]
                refine wpAnyH_take (i := 34) (oi := ({ dst := some 136, op := Op.fieldAddr 47 (Operand.tmp 15) 2, type := 0, pos := "law.go:77", after := #[{ on := 33, ground := Ground.guard }], guard := some (33, false) } : Oper)) (v := undef) rfl (by kernel_rfl) (by kernel_rfl) (by kernel_rfl) (fun _ _ _ h => h) (Or.inr ⟨by rfl, rfl⟩) (by assumption) ?_
                try simp only [Act.put, List.setIfInBounds_toArray, List.set_cons_zero, List.set_cons_succ]
                refine wpAnyH_take (i := 35) (oi := ({ dst := some 137, op := Op.load 3 (Operand.tmp 136), type := 3, pos := "law.go:77", after := #[{ on := 34, ground := Ground.data }, { on := 33, ground := Ground.guard }], guard := some (33, false) } : Oper)) (v := undef) rfl (by kernel_rfl) (by kernel_rfl) (by kernel_rfl) (fun _ _ _ h => h) (Or.inr ⟨by rfl, rfl⟩) (by assumption) ?_
                try simp only [Act.put, List.setIfInBounds_toArray, List.set_cons_zero, List.set_cons_succ]
                refine wpAnyH_take (i := 36) (oi := ({ dst := some 138, op := Op.load 50 (Operand.tmp 11), type := 50, pos := "law.go:77", after := #[{ on := 33, ground := Ground.guard }], guard := some (33, false) } : Oper)) (v := undef) rfl (by kernel_rfl) (by kernel_rfl) (by kernel_rfl) (fun _ _ _ h => h) (Or.inr ⟨by rfl, rfl⟩) (by assumption) ?_
                try simp only [Act.put, List.setIfInBounds_toArray, List.set_cons_zero, List.set_cons_succ]
                refine wpAnyH_take (i := 37) (oi := ({ dst := some 139, op := Op.nilCheck (Operand.tmp 138), type := 0, pos := "law.go:77", after := #[{ on := 36, ground := Ground.data }, { on := 33, ground := Ground.guard }], guard := some (33, false) } : Oper)) (v := undef) rfl (by kernel_rfl) (by kernel_rfl) (by kernel_rfl) (fun _ _ _ h => h) (Or.inr ⟨by rfl, rfl⟩) (by assumption) ?_
                try simp only [Act.put, List.setIfInBounds_toArray, List.set_cons_zero, List.set_cons_succ]
                refine wpAnyH_take (i := 38) (oi := ({ dst := some 140, op := Op.fieldAddr 53 (Operand.tmp 139) 1, type := 0, pos := "law.go:77", after := #[{ on := 37, ground := Ground.data }, { on := 33, ground := Ground.guard }], guard := some (33, false) } : Oper)) (v := undef) rfl (by kernel_rfl) (by kernel_rfl) (by kernel_rfl) (fun _ _ _ h => h) (Or.inr ⟨by rfl, rfl⟩) (by assumption) ?_
                try simp only [Act.put, List.setIfInBounds_toArray, List.set_cons_zero, List.set_cons_succ]
                refine wpAnyH_take (i := 39) (oi := ({ dst := some 141, op := Op.load 51 (Operand.tmp 140), type := 51, pos := "law.go:77", after := #[{ on := 38, ground := Ground.data }, { on := 33, ground := Ground.guard }], guard := some (33, false) } : Oper)) (v := undef) rfl (by kernel_rfl) (by kernel_rfl) (by kernel_rfl) (fun _ _ _ h => h) (Or.inr ⟨by rfl, rfl⟩) (by assumption) ?_
                try simp only [Act.put, List.setIfInBounds_toArray, List.set_cons_zero, List.set_cons_succ]
                refine wpAnyH_take (i := 40) (oi := ({ dst := some 142, op := Op.load 3 (Operand.tmp 14), type := 3, pos := "law.go:77", after := #[{ on := 33, ground := Ground.guard }], guard := some (33, false) } : Oper)) (v := undef) rfl (by kernel_rfl) (by kernel_rfl) (by kernel_rfl) (fun _ _ _ h => h) (Or.inr ⟨by rfl, rfl⟩) (by assumption) ?_
                try simp only [Act.put, List.setIfInBounds_toArray, List.set_cons_zero, List.set_cons_succ]
                refine wpAnyH_take (i := 41) (oi := ({ dst := some 143, op := Op.indexAddr 51 (Operand.tmp 141) (Operand.tmp 142), type := 0, pos := "law.go:77", after := #[{ on := 39, ground := Ground.data }, { on := 40, ground := Ground.data }, { on := 33, ground := Ground.guard }], guard := some (33, false) } : Oper)) (v := undef) rfl (by kernel_rfl) (by kernel_rfl) (by kernel_rfl) (fun _ _ _ h => h) (Or.inr ⟨by rfl, rfl⟩) (by assumption) ?_
                try simp only [Act.put, List.setIfInBounds_toArray, List.set_cons_zero, List.set_cons_succ]
                refine wpAnyH_take (i := 42) (oi := ({ dst := some 144, op := Op.load 3 (Operand.tmp 143), type := 3, pos := "law.go:77", after := #[{ on := 41, ground := Ground.data }, { on := 33, ground := Ground.guard }], guard := some (33, false) } : Oper)) (v := undef) rfl (by kernel_rfl) (by kernel_rfl) (by kernel_rfl) (fun _ _ _ h => h) (Or.inr ⟨by rfl, rfl⟩) (by assumption) ?_
                try simp only [Act.put, List.setIfInBounds_toArray, List.set_cons_zero, List.set_cons_succ]
                refine wpAnyH_take (i := 43) (oi := ({ dst := some 145, op := Op.binOp BinOp.neq 3 (Operand.tmp 137) (Operand.tmp 144) 3, type := 4, pos := "law.go:77", after := #[{ on := 35, ground := Ground.data }, { on := 42, ground := Ground.data }, { on := 33, ground := Ground.guard }], guard := some (33, false) } : Oper)) (v := undef) rfl (by kernel_rfl) (by kernel_rfl) (by kernel_rfl) (fun _ _ _ h => h) (Or.inr ⟨by rfl, rfl⟩) (by assumption) ?_
                try simp only [Act.put, List.setIfInBounds_toArray, List.set_cons_zero, List.set_cons_succ]
                refine wpAnyH_take (i := 44) (oi := ({ dst := some 146, op := Op.pick (Operand.tmp 135) (Operand.const (Value.bool true)) (Operand.tmp 145), type := 4, pos := "law.go:77", after := #[{ on := 33, ground := Ground.data }, { on := 43, ground := Ground.data }], guard := none } : Oper)) (v := ?_) rfl (by kernel_rfl) (by kernel_rfl) (by kernel_rfl) (fun _ _ _ h => h) (Or.inl ⟨by rfl, ?_⟩) (by assumption) ?_
                rotate_left
                · intro w hSw
                  (try dsimp only at hSw)
                  go_simp
                  (try with_reducible rfl)
                try simp only [Act.put, List.setIfInBounds_toArray, List.set_cons_zero, List.set_cons_succ]
                refine wpAnyH_take (i := 45) (oi := ({ dst := some 147, op := Op.move (Operand.tmp 146), type := 4, pos := "law.go:77", after := #[{ on := 44, ground := Ground.data }, { on := 33, ground := Ground.chain }], guard := none } : Oper)) (v := ?_) rfl (by kernel_rfl) (by kernel_rfl) (by kernel_rfl) (fun _ _ _ h => h) (Or.inl ⟨by rfl, ?_⟩) (by assumption) ?_
                rotate_left
                · intro w hSw
                  (try dsimp only at hSw)
                  go_simp
                  (try with_reducible rfl)
                try simp only [Act.put, List.setIfInBounds_toArray, List.set_cons_zero, List.set_cons_succ]
                refine wpAnyH_take (i := 46) (oi := ({ dst := some 148, op := Op.load 31 (Operand.tmp 10), type := 31, pos := "law.go:77", after := #[{ on := 45, ground := Ground.guard }], guard := some (45, false) } : Oper)) (v := undef) rfl (by kernel_rfl) (by kernel_rfl) (by kernel_rfl) (fun _ _ _ h => h) (Or.inr ⟨by rfl, rfl⟩) (by assumption) ?_
                try simp only [Act.put, List.setIfInBounds_toArray, List.set_cons_zero, List.set_cons_succ]
                refine wpAnyH_take (i := 47) (oi := ({ dst := some 149, op := Op.fieldAddr 47 (Operand.tmp 15) 0, type := 0, pos := "law.go:77", after := #[{ on := 45, ground := Ground.guard }], guard := some (45, false) } : Oper)) (v := undef) rfl (by kernel_rfl) (by kernel_rfl) (by kernel_rfl) (fun _ _ _ h => h) (Or.inr ⟨by rfl, rfl⟩) (by assumption) ?_
                try simp only [Act.put, List.setIfInBounds_toArray, List.set_cons_zero, List.set_cons_succ]
                refine wpAnyH_take (i := 48) (oi := ({ dst := some 150, op := Op.load 41 (Operand.tmp 149), type := 41, pos := "law.go:77", after := #[{ on := 47, ground := Ground.data }, { on := 45, ground := Ground.guard }], guard := some (45, false) } : Oper)) (v := undef) rfl (by kernel_rfl) (by kernel_rfl) (by kernel_rfl) (fun _ _ _ h => h) (Or.inr ⟨by rfl, rfl⟩) (by assumption) ?_
                try simp only [Act.put, List.setIfInBounds_toArray, List.set_cons_zero, List.set_cons_succ]
                refine wpAnyH_take (i := 49) (oi := ({ dst := some 151, op := Op.fieldAddr 47 (Operand.tmp 15) 1, type := 0, pos := "law.go:77", after := #[{ on := 45, ground := Ground.guard }], guard := some (45, false) } : Oper)) (v := undef) rfl (by kernel_rfl) (by kernel_rfl) (by kernel_rfl) (fun _ _ _ h => h) (Or.inr ⟨by rfl, rfl⟩) (by assumption) ?_
                try simp only [Act.put, List.setIfInBounds_toArray, List.set_cons_zero, List.set_cons_succ]
                refine wpAnyH_take (i := 50) (oi := ({ dst := some 152, op := Op.load 3 (Operand.tmp 151), type := 3, pos := "law.go:77", after := #[{ on := 49, ground := Ground.data }, { on := 45, ground := Ground.guard }], guard := some (45, false) } : Oper)) (v := undef) rfl (by kernel_rfl) (by kernel_rfl) (by kernel_rfl) (fun _ _ _ h => h) (Or.inr ⟨by rfl, rfl⟩) (by assumption) ?_
                try simp only [Act.put, List.setIfInBounds_toArray, List.set_cons_zero, List.set_cons_succ]
                refine wpAnyH_take (i := 51) (oi := ({ dst := some 153, op := Op.call { callee := Callee.value (Operand.func 20), args := #[Operand.tmp 148, Operand.tmp 150, Operand.tmp 152], argTypes := #[31, 41, 3] }, type := 4, pos := "law.go:77", after := #[{ on := 46, ground := Ground.data }, { on := 48, ground := Ground.data }, { on := 50, ground := Ground.data }, { on := 45, ground := Ground.chain }, { on := 45, ground := Ground.guard }], guard := some (45, false) } : Oper)) (v := undef) rfl (by kernel_rfl) (by kernel_rfl) (by kernel_rfl) (fun _ _ _ h => h) (Or.inr ⟨by rfl, rfl⟩) (by assumption) ?_
                try simp only [Act.put, List.setIfInBounds_toArray, List.set_cons_zero, List.set_cons_succ]
                refine wpAnyH_take (i := 52) (oi := ({ dst := some 154, op := Op.unOp UnOp.not 4 (Operand.tmp 153), type := 4, pos := "law.go:77", after := #[{ on := 51, ground := Ground.data }, { on := 45, ground := Ground.guard }], guard := some (45, false) } : Oper)) (v := undef) rfl (by kernel_rfl) (by kernel_rfl) (by kernel_rfl) (fun _ _ _ h => h) (Or.inr ⟨by rfl, rfl⟩) (by assumption) ?_
                try simp only [Act.put, List.setIfInBounds_toArray, List.set_cons_zero, List.set_cons_succ]
                refine wpAnyH_take (i := 53) (oi := ({ dst := some 155, op := Op.pick (Operand.tmp 147) (Operand.const (Value.bool true)) (Operand.tmp 154), type := 4, pos := "law.go:77", after := #[{ on := 45, ground := Ground.data }, { on := 52, ground := Ground.data }], guard := none } : Oper)) (v := ?_) rfl (by kernel_rfl) (by kernel_rfl) (by kernel_rfl) (fun _ _ _ h => h) (Or.inl ⟨by rfl, ?_⟩) (by assumption) ?_
                rotate_left
                · intro w hSw
                  (try dsimp only at hSw)
                  go_simp
                  (try with_reducible rfl)
                try simp only [Act.put, List.setIfInBounds_toArray, List.set_cons_zero, List.set_cons_succ]
                refine wpAnyH_done (by kernel_rfl) ?_ _
                gi_wp2
                have hbw : Below W.heap.size W (W.drewN 1) := pw_below_drewN (Below.refl W.heap.size W) 1
                exact ⟨(keepsFrom_below hbw).trans ((KeepsOthers.setCell _ _ _).from _), (show Boxed (W.setCell ⟨gr, 0, none⟩ (.bool false)) gr 4 (.bool false) from Boxed.set _ K.out.cr), below_set (hB.trans (hbw.mono hB.size)) HX.out, rfl, HE.out⟩
            · have b0 : (a != v0) = true := by simpa using ha
              have HE := Aside0.mk (fun q => ha (HE.out.1 q).1)
              clear ha
              refine wpAnyH_take (i := 18) (oi := ({ dst := some 120, op := Op.binOp BinOp.neq 3 (Operand.tmp 111) (Operand.tmp 119) 3, type := 4, pos := "law.go:77", after := #[{ on := 9, ground := Ground.data }, { on := 17, ground := Ground.data }, { on := 7, ground := Ground.guard }], guard := some (7, false) } : Oper)) (v := ?_) rfl (by kernel_rfl) (by kernel_rfl) (by kernel_rfl) (fun _ _ _ h => h) (Or.inl ⟨by rfl, ?_⟩) (by assumption) ?_
              rotate_left
              · intro w hSw
                (try dsimp only at hSw)
                go_simp
                (try with_reducible rfl)
              try simp only [Act.put, List.setIfInBounds_toArray, List.set_cons_zero, List.set_cons_succ]
              refine wpAnyH_take (i := 19) (oi := ({ dst := some 121, op := Op.pick (Operand.tmp 109) (Operand.const (Value.bool true)) (Operand.tmp 120), type := 4, pos := "law.go:77", after := #[{ on := 7, ground := Ground.data }, { on := 18, ground := Ground.data }], guard := none } : Oper)) (v := ?_) rfl (by kernel_rfl) (by kernel_rfl) (by kernel_rfl) (fun _ _ _ h => h) (Or.inl ⟨by rfl, ?_⟩) (by assumption) ?_
              rotate_left
              · intro w hSw
                (try dsimp only at hSw)
                go_simp
                (try with_reducible rfl)
              try simp only [Act.put, List.setIfInBounds_toArray, List.set_cons_zero, List.set_cons_succ]
              refine wpAnyH_take (i := 20) (oi := ({ dst := some 122, op := Op.move (Operand.tmp 121), type := 4, pos := "law.go:77", after := #[{ on := 19, ground := Ground.data }, { on := 7, ground := Ground.chain }], guard := none } : Oper)) (v := ?_) rfl (by kernel_rfl) (by kernel_rfl) (by kernel_rfl) (fun _ _ _ h => h) (Or.inl ⟨by rfl, ?_⟩) (by assumption) ?_
              rotate_left
              · intro w hSw
                (try dsimp only at hSw)
                go_simp
                (try with_reducible rfl)
              try simp only [Act.put, List.setIfInBounds_toArray, List.set_cons_zero, List.set_cons_succ]
              refine wpAnyH_take (i := 21) (oi := ({ dst := some 123, op := Op.fieldAddr 47 (Operand.tmp 15) 1, type := 0, pos := "law.go:77", after := #[{ on := 20, ground := Ground.guard }], guard := some (20, false) } : Oper)) (v := undef) rfl (by kernel_rfl) (by kernel_rfl) (by kernel_rfl) (fun _ _ _ h => h) (Or.inr ⟨by rfl, rfl⟩) (by assumption) ?_
              try simp only [Act.put, List.setIfInBounds_toArray, List.set_cons_zero, List.set_cons_succ]
              refine wpAnyH_take (i := 22) (oi := ({ dst := some 124, op := Op.load 3 (Operand.tmp 123), type := 3, pos := "law.go:77", after := #[{ on := 21, ground := Ground.data }, { on := 20, ground := Ground.guard }], guard := some (20, false) } : Oper)) (v := undef) rfl (by kernel_rfl) (by kernel_rfl) (by kernel_rfl) (fun _ _ _ h => h) (Or.inr ⟨by rfl, rfl⟩) (by assumption) ?_
              try simp only [Act.put, List.setIfInBounds_toArray, List.set_cons_zero, List.set_cons_succ]
              refine wpAnyH_take (i := 23) (oi := ({ dst := some 125, op := Op.load 50 (Operand.tmp 11), type := 50, pos := "law.go:77", after := #[{ on := 20, ground := Ground.guard }], guard := some (20, false) } : Oper)) (v := undef) rfl (by kernel_rfl) (by kernel_rfl) (by kernel_rfl) (fun _ _ _ h => h) (Or.inr ⟨by rfl, rfl⟩) (by assumption) ?_
              try simp only [Act.put, List.setIfInBounds_toArray, List.set_cons_zero, List.set_cons_succ]
              refine wpAnyH_take (i := 24) (oi := ({ dst := some 126, op := Op.nilCheck (Operand.tmp 125), type := 0, pos := "law.go:77", after := #[{ on := 23, ground := Ground.data }, { on := 20, ground := Ground.guard }], guard := some (20, false) } : Oper)) (v := undef) rfl (by kernel_rfl) (by kernel_rfl) (by kernel_rfl) (fun _ _ _ h => h) (Or.inr ⟨by rfl, rfl⟩) (by assumption) ?_
              try simp only [Act.put, List.setIfInBounds_toArray, List.set_cons_zero, List.set_cons_succ]
              refine wpAnyH_take (i := 25) (oi := ({ dst := some 127, op := Op.fieldAddr 53 (Operand.tmp 126) 0, type := 0, pos := "law.go:77", after := #[{ on := 24, ground := Ground.data }, { on := 20, ground := Ground.guard }], guard := some (20, false) } : Oper)) (v := undef) rfl (by kernel_rfl) (by kernel_rfl) (by kernel_rfl) (fun _ _ _ h => h) (Or.inr ⟨by rfl, rfl⟩) (by assumption) ?_
              try simp only [Act.put, List.setIfInBounds_toArray, List.set_cons_zero, List.set_cons_succ]
              refine wpAnyH_take (i := 26) (oi := ({ dst := some 128, op := Op.load 27 (Operand.tmp 127), type := 27, pos := "law.go:77", after := #[{ on := 25, ground := Ground.data }, { on := 20, ground := Ground.guard }], guard := some (20, false) } : Oper)) (v := undef) rfl (by kernel_rfl) (by kernel_rfl) (by kernel_rfl) (fun _ _ _ h => h) (Or.inr ⟨by rfl, rfl⟩) (by assumption) ?_
              try simp only [Act.put, List.setIfInBounds_toArray, List.set_cons_zero, List.set_cons_succ]
              refine wpAnyH_take (i := 27) (oi := ({ dst := some 129, op := Op.load 3 (Operand.tmp 14), type := 3, pos := "law.go:77", after := #[{ on := 20, ground := Ground.guard }], guard := some (20, false) } : Oper)) (v := undef) rfl (by kernel_rfl) (by kernel_rfl) (by kernel_rfl) (fun _ _ _ h => h) (Or.inr ⟨by rfl, rfl⟩) (by assumption) ?_
              try simp only [Act.put, List.setIfInBounds_toArray, List.set_cons_zero, List.set_cons_succ]
              refine wpAnyH_take (i := 28) (oi := ({ dst := some 130, op := Op.indexAddr 27 (Operand.tmp 128) (Operand.tmp 129), type := 0, pos := "law.go:77", after := #[{ on := 26, ground := Ground.data }, { on := 27, ground := Ground.data }, { on := 20, ground := Ground.guard }], guard := some (20, false) } : Oper)) (v := undef) rfl (by kernel_rfl) (by kernel_rfl) (by kernel_rfl) (fun _ _ _ h => h) (Or.inr ⟨by rfl, rfl⟩) (by assumption) ?_
              try simp only [Act.put, List.setIfInBounds_toArray, List.set_cons_zero, List.set_cons_succ]
              refine wpAnyH_take (i := 29) (oi := ({ dst := some 131, op := Op.fieldAddr 24 (Operand.tmp 130) 1, type := 0, pos := "law.go:77", after := #[{ on := 28, ground := Ground.data }, { on := 20, ground := Ground.guard }], guard := some (20, false) } : Oper)) (v := undef) rfl (by kernel_rfl) (by kernel_rfl) (by kernel_rfl) (fun _ _ _ h => h) (Or.inr ⟨by rfl, rfl⟩) (by assumption) ?_
              try simp only [Act.put, List.setIfInBounds_toArray, List.set_cons_zero, List.set_cons_succ]
              refine wpAnyH_take (i := 30) (oi := ({ dst := some 132, op := Op.load 3 (Operand.tmp 131), type := 3, pos := "law.go:77", after := #[{ on := 29, ground := Ground.data }, { on := 20, ground := Ground.guard }], guard := some (20, false) } : Oper)) (v := undef) rfl (by kernel_rfl) (by kernel_rfl) (by kernel_rfl) (fun _ _ _ h => h) (Or.inr ⟨by rfl, rfl⟩) (by assumption) ?_
              try simp only [Act.put, List.setIfInBounds_toArray, List.set_cons_zero, List.set_cons_succ]
              refine wpAnyH_take (i := 31) (oi := ({ dst := some 133, op := Op.binOp BinOp.neq 3 (Operand.tmp 124) (Operand.tmp 132) 3, type := 4, pos := "law.go:77", after := #[{ on := 22, ground := Ground.data }, { on := 30, ground := Ground.data }, { on := 20, ground := Ground.guard }], guard := some (20, false) } : Oper)) (v := undef) rfl (by kernel_rfl) (by kernel_rfl) (by kernel_rfl) (fun _ _ _ h => h) (Or.inr ⟨by rfl, rfl⟩) (by assumption) ?_
              try simp only [Act.put, List.setIfInBounds_toArray, List.set_cons_zero, List.set_cons_succ]
              refine wpAnyH_take (i := 32) (oi := ({ dst := some 134, op := Op.pick (Operand.tmp 122) (Operand.const (Value.bool true)) (Operand.tmp 133), type := 4, pos := "law.go:77", after := #[{ on := 20, ground := Ground.data }, { on := 31, ground := Ground.data }], guard := none } : Oper)) (v := ?_) rfl (by kernel_rfl) (by kernel_rfl) (by kernel_rfl) (fun _ _ _ h => h) (Or.inl ⟨by rfl, ?_⟩) (by assumption) ?_
              rotate_left
              · intro w hSw
                (try dsimp only at hSw)
                go_simp
                (try with_reducible rfl)
              try simp only [Act.put, List.setIfInBounds_toArray, List.set_cons_zero, List.set_cons_succ]
              refine wpAnyH_take (i := 33) (oi := ({ dst := some 135, op := Op.move (Operand.tmp 134), type := 4, pos := "law.go:77", after := #[{ on := 32, ground := Ground.data }, { on := 20, ground := Ground.chain }], guard := none } : Oper)) (v := ?_) rfl (by kernel_rfl) (by kernel_rfl) (by kernel_rfl) (fun _ _ _ h => h) (Or.inl ⟨by rfl, ?_⟩) (by assumption) ?_
              rotate_left
              · intro w hSw
                (try dsimp only at hSw)
                go_simp
                (try with_reducible rfl)
              try simp only [Act.put, List.setIfInBounds_toArray, List.set_cons_zero, List.set_cons_succ]
              refine wpAnyH_take (i := 34) (oi := ({ dst := some 136, op := Op.fieldAddr 47 (Operand.tmp 15) 2, type := 0, pos := "law.go:77", after := #[{ on := 33, ground := Ground.guard }], guard := some (33, false) } : Oper)) (v := undef) rfl (by kernel_rfl) (by kernel_rfl) (by kernel_rfl) (fun _ _ _ h => h) (Or.inr ⟨by rfl, rfl⟩) (by assumption) ?_
              try simp only [Act.put, List.setIfInBounds_toArray, List.set_cons_zero, List.set_cons_succ]
              refine wpAnyH_take (i := 35) (oi := ({ dst := some 137, op := Op.load 3 (Operand.tmp 136), type := 3, pos := "law.go:77", after := #[{ on := 34, ground := Ground.data }, { on := 33, ground := Ground.guard }], guard := some (33, false) } : Oper)) (v := undef) rfl (by kernel_rfl) (by kernel_rfl) (by kernel_rfl) (fun _ _ _ h => h) (Or.inr ⟨by rfl, rfl⟩) (by assumption) ?_
              try simp only [Act.put, List.setIfInBounds_toArray, List.set_cons_zero, List.set_cons_succ]
              refine wpAnyH_take (i := 36) (oi := ({ dst := some 138, op := Op.load 50 (Operand.tmp 11), type := 50, pos := "law.go:77", after := #[{ on := 33, ground := Ground.guard }], guard := some (33, false) } : Oper)) (v := undef) rfl (by kernel_rfl) (by kernel_rfl) (by kernel_rfl) (fun _ _ _ h => h) (Or.inr ⟨by rfl, rfl⟩) (by assumption) ?_
              try simp only [Act.put, List.setIfInBounds_toArray, List.set_cons_zero, List.set_cons_succ]
              refine wpAnyH_take (i := 37) (oi := ({ dst := some 139, op := Op.nilCheck (Operand.tmp 138), type := 0, pos := "law.go:77", after := #[{ on := 36, ground := Ground.data }, { on := 33, ground := Ground.guard }], guard := some (33, false) } : Oper)) (v := undef) rfl (by kernel_rfl) (by kernel_rfl) (by kernel_rfl) (fun _ _ _ h => h) (Or.inr ⟨by rfl, rfl⟩) (by assumption) ?_
              try simp only [Act.put, List.setIfInBounds_toArray, List.set_cons_zero, List.set_cons_succ]
              refine wpAnyH_take (i := 38) (oi := ({ dst := some 140, op := Op.fieldAddr 53 (Operand.tmp 139) 1, type := 0, pos := "law.go:77", after := #[{ on := 37, ground := Ground.data }, { on := 33, ground := Ground.guard }], guard := some (33, false) } : Oper)) (v := undef) rfl (by kernel_rfl) (by kernel_rfl) (by kernel_rfl) (fun _ _ _ h => h) (Or.inr ⟨by rfl, rfl⟩) (by assumption) ?_
              try simp only [Act.put, List.setIfInBounds_toArray, List.set_cons_zero, List.set_cons_succ]
              refine wpAnyH_take (i := 39) (oi := ({ dst := some 141, op := Op.load 51 (Operand.tmp 140), type := 51, pos := "law.go:77", after := #[{ on := 38, ground := Ground.data }, { on := 33, ground := Ground.guard }], guard := some (33, false) } : Oper)) (v := undef) rfl (by kernel_rfl) (by kernel_rfl) (by kernel_rfl) (fun _ _ _ h => h) (Or.inr ⟨by rfl, rfl⟩) (by assumption) ?_
              try simp only [Act.put, List.setIfInBounds_toArray, List.set_cons_zero, List.set_cons_succ]
              refine wpAnyH_take (i := 40) (oi := ({ dst := some 142, op := Op.load 3 (Operand.tmp 14), type := 3, pos := "law.go:77", after := #[{ on := 33, ground := Ground.guard }], guard := some (33, false) } : Oper)) (v := undef) rfl (by kernel_rfl) (by kernel_rfl) (by kernel_rfl) (fun _ _ _ h => h) (Or.inr ⟨by rfl, rfl⟩) (by assumption) ?_
              try simp only [Act.put, List.setIfInBounds_toArray, List.set_cons_zero, List.set_cons_succ]
              refine wpAnyH_take (i := 41) (oi := ({ dst := some 143, op := Op.indexAddr 51 (Operand.tmp 141) (Operand.tmp 142), type := 0, pos := "law.go:77", after := #[{ on := 39, ground := Ground.data }, { on := 40, ground := Ground.data }, { on := 33, ground := Ground.guard }], guard := some (33, false) } : Oper)) (v := undef) rfl (by kernel_rfl) (by kernel_rfl) (by kernel_rfl) (fun _ _ _ h => h) (Or.inr ⟨by rfl, rfl⟩) (by assumption) ?_
              try simp only [Act.put, List.setIfInBounds_toArray, List.set_cons_zero, List.set_cons_succ]
              refine wpAnyH_take (i := 42) (oi := ({ dst := some 144, op := Op.load 3 (Operand.tmp 143), type := 3, pos := "law.go:77", after := #[{ on := 41, ground := Ground.data }, { on := 33, ground := Ground.guard }], guard := some (33, false) } : Oper)) (v := undef) rfl (by kernel_rfl) (by kernel_rfl) (by kernel_rfl) (fun _ _ _ h => h) (Or.inr ⟨by rfl, rfl⟩) (by assumption) ?_
              try simp only [Act.put, List.setIfInBounds_toArray, List.set_cons_zero, List.set_cons_succ]
              refine wpAnyH_take (i := 43) (oi := ({ dst := some 145, op := Op.binOp BinOp.neq 3 (Operand.tmp 137) (Operand.tmp 144) 3, type := 4, pos := "law.go:77", after := #[{ on := 35, ground := Ground.data }, { on := 42, ground := Ground.data }, { on := 33, ground := Ground.guard }], guard := some (33, false) } : Oper)) (v := undef) rfl (by kernel_rfl) (by kernel_rfl) (by kernel_rfl) (fun _ _ _ h => h) (Or.inr ⟨by rfl, rfl⟩) (by assumption) ?_
              try simp only [Act.put, List.setIfInBounds_toArray, List.set_cons_zero, List.set_cons_succ]
              refine wpAnyH_take (i := 44) (oi := ({ dst := some 146, op := Op.pick (Operand.tmp 135) (Operand.const (Value.bool true)) (Operand.tmp 145), type := 4, pos := "law.go:77", after := #[{ on := 33, ground := Ground.data }, { on := 43, ground := Ground.data }], guard := none } : Oper)) (v := ?_) rfl (by kernel_rfl) (by kernel_rfl) (by kernel_rfl) (fun _ _ _ h => h) (Or.inl ⟨by rfl, ?_⟩) (by assumption) ?_
              rotate_left
              · intro w hSw
                (try dsimp only at hSw)
                go_simp
                (try with_reducible rfl)
              try simp only [Act.put, List.setIfInBounds_toArray, List.set_cons_zero, List.set_cons_succ]
              refine wpAnyH_take (i := 45) (oi := ({ dst := some 147, op := Op.move (Operand.tmp 146), type := 4, pos := "law.go:77", after := #[{ on := 44, ground := Ground.data }, { on := 33, ground := Ground.chain }], guard := none } : Oper)) (v := ?_) rfl (by kernel_rfl) (by kernel_rfl) (by kernel_rfl) (fun _ _ _ h => h) (Or.inl ⟨by rfl, ?_⟩) (by assumption) ?_
              rotate_left
              · intro w hSw
                (try dsimp only at hSw)
                go_simp
                (try with_reducible rfl)
              try simp only [Act.put, List.setIfInBounds_toArray, List.set_cons_zero, List.set_cons_succ]
              refine wpAnyH_take (i := 46) (oi := ({ dst := some 148, op := Op.load 31 (Operand.tmp 10), type := 31, pos := "law.go:77", after := #[{ on := 45, ground := Ground.guard }], guard := some (45, false) } : Oper)) (v := undef) rfl (by kernel_rfl) (by kernel_rfl) (by kernel_rfl) (fun _ _ _ h => h) (Or.inr ⟨by rfl, rfl⟩) (by assumption) ?_
              try simp only [Act.put, List.setIfInBounds_toArray, List.set_cons_zero, List.set_cons_succ]
              refine wpAnyH_take (i := 47) (oi := ({ dst := some 149, op := Op.fieldAddr 47 (Operand.tmp 15) 0, type := 0, pos := "law.go:77", after := #[{ on := 45, ground := Ground.guard }], guard := some (45, false) } : Oper)) (v := undef) rfl (by kernel_rfl) (by kernel_rfl) (by kernel_rfl) (fun _ _ _ h => h) (Or.inr ⟨by rfl, rfl⟩) (by assumption) ?_
              try simp only [Act.put, List.setIfInBounds_toArray, List.set_cons_zero, List.set_cons_succ]
              refine wpAnyH_take (i := 48) (oi := ({ dst := some 150, op := Op.load 41 (Operand.tmp 149), type := 41, pos := "law.go:77", after := #[{ on := 47, ground := Ground.data }, { on := 45, ground := Ground.guard }], guard := some (45, false) } : Oper)) (v := undef) rfl (by kernel_rfl) (by kernel_rfl) (by kernel_rfl) (fun _ _ _ h => h) (Or.inr ⟨by rfl, rfl⟩) (by assumption) ?_
              try simp only [Act.put, List.setIfInBounds_toArray, List.set_cons_zero, List.set_cons_succ]
              refine wpAnyH_take (i := 49) (oi := ({ dst := some 151, op := Op.fieldAddr 47 (Operand.tmp 15) 1, type := 0, pos := "law.go:77", after := #[{ on := 45, ground := Ground.guard }], guard := some (45, false) } : Oper)) (v := undef) rfl (by kernel_rfl) (by kernel_rfl) (by kernel_rfl) (fun _ _ _ h => h) (Or.inr ⟨by rfl, rfl⟩) (by assumption) ?_
              try simp only [Act.put, List.setIfInBounds_toArray, List.set_cons_zero, List.set_cons_succ]
              refine wpAnyH_take (i := 50) (oi := ({ dst := some 152, op := Op.load 3 (Operand.tmp 151), type := 3, pos := "law.go:77", after := #[{ on := 49, ground := Ground.data }, { on := 45, ground := Ground.guard }], guard := some (45, false) } : Oper)) (v := undef) rfl (by kernel_rfl) (by kernel_rfl) (by kernel_rfl) (fun _ _ _ h => h) (Or.inr ⟨by rfl, rfl⟩) (by assumption) ?_
              try simp only [Act.put, List.setIfInBounds_toArray, List.set_cons_zero, List.set_cons_succ]
              refine wpAnyH_take (i := 51) (oi := ({ dst := some 153, op := Op.call { callee := Callee.value (Operand.func 20), args := #[Operand.tmp 148, Operand.tmp 150, Operand.tmp 152], argTypes := #[31, 41, 3] }, type := 4, pos := "law.go:77", after := #[{ on := 46, ground := Ground.data }, { on := 48, ground := Ground.data }, { on := 50, ground := Ground.data }, { on := 45, ground := Ground.chain }, { on := 45, ground := Ground.guard }], guard := some (45, false) } : Oper)) (v := undef) rfl (by kernel_rfl) (by kernel_rfl) (by kernel_rfl) (fun _ _ _ h => h) (Or.inr ⟨by rfl, rfl⟩) (by assumption) ?_
              try simp only [Act.put, List.setIfInBounds_toArray, List.set_cons_zero, List.set_cons_succ]
              refine wpAnyH_take (i := 52) (oi := ({ dst := some 154, op := Op.unOp UnOp.not 4 (Operand.tmp 153), type := 4, pos := "law.go:77", after := #[{ on := 51, ground := Ground.data }, { on := 45, ground := Ground.guard }], guard := some (45, false) } : Oper)) (v := undef) rfl (by kernel_rfl) (by kernel_rfl) (by kernel_rfl) (fun _ _ _ h => h) (Or.inr ⟨by rfl, rfl⟩) (by assumption) ?_
              try simp only [Act.put, List.setIfInBounds_toArray, List.set_cons_zero, List.set_cons_succ]
              refine wpAnyH_take (i := 53) (oi := ({ dst := some 155, op := Op.pick (Operand.tmp 147) (Operand.const (Value.bool true)) (Operand.tmp 154), type := 4, pos := "law.go:77", after := #[{ on := 45, ground := Ground.data }, { on := 52, ground := Ground.data }], guard := none } : Oper)) (v := ?_) rfl (by kernel_rfl) (by kernel_rfl) (by kernel_rfl) (fun _ _ _ h => h) (Or.inl ⟨by rfl, ?_⟩) (by assumption) ?_
              rotate_left
              · intro w hSw
                (try dsimp only at hSw)
                go_simp
                (try with_reducible rfl)
              try simp only [Act.put, List.setIfInBounds_toArray, List.set_cons_zero, List.set_cons_succ]
              refine wpAnyH_done (by kernel_rfl) ?_ _
              gi_wp2
              have hbw : Below W.heap.size W (W.drewN 1) := pw_below_drewN (Below.refl W.heap.size W) 1
              exact ⟨(keepsFrom_below hbw).trans ((KeepsOthers.setCell _ _ _).from _), (show Boxed (W.setCell ⟨gr, 0, none⟩ (.bool false)) gr 4 (.bool false) from Boxed.set _ K.out.cr), below_set (hB.trans (hbw.mono hB.size)) HX.out, rfl, HE.out⟩
        case done =>
          rintro D zs W hDs rfl ⟨iK, hB, hKK, iP⟩ hK
          have hDr : gr < W0.heap.size := blk_lt K9.out.cr
          have hDw : w.heap.size ≤ W0.heap.size := K9.out.bel.size
          have K10 := Aside0.mk (K9.out.keptK hk9 hqk hKK hB)
          have X10 := Aside0.mk (show W.heap[gk]? = some (.cells #[.int .i64 (zs.length : Int)] 3 (0, 0)) from iK)
          clear K9 hcb HT hk9 hKK iK hqk hgk iP HL
          have NW := fun W h => now_ok (g) wd (.slice B5 wd.length e5) w W h (by omega)
          have OF := fun W => of_now wd kk ii W
          have hA0 := heap_alloc_new W (.cells #[.int .i64 kk, .int .i64 ii] 24)
          have hbl := below_alloc (Below.refl W.heap.size W) (.cells #[.int .i64 kk, .int .i64 ii] 24)
          go_wp2_with (first
            | (go_at_call 17; refine (NW _ (K10.out.wd.below hbl)).mono ?_; rintro e wA ⟨rfl, hbA⟩; have hA1 := (hbA.block _ (blk_lt hA0)).trans hA0; have hb1 := hbl.trans (hbA.mono hbl.size))
            | (go_at_call 25; refine (OF _).mono ?_; rintro e wB ⟨rfl, hbB⟩; have hb2 := hb1.trans (hbB.mono hb1.size); have hA2 := (hbB.block _ (blk_lt hA1)).trans hA1))
          have KB := Aside0.mk (K10.out.below hb2)
          have XB := Aside0.mk ((hb2.block _ (blk_lt X10.out)).trans X10.out)
          have DB := below_dfr hb2 hK
          obtain ⟨gy, hgy⟩ : ∃ gy, gy = W.heap.size := ⟨_, rfl⟩
          rw [← hgy] at hA2 ⊢
          have y0 : wB.cell? ⟨gy, 0, none⟩ = some (.int .i64 kk) := (blk_cell hA2 0).trans rfl
          have y1 : wB.cell? ⟨gy, 1, none⟩ = some (.int .i64 ii) := (blk_cell hA2 1).trans rfl
          have mw : wB.cell? ⟨g, 0, none⟩ = some (.slice B5 wd.length e5) := (blk_cell KB.out.wd.1 0).trans rfl
          clear NW OF hA0 hbl hA1 hb1 hA2 hb2 hgy K10 X10 hK hB hbA hbB
          by_cases hx : inT ⟨kk, ii⟩
          · have IS := fun W => countermandlaw12_is.calls kk ii true W (by rw [show countermandlaw12_is.f kk ii = _ from is_eq ⟨kk, ii⟩, decide_eq_true hx])
            have AT := fun W h => at_ok (g) wd (.slice B5 wd.length e5) ⟨kk, ii⟩ (wd.length : Int) w W h (by omega)
            rw [← verN_in wd ⟨kk, ii⟩ hx] at AT
            dsimp only at AT
            clear hx
            generalize verN wd kk ii = vn at AT ⊢
            refine name_post (fun Qx hQx => ?_)
            have HQx := Aside0.mk hQx
            clear hQx
            refine wp_region_noPanic ?_
            refine wp_region_held_drew (S := (fun w' => w'.cell? ⟨gy, 0, none⟩ = some (.int .i64 kk) ∧ w'.cell? ⟨gy, 1, none⟩ = some (.int .i64 ii) ∧ w'.cell? ⟨g, 0, none⟩ = some (.slice B5 wd.length e5))) (by kernel_rfl) ⟨y0, y1, mw⟩ (fun hHeld => ?_)
            refine wpAnyH_take (i := 0) (oi := ({ dst := some 166, op := Op.load 24 (Operand.tmp 16), type := 24, pos := "law.go:84", after := #[], guard := none } : Oper)) (v := ?_) rfl (by kernel_rfl) (by kernel_rfl) (by kernel_rfl) (fun _ _ _ h => h) (Or.inl ⟨by rfl, ?_⟩) (by assumption) ?_
            rotate_left
            · intro w hSw
              (try dsimp only at hSw)
              go_simp
              (try with_reducible rfl)
            try simp only [Act.put, List.setIfInBounds_toArray, List.set_cons_zero, List.set_cons_succ]
            refine wpAnyH_ready (rs := [1]) (by kernel_rfl) (by simp) ?_
            refine AllReadyH.cons (o := ({ dst := some 167, op := Op.call { callee := Callee.value (Operand.func 26), args := #[Operand.tmp 166], argTypes := #[24] }, type := 4, pos := "law.go:84", after := #[{ on := 0, ground := Ground.data }], guard := none } : Oper)) rfl (fun Kc hKc => ?_) AllReadyH.nil
            go_simp
            refine (IS _).mono ?_
            rintro e wp1 ⟨rfl, hb7⟩
            have hb7 := (pw_below_drewN (Below.refl wB.heap.size wB) 1).trans hb7
            have p1 := Aside0.mk (KB.out.below hb7)
            have Xp1 := Aside0.mk ((hb7.block _ (blk_lt XB.out)).trans XB.out)
            have Dp1 := below_dfr hb7 DB
            have y0 := at_below hb7 y0
            have y1 := at_below hb7 y1
            have mw := at_below hb7 mw
            clear hb7
            refine hKc.out _ _ ⟨y0, y1, mw⟩ (fun hHeld => ?_)
            clear hKc Kc
            try simp only [Act.put, List.setIfInBounds_toArray, List.set_cons_zero, List.set_cons_succ]
            refine wpAnyH_take (i := 2) (oi := ({ dst := some 168, op := Op.move (Operand.tmp 167), type := 4, pos := "law.go:84", after := #[{ on := 1, ground := Ground.data }, { on := 1, ground := Ground.chain }], guard := none } : Oper)) (v := ?_) rfl (by kernel_rfl) (by kernel_rfl) (by kernel_rfl) (fun _ _ _ h => h) (Or.inl ⟨by rfl, ?_⟩) (by assumption) ?_
            rotate_left
            · intro w hSw
              (try dsimp only at hSw)
              go_simp
              (try with_reducible rfl)
            try simp only [Act.put, List.setIfInBounds_toArray, List.set_cons_zero, List.set_cons_succ]
            refine wpAnyH_take (i := 3) (oi := ({ dst := some 169, op := Op.move (Operand.tmp 17), type := 3, pos := "law.go:84", after := #[{ on := 2, ground := Ground.guard }], guard := some (2, true) } : Oper)) (v := ?_) rfl (by kernel_rfl) (by kernel_rfl) (by kernel_rfl) (fun _ _ _ h => h) (Or.inl ⟨by rfl, ?_⟩) (by assumption) ?_
            rotate_left
            · intro w hSw
              (try dsimp only at hSw)
              go_simp
              (try with_reducible rfl)
            try simp only [Act.put, List.setIfInBounds_toArray, List.set_cons_zero, List.set_cons_succ]
            refine wpAnyH_take (i := 4) (oi := ({ dst := some 170, op := Op.move (Operand.tmp 9), type := 28, pos := "law.go:84", after := #[{ on := 2, ground := Ground.guard }], guard := some (2, true) } : Oper)) (v := ?_) rfl (by kernel_rfl) (by kernel_rfl) (by kernel_rfl) (fun _ _ _ h => h) (Or.inl ⟨by rfl, ?_⟩) (by assumption) ?_
            rotate_left
            · intro w hSw
              (try dsimp only at hSw)
              go_simp
              (try with_reducible rfl)
            try simp only [Act.put, List.setIfInBounds_toArray, List.set_cons_zero, List.set_cons_succ]
            refine wpAnyH_take (i := 5) (oi := ({ dst := some 171, op := Op.load 24 (Operand.tmp 16), type := 24, pos := "law.go:84", after := #[{ on := 2, ground := Ground.guard }], guard := some (2, true) } : Oper)) (v := ?_) rfl (by kernel_rfl) (by kernel_rfl) (by kernel_rfl) (fun _ _ _ h => h) (Or.inl ⟨by rfl, ?_⟩) (by assumption) ?_
            rotate_left
            · intro w hSw
              (try dsimp only at hSw)
              go_simp
              (try with_reducible rfl)
            try simp only [Act.put, List.setIfInBounds_toArray, List.set_cons_zero, List.set_cons_succ]
            refine wpAnyH_take (i := 6) (oi := ({ dst := some 172, op := Op.move (Operand.tmp 9), type := 28, pos := "law.go:84", after := #[{ on := 2, ground := Ground.guard }], guard := some (2, true) } : Oper)) (v := ?_) rfl (by kernel_rfl) (by kernel_rfl) (by kernel_rfl) (fun _ _ _ h => h) (Or.inl ⟨by rfl, ?_⟩) (by assumption) ?_
            rotate_left
            · intro w hSw
              (try dsimp only at hSw)
              go_simp
              (try with_reducible rfl)
            try simp only [Act.put, List.setIfInBounds_toArray, List.set_cons_zero, List.set_cons_succ]
            refine wpAnyH_take (i := 7) (oi := ({ dst := some 173, op := Op.nilCheck (Operand.tmp 172), type := 0, pos := "law.go:84", after := #[{ on := 6, ground := Ground.data }, { on := 2, ground := Ground.guard }], guard := some (2, true) } : Oper)) (v := ?_) rfl (by kernel_rfl) (by kernel_rfl) (by kernel_rfl) (fun _ _ _ h => h) (Or.inl ⟨by rfl, ?_⟩) (by assumption) ?_
            rotate_left
            · intro w hSw
              (try dsimp only at hSw)
              go_simp
              (try with_reducible rfl)
            try simp only [Act.put, List.setIfInBounds_toArray, List.set_cons_zero, List.set_cons_succ]
            refine wpAnyH_take (i := 8) (oi := ({ dst := some 174, op := Op.fieldAddr 30 (Operand.tmp 173) 0, type := 0, pos := "law.go:84", after := #[{ on := 7, ground := Ground.data }, { on := 2, ground := Ground.guard }], guard := some (2, true) } : Oper)) (v := ?_) rfl (by kernel_rfl) (by kernel_rfl) (by kernel_rfl) (fun _ _ _ h => h) (Or.inl ⟨by rfl, ?_⟩) (by assumption) ?_
            rotate_left
            · intro w hSw
              (try dsimp only at hSw)
              go_simp
              (try with_reducible rfl)
            try simp only [Act.put, List.setIfInBounds_toArray, List.set_cons_zero, List.set_cons_succ]
            refine wpAnyH_take (i := 9) (oi := ({ dst := some 175, op := Op.load 27 (Operand.tmp 174), type := 27, pos := "law.go:84", after := #[{ on := 8, ground := Ground.data }, { on := 2, ground := Ground.guard }], guard := some (2, true) } : Oper)) (v := ?_) rfl (by kernel_rfl) (by kernel_rfl) (by kernel_rfl) (fun _ _ _ h => h) (Or.inl ⟨by rfl, ?_⟩) (by assumption) ?_
            rotate_left
            · intro w hSw
              (try dsimp only at hSw)
              go_simp
              (try with_reducible rfl)
            try simp only [Act.put, List.setIfInBounds_toArray, List.set_cons_zero, List.set_cons_succ]
            refine wpAnyH_take (i := 10) (oi := ({ dst := some 176, op := Op.call { callee := Callee.builtin Builtin.len, args := #[Operand.tmp 175], argTypes := #[27] }, type := 3, pos := "law.go:84", after := #[{ on := 9, ground := Ground.data }, { on := 2, ground := Ground.guard }], guard := some (2, true) } : Oper)) (v := ?_) rfl (by kernel_rfl) (by kernel_rfl) (by kernel_rfl) (fun _ _ _ h => h) (Or.inl ⟨by rfl, ?_⟩) (by assumption) ?_
            rotate_left
            · intro w hSw
              (try dsimp only at hSw)
              go_simp
              (try with_reducible rfl)
            try simp only [Act.put, List.setIfInBounds_toArray, List.set_cons_zero, List.set_cons_succ]
            refine wpAnyH_ready (rs := [11]) (by kernel_rfl) (by simp) ?_
            refine AllReadyH.cons (o := ({ dst := some 177, op := Op.call { callee := Callee.value (Operand.func 27), args := #[Operand.tmp 170, Operand.tmp 171, Operand.tmp 176], argTypes := #[28, 24, 3] }, type := 3, pos := "law.go:84", after := #[{ on := 4, ground := Ground.data }, { on := 5, ground := Ground.data }, { on := 10, ground := Ground.data }, { on := 2, ground := Ground.chain }, { on := 2, ground := Ground.guard }], guard := some (2, true) } : Oper)) rfl (fun Kc hKc => ?_) AllReadyH.nil
            go_simp
            refine (AT _ p1.out.wd).mono ?_
            rintro e wp2 ⟨rfl, hb7⟩
            have p2 := Aside0.mk (p1.out.below hb7)
            have Xp2 := Aside0.mk ((hb7.block _ (blk_lt Xp1.out)).trans Xp1.out)
            have Dp2 := below_dfr hb7 Dp1
            have y0 := at_below hb7 y0
            have y1 := at_below hb7 y1
            have mw := at_below hb7 mw
            clear hb7
            refine hKc.out _ _ ⟨y0, y1, mw⟩ (fun hHeld => ?_)
            clear hKc Kc
            try simp only [Act.put, List.setIfInBounds_toArray, List.set_cons_zero, List.set_cons_succ]
            refine wpAnyH_take (i := 12) (oi := ({ dst := some 178, op := Op.binOp BinOp.neq 3 (Operand.tmp 169) (Operand.tmp 177) 3, type := 4, pos := "law.go:84", after := #[{ on := 3, ground := Ground.data }, { on := 11, ground := Ground.data }, { on := 2, ground := Ground.guard }], guard := some (2, true) } : Oper)) (v := ?_) rfl (by kernel_rfl) (by kernel_rfl) (by kernel_rfl) (fun _ _ _ h => h) (Or.inl ⟨by rfl, ?_⟩) (by assumption) ?_
            rotate_left
            · intro w hSw
              (try dsimp only at hSw)
              go_simp
              (try with_reducible rfl)
            try simp only [Act.put, List.setIfInBounds_toArray, List.set_cons_zero, List.set_cons_succ]
            refine wpAnyH_take (i := 13) (oi := ({ dst := some 179, op := Op.pick (Operand.tmp 168) (Operand.tmp 178) (Operand.const (Value.bool false)), type := 4, pos := "law.go:84", after := #[{ on := 2, ground := Ground.data }, { on := 12, ground := Ground.data }], guard := none } : Oper)) (v := ?_) rfl (by kernel_rfl) (by kernel_rfl) (by kernel_rfl) (fun _ _ _ h => h) (Or.inl ⟨by rfl, ?_⟩) (by assumption) ?_
            rotate_left
            · intro w hSw
              (try dsimp only at hSw)
              go_simp
              (try with_reducible rfl)
            try simp only [Act.put, List.setIfInBounds_toArray, List.set_cons_zero, List.set_cons_succ]
            refine wpAnyH_take (i := 14) (oi := ({ dst := some 180, op := Op.move (Operand.tmp 179), type := 4, pos := "law.go:84", after := #[{ on := 13, ground := Ground.data }, { on := 11, ground := Ground.chain }], guard := none } : Oper)) (v := ?_) rfl (by kernel_rfl) (by kernel_rfl) (by kernel_rfl) (fun _ _ _ h => h) (Or.inl ⟨by rfl, ?_⟩) (by assumption) ?_
            rotate_left
            · intro w hSw
              (try dsimp only at hSw)
              go_simp
              (try with_reducible rfl)
            try simp only [Act.put, List.setIfInBounds_toArray, List.set_cons_zero, List.set_cons_succ]
            refine wpAnyH_take (i := 15) (oi := ({ dst := some 181, op := Op.load 24 (Operand.tmp 16), type := 24, pos := "law.go:84", after := #[{ on := 14, ground := Ground.guard }], guard := some (14, false) } : Oper)) (v := ?_) rfl (by kernel_rfl) (by kernel_rfl) (by kernel_rfl) (fun _ _ _ h => h) (Or.inl ⟨by rfl, ?_⟩) (by assumption) ?_
            rotate_left
            · intro w hSw
              (try dsimp only at hSw)
              go_simp
              (try with_reducible rfl)
            try simp only [Act.put, List.setIfInBounds_toArray, List.set_cons_zero, List.set_cons_succ]
            refine wpAnyH_ready (rs := [16]) (by kernel_rfl) (by simp) ?_
            refine AllReadyH.cons (o := ({ dst := some 182, op := Op.call { callee := Callee.value (Operand.func 26), args := #[Operand.tmp 181], argTypes := #[24] }, type := 4, pos := "law.go:84", after := #[{ on := 15, ground := Ground.data }, { on := 14, ground := Ground.chain }, { on := 14, ground := Ground.guard }], guard := some (14, false) } : Oper)) rfl (fun Kc hKc => ?_) AllReadyH.nil
            go_simp
            refine (IS _).mono ?_
            rintro e wp3 ⟨rfl, hb7⟩
            have p3 := Aside0.mk (p2.out.below hb7)
            have Xp3 := Aside0.mk ((hb7.block _ (blk_lt Xp2.out)).trans Xp2.out)
            have Dp3 := below_dfr hb7 Dp2
            have y0 := at_below hb7 y0
            have y1 := at_below hb7 y1
            have mw := at_below hb7 mw
            clear hb7
            refine hKc.out _ _ ⟨y0, y1, mw⟩ (fun hHeld => ?_)
            clear hKc Kc
            try simp only [Act.put, List.setIfInBounds_toArray, List.set_cons_zero, List.set_cons_succ]
            refine wpAnyH_take (i := 17) (oi := ({ dst := some 183, op := Op.unOp UnOp.not 4 (Operand.tmp 182), type := 4, pos := "law.go:84", after := #[{ on := 16, ground := Ground.data }, { on := 14, ground := Ground.guard }], guard := some (14, false) } : Oper)) (v := ?_) rfl (by kernel_rfl) (by kernel_rfl) (by kernel_rfl) (fun _ _ _ h => h) (Or.inl ⟨by rfl, ?_⟩) (by assumption) ?_
            rotate_left
            · intro w hSw
              (try dsimp only at hSw)
              go_simp
              (try with_reducible rfl)
            try simp only [Act.put, List.setIfInBounds_toArray, List.set_cons_zero, List.set_cons_succ]
            refine wpAnyH_take (i := 18) (oi := ({ dst := some 184, op := Op.move (Operand.tmp 183), type := 4, pos := "law.go:84", after := #[{ on := 17, ground := Ground.data }, { on := 16, ground := Ground.chain }, { on := 14, ground := Ground.guard }], guard := some (14, false) } : Oper)) (v := ?_) rfl (by kernel_rfl) (by kernel_rfl) (by kernel_rfl) (fun _ _ _ h => h) (Or.inl ⟨by rfl, ?_⟩) (by assumption) ?_
            rotate_left
            · intro w hSw
              (try dsimp only at hSw)
              go_simp
              (try with_reducible rfl)
            try simp only [Act.put, List.setIfInBounds_toArray, List.set_cons_zero, List.set_cons_succ]
            refine wpAnyH_take (i := 19) (oi := ({ dst := some 185, op := Op.move (Operand.tmp 17), type := 3, pos := "law.go:84", after := #[{ on := 18, ground := Ground.guard }], guard := some (18, true) } : Oper)) (v := undef) rfl (by kernel_rfl) (by kernel_rfl) (by kernel_rfl) (fun _ _ _ h => h) (Or.inr ⟨by rfl, rfl⟩) (by assumption) ?_
            try simp only [Act.put, List.setIfInBounds_toArray, List.set_cons_zero, List.set_cons_succ]
            refine wpAnyH_take (i := 20) (oi := ({ dst := some 186, op := Op.binOp BinOp.neq 3 (Operand.tmp 185) (Operand.const (Value.int IntKind.i64 0)) 3, type := 4, pos := "law.go:84", after := #[{ on := 19, ground := Ground.data }, { on := 18, ground := Ground.guard }], guard := some (18, true) } : Oper)) (v := undef) rfl (by kernel_rfl) (by kernel_rfl) (by kernel_rfl) (fun _ _ _ h => h) (Or.inr ⟨by rfl, rfl⟩) (by assumption) ?_
            try simp only [Act.put, List.setIfInBounds_toArray, List.set_cons_zero, List.set_cons_succ]
            refine wpAnyH_take (i := 21) (oi := ({ dst := some 187, op := Op.pick (Operand.tmp 184) (Operand.tmp 186) (Operand.const (Value.bool false)), type := 4, pos := "law.go:84", after := #[{ on := 18, ground := Ground.data }, { on := 20, ground := Ground.data }, { on := 14, ground := Ground.guard }], guard := some (14, false) } : Oper)) (v := ?_) rfl (by kernel_rfl) (by kernel_rfl) (by kernel_rfl) (fun _ _ _ h => h) (Or.inl ⟨by rfl, ?_⟩) (by assumption) ?_
            rotate_left
            · intro w hSw
              (try dsimp only at hSw)
              go_simp
              (try with_reducible rfl)
            try simp only [Act.put, List.setIfInBounds_toArray, List.set_cons_zero, List.set_cons_succ]
            refine wpAnyH_take (i := 22) (oi := ({ dst := some 188, op := Op.pick (Operand.tmp 180) (Operand.const (Value.bool true)) (Operand.tmp 187), type := 4, pos := "law.go:84", after := #[{ on := 14, ground := Ground.data }, { on := 21, ground := Ground.data }], guard := none } : Oper)) (v := ?_) rfl (by kernel_rfl) (by kernel_rfl) (by kernel_rfl) (fun _ _ _ h => h) (Or.inl ⟨by rfl, ?_⟩) (by assumption) ?_
            rotate_left
            · intro w hSw
              (try dsimp only at hSw)
              go_simp
              (try with_reducible rfl)
            try simp only [Act.put, List.setIfInBounds_toArray, List.set_cons_zero, List.set_cons_succ]
            refine wpAnyH_done (by kernel_rfl) ?_ _
            refine NoPanic.normal ?_
            rw [HQx.out]
            clear HQx
            have KZ := p3
            have XZ := Xp3
            have DZ := Dp3
            clear y0 y1 mw AT p1 Xp1 Dp1 p2 Xp2 Dp2 p3 Xp3 Dp3 IS
            generalize wp3 = wZ at KZ XZ DZ ⊢
            go_wp2_with (go_at_call 19; refine (all_nil _).mono ?_; rintro e wz2 ⟨rfl, rfl⟩)
            refine name_act (fun T hT => ?_)
            dsimp only at hT
            have HT := Aside0.mk hT
            clear hT
            refine (wpIn_wide (n := 9)).1 ?_
            refine wpIn_rangeFunc_ownH rfl (by decide) (gf := 36) (lb := #[]) rfl trivial (enters_of Try.func36 (by kernel_rfl) rfl)
              (none_stops Fence.wide 8 trivial rfl (Below wz2.heap.size) wz2) belowK_t (belowK_b (Nat.le_refl _)) (Below.refl _ _) (fun _ => rfl)
              (fun pre W => Below wz2.heap.size wz2 W) (fun c pre W => False) (ownFrom_below (Nat.le_refl _) (Nat.le_refl _)) (fun c => ownFrom_pure _ (fun _ => False)) (Below.refl _ _)
              (fun x a' W => True)
              (fun x a' _ X Y row hs hg hr => hs)
              ?assign ?body ?done ?stop
            case assign =>
              rintro lp pre ⟨a, b, d⟩ W K hB hK
              dsimp only [ent]
              gi_wp2
              exact hK _ _ ⟨Nat.le_refl _, fun k o hk h0 ho => h0⟩ (Below.refl _ _) hB trivial
            case body =>
              rintro lp pre x a' W hlp hr hB hA hlt
              exact absurd hlt (Nat.not_lt_zero _)
            case stop =>
              rintro D2 c pre W hD hpre hF hK
              exact hF.elim
            case done =>
              rintro D2 zs2 W2 hD2 hzs hB2 hK2
              have K20 := Aside0.mk (KZ.out.below hB2)
              have X20 := Aside0.mk ((hB2.block _ (blk_lt XZ.out)).trans XZ.out)
              have D20 := below_dfr hB2 DZ
              have hDD : W0.heap.size ≤ D2 := Nat.le_trans hDs (Nat.le_trans (Nat.le_of_lt (blk_lt DZ)) hD2)
              have hne : D ≠ D2 := by have := blk_lt DZ; omega
              have ck : W2.cell? ⟨gk, 0, none⟩ = some (.int .i64 (zs.length : Int)) := (blk_cell X20.out 0).trans rfl
              have c11 : W2.cell? ⟨g + 1 + 1 + 1 + 1, 0, none⟩ = some (.pointer (some ⟨g + 1 + 1, 0, none⟩)) := (blk_cell K20.out.c11 0).trans rfl
              have m0 : W2.cell? ⟨g + 1 + 1, 0, none⟩ = some (.slice Am zs.length cm) := (blk_cell K20.out.ms.1 0).trans rfl
              have NW := fun W h => now_ok (g) wd (.slice B5 wd.length e5) w W h (by omega)
              clear KZ XZ DZ HT hzs
              go_wp2_with (fail)
              refine name_post (fun Qx hQx => ?_)
              have HQx := Aside0.mk hQx
              clear hQx
              refine wp_region_noPanic ?_
              refine wp_region_held_drew (S := (fun w' => w'.cell? ⟨gk, 0, none⟩ = some (.int .i64 (zs.length : Int)) ∧ w'.cell? ⟨g + 1 + 1 + 1 + 1, 0, none⟩ = some (.pointer (some ⟨g + 1 + 1, 0, none⟩)) ∧ w'.cell? ⟨g + 1 + 1, 0, none⟩ = some (.slice Am zs.length cm))) (by kernel_rfl) ⟨ck, c11, m0⟩ (fun hHeld => ?_)
              refine wpAnyH_take (i := 0) (oi := ({ dst := some 192, op := Op.load 3 (Operand.tmp 14), type := 3, pos := "law.go:91", after := #[], guard := none } : Oper)) (v := ?_) rfl (by kernel_rfl) (by kernel_rfl) (by kernel_rfl) (fun _ _ _ h => h) (Or.inl ⟨by rfl, ?_⟩) (by assumption) ?_
              rotate_left
              · intro w hSw
                (try dsimp only at hSw)
                go_simp
                (try with_reducible rfl)
              try simp only [Act.put, List.setIfInBounds_toArray, List.set_cons_zero, List.set_cons_succ]
              refine wpAnyH_take (i := 1) (oi := ({ dst := some 193, op := Op.load 50 (Operand.tmp 11), type := 50, pos := "law.go:91", after := #[], guard := none } : Oper)) (v := ?_) rfl (by kernel_rfl) (by kernel_rfl) (by kernel_rfl) (fun _ _ _ h => h) (Or.inl ⟨by rfl, ?_⟩) (by assumption) ?_
              rotate_left
              · intro w hSw
                (try dsimp only at hSw)
                go_simp
                (try with_reducible rfl)
              try simp only [Act.put, List.setIfInBounds_toArray, List.set_cons_zero, List.set_cons_succ]
              refine wpAnyH_take (i := 2) (oi := ({ dst := some 194, op := Op.nilCheck (Operand.tmp 193), type := 0, pos := "law.go:91", after := #[{ on := 1, ground := Ground.data }], guard := none } : Oper)) (v := ?_) rfl (by kernel_rfl) (by kernel_rfl) (by kernel_rfl) (fun _ _ _ h => h) (Or.inl ⟨by rfl, ?_⟩) (by assumption) ?_
              rotate_left
              · intro w hSw
                (try dsimp only at hSw)
                go_simp
                (try with_reducible rfl)
              try simp only [Act.put, List.setIfInBounds_toArray, List.set_cons_zero, List.set_cons_succ]
              refine wpAnyH_take (i := 3) (oi := ({ dst := some 195, op := Op.fieldAddr 53 (Operand.tmp 194) 0, type := 0, pos := "law.go:91", after := #[{ on := 2, ground := Ground.data }], guard := none } : Oper)) (v := ?_) rfl (by kernel_rfl) (by kernel_rfl) (by kernel_rfl) (fun _ _ _ h => h) (Or.inl ⟨by rfl, ?_⟩) (by assumption) ?_
              rotate_left
              · intro w hSw
                (try dsimp only at hSw)
                go_simp
                (try with_reducible rfl)
              try simp only [Act.put, List.setIfInBounds_toArray, List.set_cons_zero, List.set_cons_succ]
              refine wpAnyH_take (i := 4) (oi := ({ dst := some 196, op := Op.load 27 (Operand.tmp 195), type := 27, pos := "law.go:91", after := #[{ on := 3, ground := Ground.data }], guard := none } : Oper)) (v := ?_) rfl (by kernel_rfl) (by kernel_rfl) (by kernel_rfl) (fun _ _ _ h => h) (Or.inl ⟨by rfl, ?_⟩) (by assumption) ?_
              rotate_left
              · intro w hSw
                (try dsimp only at hSw)
                go_simp
                (try with_reducible rfl)
              try simp only [Act.put, List.setIfInBounds_toArray, List.set_cons_zero, List.set_cons_succ]
              refine wpAnyH_take (i := 5) (oi := ({ dst := some 197, op := Op.call { callee := Callee.builtin Builtin.len, args := #[Operand.tmp 196], argTypes := #[27] }, type := 3, pos := "law.go:91", after := #[{ on := 4, ground := Ground.data }], guard := none } : Oper)) (v := ?_) rfl (by kernel_rfl) (by kernel_rfl) (by kernel_rfl) (fun _ _ _ h => h) (Or.inl ⟨by rfl, ?_⟩) (by assumption) ?_
              rotate_left
              · intro w hSw
                (try dsimp only at hSw)
                go_simp
                (try with_reducible rfl)
              try simp only [Act.put, List.setIfInBounds_toArray, List.set_cons_zero, List.set_cons_succ]
              refine wpAnyH_take (i := 6) (oi := ({ dst := some 198, op := Op.binOp BinOp.eql 3 (Operand.tmp 192) (Operand.tmp 197) 3, type := 4, pos := "law.go:91", after := #[{ on := 0, ground := Ground.data }, { on := 5, ground := Ground.data }], guard := none } : Oper)) (v := ?_) rfl (by kernel_rfl) (by kernel_rfl) (by kernel_rfl) (fun _ _ _ h => h) (Or.inl ⟨by rfl, ?_⟩) (by assumption) ?_
              rotate_left
              · intro w hSw
                (try dsimp only at hSw)
                go_simp
                (try with_reducible rfl)
              try simp only [Act.put, List.setIfInBounds_toArray, List.set_cons_zero, List.set_cons_succ]
              refine wpAnyH_take (i := 7) (oi := ({ dst := some 199, op := Op.move (Operand.tmp 198), type := 4, pos := "law.go:91", after := #[{ on := 6, ground := Ground.data }], guard := none } : Oper)) (v := ?_) rfl (by kernel_rfl) (by kernel_rfl) (by kernel_rfl) (fun _ _ _ h => h) (Or.inl ⟨by rfl, ?_⟩) (by assumption) ?_
              rotate_left
              · intro w hSw
                (try dsimp only at hSw)
                go_simp
                (try with_reducible rfl)
              try simp only [Act.put, List.setIfInBounds_toArray, List.set_cons_zero, List.set_cons_succ]
              refine wpAnyH_take (i := 8) (oi := ({ dst := some 200, op := Op.move (Operand.tmp 18), type := 31, pos := "law.go:91", after := #[{ on := 7, ground := Ground.guard }], guard := some (7, true) } : Oper)) (v := ?_) rfl (by kernel_rfl) (by kernel_rfl) (by kernel_rfl) (fun _ _ _ h => h) (Or.inl ⟨by rfl, ?_⟩) (by assumption) ?_
              rotate_left
              · intro w hSw
                (try dsimp only at hSw)
                go_simp
                (try with_reducible rfl)
              try simp only [Act.put, List.setIfInBounds_toArray, List.set_cons_zero, List.set_cons_succ]
              refine wpAnyH_take (i := 9) (oi := ({ dst := some 201, op := Op.move (Operand.tmp 9), type := 28, pos := "law.go:91", after := #[{ on := 7, ground := Ground.guard }], guard := some (7, true) } : Oper)) (v := ?_) rfl (by kernel_rfl) (by kernel_rfl) (by kernel_rfl) (fun _ _ _ h => h) (Or.inl ⟨by rfl, ?_⟩) (by assumption) ?_
              rotate_left
              · intro w hSw
                (try dsimp only at hSw)
                go_simp
                (try with_reducible rfl)
              try simp only [Act.put, List.setIfInBounds_toArray, List.set_cons_zero, List.set_cons_succ]
              refine wpAnyH_ready (rs := [10]) (by kernel_rfl) (by simp) ?_
              refine AllReadyH.cons (o := ({ dst := some 202, op := Op.call { callee := Callee.value (Operand.func 17), args := #[Operand.tmp 201], argTypes := #[28] }, type := 39, pos := "law.go:91", after := #[{ on := 9, ground := Ground.data }, { on := 7, ground := Ground.chain }, { on := 7, ground := Ground.guard }], guard := some (7, true) } : Oper)) rfl (fun Kc hKc => ?_) AllReadyH.nil
              go_simp
              refine (NW _ (K20.out.wd.below (pw_below_drewN (Below.refl _ _) 1))).mono ?_
              rintro e wq1 ⟨rfl, hb7⟩
              have hb7 := (pw_below_drewN (Below.refl W2.heap.size W2) 1).trans hb7
              have q1 := Aside0.mk (K20.out.below hb7)
              have Xq1 := Aside0.mk ((hb7.block _ (blk_lt X20.out)).trans X20.out)
              have Dq1 := below_dfr hb7 D20
              have Eq1 := below_dfr hb7 hK2
              have ck := at_below hb7 ck
              have c11 := at_below hb7 c11
              have m0 := at_below hb7 m0
              clear hb7
              refine hKc.out _ _ ⟨ck, c11, m0⟩ (fun hHeld => ?_)
              clear hKc Kc
              try simp only [Act.put, List.setIfInBounds_toArray, List.set_cons_zero, List.set_cons_succ]
              refine wpAnyH_ready (rs := [11]) (by kernel_rfl) (by simp) ?_
              refine AllReadyH.cons (o := ({ dst := some 203, op := Op.call { callee := Callee.value (Operand.func 18), args := #[Operand.tmp 200, Operand.tmp 202], argTypes := #[31, 39] }, type := 4, pos := "law.go:91", after := #[{ on := 8, ground := Ground.data }, { on := 10, ground := Ground.data }, { on := 10, ground := Ground.chain }, { on := 7, ground := Ground.guard }], guard := some (7, true) } : Oper)) rfl (fun Kc hKc => ?_) AllReadyH.nil
              go_simp
              refine (valid_nil _ _).mono ?_
              rintro e wq2 ⟨rfl, hb7⟩
              have q2 := Aside0.mk (q1.out.below hb7)
              have Xq2 := Aside0.mk ((hb7.block _ (blk_lt Xq1.out)).trans Xq1.out)
              have Dq2 := below_dfr hb7 Dq1
              have Eq2 := below_dfr hb7 Eq1
              have ck := at_below hb7 ck
              have c11 := at_below hb7 c11
              have m0 := at_below hb7 m0
              clear hb7
              refine hKc.out _ _ ⟨ck, c11, m0⟩ (fun hHeld => ?_)
              clear hKc Kc
              try simp only [Act.put, List.setIfInBounds_toArray, List.set_cons_zero, List.set_cons_succ]
              refine wpAnyH_take (i := 12) (oi := ({ dst := some 204, op := Op.pick (Operand.tmp 199) (Operand.tmp 203) (Operand.const (Value.bool false)), type := 4, pos := "law.go:91", after := #[{ on := 7, ground := Ground.data }, { on := 11, ground := Ground.data }], guard := none } : Oper)) (v := ?_) rfl (by kernel_rfl) (by kernel_rfl) (by kernel_rfl) (fun _ _ _ h => h) (Or.inl ⟨by rfl, ?_⟩) (by assumption) ?_
              rotate_left
              · intro w hSw
                (try dsimp only at hSw)
                go_simp
                (try with_reducible rfl)
              try simp only [Act.put, List.setIfInBounds_toArray, List.set_cons_zero, List.set_cons_succ]
              refine wpAnyH_take (i := 13) (oi := ({ dst := some 205, op := Op.move (Operand.tmp 204), type := 4, pos := "law.go:91", after := #[{ on := 12, ground := Ground.data }, { on := 11, ground := Ground.chain }], guard := none } : Oper)) (v := ?_) rfl (by kernel_rfl) (by kernel_rfl) (by kernel_rfl) (fun _ _ _ h => h) (Or.inl ⟨by rfl, ?_⟩) (by assumption) ?_
              rotate_left
              · intro w hSw
                (try dsimp only at hSw)
                go_simp
                (try with_reducible rfl)
              try simp only [Act.put, List.setIfInBounds_toArray, List.set_cons_zero, List.set_cons_succ]
              refine wpAnyH_take (i := 14) (oi := ({ dst := some 206, op := Op.move (Operand.tmp 18), type := 31, pos := "law.go:91", after := #[{ on := 13, ground := Ground.guard }], guard := some (13, true) } : Oper)) (v := ?_) rfl (by kernel_rfl) (by kernel_rfl) (by kernel_rfl) (fun _ _ _ h => h) (Or.inl ⟨by rfl, ?_⟩) (by assumption) ?_
              rotate_left
              · intro w hSw
                (try dsimp only at hSw)
                go_simp
                (try with_reducible rfl)
              try simp only [Act.put, List.setIfInBounds_toArray, List.set_cons_zero, List.set_cons_succ]
              refine wpAnyH_take (i := 15) (oi := ({ dst := some 207, op := Op.move (Operand.tmp 9), type := 28, pos := "law.go:91", after := #[{ on := 13, ground := Ground.guard }], guard := some (13, true) } : Oper)) (v := ?_) rfl (by kernel_rfl) (by kernel_rfl) (by kernel_rfl) (fun _ _ _ h => h) (Or.inl ⟨by rfl, ?_⟩) (by assumption) ?_
              rotate_left
              · intro w hSw
                (try dsimp only at hSw)
                go_simp
                (try with_reducible rfl)
              try simp only [Act.put, List.setIfInBounds_toArray, List.set_cons_zero, List.set_cons_succ]
              refine wpAnyH_ready (rs := [16]) (by kernel_rfl) (by simp) ?_
              refine AllReadyH.cons (o := ({ dst := some 208, op := Op.call { callee := Callee.value (Operand.func 17), args := #[Operand.tmp 207], argTypes := #[28] }, type := 39, pos := "law.go:91", after := #[{ on := 15, ground := Ground.data }, { on := 13, ground := Ground.chain }, { on := 13, ground := Ground.guard }], guard := some (13, true) } : Oper)) rfl (fun Kc hKc => ?_) AllReadyH.nil
              go_simp
              refine (NW _ q2.out.wd).mono ?_
              rintro e wq3 ⟨rfl, hb7⟩
              have q3 := Aside0.mk (q2.out.below hb7)
              have Xq3 := Aside0.mk ((hb7.block _ (blk_lt Xq2.out)).trans Xq2.out)
              have Dq3 := below_dfr hb7 Dq2
              have Eq3 := below_dfr hb7 Eq2
              have ck := at_below hb7 ck
              have c11 := at_below hb7 c11
              have m0 := at_below hb7 m0
              clear hb7
              refine hKc.out _ _ ⟨ck, c11, m0⟩ (fun hHeld => ?_)
              clear hKc Kc
              try simp only [Act.put, List.setIfInBounds_toArray, List.set_cons_zero, List.set_cons_succ]
              refine wpAnyH_ready (rs := [17]) (by kernel_rfl) (by simp) ?_
              refine AllReadyH.cons (o := ({ dst := some 209, op := Op.call { callee := Callee.value (Operand.func 16), args := #[Operand.tmp 206, Operand.tmp 208, Operand.const (Value.int IntKind.i64 0), Operand.const (Value.int IntKind.i64 0)], argTypes := #[31, 39, 41, 3] }, type := 4, pos := "law.go:91", after := #[{ on := 14, ground := Ground.data }, { on := 16, ground := Ground.data }, { on := 16, ground := Ground.chain }, { on := 13, ground := Ground.guard }], guard := some (13, true) } : Oper)) rfl (fun Kc hKc => ?_) AllReadyH.nil
              go_simp
              refine (note_nil _ _ _ _).mono ?_
              rintro e wq4 ⟨rfl, hb7⟩
              have q4 := Aside0.mk (q3.out.below hb7)
              have Xq4 := Aside0.mk ((hb7.block _ (blk_lt Xq3.out)).trans Xq3.out)
              have Dq4 := below_dfr hb7 Dq3
              have Eq4 := below_dfr hb7 Eq3
              have ck := at_below hb7 ck
              have c11 := at_below hb7 c11
              have m0 := at_below hb7 m0
              clear hb7
              refine hKc.out _ _ ⟨ck, c11, m0⟩ (fun hHeld => ?_)
              clear hKc Kc
              try simp only [Act.put, List.setIfInBounds_toArray, List.set_cons_zero, List.set_cons_succ]
              refine wpAnyH_take (i := 18) (oi := ({ dst := some 210, op := Op.unOp UnOp.not 4 (Operand.tmp 209), type := 4, pos := "law.go:91", after := #[{ on := 17, ground := Ground.data }, { on := 13, ground := Ground.guard }], guard := some (13, true) } : Oper)) (v := ?_) rfl (by kernel_rfl) (by kernel_rfl) (by kernel_rfl) (fun _ _ _ h => h) (Or.inl ⟨by rfl, ?_⟩) (by assumption) ?_
              rotate_left
              · intro w hSw
                (try dsimp only at hSw)
                go_simp
                (try with_reducible rfl)
              try simp only [Act.put, List.setIfInBounds_toArray, List.set_cons_zero, List.set_cons_succ]
              refine wpAnyH_take (i := 19) (oi := ({ dst := some 211, op := Op.pick (Operand.tmp 205) (Operand.tmp 210) (Operand.const (Value.bool false)), type := 4, pos := "law.go:91", after := #[{ on := 13, ground := Ground.data }, { on := 18, ground := Ground.data }], guard := none } : Oper)) (v := ?_) rfl (by kernel_rfl) (by kernel_rfl) (by kernel_rfl) (fun _ _ _ h => h) (Or.inl ⟨by rfl, ?_⟩) (by assumption) ?_
              rotate_left
              · intro w hSw
                (try dsimp only at hSw)
                go_simp
                (try with_reducible rfl)
              try simp only [Act.put, List.setIfInBounds_toArray, List.set_cons_zero, List.set_cons_succ]
              refine wpAnyH_take (i := 20) (oi := ({ dst := some 212, op := Op.move (Operand.tmp 211), type := 4, pos := "law.go:91", after := #[{ on := 19, ground := Ground.data }, { on := 17, ground := Ground.chain }], guard := none } : Oper)) (v := ?_) rfl (by kernel_rfl) (by kernel_rfl) (by kernel_rfl) (fun _ _ _ h => h) (Or.inl ⟨by rfl, ?_⟩) (by assumption) ?_
              rotate_left
              · intro w hSw
                (try dsimp only at hSw)
                go_simp
                (try with_reducible rfl)
              try simp only [Act.put, List.setIfInBounds_toArray, List.set_cons_zero, List.set_cons_succ]
              refine wpAnyH_take (i := 21) (oi := ({ dst := some 213, op := Op.move (Operand.tmp 18), type := 31, pos := "law.go:91", after := #[{ on := 20, ground := Ground.guard }], guard := some (20, true) } : Oper)) (v := ?_) rfl (by kernel_rfl) (by kernel_rfl) (by kernel_rfl) (fun _ _ _ h => h) (Or.inl ⟨by rfl, ?_⟩) (by assumption) ?_
              rotate_left
              · intro w hSw
                (try dsimp only at hSw)
                go_simp
                (try with_reducible rfl)
              try simp only [Act.put, List.setIfInBounds_toArray, List.set_cons_zero, List.set_cons_succ]
              refine wpAnyH_take (i := 23) (oi := ({ dst := some 215, op := Op.move (Operand.tmp 18), type := 31, pos := "law.go:91", after := #[{ on := 20, ground := Ground.guard }], guard := some (20, true) } : Oper)) (v := ?_) rfl (by kernel_rfl) (by kernel_rfl) (by kernel_rfl) (fun _ _ _ h => h) (Or.inl ⟨by rfl, ?_⟩) (by assumption) ?_
              rotate_left
              · intro w hSw
                (try dsimp only at hSw)
                go_simp
                (try with_reducible rfl)
              try simp only [Act.put, List.setIfInBounds_toArray, List.set_cons_zero, List.set_cons_succ]
              refine wpAnyH_ready (rs := [22]) (by kernel_rfl) (by simp) ?_
              refine AllReadyH.cons (o := ({ dst := some 214, op := Op.call { callee := Callee.value (Operand.func 23), args := #[Operand.tmp 213], argTypes := #[31] }, type := 3, pos := "law.go:91", after := #[{ on := 21, ground := Ground.data }, { on := 20, ground := Ground.chain }, { on := 20, ground := Ground.guard }], guard := some (20, true) } : Oper)) rfl (fun Kc hKc => ?_) AllReadyH.nil
              go_simp
              refine (stamp_nil _).mono ?_
              rintro e wq4 ⟨rfl, rfl⟩

              refine hKc.out _ _ ⟨ck, c11, m0⟩ (fun hHeld => ?_)
              clear hKc Kc
              try simp only [Act.put, List.setIfInBounds_toArray, List.set_cons_zero, List.set_cons_succ]
              refine wpAnyH_ready (rs := [24]) (by kernel_rfl) (by simp) ?_
              refine AllReadyH.cons (o := ({ dst := some 216, op := Op.call { callee := Callee.value (Operand.func 24), args := #[Operand.tmp 215], argTypes := #[31] }, type := 3, pos := "law.go:91", after := #[{ on := 23, ground := Ground.data }, { on := 22, ground := Ground.chain }, { on := 20, ground := Ground.guard }], guard := some (20, true) } : Oper)) rfl (fun Kc hKc => ?_) AllReadyH.nil
              go_simp
              refine (len_nil _).mono ?_
              rintro e wq4 ⟨rfl, rfl⟩

              refine hKc.out _ _ ⟨ck, c11, m0⟩ (fun hHeld => ?_)
              clear hKc Kc
              try simp only [Act.put, List.setIfInBounds_toArray, List.set_cons_zero, List.set_cons_succ]
              refine wpAnyH_take (i := 25) (oi := ({ dst := some 217, op := Op.binOp BinOp.add 3 (Operand.tmp 214) (Operand.tmp 216) 3, type := 3, pos := "law.go:91", after := #[{ on := 22, ground := Ground.data }, { on := 24, ground := Ground.data }, { on := 20, ground := Ground.guard }], guard := some (20, true) } : Oper)) (v := ?_) rfl (by kernel_rfl) (by kernel_rfl) (by kernel_rfl) (fun _ _ _ h => h) (Or.inl ⟨by rfl, ?_⟩) (by assumption) ?_
              rotate_left
              · intro w hSw
                (try dsimp only at hSw)
                go_simp
                (try with_reducible rfl)
              try simp only [Act.put, List.setIfInBounds_toArray, List.set_cons_zero, List.set_cons_succ]
              refine wpAnyH_take (i := 26) (oi := ({ dst := some 218, op := Op.binOp BinOp.eql 3 (Operand.tmp 217) (Operand.const (Value.int IntKind.i64 0)) 3, type := 4, pos := "law.go:91", after := #[{ on := 25, ground := Ground.data }, { on := 20, ground := Ground.guard }], guard := some (20, true) } : Oper)) (v := ?_) rfl (by kernel_rfl) (by kernel_rfl) (by kernel_rfl) (fun _ _ _ h => h) (Or.inl ⟨by rfl, ?_⟩) (by assumption) ?_
              rotate_left
              · intro w hSw
                (try dsimp only at hSw)
                go_simp
                (try with_reducible rfl)
              try simp only [Act.put, List.setIfInBounds_toArray, List.set_cons_zero, List.set_cons_succ]
              refine wpAnyH_take (i := 27) (oi := ({ dst := some 219, op := Op.pick (Operand.tmp 212) (Operand.tmp 218) (Operand.const (Value.bool false)), type := 4, pos := "law.go:91", after := #[{ on := 20, ground := Ground.data }, { on := 26, ground := Ground.data }], guard := none } : Oper)) (v := ?_) rfl (by kernel_rfl) (by kernel_rfl) (by kernel_rfl) (fun _ _ _ h => h) (Or.inl ⟨by rfl, ?_⟩) (by assumption) ?_
              rotate_left
              · intro w hSw
                (try dsimp only at hSw)
                go_simp
                (try with_reducible rfl)
              try simp only [Act.put, List.setIfInBounds_toArray, List.set_cons_zero, List.set_cons_succ]
              refine wpAnyH_take (i := 28) (oi := ({ dst := some 220, op := Op.move (Operand.tmp 219), type := 4, pos := "law.go:91", after := #[{ on := 27, ground := Ground.data }, { on := 24, ground := Ground.chain }], guard := none } : Oper)) (v := ?_) rfl (by kernel_rfl) (by kernel_rfl) (by kernel_rfl) (fun _ _ _ h => h) (Or.inl ⟨by rfl, ?_⟩) (by assumption) ?_
              rotate_left
              · intro w hSw
                (try dsimp only at hSw)
                go_simp
                (try with_reducible rfl)
              try simp only [Act.put, List.setIfInBounds_toArray, List.set_cons_zero, List.set_cons_succ]
              refine wpAnyH_take (i := 29) (oi := ({ dst := some 221, op := Op.move (Operand.tmp 18), type := 31, pos := "law.go:91", after := #[{ on := 28, ground := Ground.guard }], guard := some (28, true) } : Oper)) (v := ?_) rfl (by kernel_rfl) (by kernel_rfl) (by kernel_rfl) (fun _ _ _ h => h) (Or.inl ⟨by rfl, ?_⟩) (by assumption) ?_
              rotate_left
              · intro w hSw
                (try dsimp only at hSw)
                go_simp
                (try with_reducible rfl)
              try simp only [Act.put, List.setIfInBounds_toArray, List.set_cons_zero, List.set_cons_succ]
              refine wpAnyH_ready (rs := [30]) (by kernel_rfl) (by simp) ?_
              refine AllReadyH.cons (o := ({ dst := some 222, op := Op.call { callee := Callee.value (Operand.func 20), args := #[Operand.tmp 221, Operand.const (Value.int IntKind.i64 0), Operand.const (Value.int IntKind.i64 0)], argTypes := #[31, 41, 3] }, type := 4, pos := "law.go:91", after := #[{ on := 29, ground := Ground.data }, { on := 28, ground := Ground.chain }, { on := 28, ground := Ground.guard }], guard := some (28, true) } : Oper)) rfl (fun Kc hKc => ?_) AllReadyH.nil
              go_simp
              refine (has_nil _ _ _).mono ?_
              rintro e wq4 ⟨rfl, rfl⟩

              refine hKc.out _ _ ⟨ck, c11, m0⟩ (fun hHeld => ?_)
              clear hKc Kc
              try simp only [Act.put, List.setIfInBounds_toArray, List.set_cons_zero, List.set_cons_succ]
              refine wpAnyH_take (i := 31) (oi := ({ dst := some 223, op := Op.unOp UnOp.not 4 (Operand.tmp 222), type := 4, pos := "law.go:91", after := #[{ on := 30, ground := Ground.data }, { on := 28, ground := Ground.guard }], guard := some (28, true) } : Oper)) (v := ?_) rfl (by kernel_rfl) (by kernel_rfl) (by kernel_rfl) (fun _ _ _ h => h) (Or.inl ⟨by rfl, ?_⟩) (by assumption) ?_
              rotate_left
              · intro w hSw
                (try dsimp only at hSw)
                go_simp
                (try with_reducible rfl)
              try simp only [Act.put, List.setIfInBounds_toArray, List.set_cons_zero, List.set_cons_succ]
              refine wpAnyH_take (i := 32) (oi := ({ dst := some 224, op := Op.pick (Operand.tmp 220) (Operand.tmp 223) (Operand.const (Value.bool false)), type := 4, pos := "law.go:91", after := #[{ on := 28, ground := Ground.data }, { on := 31, ground := Ground.data }], guard := none } : Oper)) (v := ?_) rfl (by kernel_rfl) (by kernel_rfl) (by kernel_rfl) (fun _ _ _ h => h) (Or.inl ⟨by rfl, ?_⟩) (by assumption) ?_
              rotate_left
              · intro w hSw
                (try dsimp only at hSw)
                go_simp
                (try with_reducible rfl)
              try simp only [Act.put, List.setIfInBounds_toArray, List.set_cons_zero, List.set_cons_succ]
              have cr : wq4.cell? ⟨gr, 0, none⟩ = some (.bool false) := (blk_cell q4.out.cr 0).trans rfl
              have crf := blk_frozen q4.out.cr
              refine wpAnyH_ready (rs := [33]) (by kernel_rfl) (by simp) ?_
              refine AllReadyH.cons (o := ({ dst := none, op := Op.store 4 (Operand.tmp 8) (Operand.tmp 224), type := 0, pos := "law.go:91", after := #[{ on := 32, ground := Ground.data }, { on := 30, ground := Ground.chain }, { on := 0, ground := Ground.phase }, { on := 1, ground := Ground.phase }, { on := 2, ground := Ground.phase }, { on := 3, ground := Ground.phase }, { on := 4, ground := Ground.phase }, { on := 5, ground := Ground.phase }, { on := 6, ground := Ground.phase }, { on := 7, ground := Ground.phase }, { on := 8, ground := Ground.phase }, { on := 9, ground := Ground.phase }, { on := 10, ground := Ground.phase }, { on := 11, ground := Ground.phase }, { on := 12, ground := Ground.phase }, { on := 13, ground := Ground.phase }, { on := 14, ground := Ground.phase }, { on := 15, ground := Ground.phase }, { on := 16, ground := Ground.phase }, { on := 17, ground := Ground.phase }, { on := 18, ground := Ground.phase }, { on := 19, ground := Ground.phase }, { on := 20, ground := Ground.phase }, { on := 21, ground := Ground.phase }, { on := 22, ground := Ground.phase }, { on := 23, ground := Ground.phase }, { on := 24, ground := Ground.phase }, { on := 25, ground := Ground.phase }, { on := 26, ground := Ground.phase }, { on := 27, ground := Ground.phase }, { on := 28, ground := Ground.phase }, { on := 29, ground := Ground.phase }, { on := 30, ground := Ground.phase }, { on := 31, ground := Ground.phase }, { on := 32, ground := Ground.phase }], guard := none } : Oper)) rfl (fun Kc hKc => ?_) AllReadyH.nil
              go_simp
              refine hKc.out _ _ ⟨(blk_cell (set_off Xq4.out (ty_ne Xq4.out q4.out.cr (by decide))) 0).trans rfl, (blk_cell (set_off q4.out.c11 (ty_ne q4.out.c11 q4.out.cr (by decide))) 0).trans rfl, (blk_cell (set_off q4.out.ms.1 (ty_ne q4.out.ms.1 q4.out.cr (by decide))) 0).trans rfl⟩ (fun hHeld => ?_)
              clear hKc Kc
              try simp only [Act.put, List.setIfInBounds_toArray, List.set_cons_zero, List.set_cons_succ]
              refine wpAnyH_done (by kernel_rfl) ?_ _
              refine NoPanic.normal ?_
              rw [HQx.out]
              clear HQx
              go_wp2
              have KZb : (wq4.setCell ⟨gr, 0, none⟩ (.bool true)).heap[gr]? = some (.cells #[.bool true] 4 (0, 0)) := by simpa using blk_set q4.out.cr 0 (.bool true)
              have KZB : Below w.heap.size w (wq4.setCell ⟨gr, 0, none⟩ (.bool true)) := below_set q4.out.bel HX.out
              have hDe2 := (KeepsOthers.setCell wq4 ⟨gr, 0, none⟩ (.bool true)).same D2 _ Eq4 rfl
              have hDe1 := (KeepsOthers.setCell wq4 ⟨gr, 0, none⟩ (.bool true)).same D _ Dq4 rfl
              have hbe2 := belowK_b (w := W0) (Nat.le_refl _) _ D2 _ (.deferred none) hDD hDe2 rfl rfl
              have hDe1' := ((grownBy_putObj' (wq4.setCell ⟨gr, 0, none⟩ (.bool true)) D2 (.deferred none)).block D (blk_lt hDe1) (fun e => hne (by injection e))).trans hDe1
              have hbe1 := belowK_b (w := W0) (Nat.le_refl _) _ D _ (.deferred none) hDs hDe1' rfl rfl
              have hbe := hbe2.trans hbe1
              refine ⟨by simp, .inl ⟨_, _, rfl, run_takeDeferred hDe2, by simp, .inl ⟨_, _, rfl, run_takeDeferred hDe1', ?_⟩⟩⟩
              exact ⟨_, results_bool (by rfl) _ _ gr (.bool true) (by rfl) ((blk_cell ((hbe.block _ hDr).trans KZb) 0).trans rfl), rfl, KZB.trans (hbe.mono hDw)⟩
          · have IS := fun W => countermandlaw12_is.calls kk ii false W (by rw [show countermandlaw12_is.f kk ii = _ from is_eq ⟨kk, ii⟩, decide_eq_false hx])
            have hvo : verN wd kk ii = 0 := by unfold verN; exact if_neg hx
            rw [hvo]
            clear hx hvo
            refine name_post (fun Qx hQx => ?_)
            have HQx := Aside0.mk hQx
            clear hQx
            refine wp_region_noPanic ?_
            refine wp_region_held_drew (S := (fun w' => w'.cell? ⟨gy, 0, none⟩ = some (.int .i64 kk) ∧ w'.cell? ⟨gy, 1, none⟩ = some (.int .i64 ii) ∧ w'.cell? ⟨g, 0, none⟩ = some (.slice B5 wd.length e5))) (by kernel_rfl) ⟨y0, y1, mw⟩ (fun hHeld => ?_)
            refine wpAnyH_take (i := 0) (oi := ({ dst := some 166, op := Op.load 24 (Operand.tmp 16), type := 24, pos := "law.go:84", after := #[], guard := none } : Oper)) (v := ?_) rfl (by kernel_rfl) (by kernel_rfl) (by kernel_rfl) (fun _ _ _ h => h) (Or.inl ⟨by rfl, ?_⟩) (by assumption) ?_
            rotate_left
            · intro w hSw
              (try dsimp only at hSw)
              go_simp
              (try with_reducible rfl)
            try simp only [Act.put, List.setIfInBounds_toArray, List.set_cons_zero, List.set_cons_succ]
            refine wpAnyH_ready (rs := [1]) (by kernel_rfl) (by simp) ?_
            refine AllReadyH.cons (o := ({ dst := some 167, op := Op.call { callee := Callee.value (Operand.func 26), args := #[Operand.tmp 166], argTypes := #[24] }, type := 4, pos := "law.go:84", after := #[{ on := 0, ground := Ground.data }], guard := none } : Oper)) rfl (fun Kc hKc => ?_) AllReadyH.nil
            go_simp
            refine (IS _).mono ?_
            rintro e wp1 ⟨rfl, hb7⟩
            have hb7 := (pw_below_drewN (Below.refl wB.heap.size wB) 1).trans hb7
            have p1 := Aside0.mk (KB.out.below hb7)
            have Xp1 := Aside0.mk ((hb7.block _ (blk_lt XB.out)).trans XB.out)
            have Dp1 := below_dfr hb7 DB
            have y0 := at_below hb7 y0
            have y1 := at_below hb7 y1
            have mw := at_below hb7 mw
            clear hb7
            refine hKc.out _ _ ⟨y0, y1, mw⟩ (fun hHeld => ?_)
            clear hKc Kc
            try simp only [Act.put, List.setIfInBounds_toArray, List.set_cons_zero, List.set_cons_succ]
            refine wpAnyH_take (i := 2) (oi := ({ dst := some 168, op := Op.move (Operand.tmp 167), type := 4, pos := "law.go:84", after := #[{ on := 1, ground := Ground.data }, { on := 1, ground := Ground.chain }], guard := none } : Oper)) (v := ?_) rfl (by kernel_rfl) (by kernel_rfl) (by kernel_rfl) (fun _ _ _ h => h) (Or.inl ⟨by rfl, ?_⟩) (by assumption) ?_
            rotate_left
            · intro w hSw
              (try dsimp only at hSw)
              go_simp
              (try with_reducible rfl)
            try simp only [Act.put, List.setIfInBounds_toArray, List.set_cons_zero, List.set_cons_succ]
            refine wpAnyH_take (i := 3) (oi := ({ dst := some 169, op := Op.move (Operand.tmp 17), type := 3, pos := "law.go:84", after := #[{ on := 2, ground := Ground.guard }], guard := some (2, true) } : Oper)) (v := undef) rfl (by kernel_rfl) (by kernel_rfl) (by kernel_rfl) (fun _ _ _ h => h) (Or.inr ⟨by rfl, rfl⟩) (by assumption) ?_
            try simp only [Act.put, List.setIfInBounds_toArray, List.set_cons_zero, List.set_cons_succ]
            refine wpAnyH_take (i := 4) (oi := ({ dst := some 170, op := Op.move (Operand.tmp 9), type := 28, pos := "law.go:84", after := #[{ on := 2, ground := Ground.guard }], guard := some (2, true) } : Oper)) (v := undef) rfl (by kernel_rfl) (by kernel_rfl) (by kernel_rfl) (fun _ _ _ h => h) (Or.inr ⟨by rfl, rfl⟩) (by assumption) ?_
            try simp only [Act.put, List.setIfInBounds_toArray, List.set_cons_zero, List.set_cons_succ]
            refine wpAnyH_take (i := 5) (oi := ({ dst := some 171, op := Op.load 24 (Operand.tmp 16), type := 24, pos := "law.go:84", after := #[{ on := 2, ground := Ground.guard }], guard := some (2, true) } : Oper)) (v := undef) rfl (by kernel_rfl) (by kernel_rfl) (by kernel_rfl) (fun _ _ _ h => h) (Or.inr ⟨by rfl, rfl⟩) (by assumption) ?_
            try simp only [Act.put, List.setIfInBounds_toArray, List.set_cons_zero, List.set_cons_succ]
            refine wpAnyH_take (i := 6) (oi := ({ dst := some 172, op := Op.move (Operand.tmp 9), type := 28, pos := "law.go:84", after := #[{ on := 2, ground := Ground.guard }], guard := some (2, true) } : Oper)) (v := undef) rfl (by kernel_rfl) (by kernel_rfl) (by kernel_rfl) (fun _ _ _ h => h) (Or.inr ⟨by rfl, rfl⟩) (by assumption) ?_
            try simp only [Act.put, List.setIfInBounds_toArray, List.set_cons_zero, List.set_cons_succ]
            refine wpAnyH_take (i := 7) (oi := ({ dst := some 173, op := Op.nilCheck (Operand.tmp 172), type := 0, pos := "law.go:84", after := #[{ on := 6, ground := Ground.data }, { on := 2, ground := Ground.guard }], guard := some (2, true) } : Oper)) (v := undef) rfl (by kernel_rfl) (by kernel_rfl) (by kernel_rfl) (fun _ _ _ h => h) (Or.inr ⟨by rfl, rfl⟩) (by assumption) ?_
            try simp only [Act.put, List.setIfInBounds_toArray, List.set_cons_zero, List.set_cons_succ]
            refine wpAnyH_take (i := 8) (oi := ({ dst := some 174, op := Op.fieldAddr 30 (Operand.tmp 173) 0, type := 0, pos := "law.go:84", after := #[{ on := 7, ground := Ground.data }, { on := 2, ground := Ground.guard }], guard := some (2, true) } : Oper)) (v := undef) rfl (by kernel_rfl) (by kernel_rfl) (by kernel_rfl) (fun _ _ _ h => h) (Or.inr ⟨by rfl, rfl⟩) (by assumption) ?_
            try simp only [Act.put, List.setIfInBounds_toArray, List.set_cons_zero, List.set_cons_succ]
            refine wpAnyH_take (i := 9) (oi := ({ dst := some 175, op := Op.load 27 (Operand.tmp 174), type := 27, pos := "law.go:84", after := #[{ on := 8, ground := Ground.data }, { on := 2, ground := Ground.guard }], guard := some (2, true) } : Oper)) (v := undef) rfl (by kernel_rfl) (by kernel_rfl) (by kernel_rfl) (fun _ _ _ h => h) (Or.inr ⟨by rfl, rfl⟩) (by assumption) ?_
            try simp only [Act.put, List.setIfInBounds_toArray, List.set_cons_zero, List.set_cons_succ]
            refine wpAnyH_take (i := 10) (oi := ({ dst := some 176, op := Op.call { callee := Callee.builtin Builtin.len, args := #[Operand.tmp 175], argTypes := #[27] }, type := 3, pos := "law.go:84", after := #[{ on := 9, ground := Ground.data }, { on := 2, ground := Ground.guard }], guard := some (2, true) } : Oper)) (v := undef) rfl (by kernel_rfl) (by kernel_rfl) (by kernel_rfl) (fun _ _ _ h => h) (Or.inr ⟨by rfl, rfl⟩) (by assumption) ?_
            try simp only [Act.put, List.setIfInBounds_toArray, List.set_cons_zero, List.set_cons_succ]
            refine wpAnyH_take (i := 11) (oi := ({ dst := some 177, op := Op.call { callee := Callee.value (Operand.func 27), args := #[Operand.tmp 170, Operand.tmp 171, Operand.tmp 176], argTypes := #[28, 24, 3] }, type := 3, pos := "law.go:84", after := #[{ on := 4, ground := Ground.data }, { on := 5, ground := Ground.data }, { on := 10, ground := Ground.data }, { on := 2, ground := Ground.chain }, { on := 2, ground := Ground.guard }], guard := some (2, true) } : Oper)) (v := undef) rfl (by kernel_rfl) (by kernel_rfl) (by kernel_rfl) (fun _ _ _ h => h) (Or.inr ⟨by rfl, rfl⟩) (by assumption) ?_
            try simp only [Act.put, List.setIfInBounds_toArray, List.set_cons_zero, List.set_cons_succ]
            refine wpAnyH_take (i := 12) (oi := ({ dst := some 178, op := Op.binOp BinOp.neq 3 (Operand.tmp 169) (Operand.tmp 177) 3, type := 4, pos := "law.go:84", after := #[{ on := 3, ground := Ground.data }, { on := 11, ground := Ground.data }, { on := 2, ground := Ground.guard }], guard := some (2, true) } : Oper)) (v := undef) rfl (by kernel_rfl) (by kernel_rfl) (by kernel_rfl) (fun _ _ _ h => h) (Or.inr ⟨by rfl, rfl⟩) (by assumption) ?_
            try simp only [Act.put, List.setIfInBounds_toArray, List.set_cons_zero, List.set_cons_succ]
            refine wpAnyH_take (i := 13) (oi := ({ dst := some 179, op := Op.pick (Operand.tmp 168) (Operand.tmp 178) (Operand.const (Value.bool false)), type := 4, pos := "law.go:84", after := #[{ on := 2, ground := Ground.data }, { on := 12, ground := Ground.data }], guard := none } : Oper)) (v := ?_) rfl (by kernel_rfl) (by kernel_rfl) (by kernel_rfl) (fun _ _ _ h => h) (Or.inl ⟨by rfl, ?_⟩) (by assumption) ?_
            rotate_left
            · intro w hSw
              (try dsimp only at hSw)
              go_simp
              (try with_reducible rfl)
            try simp only [Act.put, List.setIfInBounds_toArray, List.set_cons_zero, List.set_cons_succ]
            refine wpAnyH_take (i := 14) (oi := ({ dst := some 180, op := Op.move (Operand.tmp 179), type := 4, pos := "law.go:84", after := #[{ on := 13, ground := Ground.data }, { on := 11, ground := Ground.chain }], guard := none } : Oper)) (v := ?_) rfl (by kernel_rfl) (by kernel_rfl) (by kernel_rfl) (fun _ _ _ h => h) (Or.inl ⟨by rfl, ?_⟩) (by assumption) ?_
            rotate_left
            · intro w hSw
              (try dsimp only at hSw)
              go_simp
              (try with_reducible rfl)
            try simp only [Act.put, List.setIfInBounds_toArray, List.set_cons_zero, List.set_cons_succ]
            refine wpAnyH_take (i := 15) (oi := ({ dst := some 181, op := Op.load 24 (Operand.tmp 16), type := 24, pos := "law.go:84", after := #[{ on := 14, ground := Ground.guard }], guard := some (14, false) } : Oper)) (v := ?_) rfl (by kernel_rfl) (by kernel_rfl) (by kernel_rfl) (fun _ _ _ h => h) (Or.inl ⟨by rfl, ?_⟩) (by assumption) ?_
            rotate_left
            · intro w hSw
              (try dsimp only at hSw)
              go_simp
              (try with_reducible rfl)
            try simp only [Act.put, List.setIfInBounds_toArray, List.set_cons_zero, List.set_cons_succ]
            refine wpAnyH_ready (rs := [16]) (by kernel_rfl) (by simp) ?_
            refine AllReadyH.cons (o := ({ dst := some 182, op := Op.call { callee := Callee.value (Operand.func 26), args := #[Operand.tmp 181], argTypes := #[24] }, type := 4, pos := "law.go:84", after := #[{ on := 15, ground := Ground.data }, { on := 14, ground := Ground.chain }, { on := 14, ground := Ground.guard }], guard := some (14, false) } : Oper)) rfl (fun Kc hKc => ?_) AllReadyH.nil
            go_simp
            refine (IS _).mono ?_
            rintro e wp2 ⟨rfl, hb7⟩
            have p2 := Aside0.mk (p1.out.below hb7)
            have Xp2 := Aside0.mk ((hb7.block _ (blk_lt Xp1.out)).trans Xp1.out)
            have Dp2 := below_dfr hb7 Dp1
            have y0 := at_below hb7 y0
            have y1 := at_below hb7 y1
            have mw := at_below hb7 mw
            clear hb7
            refine hKc.out _ _ ⟨y0, y1, mw⟩ (fun hHeld => ?_)
            clear hKc Kc
            try simp only [Act.put, List.setIfInBounds_toArray, List.set_cons_zero, List.set_cons_succ]
            refine wpAnyH_take (i := 17) (oi := ({ dst := some 183, op := Op.unOp UnOp.not 4 (Operand.tmp 182), type := 4, pos := "law.go:84", after := #[{ on := 16, ground := Ground.data }, { on := 14, ground := Ground.guard }], guard := some (14, false) } : Oper)) (v := ?_) rfl (by kernel_rfl) (by kernel_rfl) (by kernel_rfl) (fun _ _ _ h => h) (Or.inl ⟨by rfl, ?_⟩) (by assumption) ?_
            rotate_left
            · intro w hSw
              (try dsimp only at hSw)
              go_simp
              (try with_reducible rfl)
            try simp only [Act.put, List.setIfInBounds_toArray, List.set_cons_zero, List.set_cons_succ]
            refine wpAnyH_take (i := 18) (oi := ({ dst := some 184, op := Op.move (Operand.tmp 183), type := 4, pos := "law.go:84", after := #[{ on := 17, ground := Ground.data }, { on := 16, ground := Ground.chain }, { on := 14, ground := Ground.guard }], guard := some (14, false) } : Oper)) (v := ?_) rfl (by kernel_rfl) (by kernel_rfl) (by kernel_rfl) (fun _ _ _ h => h) (Or.inl ⟨by rfl, ?_⟩) (by assumption) ?_
            rotate_left
            · intro w hSw
              (try dsimp only at hSw)
              go_simp
              (try with_reducible rfl)
            try simp only [Act.put, List.setIfInBounds_toArray, List.set_cons_zero, List.set_cons_succ]
            refine wpAnyH_take (i := 19) (oi := ({ dst := some 185, op := Op.move (Operand.tmp 17), type := 3, pos := "law.go:84", after := #[{ on := 18, ground := Ground.guard }], guard := some (18, true) } : Oper)) (v := ?_) rfl (by kernel_rfl) (by kernel_rfl) (by kernel_rfl) (fun _ _ _ h => h) (Or.inl ⟨by rfl, ?_⟩) (by assumption) ?_
            rotate_left
            · intro w hSw
              (try dsimp only at hSw)
              go_simp
              (try with_reducible rfl)
            try simp only [Act.put, List.setIfInBounds_toArray, List.set_cons_zero, List.set_cons_succ]
            refine wpAnyH_take (i := 20) (oi := ({ dst := some 186, op := Op.binOp BinOp.neq 3 (Operand.tmp 185) (Operand.const (Value.int IntKind.i64 0)) 3, type := 4, pos := "law.go:84", after := #[{ on := 19, ground := Ground.data }, { on := 18, ground := Ground.guard }], guard := some (18, true) } : Oper)) (v := ?_) rfl (by kernel_rfl) (by kernel_rfl) (by kernel_rfl) (fun _ _ _ h => h) (Or.inl ⟨by rfl, ?_⟩) (by assumption) ?_
            rotate_left
            · intro w hSw
              (try dsimp only at hSw)
              go_simp
              (try with_reducible rfl)
            try simp only [Act.put, List.setIfInBounds_toArray, List.set_cons_zero, List.set_cons_succ]
            refine wpAnyH_take (i := 21) (oi := ({ dst := some 187, op := Op.pick (Operand.tmp 184) (Operand.tmp 186) (Operand.const (Value.bool false)), type := 4, pos := "law.go:84", after := #[{ on := 18, ground := Ground.data }, { on := 20, ground := Ground.data }, { on := 14, ground := Ground.guard }], guard := some (14, false) } : Oper)) (v := ?_) rfl (by kernel_rfl) (by kernel_rfl) (by kernel_rfl) (fun _ _ _ h => h) (Or.inl ⟨by rfl, ?_⟩) (by assumption) ?_
            rotate_left
            · intro w hSw
              (try dsimp only at hSw)
              go_simp
              (try with_reducible rfl)
            try simp only [Act.put, List.setIfInBounds_toArray, List.set_cons_zero, List.set_cons_succ]
            refine wpAnyH_take (i := 22) (oi := ({ dst := some 188, op := Op.pick (Operand.tmp 180) (Operand.const (Value.bool true)) (Operand.tmp 187), type := 4, pos := "law.go:84", after := #[{ on := 14, ground := Ground.data }, { on := 21, ground := Ground.data }], guard := none } : Oper)) (v := ?_) rfl (by kernel_rfl) (by kernel_rfl) (by kernel_rfl) (fun _ _ _ h => h) (Or.inl ⟨by rfl, ?_⟩) (by assumption) ?_
            rotate_left
            · intro w hSw
              (try dsimp only at hSw)
              go_simp
              (try with_reducible rfl)
            try simp only [Act.put, List.setIfInBounds_toArray, List.set_cons_zero, List.set_cons_succ]
            refine wpAnyH_done (by kernel_rfl) ?_ _
            refine NoPanic.normal ?_
            rw [HQx.out]
            clear HQx
            have KZ := p2
            have XZ := Xp2
            have DZ := Dp2
            clear y0 y1 mw  p1 Xp1 Dp1 p2 Xp2 Dp2 IS
            generalize wp2 = wZ at KZ XZ DZ ⊢
            go_wp2_with (go_at_call 19; refine (all_nil _).mono ?_; rintro e wz2 ⟨rfl, rfl⟩)
            refine name_act (fun T hT => ?_)
            dsimp only at hT
            have HT := Aside0.mk hT
            clear hT
            refine (wpIn_wide (n := 9)).1 ?_
            refine wpIn_rangeFunc_ownH rfl (by decide) (gf := 36) (lb := #[]) rfl trivial (enters_of Try.func36 (by kernel_rfl) rfl)
              (none_stops Fence.wide 8 trivial rfl (Below wz2.heap.size) wz2) belowK_t (belowK_b (Nat.le_refl _)) (Below.refl _ _) (fun _ => rfl)
              (fun pre W => Below wz2.heap.size wz2 W) (fun c pre W => False) (ownFrom_below (Nat.le_refl _) (Nat.le_refl _)) (fun c => ownFrom_pure _ (fun _ => False)) (Below.refl _ _)
              (fun x a' W => True)
              (fun x a' _ X Y row hs hg hr => hs)
              ?assign ?body ?done ?stop
            case assign =>
              rintro lp pre ⟨a, b, d⟩ W K hB hK
              dsimp only [ent]
              gi_wp2
              exact hK _ _ ⟨Nat.le_refl _, fun k o hk h0 ho => h0⟩ (Below.refl _ _) hB trivial
            case body =>
              rintro lp pre x a' W hlp hr hB hA hlt
              exact absurd hlt (Nat.not_lt_zero _)
            case stop =>
              rintro D2 c pre W hD hpre hF hK
              exact hF.elim
            case done =>
              rintro D2 zs2 W2 hD2 hzs hB2 hK2
              have K20 := Aside0.mk (KZ.out.below hB2)
              have X20 := Aside0.mk ((hB2.block _ (blk_lt XZ.out)).trans XZ.out)
              have D20 := below_dfr hB2 DZ
              have hDD : W0.heap.size ≤ D2 := Nat.le_trans hDs (Nat.le_trans (Nat.le_of_lt (blk_lt DZ)) hD2)
              have hne : D ≠ D2 := by have := blk_lt DZ; omega
              have ck : W2.cell? ⟨gk, 0, none⟩ = some (.int .i64 (zs.length : Int)) := (blk_cell X20.out 0).trans rfl
              have c11 : W2.cell? ⟨g + 1 + 1 + 1 + 1, 0, none⟩ = some (.pointer (some ⟨g + 1 + 1, 0, none⟩)) := (blk_cell K20.out.c11 0).trans rfl
              have m0 : W2.cell? ⟨g + 1 + 1, 0, none⟩ = some (.slice Am zs.length cm) := (blk_cell K20.out.ms.1 0).trans rfl
              have NW := fun W h => now_ok (g) wd (.slice B5 wd.length e5) w W h (by omega)
              clear KZ XZ DZ HT hzs
              go_wp2_with (fail)
              refine name_post (fun Qx hQx => ?_)
              have HQx := Aside0.mk hQx
              clear hQx
              refine wp_region_noPanic ?_
              refine wp_region_held_drew (S := (fun w' => w'.cell? ⟨gk, 0, none⟩ = some (.int .i64 (zs.length : Int)) ∧ w'.cell? ⟨g + 1 + 1 + 1 + 1, 0, none⟩ = some (.pointer (some ⟨g + 1 + 1, 0, none⟩)) ∧ w'.cell? ⟨g + 1 + 1, 0, none⟩ = some (.slice Am zs.length cm))) (by kernel_rfl) ⟨ck, c11, m0⟩ (fun hHeld => ?_)
              refine wpAnyH_take (i := 0) (oi := ({ dst := some 192, op := Op.load 3 (Operand.tmp 14), type := 3, pos := "law.go:91", after := #[], guard := none } : Oper)) (v := ?_) rfl (by kernel_rfl) (by kernel_rfl) (by kernel_rfl) (fun _ _ _ h => h) (Or.inl ⟨by rfl, ?_⟩) (by assumption) ?_
              rotate_left
              · intro w hSw
                (try dsimp only at hSw)
                go_simp
                (try with_reducible rfl)
              try simp only [Act.put, List.setIfInBounds_toArray, List.set_cons_zero, List.set_cons_succ]
              refine wpAnyH_take (i := 1) (oi := ({ dst := some 193, op := Op.load 50 (Operand.tmp 11), type := 50, pos := "law.go:91", after := #[], guard := none } : Oper)) (v := ?_) rfl (by kernel_rfl) (by kernel_rfl) (by kernel_rfl) (fun _ _ _ h => h) (Or.inl ⟨by rfl, ?_⟩) (by assumption) ?_
              rotate_left
              · intro w hSw
                (try dsimp only at hSw)
                go_simp
                (try with_reducible rfl)
              try simp only [Act.put, List.setIfInBounds_toArray, List.set_cons_zero, List.set_cons_succ]
              refine wpAnyH_take (i := 2) (oi := ({ dst := some 194, op := Op.nilCheck (Operand.tmp 193), type := 0, pos := "law.go:91", after := #[{ on := 1, ground := Ground.data }], guard := none } : Oper)) (v := ?_) rfl (by kernel_rfl) (by kernel_rfl) (by kernel_rfl) (fun _ _ _ h => h) (Or.inl ⟨by rfl, ?_⟩) (by assumption) ?_
              rotate_left
              · intro w hSw
                (try dsimp only at hSw)
                go_simp
                (try with_reducible rfl)
              try simp only [Act.put, List.setIfInBounds_toArray, List.set_cons_zero, List.set_cons_succ]
              refine wpAnyH_take (i := 3) (oi := ({ dst := some 195, op := Op.fieldAddr 53 (Operand.tmp 194) 0, type := 0, pos := "law.go:91", after := #[{ on := 2, ground := Ground.data }], guard := none } : Oper)) (v := ?_) rfl (by kernel_rfl) (by kernel_rfl) (by kernel_rfl) (fun _ _ _ h => h) (Or.inl ⟨by rfl, ?_⟩) (by assumption) ?_
              rotate_left
              · intro w hSw
                (try dsimp only at hSw)
                go_simp
                (try with_reducible rfl)
              try simp only [Act.put, List.setIfInBounds_toArray, List.set_cons_zero, List.set_cons_succ]
              refine wpAnyH_take (i := 4) (oi := ({ dst := some 196, op := Op.load 27 (Operand.tmp 195), type := 27, pos := "law.go:91", after := #[{ on := 3, ground := Ground.data }], guard := none } : Oper)) (v := ?_) rfl (by kernel_rfl) (by kernel_rfl) (by kernel_rfl) (fun _ _ _ h => h) (Or.inl ⟨by rfl, ?_⟩) (by assumption) ?_
              rotate_left
              · intro w hSw
                (try dsimp only at hSw)
                go_simp
                (try with_reducible rfl)
              try simp only [Act.put, List.setIfInBounds_toArray, List.set_cons_zero, List.set_cons_succ]
              refine wpAnyH_take (i := 5) (oi := ({ dst := some 197, op := Op.call { callee := Callee.builtin Builtin.len, args := #[Operand.tmp 196], argTypes := #[27] }, type := 3, pos := "law.go:91", after := #[{ on := 4, ground := Ground.data }], guard := none } : Oper)) (v := ?_) rfl (by kernel_rfl) (by kernel_rfl) (by kernel_rfl) (fun _ _ _ h => h) (Or.inl ⟨by rfl, ?_⟩) (by assumption) ?_
              rotate_left
              · intro w hSw
                (try dsimp only at hSw)
                go_simp
                (try with_reducible rfl)
              try simp only [Act.put, List.setIfInBounds_toArray, List.set_cons_zero, List.set_cons_succ]
              refine wpAnyH_take (i := 6) (oi := ({ dst := some 198, op := Op.binOp BinOp.eql 3 (Operand.tmp 192) (Operand.tmp 197) 3, type := 4, pos := "law.go:91", after := #[{ on := 0, ground := Ground.data }, { on := 5, ground := Ground.data }], guard := none } : Oper)) (v := ?_) rfl (by kernel_rfl) (by kernel_rfl) (by kernel_rfl) (fun _ _ _ h => h) (Or.inl ⟨by rfl, ?_⟩) (by assumption) ?_
              rotate_left
              · intro w hSw
                (try dsimp only at hSw)
                go_simp
                (try with_reducible rfl)
              try simp only [Act.put, List.setIfInBounds_toArray, List.set_cons_zero, List.set_cons_succ]
              refine wpAnyH_take (i := 7) (oi := ({ dst := some 199, op := Op.move (Operand.tmp 198), type := 4, pos := "law.go:91", after := #[{ on := 6, ground := Ground.data }], guard := none } : Oper)) (v := ?_) rfl (by kernel_rfl) (by kernel_rfl) (by kernel_rfl) (fun _ _ _ h => h) (Or.inl ⟨by rfl, ?_⟩) (by assumption) ?_
              rotate_left
              · intro w hSw
                (try dsimp only at hSw)
                go_simp
                (try with_reducible rfl)
              try simp only [Act.put, List.setIfInBounds_toArray, List.set_cons_zero, List.set_cons_succ]
              refine wpAnyH_take (i := 8) (oi := ({ dst := some 200, op := Op.move (Operand.tmp 18), type := 31, pos := "law.go:91", after := #[{ on := 7, ground := Ground.guard }], guard := some (7, true) } : Oper)) (v := ?_) rfl (by kernel_rfl) (by kernel_rfl) (by kernel_rfl) (fun _ _ _ h => h) (Or.inl ⟨by rfl, ?_⟩) (by assumption) ?_
              rotate_left
              · intro w hSw
                (try dsimp only at hSw)
                go_simp
                (try with_reducible rfl)
              try simp only [Act.put, List.setIfInBounds_toArray, List.set_cons_zero, List.set_cons_succ]
              refine wpAnyH_take (i := 9) (oi := ({ dst := some 201, op := Op.move (Operand.tmp 9), type := 28, pos := "law.go:91", after := #[{ on := 7, ground := Ground.guard }], guard := some (7, true) } : Oper)) (v := ?_) rfl (by kernel_rfl) (by kernel_rfl) (by kernel_rfl) (fun _ _ _ h => h) (Or.inl ⟨by rfl, ?_⟩) (by assumption) ?_
              rotate_left
              · intro w hSw
                (try dsimp only at hSw)
                go_simp
                (try with_reducible rfl)
              try simp only [Act.put, List.setIfInBounds_toArray, List.set_cons_zero, List.set_cons_succ]
              refine wpAnyH_ready (rs := [10]) (by kernel_rfl) (by simp) ?_
              refine AllReadyH.cons (o := ({ dst := some 202, op := Op.call { callee := Callee.value (Operand.func 17), args := #[Operand.tmp 201], argTypes := #[28] }, type := 39, pos := "law.go:91", after := #[{ on := 9, ground := Ground.data }, { on := 7, ground := Ground.chain }, { on := 7, ground := Ground.guard }], guard := some (7, true) } : Oper)) rfl (fun Kc hKc => ?_) AllReadyH.nil
              go_simp
              refine (NW _ (K20.out.wd.below (pw_below_drewN (Below.refl _ _) 1))).mono ?_
              rintro e wq1 ⟨rfl, hb7⟩
              have hb7 := (pw_below_drewN (Below.refl W2.heap.size W2) 1).trans hb7
              have q1 := Aside0.mk (K20.out.below hb7)
              have Xq1 := Aside0.mk ((hb7.block _ (blk_lt X20.out)).trans X20.out)
              have Dq1 := below_dfr hb7 D20
              have Eq1 := below_dfr hb7 hK2
              have ck := at_below hb7 ck
              have c11 := at_below hb7 c11
              have m0 := at_below hb7 m0
              clear hb7
              refine hKc.out _ _ ⟨ck, c11, m0⟩ (fun hHeld => ?_)
              clear hKc Kc
              try simp only [Act.put, List.setIfInBounds_toArray, List.set_cons_zero, List.set_cons_succ]
              refine wpAnyH_ready (rs := [11]) (by kernel_rfl) (by simp) ?_
              refine AllReadyH.cons (o := ({ dst := some 203, op := Op.call { callee := Callee.value (Operand.func 18), args := #[Operand.tmp 200, Operand.tmp 202], argTypes := #[31, 39] }, type := 4, pos := "law.go:91", after := #[{ on := 8, ground := Ground.data }, { on := 10, ground := Ground.data }, { on := 10, ground := Ground.chain }, { on := 7, ground := Ground.guard }], guard := some (7, true) } : Oper)) rfl (fun Kc hKc => ?_) AllReadyH.nil
              go_simp
              refine (valid_nil _ _).mono ?_
              rintro e wq2 ⟨rfl, hb7⟩
              have q2 := Aside0.mk (q1.out.below hb7)
              have Xq2 := Aside0.mk ((hb7.block _ (blk_lt Xq1.out)).trans Xq1.out)
              have Dq2 := below_dfr hb7 Dq1
              have Eq2 := below_dfr hb7 Eq1
              have ck := at_below hb7 ck
              have c11 := at_below hb7 c11
              have m0 := at_below hb7 m0
              clear hb7
              refine hKc.out _ _ ⟨ck, c11, m0⟩ (fun hHeld => ?_)
              clear hKc Kc
              try simp only [Act.put, List.setIfInBounds_toArray, List.set_cons_zero, List.set_cons_succ]
              refine wpAnyH_take (i := 12) (oi := ({ dst := some 204, op := Op.pick (Operand.tmp 199) (Operand.tmp 203) (Operand.const (Value.bool false)), type := 4, pos := "law.go:91", after := #[{ on := 7, ground := Ground.data }, { on := 11, ground := Ground.data }], guard := none } : Oper)) (v := ?_) rfl (by kernel_rfl) (by kernel_rfl) (by kernel_rfl) (fun _ _ _ h => h) (Or.inl ⟨by rfl, ?_⟩) (by assumption) ?_
              rotate_left
              · intro w hSw
                (try dsimp only at hSw)
                go_simp
                (try with_reducible rfl)
              try simp only [Act.put, List.setIfInBounds_toArray, List.set_cons_zero, List.set_cons_succ]
              refine wpAnyH_take (i := 13) (oi := ({ dst := some 205, op := Op.move (Operand.tmp 204), type := 4, pos := "law.go:91", after := #[{ on := 12, ground := Ground.data }, { on := 11, ground := Ground.chain }], guard := none } : Oper)) (v := ?_) rfl (by kernel_rfl) (by kernel_rfl) (by kernel_rfl) (fun _ _ _ h => h) (Or.inl ⟨by rfl, ?_⟩) (by assumption) ?_
              rotate_left
              · intro w hSw
                (try dsimp only at hSw)
                go_simp
                (try with_reducible rfl)
              try simp only [Act.put, List.setIfInBounds_toArray, List.set_cons_zero, List.set_cons_succ]
              refine wpAnyH_take (i := 14) (oi := ({ dst := some 206, op := Op.move (Operand.tmp 18), type := 31, pos := "law.go:91", after := #[{ on := 13, ground := Ground.guard }], guard := some (13, true) } : Oper)) (v := ?_) rfl (by kernel_rfl) (by kernel_rfl) (by kernel_rfl) (fun _ _ _ h => h) (Or.inl ⟨by rfl, ?_⟩) (by assumption) ?_
              rotate_left
              · intro w hSw
                (try dsimp only at hSw)
                go_simp
                (try with_reducible rfl)
              try simp only [Act.put, List.setIfInBounds_toArray, List.set_cons_zero, List.set_cons_succ]
              refine wpAnyH_take (i := 15) (oi := ({ dst := some 207, op := Op.move (Operand.tmp 9), type := 28, pos := "law.go:91", after := #[{ on := 13, ground := Ground.guard }], guard := some (13, true) } : Oper)) (v := ?_) rfl (by kernel_rfl) (by kernel_rfl) (by kernel_rfl) (fun _ _ _ h => h) (Or.inl ⟨by rfl, ?_⟩) (by assumption) ?_
              rotate_left
              · intro w hSw
                (try dsimp only at hSw)
                go_simp
                (try with_reducible rfl)
              try simp only [Act.put, List.setIfInBounds_toArray, List.set_cons_zero, List.set_cons_succ]
              refine wpAnyH_ready (rs := [16]) (by kernel_rfl) (by simp) ?_
              refine AllReadyH.cons (o := ({ dst := some 208, op := Op.call { callee := Callee.value (Operand.func 17), args := #[Operand.tmp 207], argTypes := #[28] }, type := 39, pos := "law.go:91", after := #[{ on := 15, ground := Ground.data }, { on := 13, ground := Ground.chain }, { on := 13, ground := Ground.guard }], guard := some (13, true) } : Oper)) rfl (fun Kc hKc => ?_) AllReadyH.nil
              go_simp
              refine (NW _ q2.out.wd).mono ?_
              rintro e wq3 ⟨rfl, hb7⟩
              have q3 := Aside0.mk (q2.out.below hb7)
              have Xq3 := Aside0.mk ((hb7.block _ (blk_lt Xq2.out)).trans Xq2.out)
              have Dq3 := below_dfr hb7 Dq2
              have Eq3 := below_dfr hb7 Eq2
              have ck := at_below hb7 ck
              have c11 := at_below hb7 c11
              have m0 := at_below hb7 m0
              clear hb7
              refine hKc.out _ _ ⟨ck, c11, m0⟩ (fun hHeld => ?_)
              clear hKc Kc
              try simp only [Act.put, List.setIfInBounds_toArray, List.set_cons_zero, List.set_cons_succ]
              refine wpAnyH_ready (rs := [17]) (by kernel_rfl) (by simp) ?_
              refine AllReadyH.cons (o := ({ dst := some 209, op := Op.call { callee := Callee.value (Operand.func 16), args := #[Operand.tmp 206, Operand.tmp 208, Operand.const (Value.int IntKind.i64 0), Operand.const (Value.int IntKind.i64 0)], argTypes := #[31, 39, 41, 3] }, type := 4, pos := "law.go:91", after := #[{ on := 14, ground := Ground.data }, { on := 16, ground := Ground.data }, { on := 16, ground := Ground.chain }, { on := 13, ground := Ground.guard }], guard := some (13, true) } : Oper)) rfl (fun Kc hKc => ?_) AllReadyH.nil
              go_simp
              refine (note_nil _ _ _ _).mono ?_
              rintro e wq4 ⟨rfl, hb7⟩
              have q4 := Aside0.mk (q3.out.below hb7)
              have Xq4 := Aside0.mk ((hb7.block _ (blk_lt Xq3.out)).trans Xq3.out)
              have Dq4 := below_dfr hb7 Dq3
              have Eq4 := below_dfr hb7 Eq3
              have ck := at_below hb7 ck
              have c11 := at_below hb7 c11
              have m0 := at_below hb7 m0
              clear hb7
              refine hKc.out _ _ ⟨ck, c11, m0⟩ (fun hHeld => ?_)
              clear hKc Kc
              try simp only [Act.put, List.setIfInBounds_toArray, List.set_cons_zero, List.set_cons_succ]
              refine wpAnyH_take (i := 18) (oi := ({ dst := some 210, op := Op.unOp UnOp.not 4 (Operand.tmp 209), type := 4, pos := "law.go:91", after := #[{ on := 17, ground := Ground.data }, { on := 13, ground := Ground.guard }], guard := some (13, true) } : Oper)) (v := ?_) rfl (by kernel_rfl) (by kernel_rfl) (by kernel_rfl) (fun _ _ _ h => h) (Or.inl ⟨by rfl, ?_⟩) (by assumption) ?_
              rotate_left
              · intro w hSw
                (try dsimp only at hSw)
                go_simp
                (try with_reducible rfl)
              try simp only [Act.put, List.setIfInBounds_toArray, List.set_cons_zero, List.set_cons_succ]
              refine wpAnyH_take (i := 19) (oi := ({ dst := some 211, op := Op.pick (Operand.tmp 205) (Operand.tmp 210) (Operand.const (Value.bool false)), type := 4, pos := "law.go:91", after := #[{ on := 13, ground := Ground.data }, { on := 18, ground := Ground.data }], guard := none } : Oper)) (v := ?_) rfl (by kernel_rfl) (by kernel_rfl) (by kernel_rfl) (fun _ _ _ h => h) (Or.inl ⟨by rfl, ?_⟩) (by assumption) ?_
              rotate_left
              · intro w hSw
                (try dsimp only at hSw)
                go_simp
                (try with_reducible rfl)
              try simp only [Act.put, List.setIfInBounds_toArray, List.set_cons_zero, List.set_cons_succ]
              refine wpAnyH_take (i := 20) (oi := ({ dst := some 212, op := Op.move (Operand.tmp 211), type := 4, pos := "law.go:91", after := #[{ on := 19, ground := Ground.data }, { on := 17, ground := Ground.chain }], guard := none } : Oper)) (v := ?_) rfl (by kernel_rfl) (by kernel_rfl) (by kernel_rfl) (fun _ _ _ h => h) (Or.inl ⟨by rfl, ?_⟩) (by assumption) ?_
              rotate_left
              · intro w hSw
                (try dsimp only at hSw)
                go_simp
                (try with_reducible rfl)
              try simp only [Act.put, List.setIfInBounds_toArray, List.set_cons_zero, List.set_cons_succ]
              refine wpAnyH_take (i := 21) (oi := ({ dst := some 213, op := Op.move (Operand.tmp 18), type := 31, pos := "law.go:91", after := #[{ on := 20, ground := Ground.guard }], guard := some (20, true) } : Oper)) (v := ?_) rfl (by kernel_rfl) (by kernel_rfl) (by kernel_rfl) (fun _ _ _ h => h) (Or.inl ⟨by rfl, ?_⟩) (by assumption) ?_
              rotate_left
              · intro w hSw
                (try dsimp only at hSw)
                go_simp
                (try with_reducible rfl)
              try simp only [Act.put, List.setIfInBounds_toArray, List.set_cons_zero, List.set_cons_succ]
              refine wpAnyH_take (i := 23) (oi := ({ dst := some 215, op := Op.move (Operand.tmp 18), type := 31, pos := "law.go:91", after := #[{ on := 20, ground := Ground.guard }], guard := some (20, true) } : Oper)) (v := ?_) rfl (by kernel_rfl) (by kernel_rfl) (by kernel_rfl) (fun _ _ _ h => h) (Or.inl ⟨by rfl, ?_⟩) (by assumption) ?_
              rotate_left
              · intro w hSw
                (try dsimp only at hSw)
                go_simp
                (try with_reducible rfl)
              try simp only [Act.put, List.setIfInBounds_toArray, List.set_cons_zero, List.set_cons_succ]
              refine wpAnyH_ready (rs := [22]) (by kernel_rfl) (by simp) ?_
              refine AllReadyH.cons (o := ({ dst := some 214, op := Op.call { callee := Callee.value (Operand.func 23), args := #[Operand.tmp 213], argTypes := #[31] }, type := 3, pos := "law.go:91", after := #[{ on := 21, ground := Ground.data }, { on := 20, ground := Ground.chain }, { on := 20, ground := Ground.guard }], guard := some (20, true) } : Oper)) rfl (fun Kc hKc => ?_) AllReadyH.nil
              go_simp
              refine (stamp_nil _).mono ?_
              rintro e wq4 ⟨rfl, rfl⟩

              refine hKc.out _ _ ⟨ck, c11, m0⟩ (fun hHeld => ?_)
              clear hKc Kc
              try simp only [Act.put, List.setIfInBounds_toArray, List.set_cons_zero, List.set_cons_succ]
              refine wpAnyH_ready (rs := [24]) (by kernel_rfl) (by simp) ?_
              refine AllReadyH.cons (o := ({ dst := some 216, op := Op.call { callee := Callee.value (Operand.func 24), args := #[Operand.tmp 215], argTypes := #[31] }, type := 3, pos := "law.go:91", after := #[{ on := 23, ground := Ground.data }, { on := 22, ground := Ground.chain }, { on := 20, ground := Ground.guard }], guard := some (20, true) } : Oper)) rfl (fun Kc hKc => ?_) AllReadyH.nil
              go_simp
              refine (len_nil _).mono ?_
              rintro e wq4 ⟨rfl, rfl⟩

              refine hKc.out _ _ ⟨ck, c11, m0⟩ (fun hHeld => ?_)
              clear hKc Kc
              try simp only [Act.put, List.setIfInBounds_toArray, List.set_cons_zero, List.set_cons_succ]
              refine wpAnyH_take (i := 25) (oi := ({ dst := some 217, op := Op.binOp BinOp.add 3 (Operand.tmp 214) (Operand.tmp 216) 3, type := 3, pos := "law.go:91", after := #[{ on := 22, ground := Ground.data }, { on := 24, ground := Ground.data }, { on := 20, ground := Ground.guard }], guard := some (20, true) } : Oper)) (v := ?_) rfl (by kernel_rfl) (by kernel_rfl) (by kernel_rfl) (fun _ _ _ h => h) (Or.inl ⟨by rfl, ?_⟩) (by assumption) ?_
              rotate_left
              · intro w hSw
                (try dsimp only at hSw)
                go_simp
                (try with_reducible rfl)
              try simp only [Act.put, List.setIfInBounds_toArray, List.set_cons_zero, List.set_cons_succ]
              refine wpAnyH_take (i := 26) (oi := ({ dst := some 218, op := Op.binOp BinOp.eql 3 (Operand.tmp 217) (Operand.const (Value.int IntKind.i64 0)) 3, type := 4, pos := "law.go:91", after := #[{ on := 25, ground := Ground.data }, { on := 20, ground := Ground.guard }], guard := some (20, true) } : Oper)) (v := ?_) rfl (by kernel_rfl) (by kernel_rfl) (by kernel_rfl) (fun _ _ _ h => h) (Or.inl ⟨by rfl, ?_⟩) (by assumption) ?_
              rotate_left
              · intro w hSw
                (try dsimp only at hSw)
                go_simp
                (try with_reducible rfl)
              try simp only [Act.put, List.setIfInBounds_toArray, List.set_cons_zero, List.set_cons_succ]
              refine wpAnyH_take (i := 27) (oi := ({ dst := some 219, op := Op.pick (Operand.tmp 212) (Operand.tmp 218) (Operand.const (Value.bool false)), type := 4, pos := "law.go:91", after := #[{ on := 20, ground := Ground.data }, { on := 26, ground := Ground.data }], guard := none } : Oper)) (v := ?_) rfl (by kernel_rfl) (by kernel_rfl) (by kernel_rfl) (fun _ _ _ h => h) (Or.inl ⟨by rfl, ?_⟩) (by assumption) ?_
              rotate_left
              · intro w hSw
                (try dsimp only at hSw)
                go_simp
                (try with_reducible rfl)
              try simp only [Act.put, List.setIfInBounds_toArray, List.set_cons_zero, List.set_cons_succ]
              refine wpAnyH_take (i := 28) (oi := ({ dst := some 220, op := Op.move (Operand.tmp 219), type := 4, pos := "law.go:91", after := #[{ on := 27, ground := Ground.data }, { on := 24, ground := Ground.chain }], guard := none } : Oper)) (v := ?_) rfl (by kernel_rfl) (by kernel_rfl) (by kernel_rfl) (fun _ _ _ h => h) (Or.inl ⟨by rfl, ?_⟩) (by assumption) ?_
              rotate_left
              · intro w hSw
                (try dsimp only at hSw)
                go_simp
                (try with_reducible rfl)
              try simp only [Act.put, List.setIfInBounds_toArray, List.set_cons_zero, List.set_cons_succ]
              refine wpAnyH_take (i := 29) (oi := ({ dst := some 221, op := Op.move (Operand.tmp 18), type := 31, pos := "law.go:91", after := #[{ on := 28, ground := Ground.guard }], guard := some (28, true) } : Oper)) (v := ?_) rfl (by kernel_rfl) (by kernel_rfl) (by kernel_rfl) (fun _ _ _ h => h) (Or.inl ⟨by rfl, ?_⟩) (by assumption) ?_
              rotate_left
              · intro w hSw
                (try dsimp only at hSw)
                go_simp
                (try with_reducible rfl)
              try simp only [Act.put, List.setIfInBounds_toArray, List.set_cons_zero, List.set_cons_succ]
              refine wpAnyH_ready (rs := [30]) (by kernel_rfl) (by simp) ?_
              refine AllReadyH.cons (o := ({ dst := some 222, op := Op.call { callee := Callee.value (Operand.func 20), args := #[Operand.tmp 221, Operand.const (Value.int IntKind.i64 0), Operand.const (Value.int IntKind.i64 0)], argTypes := #[31, 41, 3] }, type := 4, pos := "law.go:91", after := #[{ on := 29, ground := Ground.data }, { on := 28, ground := Ground.chain }, { on := 28, ground := Ground.guard }], guard := some (28, true) } : Oper)) rfl (fun Kc hKc => ?_) AllReadyH.nil
              go_simp
              refine (has_nil _ _ _).mono ?_
              rintro e wq4 ⟨rfl, rfl⟩

              refine hKc.out _ _ ⟨ck, c11, m0⟩ (fun hHeld => ?_)
              clear hKc Kc
              try simp only [Act.put, List.setIfInBounds_toArray, List.set_cons_zero, List.set_cons_succ]
              refine wpAnyH_take (i := 31) (oi := ({ dst := some 223, op := Op.unOp UnOp.not 4 (Operand.tmp 222), type := 4, pos := "law.go:91", after := #[{ on := 30, ground := Ground.data }, { on := 28, ground := Ground.guard }], guard := some (28, true) } : Oper)) (v := ?_) rfl (by kernel_rfl) (by kernel_rfl) (by kernel_rfl) (fun _ _ _ h => h) (Or.inl ⟨by rfl, ?_⟩) (by assumption) ?_
              rotate_left
              · intro w hSw
                (try dsimp only at hSw)
                go_simp
                (try with_reducible rfl)
              try simp only [Act.put, List.setIfInBounds_toArray, List.set_cons_zero, List.set_cons_succ]
              refine wpAnyH_take (i := 32) (oi := ({ dst := some 224, op := Op.pick (Operand.tmp 220) (Operand.tmp 223) (Operand.const (Value.bool false)), type := 4, pos := "law.go:91", after := #[{ on := 28, ground := Ground.data }, { on := 31, ground := Ground.data }], guard := none } : Oper)) (v := ?_) rfl (by kernel_rfl) (by kernel_rfl) (by kernel_rfl) (fun _ _ _ h => h) (Or.inl ⟨by rfl, ?_⟩) (by assumption) ?_
              rotate_left
              · intro w hSw
                (try dsimp only at hSw)
                go_simp
                (try with_reducible rfl)
              try simp only [Act.put, List.setIfInBounds_toArray, List.set_cons_zero, List.set_cons_succ]
              have cr : wq4.cell? ⟨gr, 0, none⟩ = some (.bool false) := (blk_cell q4.out.cr 0).trans rfl
              have crf := blk_frozen q4.out.cr
              refine wpAnyH_ready (rs := [33]) (by kernel_rfl) (by simp) ?_
              refine AllReadyH.cons (o := ({ dst := none, op := Op.store 4 (Operand.tmp 8) (Operand.tmp 224), type := 0, pos := "law.go:91", after := #[{ on := 32, ground := Ground.data }, { on := 30, ground := Ground.chain }, { on := 0, ground := Ground.phase }, { on := 1, ground := Ground.phase }, { on := 2, ground := Ground.phase }, { on := 3, ground := Ground.phase }, { on := 4, ground := Ground.phase }, { on := 5, ground := Ground.phase }, { on := 6, ground := Ground.phase }, { on := 7, ground := Ground.phase }, { on := 8, ground := Ground.phase }, { on := 9, ground := Ground.phase }, { on := 10, ground := Ground.phase }, { on := 11, ground := Ground.phase }, { on := 12, ground := Ground.phase }, { on := 13, ground := Ground.phase }, { on := 14, ground := Ground.phase }, { on := 15, ground := Ground.phase }, { on := 16, ground := Ground.phase }, { on := 17, ground := Ground.phase }, { on := 18, ground := Ground.phase }, { on := 19, ground := Ground.phase }, { on := 20, ground := Ground.phase }, { on := 21, ground := Ground.phase }, { on := 22, ground := Ground.phase }, { on := 23, ground := Ground.phase }, { on := 24, ground := Ground.phase }, { on := 25, ground := Ground.phase }, { on := 26, ground := Ground.phase }, { on := 27, ground := Ground.phase }, { on := 28, ground := Ground.phase }, { on := 29, ground := Ground.phase }, { on := 30, ground := Ground.phase }, { on := 31, ground := Ground.phase }, { on := 32, ground := Ground.phase }], guard := none } : Oper)) rfl (fun Kc hKc => ?_) AllReadyH.nil
              go_simp
              refine hKc.out _ _ ⟨(blk_cell (set_off Xq4.out (ty_ne Xq4.out q4.out.cr (by decide))) 0).trans rfl, (blk_cell (set_off q4.out.c11 (ty_ne q4.out.c11 q4.out.cr (by decide))) 0).trans rfl, (blk_cell (set_off q4.out.ms.1 (ty_ne q4.out.ms.1 q4.out.cr (by decide))) 0).trans rfl⟩ (fun hHeld => ?_)
              clear hKc Kc
              try simp only [Act.put, List.setIfInBounds_toArray, List.set_cons_zero, List.set_cons_succ]
              refine wpAnyH_done (by kernel_rfl) ?_ _
              refine NoPanic.normal ?_
              rw [HQx.out]
              clear HQx
              go_wp2
              have KZb : (wq4.setCell ⟨gr, 0, none⟩ (.bool true)).heap[gr]? = some (.cells #[.bool true] 4 (0, 0)) := by simpa using blk_set q4.out.cr 0 (.bool true)
              have KZB : Below w.heap.size w (wq4.setCell ⟨gr, 0, none⟩ (.bool true)) := below_set q4.out.bel HX.out
              have hDe2 := (KeepsOthers.setCell wq4 ⟨gr, 0, none⟩ (.bool true)).same D2 _ Eq4 rfl
              have hDe1 := (KeepsOthers.setCell wq4 ⟨gr, 0, none⟩ (.bool true)).same D _ Dq4 rfl
              have hbe2 := belowK_b (w := W0) (Nat.le_refl _) _ D2 _ (.deferred none) hDD hDe2 rfl rfl
              have hDe1' := ((grownBy_putObj' (wq4.setCell ⟨gr, 0, none⟩ (.bool true)) D2 (.deferred none)).block D (blk_lt hDe1) (fun e => hne (by injection e))).trans hDe1
              have hbe1 := belowK_b (w := W0) (Nat.le_refl _) _ D _ (.deferred none) hDs hDe1' rfl rfl
              have hbe := hbe2.trans hbe1
              refine ⟨by simp, .inl ⟨_, _, rfl, run_takeDeferred hDe2, by simp, .inl ⟨_, _, rfl, run_takeDeferred hDe1', ?_⟩⟩⟩
              exact ⟨_, results_bool (by rfl) _ _ gr (.bool true) (by rfl) ((blk_cell ((hbe.block _ hDr).trans KZb) 0).trans rfl), rfl, KZB.trans (hbe.mono hDw)⟩
  · go_wp2
    exact ⟨_, results_bool (by rfl) _ _ gr (.bool true) (by rfl) ((blk_cell (blk_set K2.out.1 0 (.bool true)) 0).trans rfl), rfl, below_set K2.out.2 HX.out⟩
end
/-- what the walk leaves: that the steps are told apart -/
def countermandlaw12_ReadsNotes.Pure : Prop := ∀ (l0 : List (S24)) (l1 : List (S34)), ∃ k b, countermandlaw12_great.f k l0 l1 = some b ∧ (b = false → l1.length ≤ 80 ∧ l0.length ≤ 40 ∧ (∀ x ∈ l0, inT x) ∧ ∀ x ∈ l1, inT x.f0)
theorem countermandlaw12_ReadsNotes.walk (P : countermandlaw12_ReadsNotes.Pure) (a0 : Option Addr) (len0 cap0 : Nat) (z0 : List (S24)) (a1 : Option Addr) (len1 cap1 : Nat) (z1 : List (S34)) (x0 x1 : Int) (w : World) (w0 : z0.length = len0 ∧ Kd.C k24 w a0 z0.length z0 ∧ z0.length ≤ cap0 ∧ z0.length ≤ maxLen ∧ (∀ x ∈ z0, (Lit.int .i64 x.f0).wf = true ∧ (Lit.int .i64 x.f1).wf = true)) (w1 : z1.length = len1 ∧ Kd.C k34 w a1 z1.length z1 ∧ z1.length ≤ cap1 ∧ z1.length ≤ maxLen ∧ (∀ x ∈ z1, (Lit.int .i64 x.f0.f0).wf = true ∧ (Lit.int .i64 x.f0.f1).wf = true)) (h0 : (Lit.int .i64 x0).wf = true) (h1 : (Lit.int .i64 x1).wf = true) :
    Calls Try.prog 4 #[.slice a0 len0 cap0, .slice a1 len1 cap1, .int .i64 x0, .int .i64 x1] w fun e w' => e = .returned (.bool true) ∧ Below w.heap.size w w' := by
  obtain ⟨rfl, hr0, hc0, _⟩ := w0
  obtain ⟨rfl, hr1, hc1, _⟩ := w1
  exact notes_main P a0 cap0 z0 a1 cap1 z1 x0 x1 w hr0 hc0 hr1 hc1

end Go.Proofs.Ytfoefgckjaafnaa.PReadsNotes
