/- Written by a program of this session, which began as the kit's print and is turned in wip/printer: the plain form of each function, and that the Go code comes to it. -/
import Derived.Test.YtfimbmdbaaiemaaPFileWritesx0
import Derived.Test.YtfimbmdbaaiemaaHeld
namespace Go.Proofs.Ytfimbmdbaaiemaa.PFileWrites
open Go.RowKit Go.Proofs.YtfimbmdbaaiemaaW.PrintWords Go.Proofs.YtfimbmdbaaiemaaW.PrintLast Go.Proofs.YtfimbmdbaaiemaaW.PrintMore
attribute [local go_sem] max2_int min2_int max_two min_two max_three min_three max_four min_four   -- for this text's walks alone
set_option linter.unusedVariables false
set_option linter.unusedSimpArgs false

/-! ### file_Put: function 14 -/
@[go_sem] theorem fldA25_0 (x : Bool) (y : ByteArray) (w : World) : (Instr.field 25 (.agg #[.bool x, .string y]) 0).run Try.prog w = .ok (.bool x) w := by kernel_rfl
@[go_sem] theorem fldA25_1 (x : Bool) (y : ByteArray) (w : World) : (Instr.field 25 (.agg #[.bool x, .string y]) 1).run Try.prog w = .ok (.string y) w := by kernel_rfl
def putL (s : ByteArray) (at_ : Nat) (b : Int) : List Int := (Held.bytesI s ++ List.replicate (at_ + 1 - s.size) 0).set at_ b
theorem below_bytes {B : Nat} {w W : World} (h : Below B w W) (hB : B ≤ W.heap.size) (s : ByteArray) : Below B w (Lib.bytesWorld W 5 s) :=
  ⟨h.os, h.tape, h.output, by have := h.size; rw [Lib.bytesWorld_size]; omega, fun i hi => (Lib.bytesWorld_at_old W 5 s i (by omega)).trans (h.block i hi)⟩

theorem putL_len (s : ByteArray) (p m : Nat) (a2 : Int) (h : p < s.size + m) (hm : m = 0 ∨ s.size + m ≤ p + 1) : (putL s p a2).length = s.size + m := by
  unfold putL
  rw [List.length_set, List.length_append, Held.bytesI_len, List.length_replicate]
  omega
theorem putL_cell {s : ByteArray} {p m g : Nat} {a2 : Int} {w : World} (hc : ∀ j, j < s.size + m → w.cell? ⟨g, j, none⟩ = ((Held.bytesI s).map (Value.int .u8) ++ List.replicate m (Value.int .u8 0))[j]?) (hm : m = 0 ∨ s.size + m ≤ p + 1) (hp : p < s.size + m) {i : Nat} (hi : i < s.size + m) :
    (w.setCell ⟨g, p, none⟩ (.int .u8 a2)).cell? ⟨g, i, none⟩ = some (.int .u8 ((putL s p a2).getD i 0)) := by
  have hl := putL_len s p m a2 hp hm
  rw [List.getD_eq_getElem?_getD]
  by_cases he : i = p
  · subst he
    have hc' := hc i hi
    have hl2 : i < ((Held.bytesI s).map (Value.int .u8) ++ List.replicate m (Value.int .u8 0)).length := by rw [List.length_append, List.length_map, Held.bytesI_len, List.length_replicate]; omega
    rw [List.getElem?_eq_getElem hl2] at hc'
    rw [World.cell?_setCell_same _ _ _ hc']
    unfold putL
    rw [List.getElem?_set_self (by rw [List.length_append, Held.bytesI_len, List.length_replicate]; omega)]
    rfl
  · rw [World.cell?_setCell_other w ⟨g, p, none⟩ ⟨g, i, none⟩ _ (by intro e; injection e; omega), hc i hi]
    unfold putL
    rw [List.getElem?_set_ne (by omega)]
    have e : (Held.bytesI s).map (Value.int .u8) ++ List.replicate m (Value.int .u8 0) = (Held.bytesI s ++ List.replicate m 0).map (Value.int .u8) := by rw [List.map_append, List.map_replicate]
    rw [e, List.getElem?_map]
    rcases hm with rfl | hm
    · simp only [List.replicate_zero, List.append_nil]
      rw [List.getElem?_append_left (by rw [Held.bytesI_len]; omega)]
      have : i < (Held.bytesI s).length := by rw [Held.bytesI_len]; omega
      rw [List.getElem?_eq_getElem this]
      rfl
    · rw [show p + 1 - s.size = m by omega]
      have : i < (Held.bytesI s ++ List.replicate m (0 : Int)).length := by rw [List.length_append, Held.bytesI_len, List.length_replicate]; omega
      rw [List.getElem?_eq_getElem this]
      rfl
theorem below_alloc' {B : Nat} {a w : World} (h : Below B a w) (hB : B ≤ w.heap.size) (o : Obj) : Below B a (w.alloc o) := h.alloc hB o
def file_Put.f (a0_0 : Bool) (a0_1 : ByteArray) (a1 : Int) (a2 : Int) : Option (Bool × ByteArray) := if a1 < 0 then (some (a0_0, a0_1)) else (if a1 ≥ 32 then (some (a0_0, a0_1)) else (if a0_1.size ≤ 1099511627776 then (some (true, strOfNums (putL a0_1 a1.toNat a2))) else (none)))
set_option maxHeartbeats 400000 in
set_option maxRecDepth 100000 in
theorem put_early (a0_0 : Bool) (a0_1 : ByteArray) (a1 a2 : Int) (w : World) (h : decide (a1 < 0) = true ∨ decide (a1 < 0) = false ∧ decide (32 ≤ a1) = true) :
    Calls Try.prog 14 #[.agg #[.bool a0_0, .string a0_1], .int .i64 a1, .int .u8 a2] w fun e w' => e = .returned (.agg #[.bool a0_0, .string a0_1]) ∧ Below w.heap.size w w' := by
  have hu25 := Try.underlying25
  have key : ∀ W : World, W = ((w.alloc (Obj.cells #[Value.bool a0_0, Value.string a0_1] 25)).alloc (Obj.cells #[Value.bool a0_0, Value.string a0_1] 25)) → W.heap[w.heap.size + 1]? = some (.cells #[Value.bool a0_0, Value.string a0_1] 25 (0, 0)) ∧ Below w.heap.size w W := by
    rintro W rfl
    refine ⟨?_, below_alloc (below_alloc (Below.refl _ _) _) _⟩
    have := heap_alloc_new (w.alloc (Obj.cells #[Value.bool a0_0, Value.string a0_1] 25)) (Obj.cells #[Value.bool a0_0, Value.string a0_1] 25)
    simpa using this
  rcases h with h | ⟨h, h2⟩
  · go_enter Try.func14, Try.ntmps14
    go_wp2
    obtain ⟨k1, k2⟩ := key _ rfl
    exact bodyPost_ret (results_cell_row rfl _ _ (w.heap.size + 1) 25 #[.bool a0_0, .string a0_1] (0, 0) _ rfl k1 Try.underlying25 rfl (by kernel_rfl)) rfl ⟨rfl, k2⟩
  · go_enter Try.func14, Try.ntmps14
    go_wp2
    obtain ⟨k1, k2⟩ := key _ rfl
    exact bodyPost_ret (results_cell_row rfl _ _ (w.heap.size + 1) 25 #[.bool a0_0, .string a0_1] (0, 0) _ rfl k1 Try.underlying25 rfl (by kernel_rfl)) rfl ⟨rfl, k2⟩
theorem info5P : (Try.prog.info? 5).map (fun i => (i.zero, i.size, i.bytes)) = some (some (.int .u8 0), 1, 1) := by kernel_rfl
set_option maxHeartbeats 1600000 in
set_option maxRecDepth 100000 in
theorem put_late (a0_0 : Bool) (s : ByteArray) (p : Nat) (a2 : Int) (w : World) (hp : p < 32) (hs : s.size ≤ 1099511627776) :
    Calls Try.prog 14 #[.agg #[.bool a0_0, .string s], .int .i64 (p : Int), .int .u8 a2] w fun e w' => e = .returned (.agg #[.bool true, .string (strOfNums (putL s p a2))]) ∧ Below w.heap.size w w' := by
  have hu25 := Try.underlying25
  have hcv := fun wx => Lib.run_convert_string_bytes (P := Try.prog) wx 9 32 5 s Try.underlying9 Try.underlying32 Try.underlying5
  obtain ⟨i0, hi, hz0, hz1, hz2⟩ := info_parts info5P
  have h1 : decide ((p : Int) < 0) = false := by simp
  have h2 : decide ((32 : Int) ≤ (p : Int)) = false := by simp; omega
  go_enter Try.func14, Try.ntmps14
  go_wp2
  obtain ⟨W0, hW0⟩ : ∃ W0, W0 = ((w.alloc (Obj.cells #[Value.bool a0_0, Value.string s] 25)).alloc (Obj.cells #[Value.bool false, Value.string ⟨#[]⟩] 25)) := ⟨_, rfl⟩
  have hz : W0.heap.size = w.heap.size + 1 + 1 := by rw [hW0]; simp
  have hB0 : Below w.heap.size w W0 := by rw [hW0]; exact below_alloc (below_alloc (Below.refl _ _) _) _
  have hb1 : W0.heap[w.heap.size + 1]? = some (.cells #[Value.bool false, Value.string ⟨#[]⟩] 25 (0, 0)) := by
    rw [hW0]
    have := heap_alloc_new (w.alloc (Obj.cells #[Value.bool a0_0, Value.string s] 25)) (Obj.cells #[Value.bool false, Value.string ⟨#[]⟩] 25)
    simpa using this
  rw [← hW0]
  have hC := Held.held_bytes W0 5 s (w.heap.size + 2) (by omega) (by simp only [maxLen]; omega)
  have hB1 := below_bytes hB0 (by rw [hz]; omega) s
  have hb2 : (Lib.bytesWorld W0 5 s).heap[w.heap.size + 1]? = some (.cells #[Value.bool false, Value.string ⟨#[]⟩] 25 (0, 0)) := (Lib.bytesWorld_at_old W0 5 s _ (by omega)).trans hb1
  have hz1' : w.heap.size + 2 ≤ (Lib.bytesWorld W0 5 s).heap.size := by rw [Lib.bytesWorld_size]; omega
  rw [hz] at hC
  obtain ⟨cap, hcap⟩ : ∃ cap, cap = grownCap W0 s.size 0 5 := ⟨_, rfl⟩
  rw [← hcap] at hC
  rw [← hcap]
  obtain ⟨W1, hW1⟩ : ∃ W1, W1 = Lib.bytesWorld W0 5 s := ⟨_, rfl⟩
  rw [← hW1] at hC hB1 hb2 hz1' ⊢
  have HC := Aside0.mk (And.intro hC (And.intro hB1 (And.intro hb2 hz1')))
  clear hC hB1 hb2 hz1' hcap hW1 hb1 hB0 hz hW0 hcv
  go_loopg [7] (p + 1) (fun k v wr => ∃ m : Nat, p + 1 ≤ k + (s.size + m) ∧ (m = 0 ∨ s.size + m ≤ p + 1) ∧ Held.Held wr (w.heap.size + 2) 5 v (s.size + m) ((Held.bytesI s).map (Value.int .u8) ++ List.replicate m (Value.int .u8 0)) ∧ Below w.heap.size w wr ∧ wr.heap[w.heap.size + 1]? = some (.cells #[Value.bool false, Value.string ⟨#[]⟩] 25 (0, 0)) ∧ w.heap.size + 2 ≤ wr.heap.size)
  case atStart => exact ⟨0, by omega, .inl rfl, by simpa using HC.out.1, HC.out.2⟩
  case round =>
    obtain ⟨m, hk, hm, hheld, hrest⟩ := hrel
    have HR := Aside0.mk hrest
    clear hrest
    by_cases hlt : s.size + m ≤ p
    · have g1 : decide ((s.size : Int) + (m : Int) ≤ (p : Int)) = true := by simp; omega
      obtain ⟨A, c, hv⟩ := Held.held_shape hheld
      subst hv
      have HO := Aside0.mk hheld
      clear hheld
      go_wp2_with (at_builtin; refine Held.wpList_append_held _ rfl (.tmp 22) (.tmp 23) 32 rfl i0 (Value.int .u8 0) 1 Try.underlying32 hi hz0 hz1 hz2 rfl rfl (Held.held_alloc HO.out (Obj.cells #[Value.int .u8 0] 5)) ⟨wr.heap.size, 0, none⟩ 1 (Value.int .u8 0) rfl ?c1 rfl ?b1 ?b2 ?b3 ?next)
      case c1 => exact Held.cell_new _ _ _ _
      case b1 => simp only [maxLen]; omega
      case b2 => omega
      case b3 => have := HR.out.2.2; simp; omega
      case next =>
        intro v' w' hheld' hgr
        obtain ⟨A', c', hv'⟩ := Held.held_shape hheld'
        subst hv'
        have HO' := Aside0.mk hheld'
        have HG' := Aside0.mk hgr
        clear hheld' hgr
        go_wp2
        have hh := HG'.out
        have hr := HR.out
        have hlt2 := Held.held_lt HO.out
        have hb := (below_alloc' hr.1 (by omega) (Obj.cells #[Value.int .u8 0] 5)).grown hh (by simp; omega) (fun k hk => by have := (hlt2 k hk).1; omega)
        go_roundg (p + 1 - (s.size + m + 1))
        case rel => exact ⟨m + 1, by omega, .inr (by omega), by rw [List.replicate_succ', ← Nat.add_assoc]; exact HO'.out, hb, (hh.block _ (by simp; omega) (fun e => by have := (hlt2 _ e.symm).1; omega)).trans ((Below.heap_alloc wr _ _ (by omega)).trans hr.2.1), by have := hh.size; simp at this; omega⟩
        case measure => omega
    · have g1 : decide ((s.size : Int) + (m : Int) ≤ (p : Int)) = false := by simp; omega
      obtain ⟨g, c, hv, hle, hg, hgs, hcell, hfro⟩ := Held.held_cell hheld (by omega)
      subst hv
      have hx : wr.cell? ⟨g, p, none⟩ = some (((Held.bytesI s).map (Value.int .u8) ++ List.replicate m (Value.int .u8 0)).getD p (.int .u8 0)) := by
        rw [hcell p (by omega), List.getD_eq_getElem?_getD]
        have hl : p < ((Held.bytesI s).map (Value.int .u8) ++ List.replicate m (Value.int .u8 0)).length := by rw [List.length_append, List.length_map, Held.bytesI_len, List.length_replicate]; omega
        rw [List.getElem?_eq_getElem hl]; rfl
      have hfx := hfro p (by omega)
      have hcv2 := run_convert_bytes_arg (P := Try.prog) (wr.setCell ⟨g, p, none⟩ (.int .u8 a2)) 32 5 Try.underlying32 Try.underlying5 g 0 (s.size + m) c (putL s p a2) (putL_len s p m a2 (by omega) hm) (fun i hi => by rw [Nat.zero_add]; exact putL_cell hcell hm (by omega) hi) 9 Try.underlying9
      have HO := Aside0.mk hheld
      have HCell := Aside0.mk hcell
      clear hheld hcell hfro
      generalize ((Held.bytesI s).map (Value.int .u8) ++ List.replicate m (Value.int .u8 0)).getD p (.int .u8 0) = u at hx
      have hpi : decide ((p : Int) < (s.size : Int) + (m : Int)) = true := by simp; omega
      obtain ⟨W2, hW2⟩ : ∃ W2, W2 = wr.setCell ⟨g, p, none⟩ (Value.int .u8 a2) := ⟨_, rfl⟩
      have q0 : W2.heap[w.heap.size + 1]? = some (.cells #[Value.bool false, Value.string ⟨#[]⟩] 25 (0, 0)) := by rw [hW2, Below.heap_setCell _ _ _ _ (by simp; omega)]; exact HR.out.2.1
      have q1 : W2.cell? ⟨w.heap.size + 1, 0, none⟩ = some (.bool false) := by simp [World.cell?, q0]
      have q2 : W2.frozen? ⟨w.heap.size + 1, 0, none⟩ = false := by simp [World.frozen?, q0]
      have q3 : (W2.setCell ⟨w.heap.size + 1, 0, none⟩ (.bool true)).heap[w.heap.size + 1]? = some (.cells #[Value.bool true, Value.string ⟨#[]⟩] 25 (0, 0)) := by simp [World.setCell, Array.getElem?_modify, q0]
      have q4 : (W2.setCell ⟨w.heap.size + 1, 0, none⟩ (.bool true)).cell? ⟨w.heap.size + 1, 1, none⟩ = some (.string ⟨#[]⟩) := by simp [World.cell?, q3]
      have q5 : (W2.setCell ⟨w.heap.size + 1, 0, none⟩ (.bool true)).frozen? ⟨w.heap.size + 1, 1, none⟩ = false := by simp [World.frozen?, q3]
      have q6 : ∀ x, ((W2.setCell ⟨w.heap.size + 1, 0, none⟩ (.bool true)).setCell ⟨w.heap.size + 1, 1, none⟩ (.string x)).heap[w.heap.size + 1]? = some (.cells #[Value.bool true, Value.string x] 25 (0, 0)) := by intro x; generalize W2.setCell ⟨w.heap.size + 1, 0, none⟩ (.bool true) = W3 at q3; simp [World.setCell, Array.getElem?_modify, q3]
      have q7 : ∀ x, Below w.heap.size w ((W2.setCell ⟨w.heap.size + 1, 0, none⟩ (.bool true)).setCell ⟨w.heap.size + 1, 1, none⟩ (.string x)) := by
        intro x
        have := HR.out.1
        rw [hW2]
        exact ((this.setCell (by simp; omega) _).setCell (by simp) _).setCell (by simp) _
      have Q6 := Aside0.mk q6
      have Q7 := Aside0.mk q7
      clear q0 q3 q6 q7
      rw [← hW2] at hcv2
      have hW2' := hW2.symm
      clear hW2
      go_wp2
      exact bodyPost_ret (results_cell_row rfl _ _ (w.heap.size + 1) 25 #[.bool true, .string _] (0, 0) _ rfl (Q6.out _) Try.underlying25 rfl (by kernel_rfl)) rfl ⟨rfl, Q7.out _⟩
set_option maxHeartbeats 400000 in
set_option maxRecDepth 100000 in
theorem file_Put.calls (a0_0 : Bool) (a0_1 : ByteArray) (a1 : Int) (a2 : Int) (r1 : Bool) (r2 : ByteArray) (w : World) (hv : file_Put.f a0_0 a0_1 a1 a2 = some (r1, r2)) :
    Calls Try.prog 14 #[.agg #[.bool a0_0, .string a0_1], .int .i64 a1, .int .u8 a2] w fun e w' => e = .returned (.agg #[.bool r1, .string r2]) ∧ Below w.heap.size w w' := by
  unfold file_Put.f at hv
  by_cases h1 : a1 < 0
  · rw [if_pos h1] at hv; injection hv with hv; injection hv with e1 e2; subst e1 e2
    exact put_early a0_0 a0_1 a1 a2 w (.inl (by simp; omega))
  · rw [if_neg h1] at hv
    by_cases h2 : a1 ≥ 32
    · rw [if_pos h2] at hv; injection hv with hv; injection hv with e1 e2; subst e1 e2
      exact put_early a0_0 a0_1 a1 a2 w (.inr ⟨by simp; omega, by simp; omega⟩)
    · rw [if_neg h2] at hv
      by_cases h3 : a0_1.size ≤ 1099511627776
      · rw [if_pos h3] at hv; injection hv with hv; injection hv with e1 e2; subst e1 e2
        obtain ⟨p, rfl⟩ : ∃ p : Nat, a1 = (p : Int) := ⟨a1.toNat, by omega⟩
        exact put_late a0_0 a0_1 p a2 w (by omega) h3
      · rw [if_neg h3] at hv; cases hv

/-! ### file_At: function 16 -/
def file_At.f (a0_0 : Bool) (a0_1 : ByteArray) (a1 : Int) : Option (Int) := if a1 < 0 then (some (-1)) else (if a1 ≥ (a0_1.size : Int) then (some (-1)) else (if 0 ≤ a1 then (if a1 < (a0_1.size : Int) then (some (wrap64 (bt a0_1 a1))) else (none)) else (none)))
set_option maxHeartbeats 8000000 in
set_option maxRecDepth 100000 in
theorem file_At.calls (a0_0 : Bool) (a0_1 : ByteArray) (a1 : Int) (r : Int) (w : World) (h : file_At.f a0_0 a0_1 a1 = some r) :
    Calls Try.prog 16 #[.agg #[.bool a0_0, .string a0_1], .int .i64 a1] w fun e w' => e = .returned (.int .i64 r) ∧ Below w.heap.size w w' := by
  have hu25 := Try.underlying25
  have HB := Aside0.mk (Below.refl w.heap.size w)
  have H : (if a1 < 0 then (some (-1)) else (if a1 ≥ (a0_1.size : Int) then (some (-1)) else (if 0 ≤ a1 then (if a1 < (a0_1.size : Int) then (some (wrap64 (bt a0_1 a1))) else (none)) else (none)))) = some r := h
  clear h
  by_cases c3 : a1 < 0
  · rw [if_pos c3] at H
    have c3b0 : decide (a1 < 0) = true := decide_eq_true c3
    clear c3
    obtain rfl := Option.some.inj H
    go_enter Try.func16, Try.ntmps16
    go_wp2_with (first | ((with_reducible refine gate_dst (N := 2) rfl ?_); (try (refine gate_guard (by rfl) ?_; dsimp only)); refine box_event ?hg (N := 2) ?hd (cs := #[.bool a0_0, .string a0_1]) (t := 25) ?hr ?_; (case hd => rfl); (case hg => rfl); (case hr => first | (go_simp; done) | (go_simp; rfl)); intro gb101 hg w4 hbox hb; have n0_ := Aside0.mk (below_step (by repeat (first | (with_reducible first | exact HB.out | apply below_alloc | apply pw_below_drewN | apply below_drew1) | exact HB.out)) hb); have n1_ := Aside0.mk (hbox); have n2_ := Aside0.mk ((by rw [hg]; exact (below_size (by repeat (first | (with_reducible first | exact HB.out | apply below_alloc | apply pw_below_drewN | apply below_drew1) | exact HB.out))) : w.heap.size ≤ gb101)); have n3_ := Aside0.mk ((by rw [hg]; exact (below_size (by repeat (first | (with_reducible first | exact HB.out | apply below_alloc | apply pw_below_drewN | apply below_drew1) | exact HB.out))) : w.heap.size ≤ gb101)); clear HB; have HB := n0_; have BK101 := n1_; have GW101 := n2_; have GE101 := n3_; clear n0_ n1_ n2_ n3_; clear hb hbox hg))
    go_ret
    exact ⟨by first | rfl | (simp [errW_none, errW_some] <;> rfl) | (simp [*, errW_none, errW_some] <;> rfl), by repeat (first | (with_reducible first | exact HB.out | apply below_alloc | apply pw_below_drewN | apply below_drew1 | refine below_set ?_ GE101.out) | exact HB.out)⟩
  · rw [if_neg c3] at H
    have c3b0 : decide (a1 < 0) = false := decide_eq_false c3
    clear c3
    by_cases c5 : a1 ≥ (a0_1.size : Int)
    · rw [if_pos c5] at H
      have c5b0 : decide ((a0_1.size : Int) ≤ a1) = true := decide_eq_true c5
      clear c5
      obtain rfl := Option.some.inj H
      go_enter Try.func16, Try.ntmps16
      go_wp2_with (first | ((with_reducible refine gate_dst (N := 2) rfl ?_); (try (refine gate_guard (by rfl) ?_; dsimp only)); refine box_event ?hg (N := 2) ?hd (cs := #[.bool a0_0, .string a0_1]) (t := 25) ?hr ?_; (case hd => rfl); (case hg => rfl); (case hr => first | (go_simp; done) | (go_simp; rfl)); intro gb101 hg w6 hbox hb; have n0_ := Aside0.mk (below_step (by repeat (first | (with_reducible first | exact HB.out | apply below_alloc | apply pw_below_drewN | apply below_drew1) | exact HB.out)) hb); have n1_ := Aside0.mk (hbox); have n2_ := Aside0.mk ((by rw [hg]; exact (below_size (by repeat (first | (with_reducible first | exact HB.out | apply below_alloc | apply pw_below_drewN | apply below_drew1) | exact HB.out))) : w.heap.size ≤ gb101)); have n3_ := Aside0.mk ((by rw [hg]; exact (below_size (by repeat (first | (with_reducible first | exact HB.out | apply below_alloc | apply pw_below_drewN | apply below_drew1) | exact HB.out))) : w.heap.size ≤ gb101)); clear HB; have HB := n0_; have BK101 := n1_; have GW101 := n2_; have GE101 := n3_; clear n0_ n1_ n2_ n3_; clear hb hbox hg; have hcz7_0 : w6.cell? ⟨gb101, 0, none⟩ = some (.bool a0_0) := (blk_cell BK101.out 0).trans rfl; have hcz7_1 : w6.cell? ⟨gb101, 1, none⟩ = some (.string a0_1) := (blk_cell BK101.out 1).trans rfl; have hfz7_0 := blk_frozen BK101.out 0; have hfz7_1 := blk_frozen BK101.out 1))
      go_ret
      exact ⟨by first | rfl | (simp [errW_none, errW_some] <;> rfl) | (simp [*, errW_none, errW_some] <;> rfl), by repeat (first | (with_reducible first | exact HB.out | apply below_alloc | apply pw_below_drewN | apply below_drew1 | refine below_set ?_ GE101.out) | exact HB.out)⟩
    · rw [if_neg c5] at H
      have c5b0 : decide ((a0_1.size : Int) ≤ a1) = false := decide_eq_false c5
      clear c5
      by_cases c8 : 0 ≤ a1
      · rw [if_pos c8] at H
        have c8b0 : decide (0 ≤ a1) = true := decide_eq_true c8
        clear c8
        by_cases c9 : a1 < (a0_1.size : Int)
        · rw [if_pos c9] at H
          have c9b0 : decide (a1 < (a0_1.size : Int)) = true := decide_eq_true c9
          clear c9
          obtain rfl := Option.some.inj H
          go_enter Try.func16, Try.ntmps16
          go_wp2_with (first | ((with_reducible refine gate_dst (N := 2) rfl ?_); (try (refine gate_guard (by rfl) ?_; dsimp only)); refine box_event ?hg (N := 2) ?hd (cs := #[.bool a0_0, .string a0_1]) (t := 25) ?hr ?_; (case hd => rfl); (case hg => rfl); (case hr => first | (go_simp; done) | (go_simp; rfl)); intro gb101 hg w11 hbox hb; have n0_ := Aside0.mk (below_step (by repeat (first | (with_reducible first | exact HB.out | apply below_alloc | apply pw_below_drewN | apply below_drew1) | exact HB.out)) hb); have n1_ := Aside0.mk (hbox); have n2_ := Aside0.mk ((by rw [hg]; exact (below_size (by repeat (first | (with_reducible first | exact HB.out | apply below_alloc | apply pw_below_drewN | apply below_drew1) | exact HB.out))) : w.heap.size ≤ gb101)); have n3_ := Aside0.mk ((by rw [hg]; exact (below_size (by repeat (first | (with_reducible first | exact HB.out | apply below_alloc | apply pw_below_drewN | apply below_drew1) | exact HB.out))) : w.heap.size ≤ gb101)); clear HB; have HB := n0_; have BK101 := n1_; have GW101 := n2_; have GE101 := n3_; clear n0_ n1_ n2_ n3_; clear hb hbox hg; have hcz12_0 : w11.cell? ⟨gb101, 0, none⟩ = some (.bool a0_0) := (blk_cell BK101.out 0).trans rfl; have hcz12_1 : w11.cell? ⟨gb101, 1, none⟩ = some (.string a0_1) := (blk_cell BK101.out 1).trans rfl; have hfz12_0 := blk_frozen BK101.out 0; have hfz12_1 := blk_frozen BK101.out 1; have p10 : 0 ≤ (a1 : Int) := of_decide_eq_true (by first | (with_reducible assumption) | assumption); have q10 : a1 < (a0_1.size : Int) := of_decide_eq_true (by first | (with_reducible assumption) | assumption); have hx10 := bt_at a0_1 a1; replace p10 := eq_true p10; replace q10 := eq_true q10))
          go_ret
          exact ⟨by first | rfl | (simp [errW_none, errW_some] <;> rfl) | (simp [*, errW_none, errW_some] <;> rfl), by repeat (first | (with_reducible first | exact HB.out | apply below_alloc | apply pw_below_drewN | apply below_drew1 | refine below_set ?_ GE101.out) | exact HB.out)⟩
        · rw [if_neg c9] at H
          exact absurd H (by simp)
      · rw [if_neg c8] at H
        exact absurd H (by simp)

/-! ### file_Make: function 44 -/
def file_Make.f (a0_0 : Bool) (a0_1 : ByteArray) : Option (Bool × ByteArray) := some (true, a0_1)
set_option maxHeartbeats 8000000 in
set_option maxRecDepth 100000 in
theorem file_Make.calls (a0_0 : Bool) (a0_1 : ByteArray) (r1 : Bool) (r2 : ByteArray) (w : World) (h : file_Make.f a0_0 a0_1 = some (r1, r2)) :
    Calls Try.prog 44 #[.agg #[.bool a0_0, .string a0_1]] w fun e w' => e = .returned (.agg #[.bool r1, .string r2]) ∧ Below w.heap.size w w' := by
  have hu25 := Try.underlying25
  have HB := Aside0.mk (Below.refl w.heap.size w)
  have H : (some (true, a0_1)) = some (r1, r2) := h
  clear h
  simp only [Option.some.injEq, Prod.mk.injEq] at H
  obtain ⟨rfl, rfl⟩ := H
  go_enter Try.func44, Try.ntmps44
  go_wp2_with (first | ((with_reducible refine gate_dst (N := 1) rfl ?_); refine box_event ?hg (N := 1) ?hd (cs := #[.bool a0_0, .string a0_1]) (t := 25) ?hr ?_; (case hd => rfl); (case hg => rfl); (case hr => first | (go_simp; done) | (go_simp; rfl)); intro gb102 hg w2 hbox hb; have n0_ := Aside0.mk (below_step (by repeat (first | (with_reducible first | exact HB.out | apply below_alloc | apply pw_below_drewN | apply below_drew1) | exact HB.out)) hb); have n1_ := Aside0.mk (hbox); have n2_ := Aside0.mk ((by rw [hg]; exact (below_size (by repeat (first | (with_reducible first | exact HB.out | apply below_alloc | apply pw_below_drewN | apply below_drew1) | exact HB.out))) : w.heap.size ≤ gb102)); have n3_ := Aside0.mk ((by rw [hg]; exact (below_size (by repeat (first | (with_reducible first | exact HB.out | apply below_alloc | apply pw_below_drewN | apply below_drew1) | exact HB.out))) : w.heap.size ≤ gb102)); clear HB; have HB := n0_; have BK102 := n1_; have GW102 := n2_; have GE102 := n3_; clear n0_ n1_ n2_ n3_; clear hb hbox hg) | ((with_reducible refine gate_dst (N := 2) rfl ?_); refine box_event ?hg (N := 2) ?hd (cs := #[.bool false, .string (⟨#[]⟩ : ByteArray)]) (t := 25) ?hr ?_; (case hd => rfl); (case hg => rfl); (case hr => first | (go_simp; done) | (go_simp; rfl)); intro gb103 hg w3 hbox hb; have n0_ := Aside0.mk (blk_below (g := gb102) (o := .cells #[.bool a0_0, .string a0_1] 25 (0, 0)) (by (with_reducible repeat (first | refine blk_drewN ?_ _ | refine blk_drew ?_ | refine blk_alloc ?_ _)); exact BK102.out) hb); have n1_ := Aside0.mk (below_step (by repeat (first | (with_reducible first | exact HB.out | apply below_alloc | apply pw_below_drewN | apply below_drew1 | refine below_set ?_ GE102.out) | exact HB.out)) hb); have n2_ := Aside0.mk (hbox); have n3_ := Aside0.mk ((by rw [hg]; exact (below_size (by repeat (first | (with_reducible first | exact HB.out | apply below_alloc | apply pw_below_drewN | apply below_drew1 | refine below_set ?_ GE102.out) | exact HB.out))) : w.heap.size ≤ gb103)); have n4_ := Aside0.mk ((by rw [hg]; exact (below_size (by repeat (first | (with_reducible first | exact HB.out | apply below_alloc | apply pw_below_drewN | apply below_drew1 | refine below_set ?_ GE102.out) | exact HB.out))) : w.heap.size ≤ gb103)); have n5_ := Aside0.mk ((by rw [hg]; exact Nat.ne_of_lt (blk_lt (g := gb102) (o := .cells #[.bool a0_0, .string a0_1] 25 (0, 0)) (by (with_reducible repeat (first | refine blk_drewN ?_ _ | refine blk_drew ?_ | refine blk_alloc ?_ _)); exact BK102.out)) : gb102 ≠ gb103)); have n6_ := Aside0.mk ((by rw [hg]; exact Nat.ne_of_gt (blk_lt (g := gb102) (o := .cells #[.bool a0_0, .string a0_1] 25 (0, 0)) (by (with_reducible repeat (first | refine blk_drewN ?_ _ | refine blk_drew ?_ | refine blk_alloc ?_ _)); exact BK102.out)) : gb103 ≠ gb102)); clear BK102; clear HB; have BK102 := n0_; have HB := n1_; have BK103 := n2_; have GW103 := n3_; have GE103 := n4_; have NB102_103 := n5_; have NB103_102 := n6_; clear n0_ n1_ n2_ n3_ n4_ n5_ n6_; clear hb hbox hg; have hnb4 := NB102_103.out; have hnc4 := NB103_102.out; have hcz5_0 : w3.cell? ⟨gb102, 0, none⟩ = some (.bool a0_0) := (blk_cell BK102.out 0).trans rfl; have hcz5_1 : w3.cell? ⟨gb102, 1, none⟩ = some (.string a0_1) := (blk_cell BK102.out 1).trans rfl; have hfz5_0 := blk_frozen BK102.out 0; have hfz5_1 := blk_frozen BK102.out 1; have hcz6_0 : w3.cell? ⟨gb103, 0, none⟩ = some (.bool false) := (blk_cell BK103.out 0).trans rfl; have hcz6_1 : w3.cell? ⟨gb103, 1, none⟩ = some (.string (⟨#[]⟩ : ByteArray)) := (blk_cell BK103.out 1).trans rfl; have hfz6_0 := blk_frozen BK103.out 0; have hfz6_1 := blk_frozen BK103.out 1))
  refine bodyPost_ret (results_cell_row rfl _ _ gb103 25 #[.bool true, .string a0_1] (0, 0) _ rfl (by (with_reducible repeat (first | refine blk_drewN ?_ _ | refine blk_drew ?_ | refine blk_alloc ?_ _)); refine blk_put (cs := #[.bool true, .string (⟨#[]⟩ : ByteArray)]) ?_ 1 _ rfl; (with_reducible repeat (first | refine blk_drewN ?_ _ | refine blk_drew ?_ | refine blk_alloc ?_ _)); refine blk_put (cs := #[.bool false, .string (⟨#[]⟩ : ByteArray)]) ?_ 0 _ rfl; (with_reducible repeat (first | refine blk_drewN ?_ _ | refine blk_drew ?_ | refine blk_alloc ?_ _)); exact BK103.out) Try.underlying25 rfl (by kernel_rfl)) rfl ?_
  exact ⟨by first | rfl | (simp [errW_none, errW_some] <;> rfl) | (simp [*, errW_none, errW_some] <;> rfl), by repeat (first | (with_reducible first | exact HB.out | apply below_alloc | apply pw_below_drewN | apply below_drew1 | refine below_set ?_ GE102.out | refine below_set ?_ GE103.out) | exact HB.out)⟩

/-! ### countermandlaw09_alive: function 13 -/
def countermandlaw09_alive.f  : Option (Bool) := (file_Put.f true (⟨#[97]⟩ : ByteArray) 2 99).bind fun bt104 => (if bt104.2.toList = ([97, 0, 99] : List UInt8) then ((file_At.f bt104.1 bt104.2 0).bind fun t107 => (if t107 = 97 then ((file_Make.f false (⟨#[]⟩ : ByteArray)).bind fun bt108 => (some bt108.1)) else (some false))) else (some false))
set_option maxHeartbeats 8000000 in
set_option maxRecDepth 100000 in
theorem countermandlaw09_alive.calls  (r : Bool) (w : World) (h : countermandlaw09_alive.f  = some r) :
    Calls Try.prog 13 #[] w fun e w' => e = .returned (.bool r) ∧ Below w.heap.size w w' := by
  have hu25 := Try.underlying25
  have HB := Aside0.mk (Below.refl w.heap.size w)
  have H : ((file_Put.f true (⟨#[97]⟩ : ByteArray) 2 99).bind fun bt104 => (if bt104.2.toList = ([97, 0, 99] : List UInt8) then ((file_At.f bt104.1 bt104.2 0).bind fun t107 => (if t107 = 97 then ((file_Make.f false (⟨#[]⟩ : ByteArray)).bind fun bt108 => (some bt108.1)) else (some false))) else (some false))) = some r := h
  clear h
  replace H := Option.bind_eq_some_iff.mp H
  obtain ⟨⟨t104, t105⟩, A10, H⟩ := H
  replace H : (if t105.toList = ([97, 0, 99] : List UInt8) then ((file_At.f t104 t105 0).bind fun t107 => (if t107 = 97 then ((file_Make.f false (⟨#[]⟩ : ByteArray)).bind fun bt108 => (some bt108.1)) else (some false))) else (some false)) = some r := H
  have A1 := Aside0.mk A10
  clear A10
  by_cases c2 : t105.toList = ([97, 0, 99] : List UInt8)
  · rw [if_pos c2] at H
    have c2b0 : (t105.toList == ([97, 0, 99] : List UInt8)) = true := beq_iff_eq.mpr c2
    have c2b1 : (t105.toList != ([97, 0, 99] : List UInt8)) = false := bne_eq_false_iff_eq.mpr c2
    clear c2
    replace H := Option.bind_eq_some_iff.mp H
    obtain ⟨t107, A30, H⟩ := H
    replace H : (if t107 = 97 then ((file_Make.f false (⟨#[]⟩ : ByteArray)).bind fun bt108 => (some bt108.1)) else (some false)) = some r := H
    have A3 := Aside0.mk A30
    clear A30
    by_cases c4 : t107 = 97
    · rw [if_pos c4] at H
      have c4b0 : (t107 == 97) = true := beq_iff_eq.mpr c4
      have c4b1 : (t107 != 97) = false := bne_eq_false_iff_eq.mpr c4
      clear c4
      replace H := Option.bind_eq_some_iff.mp H
      obtain ⟨⟨t108, t109⟩, A50, H⟩ := H
      replace H : (some t108) = some r := H
      have A5 := Aside0.mk A50
      clear A50
      obtain rfl := Option.some.inj H
      go_enter Try.func13, Try.ntmps13
      go_wp2_with (first | ((with_reducible refine gate_callee (f := 14) rfl ?_); refine goesL_ (some 3) rfl rfl Try.func14 (by kernel_rfl) rfl #[.agg #[.bool true, .string (⟨#[97]⟩ : ByteArray)], .int .i64 2, .int .u8 99] rfl (by (try simp only [List.map_toArray, List.map_cons, List.map_nil]); first | done | rfl | (simp only [List.length_drop, List.length_take]; rfl)) ?_; (with_reducible refine (file_Put.calls true (⟨#[97]⟩ : ByteArray) 2 99 t104 t105 _ A1.out).mono ?_); rintro e w6 ⟨rfl, hb⟩; refine ⟨_, rfl, ?_⟩; have n0_ := Aside0.mk (below_step (by repeat (first | (with_reducible first | exact HB.out | apply below_alloc | apply pw_below_drewN | apply below_drew1) | exact HB.out)) hb); clear HB; have HB := n0_; clear n0_; (try clear hb); (try clear hb2); (try clear hk); (try clear hi)) | ((with_reducible refine gate_dst (N := 1) rfl ?_); refine box_event ?hg (N := 1) ?hd (cs := #[.bool false, .string (⟨#[]⟩ : ByteArray)]) (t := 25) ?hr ?_; (case hd => rfl); (case hg => rfl); (case hr => first | (go_simp; done) | (go_simp; rfl)); intro gb106 hg w7 hbox hb; have n0_ := Aside0.mk (below_step (by repeat (first | (with_reducible first | exact HB.out | apply below_alloc | apply pw_below_drewN | apply below_drew1) | exact HB.out)) hb); have n1_ := Aside0.mk (hbox); have n2_ := Aside0.mk ((by rw [hg]; exact (below_size (by repeat (first | (with_reducible first | exact HB.out | apply below_alloc | apply pw_below_drewN | apply below_drew1) | exact HB.out))) : w.heap.size ≤ gb106)); have n3_ := Aside0.mk ((by rw [hg]; exact (below_size (by repeat (first | (with_reducible first | exact HB.out | apply below_alloc | apply pw_below_drewN | apply below_drew1) | exact HB.out))) : w.heap.size ≤ gb106)); clear HB; have HB := n0_; have BK106 := n1_; have GW106 := n2_; have GE106 := n3_; clear n0_ n1_ n2_ n3_; clear hb hbox hg; have hcz8_0 : w7.cell? ⟨gb106, 0, none⟩ = some (.bool false) := (blk_cell BK106.out 0).trans rfl; have hcz8_1 : w7.cell? ⟨gb106, 1, none⟩ = some (.string (⟨#[]⟩ : ByteArray)) := (blk_cell BK106.out 1).trans rfl; have hfz8_0 := blk_frozen BK106.out 0; have hfz8_1 := blk_frozen BK106.out 1) | (go_at_call 16; (with_reducible refine (file_At.calls t104 t105 0 t107 _ A3.out).mono ?_); rintro e w9 ⟨rfl, hb⟩; have n0_ := Aside0.mk (blk_below (g := gb106) (o := .cells #[.bool t104, .string t105] 25 (0, 0)) (by (with_reducible repeat (first | refine blk_drewN ?_ _ | refine blk_drew ?_ | refine blk_alloc ?_ _)); refine blk_put (cs := #[.bool t104, .string (⟨#[]⟩ : ByteArray)]) ?_ 1 _ rfl; (with_reducible repeat (first | refine blk_drewN ?_ _ | refine blk_drew ?_ | refine blk_alloc ?_ _)); refine blk_put (cs := #[.bool false, .string (⟨#[]⟩ : ByteArray)]) ?_ 0 _ rfl; (with_reducible repeat (first | refine blk_drewN ?_ _ | refine blk_drew ?_ | refine blk_alloc ?_ _)); exact BK106.out) hb); have n1_ := Aside0.mk (below_step (by repeat (first | (with_reducible first | exact HB.out | apply below_alloc | apply pw_below_drewN | apply below_drew1 | refine below_set ?_ GE106.out) | exact HB.out)) hb); clear BK106; clear HB; have BK106 := n0_; have HB := n1_; clear n0_ n1_; (try clear hb); (try clear hb2); (try clear hk); (try clear hi)) | (go_at_call 44; (with_reducible refine (file_Make.calls false (⟨#[]⟩ : ByteArray) t108 t109 _ A5.out).mono ?_); rintro e w10 ⟨rfl, hb⟩; have n0_ := Aside0.mk (blk_below (g := gb106) (o := .cells #[.bool t104, .string t105] 25 (0, 0)) (by (with_reducible repeat (first | refine blk_drewN ?_ _ | refine blk_drew ?_ | refine blk_alloc ?_ _)); exact BK106.out) hb); have n1_ := Aside0.mk (below_step (by repeat (first | (with_reducible first | exact HB.out | apply below_alloc | apply pw_below_drewN | apply below_drew1 | refine below_set ?_ GE106.out) | exact HB.out)) hb); clear BK106; clear HB; have BK106 := n0_; have HB := n1_; clear n0_ n1_; (try clear hb); (try clear hb2); (try clear hk); (try clear hi)))
      go_ret
      exact ⟨by first | rfl | (simp [errW_none, errW_some] <;> rfl) | (simp [*, errW_none, errW_some] <;> rfl), by repeat (first | (with_reducible first | exact HB.out | apply below_alloc | apply pw_below_drewN | apply below_drew1 | refine below_set ?_ GE106.out) | exact HB.out)⟩
    · rw [if_neg c4] at H
      have c4b0 : (t107 == 97) = false := beq_eq_false_iff_ne.mpr c4
      have c4b1 : (t107 != 97) = true := bne_iff_ne.mpr c4
      obtain rfl := Option.some.inj H
      go_enter Try.func13, Try.ntmps13
      go_wp2_with (first | ((with_reducible refine gate_callee (f := 14) rfl ?_); refine goesL_ (some 3) rfl rfl Try.func14 (by kernel_rfl) rfl #[.agg #[.bool true, .string (⟨#[97]⟩ : ByteArray)], .int .i64 2, .int .u8 99] rfl (by (try simp only [List.map_toArray, List.map_cons, List.map_nil]); first | done | rfl | (simp only [List.length_drop, List.length_take]; rfl)) ?_; (with_reducible refine (file_Put.calls true (⟨#[97]⟩ : ByteArray) 2 99 t104 t105 _ A1.out).mono ?_); rintro e w11 ⟨rfl, hb⟩; refine ⟨_, rfl, ?_⟩; have n0_ := Aside0.mk (below_step (by repeat (first | (with_reducible first | exact HB.out | apply below_alloc | apply pw_below_drewN | apply below_drew1) | exact HB.out)) hb); clear HB; have HB := n0_; clear n0_; (try clear hb); (try clear hb2); (try clear hk); (try clear hi)) | ((with_reducible refine gate_dst (N := 1) rfl ?_); refine box_event ?hg (N := 1) ?hd (cs := #[.bool false, .string (⟨#[]⟩ : ByteArray)]) (t := 25) ?hr ?_; (case hd => rfl); (case hg => rfl); (case hr => first | (go_simp; done) | (go_simp; rfl)); intro gb106 hg w12 hbox hb; have n0_ := Aside0.mk (below_step (by repeat (first | (with_reducible first | exact HB.out | apply below_alloc | apply pw_below_drewN | apply below_drew1) | exact HB.out)) hb); have n1_ := Aside0.mk (hbox); have n2_ := Aside0.mk ((by rw [hg]; exact (below_size (by repeat (first | (with_reducible first | exact HB.out | apply below_alloc | apply pw_below_drewN | apply below_drew1) | exact HB.out))) : w.heap.size ≤ gb106)); have n3_ := Aside0.mk ((by rw [hg]; exact (below_size (by repeat (first | (with_reducible first | exact HB.out | apply below_alloc | apply pw_below_drewN | apply below_drew1) | exact HB.out))) : w.heap.size ≤ gb106)); clear HB; have HB := n0_; have BK106 := n1_; have GW106 := n2_; have GE106 := n3_; clear n0_ n1_ n2_ n3_; clear hb hbox hg; have hcz13_0 : w12.cell? ⟨gb106, 0, none⟩ = some (.bool false) := (blk_cell BK106.out 0).trans rfl; have hcz13_1 : w12.cell? ⟨gb106, 1, none⟩ = some (.string (⟨#[]⟩ : ByteArray)) := (blk_cell BK106.out 1).trans rfl; have hfz13_0 := blk_frozen BK106.out 0; have hfz13_1 := blk_frozen BK106.out 1) | (go_at_call 16; (with_reducible refine (file_At.calls t104 t105 0 t107 _ A3.out).mono ?_); rintro e w14 ⟨rfl, hb⟩; have n0_ := Aside0.mk (blk_below (g := gb106) (o := .cells #[.bool t104, .string t105] 25 (0, 0)) (by (with_reducible repeat (first | refine blk_drewN ?_ _ | refine blk_drew ?_ | refine blk_alloc ?_ _)); refine blk_put (cs := #[.bool t104, .string (⟨#[]⟩ : ByteArray)]) ?_ 1 _ rfl; (with_reducible repeat (first | refine blk_drewN ?_ _ | refine blk_drew ?_ | refine blk_alloc ?_ _)); refine blk_put (cs := #[.bool false, .string (⟨#[]⟩ : ByteArray)]) ?_ 0 _ rfl; (with_reducible repeat (first | refine blk_drewN ?_ _ | refine blk_drew ?_ | refine blk_alloc ?_ _)); exact BK106.out) hb); have n1_ := Aside0.mk (below_step (by repeat (first | (with_reducible first | exact HB.out | apply below_alloc | apply pw_below_drewN | apply below_drew1 | refine below_set ?_ GE106.out) | exact HB.out)) hb); clear BK106; clear HB; have BK106 := n0_; have HB := n1_; clear n0_ n1_; (try clear hb); (try clear hb2); (try clear hk); (try clear hi)))
      go_ret
      exact ⟨by first | rfl | (simp [errW_none, errW_some] <;> rfl) | (simp [*, errW_none, errW_some] <;> rfl), by repeat (first | (with_reducible first | exact HB.out | apply below_alloc | apply pw_below_drewN | apply below_drew1 | refine below_set ?_ GE106.out) | exact HB.out)⟩
  · rw [if_neg c2] at H
    have c2b0 : (t105.toList == ([97, 0, 99] : List UInt8)) = false := beq_eq_false_iff_ne.mpr c2
    have c2b1 : (t105.toList != ([97, 0, 99] : List UInt8)) = true := bne_iff_ne.mpr c2
    obtain rfl := Option.some.inj H
    go_enter Try.func13, Try.ntmps13
    go_wp2_with (first | ((with_reducible refine gate_callee (f := 14) rfl ?_); refine goesL_ (some 3) rfl rfl Try.func14 (by kernel_rfl) rfl #[.agg #[.bool true, .string (⟨#[97]⟩ : ByteArray)], .int .i64 2, .int .u8 99] rfl (by (try simp only [List.map_toArray, List.map_cons, List.map_nil]); first | done | rfl | (simp only [List.length_drop, List.length_take]; rfl)) ?_; (with_reducible refine (file_Put.calls true (⟨#[97]⟩ : ByteArray) 2 99 t104 t105 _ A1.out).mono ?_); rintro e w15 ⟨rfl, hb⟩; refine ⟨_, rfl, ?_⟩; have n0_ := Aside0.mk (below_step (by repeat (first | (with_reducible first | exact HB.out | apply below_alloc | apply pw_below_drewN | apply below_drew1) | exact HB.out)) hb); clear HB; have HB := n0_; clear n0_; (try clear hb); (try clear hb2); (try clear hk); (try clear hi)) | ((with_reducible refine gate_dst (N := 1) rfl ?_); refine box_event ?hg (N := 1) ?hd (cs := #[.bool false, .string (⟨#[]⟩ : ByteArray)]) (t := 25) ?hr ?_; (case hd => rfl); (case hg => rfl); (case hr => first | (go_simp; done) | (go_simp; rfl)); intro gb106 hg w16 hbox hb; have n0_ := Aside0.mk (below_step (by repeat (first | (with_reducible first | exact HB.out | apply below_alloc | apply pw_below_drewN | apply below_drew1) | exact HB.out)) hb); have n1_ := Aside0.mk (hbox); have n2_ := Aside0.mk ((by rw [hg]; exact (below_size (by repeat (first | (with_reducible first | exact HB.out | apply below_alloc | apply pw_below_drewN | apply below_drew1) | exact HB.out))) : w.heap.size ≤ gb106)); have n3_ := Aside0.mk ((by rw [hg]; exact (below_size (by repeat (first | (with_reducible first | exact HB.out | apply below_alloc | apply pw_below_drewN | apply below_drew1) | exact HB.out))) : w.heap.size ≤ gb106)); clear HB; have HB := n0_; have BK106 := n1_; have GW106 := n2_; have GE106 := n3_; clear n0_ n1_ n2_ n3_; clear hb hbox hg; have hcz17_0 : w16.cell? ⟨gb106, 0, none⟩ = some (.bool false) := (blk_cell BK106.out 0).trans rfl; have hcz17_1 : w16.cell? ⟨gb106, 1, none⟩ = some (.string (⟨#[]⟩ : ByteArray)) := (blk_cell BK106.out 1).trans rfl; have hfz17_0 := blk_frozen BK106.out 0; have hfz17_1 := blk_frozen BK106.out 1))
    go_ret
    exact ⟨by first | rfl | (simp [errW_none, errW_some] <;> rfl) | (simp [*, errW_none, errW_some] <;> rfl), by repeat (first | (with_reducible first | exact HB.out | apply below_alloc | apply pw_below_drewN | apply below_drew1 | refine below_set ?_ GE106.out) | exact HB.out)⟩

end Go.Proofs.Ytfimbmdbaaiemaa.PFileWrites
