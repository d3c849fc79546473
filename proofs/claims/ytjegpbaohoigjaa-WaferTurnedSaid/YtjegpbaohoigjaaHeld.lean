/- A row that a call holds alone, its own or the one that a text's conversion laid: one element more, and what is read in it. -/
import Derived.Test.YtjegpbaohoigjaaWWords
import Derived.ArgAppend
import Derived.Deep.Onto
import Derived.Lib.ConvBytes
import Derived.Laws.AppendOwn
namespace Go.Proofs.Ytjegpbaohoigjaa.Held
open Go.RowKit Go.Proofs.YtjegpbaohoigjaaW.PrintWords
set_option linter.unusedVariables false

/-! a row of one-cell elements that a call holds alone: its own, or the one that a text's conversion laid -/
def Held (w : World) (base : Nat) (e : TypeId) (v : Value) (n : Nat) (xs : List Value) : Prop :=
  xs.length = n ∧ ((v = .slice none 0 0 ∧ n = 0) ∨ ∃ g cap cur fr, v = .slice (some ⟨g, 0, none⟩) n cap ∧ base ≤ g ∧ w.heap[g]? = some (.cells cur e fr) ∧ (fr = (0, 0) ∨ cur.size ≤ fr.1) ∧ n ≤ cap ∧ cap ≤ maxLen ∧ cur.size = cap ∧ cur.toList.take n = xs)
theorem held_own {w : World} {base n : Nat} {e : TypeId} {v : Value} {xs : List Value} (h : w.ownsRow base e 1 v n xs) : Held w base e v n xs := by
  refine ⟨by simpa using h.1, h.2.imp id ?_⟩
  rintro ⟨g, cap, cur, a1, a2, a3, a4, a5, a6, a7⟩
  exact ⟨g, cap, cur, (0, 0), a1, a2, a3, .inl rfl, a4, a5, by simpa using a6, by simpa using a7⟩
theorem held_shape {w : World} {base n : Nat} {e : TypeId} {v : Value} {xs : List Value} (h : Held w base e v n xs) : ∃ A c, v = .slice A n c := by
  rcases h.2 with ⟨rfl, rfl⟩ | ⟨g, cap, cur, fr, rfl, _⟩
  · exact ⟨_, _, rfl⟩
  · exact ⟨_, _, rfl⟩
theorem held_kept {w w' : World} {base n : Nat} {e : TypeId} {v : Value} {xs : List Value} (h : Held w base e v n xs) (hb : ∀ k, base ≤ k → k < w.heap.size → w'.heap[k]? = w.heap[k]?) : Held w' base e v n xs := by
  refine ⟨h.1, h.2.imp id ?_⟩
  rintro ⟨g, cap, cur, fr, a1, a2, a3, a4⟩
  exact ⟨g, cap, cur, fr, a1, a2, (hb g a2 (Array.getElem?_eq_some_iff.1 a3).1).trans a3, a4⟩
theorem held_alloc {w : World} {base n : Nat} {e : TypeId} {v : Value} {xs : List Value} (h : Held w base e v n xs) (o : Obj) : Held (w.alloc o) base e v n xs :=
  held_kept h fun k _ hk => Below.heap_alloc w o k hk
theorem held_lt {w : World} {base n : Nat} {e : TypeId} {v : Value} {xs : List Value} (h : Held w base e v n xs) : ∀ k, v.ownBlock = some k → base ≤ k ∧ k < w.heap.size := by
  intro k hk
  rcases h.2 with ⟨rfl, _⟩ | ⟨g, cap, cur, fr, rfl, hb, hg, _⟩
  · simp [Value.ownBlock] at hk
  · simp [Value.ownBlock] at hk
    subst hk
    exact ⟨hb, (Array.getElem?_eq_some_iff.1 hg).1⟩
theorem cell_new (w : World) (u : Value) (e : TypeId) (fr : Nat × Nat) : (w.alloc (.cells #[u] e fr)).cell? ((⟨w.heap.size, 0, none⟩ : Addr).add 0) = some u := by
  have := heap_alloc_new w (.cells #[u] e fr)
  simp only [Addr.add_lit, World.cell?, this]
  rfl
theorem held_frozen {w : World} {g j : Nat} {cur : Array Value} {e : TypeId} {fr : Nat × Nat} (hg : w.heap[g]? = some (.cells cur e fr)) (hf : fr = (0, 0) ∨ cur.size ≤ fr.1) (hj : j < cur.size) : w.frozen? ⟨g, j, none⟩ = false := by
  simp only [World.frozen?, hg]
  rcases hf with rfl | hf
  · simp
  · simp; omega
theorem held_cell {w : World} {base n : Nat} {e : TypeId} {v : Value} {xs : List Value} (h : Held w base e v n xs) (hpos : 0 < n) :
    ∃ g c, v = .slice (some ⟨g, 0, none⟩) n c ∧ n ≤ c ∧ base ≤ g ∧ g < w.heap.size ∧ (∀ j, j < n → w.cell? ⟨g, j, none⟩ = xs[j]?) ∧ ∀ j, j < n → w.frozen? ⟨g, j, none⟩ = false := by
  rcases h.2 with ⟨_, h0⟩ | ⟨g, cap, cur, fr, rfl, hb, hg, hf, hn, hm, hs, hx⟩
  · omega
  · refine ⟨g, cap, rfl, hn, hb, (Array.getElem?_eq_some_iff.1 hg).1, fun j hj => ?_, fun j hj => held_frozen hg hf (by omega)⟩
    rw [← hx, List.getElem?_take_of_lt hj]
    simp [World.cell?, hg]
theorem held_one {P : Program} {w : World} {base n : Nat} {e t ty : TypeId} {v : Value} {xs : List Value} (h : Held w base e v n xs) (i : TypeInfo) (z : Value) (bytes : Nat) (ht : P.underlying t = some (.slice e)) (hi : P.info? e = some i) (hz : i.zero = some z) (hsize : i.size = 1) (hby : i.bytes = bytes) (hzs : z.cells.size = 1)
    (ad : Addr) (c : Nat) (u : Value) (hu : w.cell? (ad.add 0) = some u) (h1 : u.oneCell' = true) (h63 : n + 1 ≤ maxLen) (hbytes : (n + 1) * bytes ≤ 140737488355328) (hbase : base ≤ w.heap.size) :
    ∃ v' w', (Builtin.append_ #[t, t] ty #[v, .slice (some ad) 1 c]).run P w = .ok v' w' ∧ Held w' base e v' (n + 1) (xs ++ [u]) ∧ w.grownBy w' v.ownBlock := by
  have hnews : ∀ j u', [u][j]? = some u' → w.cell? (ad.add j) = some u' := by
    intro j u' hj
    cases j with
    | zero => simp at hj; subst hj; exact hu
    | succ j => simp at hj
  have hone : ∀ u' ∈ [u], u'.oneCell' = true := by intro u' hm; simp at hm; subst hm; exact h1
  have hxl := h.1
  rcases h.2 with ⟨rfl, rfl⟩ | ⟨g, cap, cur, fr, rfl, hb, hg, hf, hn, hm, hs, hx⟩
  · obtain rfl : xs = [] := List.eq_nil_of_length_eq_zero hxl
    obtain ⟨v', w', hrun, r1, r2, _⟩ := run_append_own (P := P) w base t ty e i z 1 bytes ht hi hz hsize hby hzs (by decide) (.slice none 0 0) 0 [] (World.ownsRow_nil w _ e 1) ad 1 c [u] rfl hnews hone h63 hbytes hbase
    exact ⟨v', w', hrun, held_own r1, r2⟩
  · have hg' := (Array.getElem?_eq_some_iff.1 hg).1
    have hcell : ∀ j, j < n → w.cell? ⟨g, j, none⟩ = xs[j]? := fun j hj => by
      rw [← hx, List.getElem?_take_of_lt hj]
      simp [World.cell?, hg]
    by_cases hr : n + 1 ≤ cap
    · have hrun := run_append_room_cells (P := P) w t ty e i ht hi g 0 n cap ad 1 c [u] (by rw [hsize]; rfl) hnews hone hr
        (fun j hj => by
          simp at hj; subst hj
          rw [hsize]
          simp [World.cell?, hg]
          omega)
        (fun j hj => by
          simp at hj; subst hj
          rw [hsize]
          exact held_frozen hg hf (by omega))
      rw [hsize, show 0 + n * 1 = n by omega] at hrun
      refine ⟨_, _, hrun, ⟨by simp [hxl], .inr ⟨g, cap, cur.setIfInBounds n u, fr, rfl, hb, ?_, by simpa using hf, hr, hm, by simpa using hs, ?_⟩⟩, ?_⟩
      · show (w.setCell ⟨g, n, none⟩ u).heap[g]? = _
        simp [World.setCell, Array.getElem?_modify, hg]
      · rw [Array.toList_setIfInBounds, ← hx]
        have hlt : n < cur.toList.length := by simp; omega
        rw [List.take_set, List.take_add_one, List.getElem?_eq_getElem hlt]
        simp only [Option.toList]
        rw [List.set_append_right _ _ (by rw [List.length_take]; omega), List.length_take, show n - min n cur.toList.length = 0 by omega]
        rfl
      · exact ⟨rfl, rfl, rfl, by simp [World.setCells, World.setCell], fun k _ hk => Below.heap_setCell w ⟨g, n, none⟩ u k (fun e' => hk (by rw [e']; rfl))⟩
    · obtain ⟨v', w', hrun, r1, r2⟩ := run_append_arg_grows (P := P) w t ty e i z 1 bytes ht hi hz hsize hby hzs (by decide) ⟨g, 0, none⟩ n cap xs (by omega)
        (fun j u' hj => by
          have hjl : j < xs.length := (List.getElem?_eq_some_iff.1 hj).1
          rw [Addr.add_lit, Nat.zero_add, hcell j (by omega)]; exact hj)
        ad 1 c [u] rfl hnews (by omega) h63 hbytes
      exact ⟨v', w', hrun, held_own (r1.mono hbase), ⟨r2.os, r2.tape, r2.output, r2.size, fun k hk _ => r2.block k hk (by simp)⟩⟩
/-- THE WALK's STEP -/
theorem wpList_append_held {P : Program} (w : World) {ops : Array Oper} {rest : List Oper} {o : Oper} {a : Act} {Q : Exit → Act → World → Prop} (hgd : o.guard = none) (s x : Operand) (t : TypeId)
    (ho : o.op = .call { callee := .builtin .append, args := #[s, x], argTypes := #[t, t] })
    {base n : Nat} {e : TypeId} {v : Value} {xs : List Value} (i : TypeInfo) (z : Value) (bytes : Nat) (ht : P.underlying t = some (.slice e)) (hi : P.info? e = some i) (hz : i.zero = some z) (hsize : i.size = 1) (hby : i.bytes = bytes) (hzs : z.cells.size = 1)
    (hs : a.eval s = v) (h : Held w base e v n xs) (ad : Addr) (c : Nat) (u : Value) (hx : a.eval x = .slice (some ad) 1 c) (hu : w.cell? (ad.add 0) = some u) (h1 : u.oneCell' = true)
    (h63 : n + 1 ≤ maxLen) (hbytes : (n + 1) * bytes ≤ 140737488355328) (hbase : base ≤ w.heap.size)
    (hK : ∀ v' w', Held w' base e v' (n + 1) (xs ++ [u]) → w.grownBy w' v.ownBlock → wpList P ops Q rest (a.put o.dst v') w') : wpList P ops Q (o :: rest) a w := by
  refine wpList_plain hgd fun K hK' => ?_
  obtain ⟨v', w', hrun, r, r2⟩ := held_one (P := P) (ty := o.type) h i z bytes ht hi hz hsize hby hzs ad c u hu h1 h63 hbytes hbase
  unfold Oper.wp
  simp [execOp, ho, resolve, invoke, builtin, hs, hx, hrun, Result.andThen]
  exact hK' _ _ (hK v' w' r r2)
/-- what the conversion of a text to bytes lays -/
theorem cells_size (w : World) (e : TypeId) (s : ByteArray) : (Lib.bytesCells w e s).size = grownCap w s.size 0 e := by
  have hge := grownCap_ge w s.size 0 e
  unfold Lib.bytesCells
  rw [Array.size_append, Array.size_map, Array.size_replicate]
  have : s.data.size = s.size := rfl
  omega
def bytesI (s : ByteArray) : List Int := s.data.toList.map fun b => (b.toNat : Int)
theorem bytesI_len (s : ByteArray) : (bytesI s).length = s.size := by unfold bytesI; rw [List.length_map, data_length]
theorem held_bytes (w : World) (e : TypeId) (s : ByteArray) (base : Nat) (hb : base ≤ w.heap.size) (hm : s.size ≤ maxLen) :
    Held (Lib.bytesWorld w e s) base e (.slice (some ⟨w.heap.size, 0, none⟩) s.size (grownCap w s.size 0 e)) s.size ((bytesI s).map (Value.int .u8)) := by
  refine ⟨by rw [List.length_map, bytesI_len], .inr ⟨w.heap.size, _, _, _, rfl, hb, Lib.bytesWorld_at_new w e s, .inr (Nat.le_refl _), grownCap_ge w s.size 0 e, grownCap_le_maxLen w _ 0 e hm, cells_size w e s, ?_⟩⟩
  unfold Lib.bytesCells bytesI
  rw [Array.toList_append, Array.toList_map, List.take_append_of_le_length (by rw [List.length_map, data_length]; exact Nat.le_refl _), List.take_of_length_le (by rw [List.length_map, data_length]; exact Nat.le_refl _), List.map_map]
  rfl

end Go.Proofs.Ytjegpbaohoigjaa.Held
