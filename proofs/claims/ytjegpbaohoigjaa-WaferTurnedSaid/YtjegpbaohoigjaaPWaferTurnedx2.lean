/- Written by a program of this session, which began as the kit's print and is turned in wip/printer: the plain form of each function, and that the Go code comes to it. -/
import Derived.Test.YtjegpbaohoigjaaPWaferTurnedx0
import Derived.Test.YtjegpbaohoigjaaPWaferTurnedx1
import Derived.Test.YtjegpbaohoigjaaHeld
import Derived.BigRegion
import Derived.Test.YtjegpbaohoigjaaHeld
namespace Go.Proofs.Ytjegpbaohoigjaa.PWaferTurned
open Go.RowKit Go.Proofs.YtjegpbaohoigjaaW.PrintWords Go.Proofs.YtjegpbaohoigjaaW.PrintLast Go.Proofs.YtjegpbaohoigjaaW.PrintMore
attribute [local go_sem] max2_int min2_int max_two min_two max_three min_three max_four min_four   -- for this text's walks alone
set_option linter.unusedVariables false
set_option linter.unusedSimpArgs false

/-! ### countermandlaw02_WaferTurned: function 6 -/
--IMPORT Derived.BigRegion
--IMPORT Derived.Test.YtjegpbaohoigjaaHeld
--ROUNDS
theorem held_set {w : World} {base n j : Nat} {e : TypeId} {g c : Nat} {xs : List Value} (h : Held.Held w base e (.slice (some ⟨g, 0, none⟩) n c) n xs) (hj : j < n) (u : Value) : Held.Held (w.setCell ⟨g, j, none⟩ u) base e (.slice (some ⟨g, 0, none⟩) n c) n (xs.set j u) := by
  obtain ⟨h1, h2⟩ := h
  refine ⟨by rw [List.length_set]; exact h1, ?_⟩
  rcases h2 with ⟨q, rfl⟩ | ⟨g', cap, cur, fr, e1, hb, hg, hf, hn, hm, hs, hx⟩
  · omega
  · injection e1 with e2 e3 e4
    injection e2 with e2
    injection e2 with e2
    subst e2 e4
    refine .inr ⟨g, c, cur.setIfInBounds j u, fr, rfl, hb, ?_, by simpa using hf, hn, hm, by simpa using hs, ?_⟩
    · show (w.setCell ⟨g, j, none⟩ u).heap[g]? = _
      simp [World.setCell, Array.getElem?_modify, hg]
    · rw [Array.toList_setIfInBounds, ← hx, List.take_set]
theorem held_u8 {w : World} {base n : Nat} {g c : Nat} {xs : List Int} (h : Held.Held w base 5 (.slice (some ⟨g, 0, none⟩) n c) n (xs.map (Value.int .u8))) {j : Nat} (hj : j < n) :
    w.cell? ⟨g, j, none⟩ = some (.int .u8 (xs.getD j 0)) ∧ w.frozen? ⟨g, j, none⟩ = false := by
  obtain ⟨g', c', e1, _, _, _, h1, h2⟩ := Held.held_cell h (by omega)
  injection e1 with e2 e3 e4
  injection e2 with e2
  injection e2 with e2
  subst e2
  refine ⟨?_, h2 j hj⟩
  have hl : j < xs.length := by have := h.1; rw [List.length_map] at this; omega
  rw [h1 j hj, List.getElem?_map, List.getElem?_eq_getElem hl, List.getD_eq_getElem?_getD, List.getElem?_eq_getElem hl]
  rfl
def eB (t : Int) (i : Nat) : Int := t / 2 ^ (8 * i) % 256
def turnL (xs : List Int) (p : Nat) (t : Int) : Nat → List Int
  | 0 => xs
  | i + 1 => (turnL xs p t i).set (p + i) (Go.bits .xor .u8 ((turnL xs p t i)[p + i]?.getD 0) (eB t i))
theorem turnL_len (xs : List Int) (p : Nat) (t : Int) : ∀ i, (turnL xs p t i).length = xs.length
  | 0 => rfl
  | i + 1 => by unfold turnL; rw [List.length_set, turnL_len xs p t i]
set_option maxHeartbeats 3200000 in
set_option maxRecDepth 100000 in
theorem turned_main (k : Nat) (a0 : ByteArray) (a1 a2 : Int) (c : ByteArray) (p : Nat) (w : World) (ha : countermandlaw02_alive.f k = some true) (h0 : a0.size ≤ 1024) (h2 : a2 ≠ 0) (hc : wafer_Close.f k a0 = some c) (h6 : 6 ≤ c.size) (hm : c.size ≤ 1099511627776)
    (hp : wrap64 (2 + wrap64 ((IntKind.u64.wrap a1).tmod ((c.size : Int) - 5))) = (p : Int)) (hp4 : p + 4 ≤ c.size)
    (o1 o2 : ByteArray) (ho1 : wafer_Open.f k (strOfNums (turnL (Held.bytesI c) p a2 4)) = some (o1, 0)) (ho2 : wafer_Open.f k (strOfNums ((Held.bytesI c).take p)) = some (o2, 0)) :
    Calls Try.prog 6 #[.string a0, .int .i64 a1, .int .u32 a2] w fun e w' => e = .returned (.bool true) ∧ Below w.heap.size w w' := by
  have hu30 := Try.underlying30
  have hu5 := Try.underlying5
  have hu9 := Try.underlying9
  have A := countermandlaw02_alive.calls k true
  have C := wafer_Close.calls k a0 c
  have g0 : decide (1024 < (a0.size : Int)) = false := decide_eq_false (by omega)
  have g1 : (a2 == 0) = false := by simpa using h2
  go_enter Try.func6, Try.ntmps6
  go_wp2_with (go_at_call 9; (with_reducible refine (A _ ha).mono ?_); rintro e w1 ⟨rfl, hB1⟩)
  go_at_call 10
  with_reducible refine (C _ hc).mono ?_
  rintro e w2 ⟨rfl, hB2⟩
  have hcv := Lib.run_convert_string_bytes (P := Try.prog) w2 9 30 5 c Try.underlying9 Try.underlying30 Try.underlying5
  have hz2 : w.heap.size ≤ w2.heap.size := Nat.le_trans hB1.size hB2.size
  have hC := Held.held_bytes w2 5 c w2.heap.size (Nat.le_refl _) (by simp only [maxLen]; omega)
  have hcap := grownCap_ge w2 c.size 0 5
  generalize grownCap w2 c.size 0 5 = cap at hcv hC hcap
  have hsl := run_convert_bytes_arg (P := Try.prog) (Lib.bytesWorld w2 5 c) 30 5 Try.underlying30 Try.underlying5 w2.heap.size 0 p cap ((Held.bytesI c).take p) (by rw [List.length_take, Held.bytesI_len]; omega) (fun i hi => by
    rw [Nat.zero_add, (held_u8 hC (show i < c.size by omega)).1, List.getD_eq_getElem?_getD, List.getD_eq_getElem?_getD, List.getElem?_take_of_lt hi]) 9 Try.underlying9
  have hpc : (p ≤ cap) = True := eq_true (by omega)
  have hB3 : Below w.heap.size w (Lib.bytesWorld w2 5 c) := by
    have b2 := hB1.trans (hB2.mono hB1.size)
    exact ⟨b2.os, b2.tape, b2.output, by have := b2.size; rw [Lib.bytesWorld_size]; omega, fun i hi => (Lib.bytesWorld_at_old w2 5 c i (by omega)).trans (b2.block i hi)⟩
  have hsz : w2.heap.size < (Lib.bytesWorld w2 5 c).heap.size := by rw [Lib.bytesWorld_size]; omega
  generalize Lib.bytesWorld w2 5 c = W1 at hcv hC hsl hB3 hsz
  have nz : ((c.size : Int) - 5 = 0) = False := eq_false (by omega)
  have HC := Aside0.mk (And.intro hC (And.intro hB3 hsz))
  clear hC hB3 hsz
  go_wp2
  simp only [hp]
  clear hcv hsl
  go_loopg [10] 4 (fun m v wr => ∃ i : Nat, v = .int .i64 (i : Int) ∧ m + i = 4 ∧ Held.Held wr w2.heap.size 5 (.slice (some ⟨w2.heap.size, 0, none⟩) c.size cap) c.size ((turnL (Held.bytesI c) p a2 i).map (Value.int .u8)) ∧ Below w.heap.size w wr ∧ w2.heap.size < wr.heap.size)
  case atStart => exact ⟨0, rfl, rfl, HC.out.1, HC.out.2.1, HC.out.2.2⟩
  case round =>
    obtain ⟨i, rfl, hi, hheld, hrest⟩ := hrel
    have HR := Aside0.mk hrest
    clear hrest
    by_cases h4 : i < 4
    · obtain ⟨hcell, hfro⟩ := held_u8 hheld (show p + i < c.size by omega)
      have HO := Aside0.mk hheld
      clear hheld
      have q0 : decide ((i : Int) < 4) = true := decide_eq_true (by omega)
      have q1 : decide ((p : Int) + (i : Int) < (c.size : Int)) = true := decide_eq_true (by omega)
      have q2 : ((p : Int) + (i : Int)).toNat = p + i := by omega
      go_wp2
      go_roundg (3 - i)
      case rel =>
        refine ⟨i + 1, by rw [Int.natCast_add]; rfl, by omega, ?_, ?_, ?_⟩
        · have := held_set HO.out (show p + i < c.size by omega) (Value.int .u8 (Go.bits .xor .u8 ((turnL (Held.bytesI c) p a2 i)[p + i]?.getD 0) (eB a2 i)))
          rw [← List.map_set] at this
          exact this
        · exact HR.out.1.setCell (show w.heap.size ≤ w2.heap.size from hz2) _
        · have := HR.out.2; simpa [World.setCell] using this
      case measure => omega
    · obtain rfl : i = 4 := by omega
      have q0 : decide (((4 : Nat) : Int) < 4) = false := rfl
      have hsl := run_convert_bytes_arg (P := Try.prog) wr 30 5 Try.underlying30 Try.underlying5 w2.heap.size 0 c.size cap (turnL (Held.bytesI c) p a2 4) (by rw [turnL_len, Held.bytesI_len]) (fun i hi => by
        rw [Nat.zero_add, (held_u8 hheld (show i < c.size by omega)).1]) 9 Try.underlying9
      clear hheld
      have O1 := wafer_Open.calls k (strOfNums (turnL (Held.bytesI c) p a2 4)) o1 0
      have O2 := wafer_Open.calls k (strOfNums ((Held.bytesI c).take p)) o2 0
      generalize strOfNums (turnL (Held.bytesI c) p a2 4) = s1 at ho1 O1 hsl
      generalize strOfNums ((Held.bytesI c).take p) = s2 at ho2 O2 ⊢
      have b1 := HR.out.1
      go_wp2_with (go_at_call 14; first | ((with_reducible refine (O1 _ ho1).mono ?_); rintro e w3 ⟨rfl, hB4⟩) | ((with_reducible refine (O2 _ ho2).mono ?_); rintro e w4 ⟨rfl, hB5⟩))
      go_ret
      exact ⟨rfl, (b1.trans (hB4.mono b1.size)).trans (hB5.mono (Nat.le_trans b1.size hB4.size))⟩
def countermandlaw02_WaferTurned.Pure : Prop := ∀ (a0 : ByteArray) (a1 : Int) (a2 : Int), a0.size ≤ 140737488351232 → (Lit.int .i64 a1).wf = true → (Lit.int .u32 a2).wf = true → ∃ k, countermandlaw02_alive.f k = some true ∧ (a0.size > 1024 ∨ a2 = 0 ∨ ∃ (c : ByteArray) (p : Nat) (o1 o2 : ByteArray), a0.size ≤ 1024 ∧ a2 ≠ 0 ∧ wafer_Close.f k a0 = some c ∧ 6 ≤ c.size ∧ c.size ≤ 1099511627776 ∧ wrap64 (2 + wrap64 ((IntKind.u64.wrap a1).tmod ((c.size : Int) - 5))) = (p : Int) ∧ p + 4 ≤ c.size ∧ wafer_Open.f k (strOfNums (turnL (Held.bytesI c) p a2 4)) = some (o1, 0) ∧ wafer_Open.f k (strOfNums ((Held.bytesI c).take p)) = some (o2, 0))
set_option maxHeartbeats 800000 in
set_option maxRecDepth 100000 in
theorem turned_early (k : Nat) (a0 : ByteArray) (a1 a2 : Int) (w : World) (ha : countermandlaw02_alive.f k = some true) (h : a0.size > 1024 ∨ a2 = 0) :
    Calls Try.prog 6 #[.string a0, .int .i64 a1, .int .u32 a2] w fun e w' => e = .returned (.bool true) ∧ Below w.heap.size w w' := by
  have A := countermandlaw02_alive.calls k true
  by_cases h0 : a0.size > 1024
  · have g0 : decide (1024 < (a0.size : Int)) = true := decide_eq_true (by omega)
    go_enter Try.func6, Try.ntmps6
    go_wp2_with (go_at_call 9; (with_reducible refine (A _ ha).mono ?_); rintro e w1 ⟨rfl, hB1⟩)
    go_ret
    exact ⟨rfl, hB1⟩
  · have g0 : decide (1024 < (a0.size : Int)) = false := decide_eq_false (by omega)
    obtain rfl : a2 = 0 := h.resolve_left h0
    go_enter Try.func6, Try.ntmps6
    go_wp2_with (go_at_call 9; (with_reducible refine (A _ ha).mono ?_); rintro e w1 ⟨rfl, hB1⟩)
    go_ret
    exact ⟨rfl, hB1⟩
theorem countermandlaw02_WaferTurned.walk (P : countermandlaw02_WaferTurned.Pure) (a0 : ByteArray) (a1 : Int) (a2 : Int) (w : World) (w0 : a0.size ≤ 140737488351232) (w1 : (Lit.int .i64 a1).wf = true) (w2 : (Lit.int .u32 a2).wf = true) :
    Calls Try.prog 6 #[.string a0, .int .i64 a1, .int .u32 a2] w fun e w' => e = .returned (.bool true) ∧ Below w.heap.size w w' := by
  obtain ⟨k, ha, h⟩ := P a0 a1 a2 w0 w1 w2
  rcases h with h | h | ⟨c, p, o1, o2, h0, h2, hc, h6, hm, hp, hp4, ho1, ho2⟩
  · exact turned_early k a0 a1 a2 w ha (.inl h)
  · exact turned_early k a0 a1 a2 w ha (.inr h)
  · exact turned_main k a0 a1 a2 c p w ha h0 h2 hc h6 hm hp hp4 o1 o2 ho1 ho2

end Go.Proofs.Ytjegpbaohoigjaa.PWaferTurned
