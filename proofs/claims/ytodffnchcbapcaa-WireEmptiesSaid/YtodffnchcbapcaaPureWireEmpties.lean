/- Proved: with pumps and takes, as often as there are bytes, all came there; no condition beyond the statement's own bounds. -/
import Derived.Test.YtodffnchcbapcaaPWireEmptiesx2
namespace Go.Proofs.Ytodffnchcbapcaa.Pure
open Go.RowKit Go.Proofs.Ytodffnchcbapcaa.PWireEmpties Go.Proofs.YtodffnchcbapcaaW.PrintWords Go.Proofs.YtodffnchcbapcaaW.PrintLast

theorem Ev.eq {α : Type} {g : Nat → Option α} {r q : α} (h : Ev g r) (e : r = q) : Ev g q := e ▸ h
theorem wrap_next (i n : Nat) (h : i < n) (hn : n ≤ 9223372036854775807) : wrap64 ((i : Int) + 1) = ((i + 1 : Nat) : Int) := by unfold wrap64; omega
theorem wrap_in (x : Int) (h0 : -9223372036854775808 ≤ x) (h1 : x ≤ 9223372036854775807) : wrap64 x = x := by unfold wrap64; omega
/-! a socket's way: what is to go, what is on its way, what came there -/
structure Way where
  w : ByteArray
  q : ByteArray
  t : ByteArray
def Way.all (x : Way) : ByteArray := x.t ++ x.q ++ x.w
def Way.len (x : Way) : Nat := x.t.size + x.q.size + x.w.size
def pushW (x : Way) (s : ByteArray) : Way := ⟨x.w ++ s, x.q, x.t⟩
def pumpW (x : Way) : Way := ⟨x.w.extract (pumpN x.q x.w) x.w.size, x.q ++ x.w.extract 0 (pumpN x.q x.w), x.t⟩
def takeW (x : Way) (a : Int) : Way := if a ≤ 0 then x else ⟨x.w, x.q.extract (takeN x.q a) x.q.size, x.t ++ x.q.extract 0 (takeN x.q a)⟩
def tookW (x : Way) (a : Int) : ByteArray := if a ≤ 0 then (⟨#[]⟩ : ByteArray) else x.q.extract 0 (takeN x.q a)
theorem pumpN_le (y x : ByteArray) : pumpN y x ≤ x.size ∧ (y.size ≤ 8 → pumpN y x + y.size ≤ 8) := by unfold pumpN; omega
theorem takeN_le (y : ByteArray) (a : Int) : takeN y a ≤ y.size := by unfold takeN; omega
theorem cut_join (x : ByteArray) (n : Nat) (h : n ≤ x.size) : x.extract 0 n ++ x.extract n x.size = x := by
  rw [ByteArray.extract_append_extract, show min 0 n = 0 by omega, show max n x.size = x.size by omega, ByteArray.extract_zero_size]
theorem push_all (x : Way) (s : ByteArray) : (pushW x s).all = x.all ++ s := by
  show x.t ++ x.q ++ (x.w ++ s) = x.t ++ x.q ++ x.w ++ s
  exact ByteArray.append_assoc.symm
theorem pump_all (x : Way) : (pumpW x).all = x.all := by
  unfold Way.all pumpW
  dsimp only
  rw [← ByteArray.append_assoc, ByteArray.append_assoc (c := x.w.extract _ _), cut_join x.w _ (pumpN_le _ _).1]
theorem take_all (x : Way) (a : Int) : (takeW x a).all = x.all := by
  unfold takeW
  split
  · rfl
  · unfold Way.all
    dsimp only
    rw [ByteArray.append_assoc (a := x.t), cut_join x.q _ (takeN_le _ _)]
theorem all_size (x : Way) : x.all.size = x.len := by unfold Way.all Way.len; rw [ByteArray.size_append, ByteArray.size_append]
theorem push_len (x : Way) (s : ByteArray) : (pushW x s).len = x.len + s.size := by rw [← all_size, push_all, ByteArray.size_append, all_size]
theorem pump_len (x : Way) : (pumpW x).len = x.len := by rw [← all_size, pump_all, all_size]
theorem take_len (x : Way) (a : Int) : (takeW x a).len = x.len := by rw [← all_size, take_all, all_size]
theorem pump_q (x : Way) (_h : x.q.size ≤ 8) : (pumpW x).q.size = x.q.size + pumpN x.q x.w := by
  unfold pumpW; dsimp only
  rw [ByteArray.size_append, ByteArray.size_extract]
  have := (pumpN_le x.q x.w).1
  omega
theorem pump_t (x : Way) : (pumpW x).t = x.t := rfl
theorem push_t (x : Way) (s : ByteArray) : (pushW x s).t = x.t := rfl
theorem push_q (x : Way) (s : ByteArray) : (pushW x s).q = x.q := rfl
theorem take_q (x : Way) (a : Int) : (takeW x a).q.size ≤ x.q.size := by
  unfold takeW
  split
  · exact Nat.le_refl _
  · dsimp only
    rw [ByteArray.size_extract]; omega
theorem take_t (x : Way) (a : Int) : x.t.size ≤ (takeW x a).t.size := by
  unfold takeW
  split
  · exact Nat.le_refl _
  · dsimp only
    rw [ByteArray.size_append]; omega
theorem t_begin (x : Way) : x.all.extract 0 x.t.size = x.t := by
  unfold Way.all
  rw [ByteArray.append_assoc]
  exact ByteArray.extract_append_eq_left rfl
/-! three of them -/
structure W3 where
  a : Way
  b : Way
  c : Way
def W3.get (W : W3) (i : Int) : Way := if i = 0 then W.a else if i = 1 then W.b else W.c
def W3.put (W : W3) (i : Int) (x : Way) : W3 := if i = 0 then ⟨x, W.b, W.c⟩ else if i = 1 then ⟨W.a, x, W.c⟩ else ⟨W.a, W.b, x⟩
def inR (i : Int) : Prop := 0 ≤ i ∧ i ≤ 2
instance (i : Int) : Decidable (inR i) := inferInstanceAs (Decidable (_ ∧ _))
theorem cases3 {i : Int} (h : inR i) : i = 0 ∨ i = 1 ∨ i = 2 := by unfold inR at h; omega
theorem get_put (W : W3) (i : Int) (x : Way) : (W.put i x).get i = x := by
  unfold W3.put W3.get
  by_cases h0 : i = 0
  · rw [if_pos h0, if_pos h0]
  · rw [if_neg h0, if_neg h0]
    by_cases h1 : i = 1
    · rw [if_pos h1, if_pos h1]
    · rw [if_neg h1, if_neg h1]
theorem get_put_ne (W : W3) (i j : Int) (x : Way) (hi : inR i) (hj : inR j) (h : j ≠ i) : (W.put i x).get j = W.get j := by
  rcases cases3 hi with rfl | rfl | rfl <;> rcases cases3 hj with rfl | rfl | rfl <;> first | rfl | exact absurd rfl h
abbrev B9 := ByteArray × ByteArray × ByteArray × ByteArray × ByteArray × ByteArray × ByteArray × ByteArray × ByteArray
def tup (W : W3) : B9 := (W.a.w, W.a.q, W.a.t, W.b.w, W.b.q, W.b.t, W.c.w, W.c.q, W.c.t)
def zeroW : W3 := ⟨⟨⟨#[]⟩, ⟨#[]⟩, ⟨#[]⟩⟩, ⟨⟨#[]⟩, ⟨#[]⟩, ⟨#[]⟩⟩, ⟨⟨#[]⟩, ⟨#[]⟩, ⟨#[]⟩⟩⟩
theorem new_eq : wire_New.f = some (tup zeroW) := rfl
def pushS (W : W3) (i : Int) (s : ByteArray) : W3 := if inR i then W.put i (pushW (W.get i) s) else W
def pumpS (W : W3) (i : Int) : W3 := if inR i then W.put i (pumpW (W.get i)) else W
def takeS (W : W3) (i a : Int) : W3 := if inR i then W.put i (takeW (W.get i) a) else W
theorem push_eq (W : W3) (i : Int) (s : ByteArray) (h : inR i → (W.get i).w.size + s.size ≤ 9223372036854775807) :
    wire_Wire_Push.f W.a.w W.a.q W.a.t W.b.w W.b.q W.b.t W.c.w W.c.q W.c.t i s = some (decide (inR i), tup (pushS W i s)) := by
  unfold wire_Wire_Push.f pushS
  by_cases hi : inR i
  · rw [if_pos hi, decide_eq_true hi]
    have h := h hi
    rcases cases3 hi with rfl | rfl | rfl
    · rw [if_pos rfl]; exact (if_pos h).trans rfl
    · rw [if_neg (by decide), if_pos rfl]; exact (if_pos h).trans rfl
    · rw [if_neg (by decide), if_neg (by decide), if_pos rfl]; exact (if_pos h).trans rfl
  · rw [if_neg hi, decide_eq_false hi]
    unfold inR at hi
    rw [if_neg (by omega), if_neg (by omega), if_neg (by omega)]; rfl
theorem pump_eq (W : W3) (i : Int) (h : inR i → (W.get i).q.size ≤ 8) :
    wire_Wire_Pump.f W.a.w W.a.q W.a.t W.b.w W.b.q W.b.t W.c.w W.c.q W.c.t i = some (if inR i then (pumpN (W.get i).q (W.get i).w : Int) else 0, tup (pumpS W i)) := by
  unfold wire_Wire_Pump.f pumpS
  by_cases hi : inR i
  · rw [if_pos hi, if_pos hi]
    have h := h hi
    rcases cases3 hi with rfl | rfl | rfl
    · rw [if_pos rfl]; exact (if_pos h).trans rfl
    · rw [if_neg (by decide), if_pos rfl]; exact (if_pos h).trans rfl
    · rw [if_neg (by decide), if_neg (by decide), if_pos rfl]; exact (if_pos h).trans rfl
  · rw [if_neg hi, if_neg hi]
    unfold inR at hi
    rw [if_neg (by omega), if_neg (by omega), if_neg (by omega)]; rfl
theorem take_eq (W : W3) (i a : Int) (h : inR i → (W.get i).t.size + (W.get i).q.size ≤ 9223372036854775807) :
    wire_Wire_Take.f W.a.w W.a.q W.a.t W.b.w W.b.q W.b.t W.c.w W.c.q W.c.t i a = some (if inR i then tookW (W.get i) a else (⟨#[]⟩ : ByteArray), tup (takeS W i a)) := by
  unfold wire_Wire_Take.f takeS tookW takeW
  by_cases hi : inR i
  · rw [if_pos hi, if_pos hi]
    have h := h hi
    have hle := takeN_le (W.get i).q a
    by_cases ha : a ≤ 0
    · rw [if_pos ha, if_pos ha, if_pos ha, if_pos ha, if_pos ha]
      rcases cases3 hi with rfl | rfl | rfl
      · rw [if_pos rfl]; rfl
      · rw [if_neg (by decide), if_pos rfl]; rfl
      · rw [if_neg (by decide), if_neg (by decide), if_pos rfl]; rfl
    · rw [if_neg ha, if_neg ha, if_neg ha, if_neg ha, if_neg ha]
      rcases cases3 hi with rfl | rfl | rfl
      · rw [if_pos rfl]; exact (if_pos (Nat.le_trans (Nat.add_le_add_left hle _) h)).trans rfl
      · rw [if_neg (by decide), if_pos rfl]; exact (if_pos (Nat.le_trans (Nat.add_le_add_left hle _) h)).trans rfl
      · rw [if_neg (by decide), if_neg (by decide), if_pos rfl]; exact (if_pos (Nat.le_trans (Nat.add_le_add_left hle _) h)).trans rfl
  · rw [if_neg hi, if_neg hi]
    unfold inR at hi
    rw [if_neg (by omega), if_neg (by omega), if_neg (by omega)]; rfl
theorem trace_eq (W : W3) (i : Int) :
    wire_Wire_Trace.f W.a.w W.a.q W.a.t W.b.w W.b.q W.b.t W.c.w W.c.q W.c.t i = some (if inR i then (W.get i).t else (⟨#[]⟩ : ByteArray), tup W) := by
  unfold wire_Wire_Trace.f
  by_cases hi : inR i
  · rw [if_pos hi]
    rcases cases3 hi with rfl | rfl | rfl
    · rw [if_pos rfl]; rfl
    · rw [if_neg (by decide), if_pos rfl]; rfl
    · rw [if_neg (by decide), if_neg (by decide), if_pos rfl]; rfl
  · rw [if_neg hi]
    unfold inR at hi
    rw [if_neg (by omega), if_neg (by omega), if_neg (by omega)]; rfl
theorem all_eq (W : W3) (i : Int) (h : inR i → (W.get i).len ≤ 9223372036854775807) :
    wire_Wire_All.f W.a.w W.a.q W.a.t W.b.w W.b.q W.b.t W.c.w W.c.q W.c.t i = some (if inR i then (W.get i).all else (⟨#[]⟩ : ByteArray), tup W) := by
  unfold wire_Wire_All.f
  by_cases hi : inR i
  · rw [if_pos hi]
    have h := h hi
    unfold Way.len at h
    rcases cases3 hi with rfl | rfl | rfl
    · rw [if_pos rfl]; exact (if_pos h).trans rfl
    · rw [if_neg (by decide), if_pos rfl]; exact (if_pos h).trans rfl
    · rw [if_neg (by decide), if_neg (by decide), if_pos rfl]; exact (if_pos h).trans rfl
  · rw [if_neg hi]
    unfold inR at hi
    rw [if_neg (by omega), if_neg (by omega), if_neg (by omega)]; rfl
theorem left_eq (W : W3) (i : Int) (h : inR i → (W.get i).len ≤ 9223372036854775807) :
    wire_Wire_Left.f W.a.w W.a.q W.a.t W.b.w W.b.q W.b.t W.c.w W.c.q W.c.t i = some (if inR i then ((W.get i).len : Int) - ((W.get i).t.size : Int) else 0, tup W) := by
  unfold wire_Wire_Left.f
  rw [all_eq W i h, Option.bind_some]
  show (wire_Wire_Trace.f W.a.w W.a.q W.a.t W.b.w W.b.q W.b.t W.c.w W.c.q W.c.t i).bind _ = _
  rw [trace_eq, Option.bind_some]
  by_cases hi : inR i
  · have h := h hi
    rw [if_pos hi, if_pos hi, if_pos hi]
    show some (wrap64 (((W.get i).all.size : Int) - ((W.get i).t.size : Int)), tup W) = _
    rw [all_size]
    have : (W.get i).t.size ≤ (W.get i).len := by unfold Way.len; omega
    rw [wrap_in _ (by omega) (by omega)]
  · rw [if_neg hi, if_neg hi, if_neg hi]
    show some (wrap64 (((⟨#[]⟩ : ByteArray).size : Int) - ((⟨#[]⟩ : ByteArray).size : Int)), tup W) = _
    rw [show wrap64 (((⟨#[]⟩ : ByteArray).size : Int) - ((⟨#[]⟩ : ByteArray).size : Int)) = 0 by rw [Int.sub_self]; exact wrap_in 0 (by decide) (by decide)]
theorem is_eq (i : Int) : countermandref06_Is.f i = some (decide (inR i)) := by
  unfold countermandref06_Is.f
  by_cases h : i ≥ 0
  · rw [if_pos h]
    by_cases h2 : i ≤ 2
    · rw [decide_eq_true h2, decide_eq_true (show inR i from ⟨h, h2⟩)]
    · rw [decide_eq_false h2, decide_eq_false (show ¬ inR i from fun q => h2 q.2)]
  · rw [if_neg h, decide_eq_false (show ¬ inR i from fun q => h q.1)]
theorem alive_eq : countermandlaw06_alive.f = some true := by decide +kernel
--END wire

theorem round_t (x : Way) (a : Int) (ha : 1 ≤ a) : min (x.t.size + 1) x.len ≤ (takeW (pumpW x) a).t.size := by
  unfold takeW
  rw [if_neg (by omega)]
  show _ ≤ (x.t ++ ((pumpW x).q.extract 0 (takeN (pumpW x).q a))).size
  rw [ByteArray.size_append, ByteArray.size_extract]
  have hle := takeN_le (pumpW x).q a
  have hq : (pumpW x).q.size = x.q.size + pumpN x.q x.w := by
    unfold pumpW; dsimp only
    rw [ByteArray.size_append, ByteArray.size_extract]
    have := (pumpN_le x.q x.w).1
    omega
  have ht : takeN (pumpW x).q a = min a.toNat (pumpW x).q.size := rfl
  have hp : pumpN x.q x.w = min (8 - x.q.size) x.w.size := rfl
  unfold Way.len
  omega
theorem empties_ev (s : ByteArray) (hs : s.size ≤ 1024) (i n : Int) (hi : inR i) (hn : 1 ≤ n) : ∀ (d j : Nat) (W : W3), j + d = s.size → (W.get i).all = s → (W.get i).q.size ≤ 8 → j ≤ (W.get i).t.size →
    Ev (fun k => countermandlaw06_WireEmpties.l0 k s i n (s.size : Int) (j : Int) W.a.w W.a.q W.a.t W.b.w W.b.q W.b.t W.c.w W.c.q W.c.t) true
  | 0, j, W, h, ha, hq, ht => by
    have hl : (W.get i).len = s.size := by rw [← all_size, ha]
    have ht2 : (W.get i).t.size = s.size := by unfold Way.len at hl; omega
    have hts : (W.get i).t = s := by
      have := t_begin (W.get i)
      rw [ha, ht2, ByteArray.extract_zero_size] at this
      exact this.symm
    refine Ev.step (f := fun _ => some true) (fun k => ?_) (Ev.now _)
    rw [countermandlaw06_WireEmpties.l0, if_neg (by omega), trace_eq, Option.bind_some, if_pos hi, hts]
    show (if s.toList = s.toList then (wire_Wire_Left.f W.a.w W.a.q W.a.t W.b.w W.b.q W.b.t W.c.w W.c.q W.c.t i).bind _ else _) = _
    rw [if_pos rfl, left_eq W i (fun _ => by omega), Option.bind_some, if_pos hi, hl, ht2]
    simp
  | d + 1, j, W, h, ha, hq, ht => by
    have hl : (W.get i).len = s.size := by rw [← all_size, ha]
    have g1 : (pumpS W i).get i = pumpW (W.get i) := by unfold pumpS; rw [if_pos hi, get_put]
    have g2 : (takeS (pumpS W i) i n).get i = takeW (pumpW (W.get i)) n := by
      rw [← g1]
      show (if inR i then _ else _ : W3).get i = _
      rw [if_pos hi, get_put]
    have hq1 : ((pumpS W i).get i).q.size ≤ 8 := by
      rw [g1, pump_q _ hq]
      have := (pumpN_le (W.get i).q (W.get i).w).2 hq
      omega
    have hr := round_t (W.get i) n hn
    refine Ev.step (fun k => ?_) (empties_ev s hs i n hi hn d (j + 1) (takeS (pumpS W i) i n) (by omega) (by rw [g2, take_all, pump_all, ha]) (by
      rw [g2]; rw [g1] at hq1; exact Nat.le_trans (take_q _ _) hq1) (by rw [g2]; omega))
    rw [countermandlaw06_WireEmpties.l0, if_pos (by omega), pump_eq W i (fun _ => hq), Option.bind_some, wrap_next j s.size (by omega) (by omega)]
    show ((wire_Wire_Take.f (pumpS W i).a.w (pumpS W i).a.q (pumpS W i).a.t (pumpS W i).b.w (pumpS W i).b.q (pumpS W i).b.t (pumpS W i).c.w (pumpS W i).c.q (pumpS W i).c.t i n).bind _) = _
    rw [take_eq (pumpS W i) i n (fun _ => by
      have : ((pumpS W i).get i).len = s.size := by rw [g1, pump_len, hl]
      unfold Way.len at this; omega), Option.bind_some]
    rfl
theorem WireEmpties : countermandlaw06_WireEmpties.Pure := by
  intro s i n _ _ _
  apply Ev.rounds
  unfold countermandlaw06_WireEmpties.f
  have jt : Ev (fun k => countermandlaw06_WireEmpties.j0 k s i n true) true :=
    Ev.step (f := fun _ => some true) (fun k => by rw [countermandlaw06_WireEmpties.j0, if_pos rfl]) (Ev.now _)
  refine Ev.congr (fun k => by rw [alive_eq, Option.bind_some, if_pos rfl]) ?_
  by_cases h1 : (s.size : Int) > 1024
  · exact Ev.congr (fun k => if_pos h1) jt
  refine Ev.congr (fun k => if_neg h1) ?_
  by_cases h2 : n < 1
  · exact Ev.congr (fun k => if_pos h2) jt
  refine Ev.congr (fun k => by rw [if_neg h2, is_eq, Option.bind_some]) ?_
  by_cases hi : inR i
  · rw [decide_eq_true hi]
    have g : (pushS zeroW i s).get i = pushW (zeroW.get i) s := by unfold pushS; rw [if_pos hi, get_put]
    have z : zeroW.get i = ⟨⟨#[]⟩, ⟨#[]⟩, ⟨#[]⟩⟩ := by
      rcases cases3 hi with rfl | rfl | rfl <;> rfl
    refine Ev.step (fun k => ?_) (empties_ev s (by omega) i n hi (by omega) s.size 0 (pushS zeroW i s) (by omega) (by
      rw [g, push_all, z]; exact ByteArray.empty_append) (by rw [g, push_q, z]; exact Nat.zero_le _) (Nat.zero_le _))
    rw [countermandlaw06_WireEmpties.j0, if_neg (by decide), new_eq, Option.bind_some]
    show ((wire_Wire_Push.f zeroW.a.w zeroW.a.q zeroW.a.t zeroW.b.w zeroW.b.q zeroW.b.t zeroW.c.w zeroW.c.q zeroW.c.t i s).bind _) = _
    rw [push_eq zeroW i s (fun _ => by rw [z]; show 0 + s.size ≤ _; omega), Option.bind_some]
    rfl
  · rw [decide_eq_false hi]; exact jt

end Go.Proofs.Ytodffnchcbapcaa.Pure
