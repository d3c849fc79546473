/- Written by a program of this session, which began as the kit's print and is turned in wip/printer: the plain form of each function, and that the Go code comes to it. -/
import Derived.Test.YtodffnchcbapcaaPWireDoesx0
import Derived.Test.YtodffnchcbapcaaPWireDoesx1
import Derived.Test.YtodffnchcbapcaaPWireDoesx2
import Derived.BigQuiet
import Derived.BigRegion
import Derived.Deep.QuietTactic
import Derived.Deep.RegionHeld3
import Derived.IntWalk
namespace Go.Proofs.Ytodffnchcbapcaa.PWireDoes
open Go.RowKit Go.Proofs.YtodffnchcbapcaaW.PrintWords Go.Proofs.YtodffnchcbapcaaW.PrintLast Go.Proofs.YtodffnchcbapcaaW.PrintMore
attribute [local go_sem] max2_int min2_int max_two min_two max_three min_three max_four min_four   -- for this text's walks alone
set_option linter.unusedVariables false
set_option linter.unusedSimpArgs false

/-! ### countermandlaw06_WireDoes: function 6 -/
--IMPORT Derived.BigRegion
--IMPORT Derived.Deep.RegionHeld3
--IMPORT Derived.Deep.QuietTactic
--IMPORT Derived.BigQuiet
--IMPORT Derived.IntWalk
--ROUNDS
theorem Ev.eq {α : Type} {g : Nat → Option α} {r q : α} (h : Ev g r) (e : r = q) : Ev g q := e ▸ h
theorem wrap_next (i n : Nat) (h : i < n) (hn : n ≤ 9223372036854775807) : wrap64 ((i : Int) + 1) = ((i + 1 : Nat) : Int) := by unfold wrap64; omega
theorem wrap_in (x : Int) (h0 : -9223372036854775808 ≤ x) (h1 : x ≤ 9223372036854775807) : wrap64 x = x := by unfold wrap64; omega
/-! a socket's way: what is to go, what is on its way, what came there -/
structure Way where
  w : ByteArray
  q : ByteArray
  t : ByteArray
def Way.all (x : Way) : ByteArray := x.t ++ x.q ++ x.w
def Way.len (x : Way) : Nat := x.t.size + x.q.size + x.w.size
def pushW (x : Way) (s : ByteArray) : Way := ⟨x.w ++ s, x.q, x.t⟩
def pumpW (x : Way) : Way := ⟨x.w.extract (pumpN x.q x.w) x.w.size, x.q ++ x.w.extract 0 (pumpN x.q x.w), x.t⟩
def takeW (x : Way) (a : Int) : Way := if a ≤ 0 then x else ⟨x.w, x.q.extract (takeN x.q a) x.q.size, x.t ++ x.q.extract 0 (takeN x.q a)⟩
def tookW (x : Way) (a : Int) : ByteArray := if a ≤ 0 then (⟨#[]⟩ : ByteArray) else x.q.extract 0 (takeN x.q a)
theorem pumpN_le (y x : ByteArray) : pumpN y x ≤ x.size ∧ (y.size ≤ 8 → pumpN y x + y.size ≤ 8) := by unfold pumpN; omega
theorem takeN_le (y : ByteArray) (a : Int) : takeN y a ≤ y.size := by unfold takeN; omega
theorem cut_join (x : ByteArray) (n : Nat) (h : n ≤ x.size) : x.extract 0 n ++ x.extract n x.size = x := by
  rw [ByteArray.extract_append_extract, show min 0 n = 0 by omega, show max n x.size = x.size by omega, ByteArray.extract_zero_size]
theorem push_all (x : Way) (s : ByteArray) : (pushW x s).all = x.all ++ s := by
  show x.t ++ x.q ++ (x.w ++ s) = x.t ++ x.q ++ x.w ++ s
  exact ByteArray.append_assoc.symm
theorem pump_all (x : Way) : (pumpW x).all = x.all := by
  unfold Way.all pumpW
  dsimp only
  rw [← ByteArray.append_assoc, ByteArray.append_assoc (c := x.w.extract _ _), cut_join x.w _ (pumpN_le _ _).1]
theorem take_all (x : Way) (a : Int) : (takeW x a).all = x.all := by
  unfold takeW
  split
  · rfl
  · unfold Way.all
    dsimp only
    rw [ByteArray.append_assoc (a := x.t), cut_join x.q _ (takeN_le _ _)]
theorem all_size (x : Way) : x.all.size = x.len := by unfold Way.all Way.len; rw [ByteArray.size_append, ByteArray.size_append]
theorem push_len (x : Way) (s : ByteArray) : (pushW x s).len = x.len + s.size := by rw [← all_size, push_all, ByteArray.size_append, all_size]
theorem pump_len (x : Way) : (pumpW x).len = x.len := by rw [← all_size, pump_all, all_size]
theorem take_len (x : Way) (a : Int) : (takeW x a).len = x.len := by rw [← all_size, take_all, all_size]
theorem pump_q (x : Way) (_h : x.q.size ≤ 8) : (pumpW x).q.size = x.q.size + pumpN x.q x.w := by
  unfold pumpW; dsimp only
  rw [ByteArray.size_append, ByteArray.size_extract]
  have := (pumpN_le x.q x.w).1
  omega
theorem pump_t (x : Way) : (pumpW x).t = x.t := rfl
theorem push_t (x : Way) (s : ByteArray) : (pushW x s).t = x.t := rfl
theorem push_q (x : Way) (s : ByteArray) : (pushW x s).q = x.q := rfl
theorem take_q (x : Way) (a : Int) : (takeW x a).q.size ≤ x.q.size := by
  unfold takeW
  split
  · exact Nat.le_refl _
  · dsimp only
    rw [ByteArray.size_extract]; omega
theorem take_t (x : Way) (a : Int) : x.t.size ≤ (takeW x a).t.size := by
  unfold takeW
  split
  · exact Nat.le_refl _
  · dsimp only
    rw [ByteArray.size_append]; omega
theorem t_begin (x : Way) : x.all.extract 0 x.t.size = x.t := by
  unfold Way.all
  rw [ByteArray.append_assoc]
  exact ByteArray.extract_append_eq_left rfl
/-! three of them -/
structure W3 where
  a : Way
  b : Way
  c : Way
def W3.get (W : W3) (i : Int) : Way := if i = 0 then W.a else if i = 1 then W.b else W.c
def W3.put (W : W3) (i : Int) (x : Way) : W3 := if i = 0 then ⟨x, W.b, W.c⟩ else if i = 1 then ⟨W.a, x, W.c⟩ else ⟨W.a, W.b, x⟩
def inR (i : Int) : Prop := 0 ≤ i ∧ i ≤ 2
instance (i : Int) : Decidable (inR i) := inferInstanceAs (Decidable (_ ∧ _))
theorem cases3 {i : Int} (h : inR i) : i = 0 ∨ i = 1 ∨ i = 2 := by unfold inR at h; omega
theorem get_put (W : W3) (i : Int) (x : Way) : (W.put i x).get i = x := by
  unfold W3.put W3.get
  by_cases h0 : i = 0
  · rw [if_pos h0, if_pos h0]
  · rw [if_neg h0, if_neg h0]
    by_cases h1 : i = 1
    · rw [if_pos h1, if_pos h1]
    · rw [if_neg h1, if_neg h1]
theorem get_put_ne (W : W3) (i j : Int) (x : Way) (hi : inR i) (hj : inR j) (h : j ≠ i) : (W.put i x).get j = W.get j := by
  rcases cases3 hi with rfl | rfl | rfl <;> rcases cases3 hj with rfl | rfl | rfl <;> first | rfl | exact absurd rfl h
abbrev B9 := ByteArray × ByteArray × ByteArray × ByteArray × ByteArray × ByteArray × ByteArray × ByteArray × ByteArray
def tup (W : W3) : B9 := (W.a.w, W.a.q, W.a.t, W.b.w, W.b.q, W.b.t, W.c.w, W.c.q, W.c.t)
def zeroW : W3 := ⟨⟨⟨#[]⟩, ⟨#[]⟩, ⟨#[]⟩⟩, ⟨⟨#[]⟩, ⟨#[]⟩, ⟨#[]⟩⟩, ⟨⟨#[]⟩, ⟨#[]⟩, ⟨#[]⟩⟩⟩
theorem new_eq : wire_New.f = some (tup zeroW) := rfl
def pushS (W : W3) (i : Int) (s : ByteArray) : W3 := if inR i then W.put i (pushW (W.get i) s) else W
def pumpS (W : W3) (i : Int) : W3 := if inR i then W.put i (pumpW (W.get i)) else W
def takeS (W : W3) (i a : Int) : W3 := if inR i then W.put i (takeW (W.get i) a) else W
theorem push_eq (W : W3) (i : Int) (s : ByteArray) (h : inR i → (W.get i).w.size + s.size ≤ 9223372036854775807) :
    wire_Wire_Push.f W.a.w W.a.q W.a.t W.b.w W.b.q W.b.t W.c.w W.c.q W.c.t i s = some (decide (inR i), tup (pushS W i s)) := by
  unfold wire_Wire_Push.f pushS
  by_cases hi : inR i
  · rw [if_pos hi, decide_eq_true hi]
    have h := h hi
    rcases cases3 hi with rfl | rfl | rfl
    · rw [if_pos rfl]; exact (if_pos h).trans rfl
    · rw [if_neg (by decide), if_pos rfl]; exact (if_pos h).trans rfl
    · rw [if_neg (by decide), if_neg (by decide), if_pos rfl]; exact (if_pos h).trans rfl
  · rw [if_neg hi, decide_eq_false hi]
    unfold inR at hi
    rw [if_neg (by omega), if_neg (by omega), if_neg (by omega)]; rfl
theorem pump_eq (W : W3) (i : Int) (h : inR i → (W.get i).q.size ≤ 8) :
    wire_Wire_Pump.f W.a.w W.a.q W.a.t W.b.w W.b.q W.b.t W.c.w W.c.q W.c.t i = some (if inR i then (pumpN (W.get i).q (W.get i).w : Int) else 0, tup (pumpS W i)) := by
  unfold wire_Wire_Pump.f pumpS
  by_cases hi : inR i
  · rw [if_pos hi, if_pos hi]
    have h := h hi
    rcases cases3 hi with rfl | rfl | rfl
    · rw [if_pos rfl]; exact (if_pos h).trans rfl
    · rw [if_neg (by decide), if_pos rfl]; exact (if_pos h).trans rfl
    · rw [if_neg (by decide), if_neg (by decide), if_pos rfl]; exact (if_pos h).trans rfl
  · rw [if_neg hi, if_neg hi]
    unfold inR at hi
    rw [if_neg (by omega), if_neg (by omega), if_neg (by omega)]; rfl
theorem take_eq (W : W3) (i a : Int) (h : inR i → (W.get i).t.size + (W.get i).q.size ≤ 9223372036854775807) :
    wire_Wire_Take.f W.a.w W.a.q W.a.t W.b.w W.b.q W.b.t W.c.w W.c.q W.c.t i a = some (if inR i then tookW (W.get i) a else (⟨#[]⟩ : ByteArray), tup (takeS W i a)) := by
  unfold wire_Wire_Take.f takeS tookW takeW
  by_cases hi : inR i
  · rw [if_pos hi, if_pos hi]
    have h := h hi
    have hle := takeN_le (W.get i).q a
    by_cases ha : a ≤ 0
    · rw [if_pos ha, if_pos ha, if_pos ha, if_pos ha, if_pos ha]
      rcases cases3 hi with rfl | rfl | rfl
      · rw [if_pos rfl]; rfl
      · rw [if_neg (by decide), if_pos rfl]; rfl
      · rw [if_neg (by decide), if_neg (by decide), if_pos rfl]; rfl
    · rw [if_neg ha, if_neg ha, if_neg ha, if_neg ha, if_neg ha]
      rcases cases3 hi with rfl | rfl | rfl
      · rw [if_pos rfl]; exact (if_pos (Nat.le_trans (Nat.add_le_add_left hle _) h)).trans rfl
      · rw [if_neg (by decide), if_pos rfl]; exact (if_pos (Nat.le_trans (Nat.add_le_add_left hle _) h)).trans rfl
      · rw [if_neg (by decide), if_neg (by decide), if_pos rfl]; exact (if_pos (Nat.le_trans (Nat.add_le_add_left hle _) h)).trans rfl
  · rw [if_neg hi, if_neg hi]
    unfold inR at hi
    rw [if_neg (by omega), if_neg (by omega), if_neg (by omega)]; rfl
theorem trace_eq (W : W3) (i : Int) :
    wire_Wire_Trace.f W.a.w W.a.q W.a.t W.b.w W.b.q W.b.t W.c.w W.c.q W.c.t i = some (if inR i then (W.get i).t else (⟨#[]⟩ : ByteArray), tup W) := by
  unfold wire_Wire_Trace.f
  by_cases hi : inR i
  · rw [if_pos hi]
    rcases cases3 hi with rfl | rfl | rfl
    · rw [if_pos rfl]; rfl
    · rw [if_neg (by decide), if_pos rfl]; rfl
    · rw [if_neg (by decide), if_neg (by decide), if_pos rfl]; rfl
  · rw [if_neg hi]
    unfold inR at hi
    rw [if_neg (by omega), if_neg (by omega), if_neg (by omega)]; rfl
theorem all_eq (W : W3) (i : Int) (h : inR i → (W.get i).len ≤ 9223372036854775807) :
    wire_Wire_All.f W.a.w W.a.q W.a.t W.b.w W.b.q W.b.t W.c.w W.c.q W.c.t i = some (if inR i then (W.get i).all else (⟨#[]⟩ : ByteArray), tup W) := by
  unfold wire_Wire_All.f
  by_cases hi : inR i
  · rw [if_pos hi]
    have h := h hi
    unfold Way.len at h
    rcases cases3 hi with rfl | rfl | rfl
    · rw [if_pos rfl]; exact (if_pos h).trans rfl
    · rw [if_neg (by decide), if_pos rfl]; exact (if_pos h).trans rfl
    · rw [if_neg (by decide), if_neg (by decide), if_pos rfl]; exact (if_pos h).trans rfl
  · rw [if_neg hi]
    unfold inR at hi
    rw [if_neg (by omega), if_neg (by omega), if_neg (by omega)]; rfl
theorem left_eq (W : W3) (i : Int) (h : inR i → (W.get i).len ≤ 9223372036854775807) :
    wire_Wire_Left.f W.a.w W.a.q W.a.t W.b.w W.b.q W.b.t W.c.w W.c.q W.c.t i = some (if inR i then ((W.get i).len : Int) - ((W.get i).t.size : Int) else 0, tup W) := by
  unfold wire_Wire_Left.f
  rw [all_eq W i h, Option.bind_some]
  show (wire_Wire_Trace.f W.a.w W.a.q W.a.t W.b.w W.b.q W.b.t W.c.w W.c.q W.c.t i).bind _ = _
  rw [trace_eq, Option.bind_some]
  by_cases hi : inR i
  · have h := h hi
    rw [if_pos hi, if_pos hi, if_pos hi]
    show some (wrap64 (((W.get i).all.size : Int) - ((W.get i).t.size : Int)), tup W) = _
    rw [all_size]
    have : (W.get i).t.size ≤ (W.get i).len := by unfold Way.len; omega
    rw [wrap_in _ (by omega) (by omega)]
  · rw [if_neg hi, if_neg hi, if_neg hi]
    show some (wrap64 (((⟨#[]⟩ : ByteArray).size : Int) - ((⟨#[]⟩ : ByteArray).size : Int)), tup W) = _
    rw [show wrap64 (((⟨#[]⟩ : ByteArray).size : Int) - ((⟨#[]⟩ : ByteArray).size : Int)) = 0 by rw [Int.sub_self]; exact wrap_in 0 (by decide) (by decide)]
theorem is_eq (i : Int) : countermandref06_Is.f i = some (decide (inR i)) := by
  unfold countermandref06_Is.f
  by_cases h : i ≥ 0
  · rw [if_pos h]
    by_cases h2 : i ≤ 2
    · rw [decide_eq_true h2, decide_eq_true (show inR i from ⟨h, h2⟩)]
    · rw [decide_eq_false h2, decide_eq_false (show ¬ inR i from fun q => h2 q.2)]
  · rw [if_neg h, decide_eq_false (show ¬ inR i from fun q => h q.1)]
theorem alive_eq : countermandlaw06_alive.f = some true := by decide +kernel
/-! a script's bytes -/
def tot : List S29 → Nat
  | [] => 0
  | x :: r => x.f2.size + tot r
theorem rd_at {l : List S29} {i : Nat} {x : S29} {r : List S29} (h : l.drop i = x :: r) : rd_T29 l (i : Int) = x ∧ i < l.length ∧ l.drop (i + 1) = r := by
  have hi : i < l.length := by
    rcases Nat.lt_or_ge i l.length with h' | h'
    · exact h'
    · rw [List.drop_eq_nil_of_le h'] at h; cases h
  rw [List.drop_eq_getElem_cons hi] at h
  injection h with h1 h2
  refine ⟨?_, hi, h2⟩
  unfold rd_T29
  rw [Int.toNat_natCast, List.getD_eq_getElem?_getD, List.getElem?_eq_getElem hi]
  exact h1
theorem drop_end {l : List S29} {i : Nat} (h : l.drop i = []) (hi : i ≤ l.length) : i = l.length := by
  have := List.drop_eq_nil_iff.1 h
  omega
theorem great_loop (l : List S29) (hl : l.length ≤ 80) : ∀ (r : List S29) (i n : Nat), l.drop i = r → i ≤ l.length → n ≤ 2048 →
    ∃ b, Ev (fun k => countermandlaw06_great.l0 k (n : Int) l (l.length : Int) (i : Int)) b ∧ (b = false → n + tot r ≤ 2048)
  | [], i, n, h, hi, hn => by
    have hi' := drop_end h hi
    refine ⟨false, Ev.step (f := fun _ => some false) (fun k => ?_) (Ev.now _), fun _ => by simpa [tot] using hn⟩
    rw [countermandlaw06_great.l0, if_neg (by omega)]
  | x :: r, i, n, h, hi, hn => by
    obtain ⟨hx, hlt, hr⟩ := rd_at h
    have hw := wrap_next i l.length hlt (by omega)
    by_cases h1 : (x.f2.size : Int) > 2048
    · refine ⟨true, Ev.step (f := fun _ => some true) (fun k => ?_) (Ev.now _), fun e => by cases e⟩
      rw [countermandlaw06_great.l0, if_pos (by omega), if_pos (by omega), if_pos (by omega), hx, if_pos h1]
    have e : wrap64 ((n : Int) + (x.f2.size : Int)) = ((n + x.f2.size : Nat) : Int) := by rw [wrap_in _ (by omega) (by omega)]; omega
    by_cases h2 : ((n + x.f2.size : Nat) : Int) > 2048
    · refine ⟨true, Ev.step (f := fun _ => some true) (fun k => ?_) (Ev.now _), fun e => by cases e⟩
      rw [countermandlaw06_great.l0, if_pos (by omega), if_pos (by omega), if_pos (by omega), hx, if_neg h1, e, if_pos h2]
    obtain ⟨b, hb, ht⟩ := great_loop l hl r (i + 1) (n + x.f2.size) hr (by omega) (by omega)
    refine ⟨b, Ev.step (fun k => ?_) hb, fun q => by have := ht q; simp only [tot]; omega⟩
    rw [countermandlaw06_great.l0, if_pos (by omega), if_pos (by omega), if_pos (by omega), hx, if_neg h1, e, if_neg h2, hw]
theorem great_ev (l : List S29) : ∃ b, Ev (fun k => countermandlaw06_great.f k l) b ∧ (b = false → l.length ≤ 80 ∧ tot l ≤ 2048) := by
  by_cases h : (l.length : Int) > 80
  · refine ⟨true, Ev.congr (fun k => ?_) (Ev.now _), fun e => by cases e⟩
    unfold countermandlaw06_great.f
    rw [if_pos h]
  · obtain ⟨b, hb, ht⟩ := great_loop l (by omega) l 0 0 rfl (by omega) (by omega)
    refine ⟨b, Ev.congr (fun k => ?_) hb, fun e => ⟨by omega, by have := ht e; omega⟩⟩
    unfold countermandlaw06_great.f
    rw [if_neg h]
    rfl
/-! what can be: few bytes, no more than eight on their way -/
def Good (W : W3) (N : Nat) : Prop := ∀ i, inR i → (W.get i).len ≤ N ∧ (W.get i).q.size ≤ 8
theorem good_put {W : W3} {N M : Nat} (h : Good W N) (hm : N ≤ M) (i : Int) (hi : inR i) (x : Way) (h1 : x.len ≤ M) (h2 : x.q.size ≤ 8) : Good (W.put i x) M := by
  intro j hj
  by_cases e : j = i
  · subst e; rw [get_put]; exact ⟨h1, h2⟩
  · rw [get_put_ne W i j x hi hj e]
    have := h j hj
    omega
theorem good_mono {W : W3} {N M : Nat} (h : Good W N) (hm : N ≤ M) : Good W M := fun i hi => ⟨Nat.le_trans (h i hi).1 hm, (h i hi).2⟩
theorem good_zero : Good zeroW 0 := by
  intro i hi
  rcases cases3 hi with rfl | rfl | rfl <;> exact ⟨Nat.le_refl _, Nat.zero_le _⟩
theorem good_push {W : W3} {N : Nat} (h : Good W N) (i : Int) (s : ByteArray) : Good (pushS W i s) (N + s.size) := by
  unfold pushS
  by_cases hi : inR i
  · rw [if_pos hi]
    exact good_put h (by omega) i hi _ (by rw [push_len]; have := (h i hi).1; omega) (by rw [push_q]; exact (h i hi).2)
  · rw [if_neg hi]; exact good_mono h (by omega)
theorem good_pump {W : W3} {N : Nat} (h : Good W N) (i : Int) : Good (pumpS W i) N := by
  unfold pumpS
  by_cases hi : inR i
  · rw [if_pos hi]
    refine good_put h (Nat.le_refl _) i hi _ (by rw [pump_len]; exact (h i hi).1) ?_
    rw [pump_q _ (h i hi).2]
    have := (pumpN_le (W.get i).q (W.get i).w).2 (h i hi).2
    omega
  · rw [if_neg hi]; exact h
theorem good_take {W : W3} {N : Nat} (h : Good W N) (i a : Int) : Good (takeS W i a) N := by
  unfold takeS
  by_cases hi : inR i
  · rw [if_pos hi]
    exact good_put h (Nat.le_refl _) i hi _ (by rw [take_len]; exact (h i hi).1) (Nat.le_trans (take_q _ _) (h i hi).2)
  · rw [if_neg hi]; exact h
theorem get_push (W : W3) (i j : Int) (s : ByteArray) (hj : inR j) : (pushS W i s).get j = if i = j then pushW (W.get j) s else W.get j := by
  unfold pushS
  by_cases hi : inR i
  · rw [if_pos hi]
    by_cases e : i = j
    · subst e; rw [get_put, if_pos rfl]
    · rw [get_put_ne W i j _ hi hj (fun q => e q.symm), if_neg e]
  · rw [if_neg hi, if_neg (show ¬ i = j from fun e => hi (by rw [e]; exact hj))]
theorem get_pump (W : W3) (i j : Int) (hj : inR j) : (pumpS W i).get j = if i = j then pumpW (W.get j) else W.get j := by
  unfold pumpS
  by_cases hi : inR i
  · rw [if_pos hi]
    by_cases e : i = j
    · subst e; rw [get_put, if_pos rfl]
    · rw [get_put_ne W i j _ hi hj (fun q => e q.symm), if_neg e]
  · rw [if_neg hi, if_neg (show ¬ i = j from fun e => hi (by rw [e]; exact hj))]
theorem get_take (W : W3) (i j a : Int) (hj : inR j) : (takeS W i a).get j = if i = j then takeW (W.get j) a else W.get j := by
  unfold takeS
  by_cases hi : inR i
  · rw [if_pos hi]
    by_cases e : i = j
    · subst e; rw [get_put, if_pos rfl]
    · rw [get_put_ne W i j _ hi hj (fun q => e q.symm), if_neg e]
  · rw [if_neg hi, if_neg (show ¬ i = j from fun e => hi (by rw [e]; exact hj))]
/-! ### the wire's state as three ways -/
def Is3 (w0 W : World) (g : Nat) (S : W3) : Prop := IsS69 w0 W g S.a.w S.a.q S.a.t S.b.w S.b.q S.b.t S.c.w S.c.q S.c.t
theorem Is3.keep {w0 W W' : World} {g g' : Nat} {S : W3} (h : Is3 w0 W g S) (k : KeepBut W W' g' none) (hne : g ≠ g') : Is3 w0 W' g S := ⟨k.blk h.1 hne (by simp), h.2⟩
theorem Is3.below {w0 W W' : World} {g : Nat} {S : W3} (h : Is3 w0 W g S) (k : Below W.heap.size W W') : Is3 w0 W' g S := IsS69.below h k
theorem push3 (g : Nat) (S : W3) (i : Int) (s : ByteArray) (w0 w : World) (hI : Is3 w0 w g S) (hB : Below w0.heap.size w0 w) (hs : inR i → (S.get i).w.size + s.size ≤ 9223372036854775807) :
    Calls Try.prog 18 #[.pointer (some ⟨g, 0, none⟩), .int .i64 i, .string s] w fun e w' => e = .returned (.bool (decide (inR i))) ∧ Is3 w0 w' g (pushS S i s) ∧ Below w0.heap.size w0 w' ∧ KeepBut w w' g none :=
  wire_Wire_Push.calls g _ _ _ _ _ _ _ _ _ i s _ _ _ _ _ _ _ _ _ _ w0 w hI hB (push_eq S i s hs)
theorem pump3 (g : Nat) (S : W3) (i : Int) (w0 w : World) (hI : Is3 w0 w g S) (hB : Below w0.heap.size w0 w) (hs : inR i → (S.get i).q.size ≤ 8) :
    Calls Try.prog 19 #[.pointer (some ⟨g, 0, none⟩), .int .i64 i] w fun e w' => e = .returned (.int .i64 (if inR i then (pumpN (S.get i).q (S.get i).w : Int) else 0)) ∧ Is3 w0 w' g (pumpS S i) ∧ Below w0.heap.size w0 w' ∧ KeepBut w w' g none :=
  wire_Wire_Pump.calls g _ _ _ _ _ _ _ _ _ i _ _ _ _ _ _ _ _ _ _ w0 w hI hB (pump_eq S i hs)
theorem take3 (g : Nat) (S : W3) (i a : Int) (w0 w : World) (hI : Is3 w0 w g S) (hB : Below w0.heap.size w0 w) (hs : inR i → (S.get i).t.size + (S.get i).q.size ≤ 9223372036854775807) :
    Calls Try.prog 20 #[.pointer (some ⟨g, 0, none⟩), .int .i64 i, .int .i64 a] w fun e w' => e = .returned (.string (if inR i then tookW (S.get i) a else (⟨#[]⟩ : ByteArray))) ∧ Is3 w0 w' g (takeS S i a) ∧ Below w0.heap.size w0 w' ∧ KeepBut w w' g none :=
  wire_Wire_Take.calls g _ _ _ _ _ _ _ _ _ i a _ _ _ _ _ _ _ _ _ _ w0 w hI hB (take_eq S i a hs)
theorem pump4 (g : Nat) (S : W3) (i : Int) (w0 w : World) (hI : Is3 w0 w g S) (hB : Below w0.heap.size w0 w) (hs : inR i → (S.get i).q.size ≤ 8) :
    Calls Try.prog 19 #[.pointer (some ⟨g, 0, none⟩), .int .i64 i] w fun e w' => (∃ v, e = .returned (.int .i64 v)) ∧ Is3 w0 w' g (pumpS S i) ∧ Below w0.heap.size w0 w' ∧ KeepBut w w' g none :=
  (pump3 g S i w0 w hI hB hs).mono fun _ _ h => ⟨⟨_, h.1⟩, h.2⟩
theorem take4 (g : Nat) (S : W3) (i a : Int) (w0 w : World) (hI : Is3 w0 w g S) (hB : Below w0.heap.size w0 w) (hs : inR i → (S.get i).t.size + (S.get i).q.size ≤ 9223372036854775807) :
    Calls Try.prog 20 #[.pointer (some ⟨g, 0, none⟩), .int .i64 i, .int .i64 a] w fun e w' => (∃ v, e = .returned (.string v)) ∧ Is3 w0 w' g (takeS S i a) ∧ Below w0.heap.size w0 w' ∧ KeepBut w w' g none :=
  (take3 g S i a w0 w hI hB hs).mono fun _ _ h => ⟨⟨_, h.1⟩, h.2⟩
theorem trace3 (g : Nat) (S : W3) (i : Int) (w0 w : World) (hI : Is3 w0 w g S) (hB : Below w0.heap.size w0 w) :
    Calls Try.prog 21 #[.pointer (some ⟨g, 0, none⟩), .int .i64 i] w fun e w' => e = .returned (.string (if inR i then (S.get i).t else (⟨#[]⟩ : ByteArray))) ∧ Is3 w0 w' g S ∧ Below w0.heap.size w0 w' ∧ KeepBut w w' g none :=
  wire_Wire_Trace.calls g _ _ _ _ _ _ _ _ _ i _ _ _ _ _ _ _ _ _ _ w0 w hI hB (trace_eq S i)
theorem all3 (g : Nat) (S : W3) (i : Int) (w0 w : World) (hI : Is3 w0 w g S) (hB : Below w0.heap.size w0 w) (hs : inR i → (S.get i).len ≤ 9223372036854775807) :
    Calls Try.prog 22 #[.pointer (some ⟨g, 0, none⟩), .int .i64 i] w fun e w' => e = .returned (.string (if inR i then (S.get i).all else (⟨#[]⟩ : ByteArray))) ∧ Is3 w0 w' g S ∧ Below w0.heap.size w0 w' ∧ KeepBut w w' g none :=
  wire_Wire_All.calls g _ _ _ _ _ _ _ _ _ i _ _ _ _ _ _ _ _ _ _ w0 w hI hB (all_eq S i hs)
def crW (x : Way) : Way := ⟨⟨#[]⟩, ⟨#[]⟩, x.t⟩
def crashS (S : W3) : W3 := ⟨crW S.a, crW S.b, crW S.c⟩
theorem crash3 (g : Nat) (S : W3) (w0 w : World) (hI : Is3 w0 w g S) (hB : Below w0.heap.size w0 w) :
    Calls Try.prog 26 #[.pointer (some ⟨g, 0, none⟩)] w fun e w' => e = .returned (.tuple #[]) ∧ Is3 w0 w' g (crashS S) ∧ Below w0.heap.size w0 w' ∧ KeepBut w w' g none :=
  wire_Wire_Crash.calls g _ _ _ _ _ _ _ _ _ _ _ _ _ _ _ _ _ _ w0 w hI hB rfl
theorem new3 (w0 w : World) (hB : Below w0.heap.size w0 w) : Calls Try.prog 17 #[] w fun e w' => ∃ g_ : Nat, e = .returned (.pointer (some ⟨g_, 0, none⟩)) ∧ Is3 w0 w' g_ zeroW ∧ Below w0.heap.size w0 w' ∧ Below w.heap.size w w' :=
  wire_New.calls _ _ _ _ _ _ _ _ _ w0 w hB new_eq
theorem get_crash (S : W3) (j : Int) : (crashS S).get j = crW (S.get j) := by
  unfold crashS W3.get
  split
  · rfl
  · split <;> rfl
theorem good_crash {S : W3} {N : Nat} (h : Good S N) : Good (crashS S) N := by
  intro i hi
  rw [get_crash]
  have := (h i hi).1
  unfold Way.len at this
  refine ⟨?_, Nat.zero_le _⟩
  show (S.get i).t.size + (0 : Nat) + 0 ≤ N
  omega
/-- what a call does to a wire -/
def stepS (S : W3) (x : S29) : W3 := if x.f0 = 0 then pushS S x.f1 x.f2 else if x.f0 = 1 then pumpS S x.f1 else if x.f0 = 2 then takeS S x.f1 x.f3 else if x.f0 = 3 then crashS S else S
theorem good_step {S : W3} {N : Nat} (h : Good S N) (x : S29) : Good (stepS S x) (N + x.f2.size) := by
  unfold stepS
  split
  · exact good_push h _ _
  split
  · exact good_mono (good_pump h _) (by omega)
  split
  · exact good_mono (good_take h _ _) (by omega)
  split
  · exact good_mono (good_crash h) (by omega)
  · exact good_mono h (by omega)
theorem get_step (S : W3) (x : S29) (j : Int) (hj : inR j) : (stepS S x).get j = if x.f0 = 3 then crW (S.get j) else if x.f1 = j then (if x.f0 = 0 then pushW (S.get j) x.f2 else if x.f0 = 1 then pumpW (S.get j) else if x.f0 = 2 then takeW (S.get j) x.f3 else S.get j) else S.get j := by
  unfold stepS
  by_cases h0 : x.f0 = 0
  · rw [if_pos h0, if_neg (show ¬ x.f0 = 3 by omega), if_pos h0, get_push _ _ _ _ hj]
  rw [if_neg h0]
  by_cases h1 : x.f0 = 1
  · rw [if_pos h1, if_neg (show ¬ x.f0 = 3 by omega), if_neg h0, if_pos h1, get_pump _ _ _ hj]
  rw [if_neg h1]
  by_cases h2 : x.f0 = 2
  · rw [if_pos h2, if_neg (show ¬ x.f0 = 3 by omega), if_neg h0, if_neg h1, if_pos h2, get_take _ _ _ _ hj]
  rw [if_neg h2]
  by_cases h3 : x.f0 = 3
  · rw [if_pos h3, if_pos h3, get_crash]
  · rw [if_neg h3, if_neg h3, if_neg h0, if_neg h1, if_neg h2]; simp
def skips (x : S29) (sock : Int) : Prop := x.f1 ≠ sock ∧ x.f0 < 3
instance (x : S29) (sock : Int) : Decidable (skips x sock) := inferInstanceAs (Decidable (_ ∧ _))
def apartS (S : W3) (x : S29) (sock : Int) : W3 := if skips x sock then S else stepS S x
theorem apart_get {A B : W3} (sock : Int) (hs : inR sock) (x : S29) (h : A.get sock = B.get sock) : (stepS A x).get sock = (apartS B x sock).get sock := by
  unfold apartS
  rw [get_step _ _ _ hs]
  by_cases hk : skips x sock
  · rw [if_pos hk, ← h]
    obtain ⟨h1, h2⟩ := hk
    rw [if_neg (by omega), if_neg h1]
  · rw [if_neg hk, get_step _ _ _ hs, h]
theorem good_apart {S : W3} {N : Nat} (h : Good S N) (x : S29) (sock : Int) : Good (apartS S x sock) (N + x.f2.size) := by
  unfold apartS
  split
  · exact good_mono h (by omega)
  · exact good_step h x
/-! ### the document's wire: all bytes of a socket, how many are gone, how many came -/
structure Ry where
  s : ByteArray
  g : Nat
  c : Nat
structure R3 where
  a : Ry
  b : Ry
  c : Ry
def R3.get (R : R3) (i : Int) : Ry := if i = 0 then R.a else if i = 1 then R.b else R.c
def R3.put (R : R3) (i : Int) (x : Ry) : R3 := if i = 0 then ⟨x, R.b, R.c⟩ else if i = 1 then ⟨R.a, x, R.c⟩ else ⟨R.a, R.b, x⟩
def rCells (R : R3) : Array Value := #[.string R.a.s, .int .i64 (R.a.g : Int), .int .i64 (R.a.c : Int), .string R.b.s, .int .i64 (R.b.g : Int), .int .i64 (R.b.c : Int), .string R.c.s, .int .i64 (R.c.g : Int), .int .i64 (R.c.c : Int)]
def IsR (w0 W : World) (g : Nat) (R : R3) : Prop := W.heap[g]? = some (.cells (rCells R) 41 (0, 0)) ∧ w0.heap.size ≤ g
theorem IsR.keep {w0 W W' : World} {g g' : Nat} {R : R3} (h : IsR w0 W g R) (k : KeepBut W W' g' none) (hne : g ≠ g') : IsR w0 W' g R := ⟨k.blk h.1 hne (by simp), h.2⟩
theorem IsR.below {w0 W W' : World} {g : Nat} {R : R3} (h : IsR w0 W g R) (k : Below W.heap.size W W') : IsR w0 W' g R := ⟨(k.block g (blk_lt h.1)).trans h.1, h.2⟩
theorem IsR.cells {w0 W : World} {g k : Nat} {R : R3} (h : IsR w0 W g R) (hk : k < 3) : W.cell? ⟨g, k * 3, none⟩ = some (.string (R.get (k : Int)).s) ∧ W.cell? ⟨g, k * 3 + 1, none⟩ = some (.int .i64 ((R.get (k : Int)).g : Int)) ∧ W.cell? ⟨g, k * 3 + 2, none⟩ = some (.int .i64 ((R.get (k : Int)).c : Int)) := by
  have : k = 0 ∨ k = 1 ∨ k = 2 := by omega
  rcases this with rfl | rfl | rfl
  · exact ⟨(blk_cell h.1 0).trans rfl, (blk_cell h.1 1).trans rfl, (blk_cell h.1 2).trans rfl⟩
  · exact ⟨(blk_cell h.1 3).trans rfl, (blk_cell h.1 4).trans rfl, (blk_cell h.1 5).trans rfl⟩
  · exact ⟨(blk_cell h.1 6).trans rfl, (blk_cell h.1 7).trans rfl, (blk_cell h.1 8).trans rfl⟩
def put3 (W : World) (g k : Nat) (x : Ry) : World := ((W.setCell ⟨g, k * 3, none⟩ (.string x.s)).setCell ⟨g, k * 3 + 1, none⟩ (.int .i64 (x.g : Int))).setCell ⟨g, k * 3 + 2, none⟩ (.int .i64 (x.c : Int))
theorem IsR.put {w0 W : World} {g k : Nat} {R : R3} (h : IsR w0 W g R) (hk : k < 3) (x : Ry) : IsR w0 (put3 W g k x) g (R.put (k : Int) x) := by
  refine ⟨?_, h.2⟩
  have : k = 0 ∨ k = 1 ∨ k = 2 := by omega
  rcases this with rfl | rfl | rfl
  · have := blk_set (blk_set (blk_set h.1 0 (.string x.s)) 1 (.int .i64 (x.g : Int))) 2 (.int .i64 (x.c : Int))
    simpa [put3, rCells, R3.put] using this
  · have := blk_set (blk_set (blk_set h.1 3 (.string x.s)) 4 (.int .i64 (x.g : Int))) 5 (.int .i64 (x.c : Int))
    simpa [put3, rCells, R3.put] using this
  · have := blk_set (blk_set (blk_set h.1 6 (.string x.s)) 7 (.int .i64 (x.g : Int))) 8 (.int .i64 (x.c : Int))
    simpa [put3, rCells, R3.put] using this
theorem below_put {w0 W : World} {g k : Nat} {x : Ry} (h : Below w0.heap.size w0 W) (hg : w0.heap.size ≤ g) : Below w0.heap.size w0 (put3 W g k x) := below_set (below_set (below_set h hg) hg) hg
theorem keep_put {w W : World} {g k : Nat} {x : Ry} (h : Below w.heap.size w W) : KeepBut w (put3 W g k x) g none := by
  have h0 : KeepBut w W g none := ⟨h.size, fun i hi _ _ => h.block i hi⟩
  exact KeepBut.set_ (KeepBut.set_ (KeepBut.set_ h0 _ _) _ _) _ _
set_option maxHeartbeats 3200000 in
set_option maxRecDepth 100000 in
theorem refPump_walk (g k : Nat) (w : World) (hk : k < 3) (s : ByteArray) (G C n : Nat) (hx : w.cell? ⟨g, k * 3, none⟩ = some (.string s)) (hy : w.cell? ⟨g, k * 3 + 1, none⟩ = some (.int .i64 (G : Int))) (hz : w.cell? ⟨g, k * 3 + 2, none⟩ = some (.int .i64 (C : Int)))
    (fx : w.frozen? ⟨g, k * 3, none⟩ = false) (fy : w.frozen? ⟨g, k * 3 + 1, none⟩ = false) (fz : w.frozen? ⟨g, k * 3 + 2, none⟩ = false) (h1 : C ≤ G) (h2 : G ≤ s.size) (h3 : s.size ≤ 1000000) (hq : G - C ≤ 8) (hn : n = min (8 - (G - C)) (s.size - G)) :
    Calls Try.prog 24 #[.pointer (some ⟨g, 0, none⟩), .int .i64 (k : Int)] w fun e w' => e = .returned (.int .i64 (n : Int)) ∧ ∃ W m, Below w.heap.size w W ∧ w' = (put3 W g k ⟨s, G + n, C⟩).drewN m := by
  have hu38 := Try.underlying38
  have hu39 := Try.underlying39
  have hu41 := Try.underlying41
  have hu36 := Try.underlying36
  have hu9 := Try.underlying9
  have q2 : decide ((k : Int) < 3) = true := decide_eq_true (by omega)
  have q3 : decide ((0 : Int) ≤ (k : Int)) = true := decide_eq_true (by omega)
  have hgl := World.block_lt_of_cell? w _ hx
  have hgl : g < w.heap.size := hgl
  have HN := Aside0.mk hn
  clear hn
  go_enter Try.func24, Try.ntmps24
  go_wp2
  have hA := heap_alloc_new w (.cells #[.string s, .int .i64 (G : Int), .int .i64 (C : Int)] 38)
  have K0 := Aside0.mk (show Below w.heap.size w (w.alloc (.cells #[.string s, .int .i64 (G : Int), .int .i64 (C : Int)] 38)) ∧ (w.alloc (.cells #[.string s, .int .i64 (G : Int), .int .i64 (C : Int)] 38)).heap[w.heap.size]? = some (.cells #[.string s, .int .i64 (G : Int), .int .i64 (C : Int)] 38 (0, 0)) from ⟨below_alloc (Below.refl _ _) _, hA⟩)
  clear hA
  obtain ⟨gx, hgx⟩ : ∃ gx, gx = w.heap.size := ⟨_, rfl⟩
  rw [← hgx] at K0 hgl ⊢
  generalize w.alloc (.cells #[.string s, .int .i64 (G : Int), .int .i64 (C : Int)] 38) = w1 at K0 ⊢
  have HX := Aside0.mk hgx
  clear hgx
  go_loopg [6] n (fun m v wr => ∃ j : Nat, v = .int .i64 (j : Int) ∧ m + j = n ∧ Aside0 (Below gx w wr ∧ wr.heap[gx]? = some (.cells #[.string s, .int .i64 ((G + j : Nat) : Int), .int .i64 (C : Int)] 38 (0, 0))))
  case atStart => exact ⟨0, rfl, rfl, K0⟩
  case round =>
    clear K0
    obtain ⟨j, rfl, hm, HC⟩ := hrel
    have hle := HN.out
    obtain ⟨T, hT⟩ : ∃ T, T = G + j := ⟨_, rfl⟩
    rw [← hT] at HC
    have c0 : wr.cell? ⟨gx, 0, none⟩ = some (.string s) := (blk_cell HC.out.2 0).trans rfl
    have c1 : wr.cell? ⟨gx, 1, none⟩ = some (.int .i64 (T : Int)) := (blk_cell HC.out.2 1).trans rfl
    have c2 : wr.cell? ⟨gx, 2, none⟩ = some (.int .i64 (C : Int)) := (blk_cell HC.out.2 2).trans rfl
    have cf := blk_frozen HC.out.2
    have hT1 : C ≤ T := by omega
    have hT2 : T ≤ s.size := by omega
    have hj9 : j ≤ 1000000 := by omega
    by_cases hlt : j < n
    · have b0 : decide (T < s.size) = true := decide_eq_true (by omega)
      have b1 : decide ((T : Int) - (C : Int) < 8) = true := decide_eq_true (by omega)
      have HT := Aside0.mk hT
      clear hT hle
      go_wp2
      go_roundg (n - (j + 1))
      case rel =>
        have hb := blk_set HC.out.2 1 (.int .i64 ((T : Int) + 1))
        refine ⟨j + 1, (by rw [Int.natCast_add]; rfl), by omega, ⟨HC.out.1.setCell (Nat.le_refl _) _, ?_⟩⟩
        rw [show (G + (j + 1) : Nat) = T + 1 by have := HT.out; omega, Int.natCast_add]
        simpa using hb
      case measure => omega
    · have HT := Aside0.mk hT
      have jn : j = n := by omega
      have d0 : wr.cell? ⟨g, k * 3, none⟩ = some (.string s) := (HC.out.1.cell (p := ⟨g, k * 3, none⟩) hgl).trans hx
      have d1 : wr.cell? ⟨g, k * 3 + 1, none⟩ = some (.int .i64 (G : Int)) := (HC.out.1.cell (p := ⟨g, k * 3 + 1, none⟩) hgl).trans hy
      have d2 : wr.cell? ⟨g, k * 3 + 2, none⟩ = some (.int .i64 (C : Int)) := (HC.out.1.cell (p := ⟨g, k * 3 + 2, none⟩) hgl).trans hz
      have e0 : wr.frozen? ⟨g, k * 3, none⟩ = false := (HC.out.1.frozen (p := ⟨g, k * 3, none⟩) hgl).trans fx
      have e1 : wr.frozen? ⟨g, k * 3 + 1, none⟩ = false := (HC.out.1.frozen (p := ⟨g, k * 3 + 1, none⟩) hgl).trans fy
      have e2 : wr.frozen? ⟨g, k * 3 + 2, none⟩ = false := (HC.out.1.frozen (p := ⟨g, k * 3 + 2, none⟩) hgl).trans fz
      by_cases ht : T < s.size
      · have b0 : decide (T < s.size) = true := decide_eq_true (by omega)
        have b1 : decide ((T : Int) - (C : Int) < 8) = false := decide_eq_false (by omega)
        clear hT hle
        subst jn
        go_wp2_with (fail)
        go_region
        go_wp2
        go_ret
        exact ⟨rfl, wr, 1, HX.out ▸ HC.out.1, by rw [← HT.out]; rfl⟩
      · have b0 : decide (T < s.size) = false := decide_eq_false (by omega)
        clear hT hle
        subst jn
        go_wp2_with (fail)
        go_region
        go_wp2
        go_ret
        exact ⟨rfl, wr, 1, HX.out ▸ HC.out.1, by rw [← HT.out]; rfl⟩
theorem refPump_ok (g k : Nat) (w0 w : World) (R : R3) (hI : IsR w0 w g R) (hB : Below w0.heap.size w0 w) (hk : k < 3) (n : Nat) (h1 : (R.get (k : Int)).c ≤ (R.get (k : Int)).g) (h2 : (R.get (k : Int)).g ≤ (R.get (k : Int)).s.size) (h3 : (R.get (k : Int)).s.size ≤ 1000000) (hq : (R.get (k : Int)).g - (R.get (k : Int)).c ≤ 8) (hn : n = min (8 - ((R.get (k : Int)).g - (R.get (k : Int)).c)) ((R.get (k : Int)).s.size - (R.get (k : Int)).g)) :
    Calls Try.prog 24 #[.pointer (some ⟨g, 0, none⟩), .int .i64 (k : Int)] w fun e w' => e = .returned (.int .i64 (n : Int)) ∧ IsR w0 w' g (R.put (k : Int) ⟨(R.get (k : Int)).s, (R.get (k : Int)).g + n, (R.get (k : Int)).c⟩) ∧ Below w0.heap.size w0 w' ∧ KeepBut w w' g none := by
  obtain ⟨c0, c1, c2⟩ := hI.cells hk
  have fz := blk_frozen hI.1
  refine (refPump_walk g k w hk _ _ _ n c0 c1 c2 (fz _) (fz _) (fz _) h1 h2 h3 hq hn).mono ?_
  rintro e w' ⟨rfl, W, m, hW, rfl⟩
  exact ⟨rfl, ((hI.below hW).put hk _).below (pw_below_drewN (Below.refl _ _) _), pw_below_drewN (below_put (hB.trans (hW.mono hB.size)) hI.2) _, keep_drewN (keep_put hW) _⟩
set_option maxHeartbeats 3200000 in
set_option maxRecDepth 100000 in
theorem refTake_walk (g k : Nat) (w : World) (hk : k < 3) (a : Int) (s : ByteArray) (G C n : Nat) (hx : w.cell? ⟨g, k * 3, none⟩ = some (.string s)) (hy : w.cell? ⟨g, k * 3 + 1, none⟩ = some (.int .i64 (G : Int))) (hz : w.cell? ⟨g, k * 3 + 2, none⟩ = some (.int .i64 (C : Int)))
    (fx : w.frozen? ⟨g, k * 3, none⟩ = false) (fy : w.frozen? ⟨g, k * 3 + 1, none⟩ = false) (fz : w.frozen? ⟨g, k * 3 + 2, none⟩ = false) (h1 : C ≤ G) (h2 : G ≤ s.size) (h3 : s.size ≤ 1000000) (ha : a ≤ 9223372036854775807) (hn : n = min a.toNat (G - C)) :
    Calls Try.prog 25 #[.pointer (some ⟨g, 0, none⟩), .int .i64 (k : Int), .int .i64 a] w fun e w' => e = .returned (.string (s.extract C (C + n))) ∧ ∃ W m, Below w.heap.size w W ∧ w' = (put3 W g k ⟨s, G, C + n⟩).drewN m := by
  have hu38 := Try.underlying38
  have hu39 := Try.underlying39
  have hu41 := Try.underlying41
  have hu36 := Try.underlying36
  have hu9 := Try.underlying9
  have q2 : decide ((k : Int) < 3) = true := decide_eq_true (by omega)
  have q3 : decide ((0 : Int) ≤ (k : Int)) = true := decide_eq_true (by omega)
  have hgl := World.block_lt_of_cell? w _ hx
  have hgl : g < w.heap.size := hgl
  have HN := Aside0.mk hn
  clear hn
  go_enter Try.func25, Try.ntmps25
  go_wp2
  have hA := heap_alloc_new w (.cells #[.string s, .int .i64 (G : Int), .int .i64 (C : Int)] 38)
  have K0 := Aside0.mk (show Below w.heap.size w (w.alloc (.cells #[.string s, .int .i64 (G : Int), .int .i64 (C : Int)] 38)) ∧ (w.alloc (.cells #[.string s, .int .i64 (G : Int), .int .i64 (C : Int)] 38)).heap[w.heap.size]? = some (.cells #[.string s, .int .i64 (G : Int), .int .i64 (C : Int)] 38 (0, 0)) from ⟨below_alloc (Below.refl _ _) _, hA⟩)
  clear hA
  obtain ⟨gx, hgx⟩ : ∃ gx, gx = w.heap.size := ⟨_, rfl⟩
  rw [← hgx] at K0 hgl ⊢
  generalize w.alloc (.cells #[.string s, .int .i64 (G : Int), .int .i64 (C : Int)] 38) = w1 at K0 ⊢
  have HX := Aside0.mk hgx
  clear hgx
  go_loopg [2] n (fun m v wr => ∃ j : Nat, v = .int .i64 (a - (j : Int)) ∧ m + j = n ∧ Aside0 (Below gx w wr ∧ wr.heap[gx]? = some (.cells #[.string s, .int .i64 (G : Int), .int .i64 ((C + j : Nat) : Int)] 38 (0, 0))))
  case atStart => exact ⟨0, by simp, rfl, K0⟩
  case round =>
    clear K0
    obtain ⟨j, rfl, hm, HC⟩ := hrel
    have hle := HN.out
    obtain ⟨T, hT⟩ : ∃ T, T = C + j := ⟨_, rfl⟩
    rw [← hT] at HC
    obtain ⟨b, hb⟩ : ∃ b, b = a - (j : Int) := ⟨_, rfl⟩
    rw [← hb]
    have c0 : wr.cell? ⟨gx, 0, none⟩ = some (.string s) := (blk_cell HC.out.2 0).trans rfl
    have c1 : wr.cell? ⟨gx, 1, none⟩ = some (.int .i64 (G : Int)) := (blk_cell HC.out.2 1).trans rfl
    have c2 : wr.cell? ⟨gx, 2, none⟩ = some (.int .i64 (T : Int)) := (blk_cell HC.out.2 2).trans rfl
    have cf := blk_frozen HC.out.2
    have hT2 : T ≤ G := by omega
    by_cases hlt : j < n
    · have b1 : decide ((0 : Int) < b) = true := decide_eq_true (by omega)
      have b0 : decide (T < G) = true := decide_eq_true (by omega)
      have hb1 : 0 < b := by omega
      have hb2 : b ≤ 9223372036854775807 := by omega
      have HT := Aside0.mk hT
      have HBb := Aside0.mk hb
      clear hT hle hb
      go_wp2
      go_roundg (n - (j + 1))
      case rel =>
        have hb := blk_set HC.out.2 2 (.int .i64 ((T : Int) + 1))
        refine ⟨j + 1, ?_, by omega, ⟨HC.out.1.setCell (Nat.le_refl _) _, ?_⟩⟩
        · rw [show a - ((j + 1 : Nat) : Int) = b - 1 by have := HBb.out; omega]
        · rw [show (C + (j + 1) : Nat) = T + 1 by have := HT.out; omega, Int.natCast_add]
          simpa using hb
      case measure => omega
    · have HT := Aside0.mk hT
      have jn : j = n := by omega
      have d0 : wr.cell? ⟨g, k * 3, none⟩ = some (.string s) := (HC.out.1.cell (p := ⟨g, k * 3, none⟩) hgl).trans hx
      have d1 : wr.cell? ⟨g, k * 3 + 1, none⟩ = some (.int .i64 (G : Int)) := (HC.out.1.cell (p := ⟨g, k * 3 + 1, none⟩) hgl).trans hy
      have d2 : wr.cell? ⟨g, k * 3 + 2, none⟩ = some (.int .i64 (C : Int)) := (HC.out.1.cell (p := ⟨g, k * 3 + 2, none⟩) hgl).trans hz
      have e0 : wr.frozen? ⟨g, k * 3, none⟩ = false := (HC.out.1.frozen (p := ⟨g, k * 3, none⟩) hgl).trans fx
      have e1 : wr.frozen? ⟨g, k * 3 + 1, none⟩ = false := (HC.out.1.frozen (p := ⟨g, k * 3 + 1, none⟩) hgl).trans fy
      have e2 : wr.frozen? ⟨g, k * 3 + 2, none⟩ = false := (HC.out.1.frozen (p := ⟨g, k * 3 + 2, none⟩) hgl).trans fz
      have s1 : C ≤ T := by omega
      have s2 : T ≤ s.size := by omega
      have n0 : gx ≠ g := by omega
      have p0 : ((0 : Int) ≤ (C : Int)) = True := eq_true (by omega)
      have p1 : ((C : Int) ≤ (T : Int)) = True := eq_true (by omega)
      have p2 : ((T : Int) ≤ (s.size : Int)) = True := eq_true (by omega)
      have p4 : (C ≤ T) = True := eq_true s1
      have p5 : (T ≤ s.size) = True := eq_true s2
      by_cases ht : 0 < b
      · have b0 : decide ((0 : Int) < b) = true := decide_eq_true (by omega)
        have b1 : decide (T < G) = false := decide_eq_false (by omega)
        clear hT hle hb
        subst jn
        go_wp2_with (fail)
        go_region
        go_wp2
        go_ret
        exact ⟨by rw [← HT.out]; rfl, wr, 1, HX.out ▸ HC.out.1, by rw [← HT.out]; rfl⟩
      · have b0 : decide ((0 : Int) < b) = false := decide_eq_false (by omega)
        clear hT hle hb
        subst jn
        go_wp2_with (fail)
        go_region
        go_wp2
        go_ret
        exact ⟨by rw [← HT.out]; rfl, wr, 1, HX.out ▸ HC.out.1, by rw [← HT.out]; rfl⟩
theorem refTake_ok (g k : Nat) (a : Int) (w0 w : World) (R : R3) (hI : IsR w0 w g R) (hB : Below w0.heap.size w0 w) (hk : k < 3) (n : Nat) (h1 : (R.get (k : Int)).c ≤ (R.get (k : Int)).g) (h2 : (R.get (k : Int)).g ≤ (R.get (k : Int)).s.size) (h3 : (R.get (k : Int)).s.size ≤ 1000000) (ha : a ≤ 9223372036854775807) (hn : n = min a.toNat ((R.get (k : Int)).g - (R.get (k : Int)).c)) :
    Calls Try.prog 25 #[.pointer (some ⟨g, 0, none⟩), .int .i64 (k : Int), .int .i64 a] w fun e w' => e = .returned (.string ((R.get (k : Int)).s.extract (R.get (k : Int)).c ((R.get (k : Int)).c + n))) ∧ IsR w0 w' g (R.put (k : Int) ⟨(R.get (k : Int)).s, (R.get (k : Int)).g, (R.get (k : Int)).c + n⟩) ∧ Below w0.heap.size w0 w' ∧ KeepBut w w' g none := by
  obtain ⟨c0, c1, c2⟩ := hI.cells hk
  have fz := blk_frozen hI.1
  refine (refTake_walk g k w hk a _ _ _ n c0 c1 c2 (fz _) (fz _) (fz _) h1 h2 h3 ha hn).mono ?_
  rintro e w' ⟨rfl, W, m, hW, rfl⟩
  exact ⟨rfl, ((hI.below hW).put hk _).below (pw_below_drewN (Below.refl _ _) _), pw_below_drewN (below_put (hB.trans (hW.mono hB.size)) hI.2) _, keep_drewN (keep_put hW) _⟩
theorem bld38 (w : World) (x : ByteArray) (a b : Int) : (Instr.build 38 #[(0, .string x), (1, .int .i64 a), (2, .int .i64 b)]).run Try.prog w = .ok (.agg #[.string x, .int .i64 a, .int .i64 b]) w := by kernel_rfl
theorem idx39_0 (w : World) (v0 v1 v2 v3 v4 v5 v6 v7 v8 : Value) : (Instr.index 39 (.agg #[v0, v1, v2, v3, v4, v5, v6, v7, v8]) (.int .i64 0)).run Try.prog w = .ok (.agg #[v0, v1, v2]) w := by kernel_rfl
theorem idx39_1 (w : World) (v0 v1 v2 v3 v4 v5 v6 v7 v8 : Value) : (Instr.index 39 (.agg #[v0, v1, v2, v3, v4, v5, v6, v7, v8]) (.int .i64 1)).run Try.prog w = .ok (.agg #[v3, v4, v5]) w := by kernel_rfl
theorem idx39_2 (w : World) (v0 v1 v2 v3 v4 v5 v6 v7 v8 : Value) : (Instr.index 39 (.agg #[v0, v1, v2, v3, v4, v5, v6, v7, v8]) (.int .i64 2)).run Try.prog w = .ok (.agg #[v6, v7, v8]) w := by kernel_rfl
def crY (x : Ry) : Ry := ⟨x.s.extract 0 x.c, x.c, x.c⟩
def crR (R : R3) : R3 := ⟨crY R.a, crY R.b, crY R.c⟩
def crI (i : Nat) (R : R3) : R3 := ⟨if 0 < i then crY R.a else R.a, if 1 < i then crY R.b else R.b, if 2 < i then crY R.c else R.c⟩
theorem IsR.put_ {w0 W W' : World} {g k : Nat} {R R' : R3} {x : Ry} (h : IsR w0 W g R) (hk : k < 3) (hW : W' = put3 W g k x) (hR : R' = R.put (k : Int) x) : IsR w0 W' g R' := by rw [hW, hR]; exact h.put hk x
set_option maxHeartbeats 6400000 in
set_option maxRecDepth 100000 in
theorem refCrash_ok (g : Nat) (w0 w : World) (R : R3) (hI : IsR w0 w g R) (hB : Below w0.heap.size w0 w) (ha : R.a.c ≤ R.a.s.size ∧ R.a.s.size ≤ 1000000) (hb : R.b.c ≤ R.b.s.size ∧ R.b.s.size ≤ 1000000) (hc : R.c.c ≤ R.c.s.size ∧ R.c.s.size ≤ 1000000) :
    Calls Try.prog 27 #[.pointer (some ⟨g, 0, none⟩)] w fun e w' => e = .returned (.tuple #[]) ∧ IsR w0 w' g (crR R) ∧ Below w0.heap.size w0 w' ∧ KeepBut w w' g none := by
  have hu38 := Try.underlying38
  have hu39 := Try.underlying39
  have hu41 := Try.underlying41
  have hu36 := Try.underlying36
  have hu9 := Try.underlying9
  obtain ⟨⟨s0, g0, k0⟩, ⟨s1, g1, k1⟩, ⟨s2, g2, k2⟩⟩ := R
  have ha1 : k0 ≤ s0.size := ha.1
  have ha2 : s0.size ≤ 1000000 := ha.2
  have hb1 : k1 ≤ s1.size := hb.1
  have hb2 : s1.size ≤ 1000000 := hb.2
  have hc1 : k2 ≤ s2.size := hc.1
  have hc2 : s2.size ≤ 1000000 := hc.2
  clear ha hb hc
  have c0 : w.cell? ⟨g, 0, none⟩ = some (.string s0) := (blk_cell hI.1 0).trans rfl
  have c1 : w.cell? ⟨g, 1, none⟩ = some (.int .i64 (g0 : Int)) := (blk_cell hI.1 1).trans rfl
  have c2 : w.cell? ⟨g, 2, none⟩ = some (.int .i64 (k0 : Int)) := (blk_cell hI.1 2).trans rfl
  have c3 : w.cell? ⟨g, 3, none⟩ = some (.string s1) := (blk_cell hI.1 3).trans rfl
  have c4 : w.cell? ⟨g, 4, none⟩ = some (.int .i64 (g1 : Int)) := (blk_cell hI.1 4).trans rfl
  have c5 : w.cell? ⟨g, 5, none⟩ = some (.int .i64 (k1 : Int)) := (blk_cell hI.1 5).trans rfl
  have c6 : w.cell? ⟨g, 6, none⟩ = some (.string s2) := (blk_cell hI.1 6).trans rfl
  have c7 : w.cell? ⟨g, 7, none⟩ = some (.int .i64 (g2 : Int)) := (blk_cell hI.1 7).trans rfl
  have c8 : w.cell? ⟨g, 8, none⟩ = some (.int .i64 (k2 : Int)) := (blk_cell hI.1 8).trans rfl
  have K0 := Aside0.mk (show IsR w0 w g (crI 0 ⟨⟨s0, g0, k0⟩, ⟨s1, g1, k1⟩, ⟨s2, g2, k2⟩⟩) ∧ Below w0.heap.size w0 w ∧ KeepBut w w g none from ⟨hI, hB, KeepBut.refl _ _ _⟩)
  have hx0 := fun wx => idx39_0 wx (.string s0) (.int .i64 (g0 : Int)) (.int .i64 (k0 : Int)) (.string s1) (.int .i64 (g1 : Int)) (.int .i64 (k1 : Int)) (.string s2) (.int .i64 (g2 : Int)) (.int .i64 (k2 : Int))
  have hx1 := fun wx => idx39_1 wx (.string s0) (.int .i64 (g0 : Int)) (.int .i64 (k0 : Int)) (.string s1) (.int .i64 (g1 : Int)) (.int .i64 (k1 : Int)) (.string s2) (.int .i64 (g2 : Int)) (.int .i64 (k2 : Int))
  have hx2 := fun wx => idx39_2 wx (.string s0) (.int .i64 (g0 : Int)) (.int .i64 (k0 : Int)) (.string s1) (.int .i64 (g1 : Int)) (.int .i64 (k1 : Int)) (.string s2) (.int .i64 (g2 : Int)) (.int .i64 (k2 : Int))
  clear hI hB
  go_enter Try.func27, Try.ntmps27
  go_wp2
  clear c0 c1 c2 c3 c4 c5 c6 c7 c8
  go_loopg [8] 3 (fun m v wr => ∃ i : Nat, v = .int .i64 (i : Int) ∧ m + i = 3 ∧ Aside0 (IsR w0 wr g (crI i ⟨⟨s0, g0, k0⟩, ⟨s1, g1, k1⟩, ⟨s2, g2, k2⟩⟩) ∧ Below w0.heap.size w0 wr ∧ KeepBut w wr g none))
  case atStart => exact ⟨0, rfl, rfl, K0⟩
  case round =>
    clear K0
    obtain ⟨i, rfl, hi, HC⟩ := hrel
    have hge := HC.out.1.2
    have hgl : g < wr.heap.size := blk_lt HC.out.1.1
    have : i = 0 ∨ i = 1 ∨ i = 2 ∨ i = 3 := by omega
    rcases this with rfl | rfl | rfl | rfl
    · go_wp2
      have hA := heap_alloc_new wr (.cells #[.string s0, .int .i64 (g0 : Int), .int .i64 (k0 : Int)] 38)
      have K1 := Aside0.mk (show IsR w0 (wr.alloc (.cells #[.string s0, .int .i64 (g0 : Int), .int .i64 (k0 : Int)] 38)) g (crI 0 ⟨⟨s0, g0, k0⟩, ⟨s1, g1, k1⟩, ⟨s2, g2, k2⟩⟩) ∧ Below w0.heap.size w0 (wr.alloc (.cells #[.string s0, .int .i64 (g0 : Int), .int .i64 (k0 : Int)] 38)) ∧ KeepBut w (wr.alloc (.cells #[.string s0, .int .i64 (g0 : Int), .int .i64 (k0 : Int)] 38)) g none from ⟨HC.out.1.below (below_alloc (Below.refl _ _) _), below_alloc HC.out.2.1 _, HC.out.2.2.trans (KeepBut.of_grown (World.grownBy_alloc wr _ none) g) (.inl rfl)⟩)
      have n0 : g ≠ wr.heap.size := by omega
      generalize wr.alloc (.cells #[.string s0, .int .i64 (g0 : Int), .int .i64 (k0 : Int)] 38) = w1 at hA K1 ⊢
      generalize wr.heap.size = gx at hA n0 ⊢
      have d0 : w1.cell? ⟨gx, 0, none⟩ = some (.string s0) := (blk_cell hA 0).trans rfl
      have d1 : w1.cell? ⟨gx, 1, none⟩ = some (.int .i64 (g0 : Int)) := (blk_cell hA 1).trans rfl
      have d2 : w1.cell? ⟨gx, 2, none⟩ = some (.int .i64 (k0 : Int)) := (blk_cell hA 2).trans rfl
      have e0 : w1.cell? ⟨g, 0, none⟩ = some (.string s0) := (blk_cell K1.out.1.1 0).trans rfl
      have e1 : w1.cell? ⟨g, 1, none⟩ = some (.int .i64 (g0 : Int)) := (blk_cell K1.out.1.1 1).trans rfl
      have e2 : w1.cell? ⟨g, 2, none⟩ = some (.int .i64 (k0 : Int)) := (blk_cell K1.out.1.1 2).trans rfl
      have fz := blk_frozen K1.out.1.1
      have p1 : (k0 ≤ s0.size) = True := eq_true (by omega)
      clear hA
      have hb := fun wx x a b => bld38 wx x a b
      go_region
      go_wp2
      go_roundg 2
      case rel =>
        exact ⟨1, rfl, by omega, ⟨(K1.out.1.put_ (k := 0) (x := crY ⟨s0, g0, k0⟩) (by decide) rfl rfl).below (pw_below_drewN (Below.refl _ _) 1), pw_below_drewN (below_put (k := 0) (x := crY ⟨s0, g0, k0⟩) K1.out.2.1 K1.out.1.2) 1, keep_drewN (KeepBut.set_ (KeepBut.set_ (KeepBut.set_ K1.out.2.2 _ _) _ _) _ _) 1⟩⟩
      case measure => omega
    · go_wp2
      have hA := heap_alloc_new wr (.cells #[.string s1, .int .i64 (g1 : Int), .int .i64 (k1 : Int)] 38)
      have K1 := Aside0.mk (show IsR w0 (wr.alloc (.cells #[.string s1, .int .i64 (g1 : Int), .int .i64 (k1 : Int)] 38)) g (crI 1 ⟨⟨s0, g0, k0⟩, ⟨s1, g1, k1⟩, ⟨s2, g2, k2⟩⟩) ∧ Below w0.heap.size w0 (wr.alloc (.cells #[.string s1, .int .i64 (g1 : Int), .int .i64 (k1 : Int)] 38)) ∧ KeepBut w (wr.alloc (.cells #[.string s1, .int .i64 (g1 : Int), .int .i64 (k1 : Int)] 38)) g none from ⟨HC.out.1.below (below_alloc (Below.refl _ _) _), below_alloc HC.out.2.1 _, HC.out.2.2.trans (KeepBut.of_grown (World.grownBy_alloc wr _ none) g) (.inl rfl)⟩)
      have n0 : g ≠ wr.heap.size := by omega
      generalize wr.alloc (.cells #[.string s1, .int .i64 (g1 : Int), .int .i64 (k1 : Int)] 38) = w1 at hA K1 ⊢
      generalize wr.heap.size = gx at hA n0 ⊢
      have d0 : w1.cell? ⟨gx, 0, none⟩ = some (.string s1) := (blk_cell hA 0).trans rfl
      have d1 : w1.cell? ⟨gx, 1, none⟩ = some (.int .i64 (g1 : Int)) := (blk_cell hA 1).trans rfl
      have d2 : w1.cell? ⟨gx, 2, none⟩ = some (.int .i64 (k1 : Int)) := (blk_cell hA 2).trans rfl
      have e0 : w1.cell? ⟨g, 3, none⟩ = some (.string s1) := (blk_cell K1.out.1.1 3).trans rfl
      have e1 : w1.cell? ⟨g, 4, none⟩ = some (.int .i64 (g1 : Int)) := (blk_cell K1.out.1.1 4).trans rfl
      have e2 : w1.cell? ⟨g, 5, none⟩ = some (.int .i64 (k1 : Int)) := (blk_cell K1.out.1.1 5).trans rfl
      have fz := blk_frozen K1.out.1.1
      have p1 : (k1 ≤ s1.size) = True := eq_true (by omega)
      clear hA
      have hb := fun wx x a b => bld38 wx x a b
      go_region
      go_wp2
      go_roundg 1
      case rel =>
        exact ⟨2, rfl, by omega, ⟨(K1.out.1.put_ (k := 1) (x := crY ⟨s1, g1, k1⟩) (by decide) rfl rfl).below (pw_below_drewN (Below.refl _ _) 1), pw_below_drewN (below_put (k := 1) (x := crY ⟨s1, g1, k1⟩) K1.out.2.1 K1.out.1.2) 1, keep_drewN (KeepBut.set_ (KeepBut.set_ (KeepBut.set_ K1.out.2.2 _ _) _ _) _ _) 1⟩⟩
      case measure => omega
    · go_wp2
      have hA := heap_alloc_new wr (.cells #[.string s2, .int .i64 (g2 : Int), .int .i64 (k2 : Int)] 38)
      have K1 := Aside0.mk (show IsR w0 (wr.alloc (.cells #[.string s2, .int .i64 (g2 : Int), .int .i64 (k2 : Int)] 38)) g (crI 2 ⟨⟨s0, g0, k0⟩, ⟨s1, g1, k1⟩, ⟨s2, g2, k2⟩⟩) ∧ Below w0.heap.size w0 (wr.alloc (.cells #[.string s2, .int .i64 (g2 : Int), .int .i64 (k2 : Int)] 38)) ∧ KeepBut w (wr.alloc (.cells #[.string s2, .int .i64 (g2 : Int), .int .i64 (k2 : Int)] 38)) g none from ⟨HC.out.1.below (below_alloc (Below.refl _ _) _), below_alloc HC.out.2.1 _, HC.out.2.2.trans (KeepBut.of_grown (World.grownBy_alloc wr _ none) g) (.inl rfl)⟩)
      have n0 : g ≠ wr.heap.size := by omega
      generalize wr.alloc (.cells #[.string s2, .int .i64 (g2 : Int), .int .i64 (k2 : Int)] 38) = w1 at hA K1 ⊢
      generalize wr.heap.size = gx at hA n0 ⊢
      have d0 : w1.cell? ⟨gx, 0, none⟩ = some (.string s2) := (blk_cell hA 0).trans rfl
      have d1 : w1.cell? ⟨gx, 1, none⟩ = some (.int .i64 (g2 : Int)) := (blk_cell hA 1).trans rfl
      have d2 : w1.cell? ⟨gx, 2, none⟩ = some (.int .i64 (k2 : Int)) := (blk_cell hA 2).trans rfl
      have e0 : w1.cell? ⟨g, 6, none⟩ = some (.string s2) := (blk_cell K1.out.1.1 6).trans rfl
      have e1 : w1.cell? ⟨g, 7, none⟩ = some (.int .i64 (g2 : Int)) := (blk_cell K1.out.1.1 7).trans rfl
      have e2 : w1.cell? ⟨g, 8, none⟩ = some (.int .i64 (k2 : Int)) := (blk_cell K1.out.1.1 8).trans rfl
      have fz := blk_frozen K1.out.1.1
      have p1 : (k2 ≤ s2.size) = True := eq_true (by omega)
      clear hA
      have hb := fun wx x a b => bld38 wx x a b
      go_region
      go_wp2
      go_roundg 0
      case rel =>
        exact ⟨3, rfl, by omega, ⟨(K1.out.1.put_ (k := 2) (x := crY ⟨s2, g2, k2⟩) (by decide) rfl rfl).below (pw_below_drewN (Below.refl _ _) 1), pw_below_drewN (below_put (k := 2) (x := crY ⟨s2, g2, k2⟩) K1.out.2.1 K1.out.1.2) 1, keep_drewN (KeepBut.set_ (KeepBut.set_ (KeepBut.set_ K1.out.2.2 _ _) _ _) _ _) 1⟩⟩
      case measure => omega
    · go_wp2
      go_end0
      exact ⟨rfl, HC.out.1, HC.out.2.1, HC.out.2.2⟩
/-! ### the wire's answers, in a world that is drawn from alone -/
theorem Is3.cells {w0 W : World} {g k : Nat} {S : W3} (h : Is3 w0 W g S) (hk : k < 3) : W.cell? ⟨g, k * 3, none⟩ = some (.string (S.get (k : Int)).w) ∧ W.cell? ⟨g, k * 3 + 1, none⟩ = some (.string (S.get (k : Int)).q) ∧ W.cell? ⟨g, k * 3 + 2, none⟩ = some (.string (S.get (k : Int)).t) := by
  have : k = 0 ∨ k = 1 ∨ k = 2 := by omega
  rcases this with rfl | rfl | rfl
  · exact ⟨(blk_cell h.1 0).trans rfl, (blk_cell h.1 1).trans rfl, (blk_cell h.1 2).trans rfl⟩
  · exact ⟨(blk_cell h.1 3).trans rfl, (blk_cell h.1 4).trans rfl, (blk_cell h.1 5).trans rfl⟩
  · exact ⟨(blk_cell h.1 6).trans rfl, (blk_cell h.1 7).trans rfl, (blk_cell h.1 8).trans rfl⟩
theorem allQ (g k : Nat) (S : W3) (i : Int) (s : ByteArray) (w0 w : World) (hI : Is3 w0 w g S) (hk : k < 3) (hi : i = (k : Int)) (hb : (S.get i).len ≤ 1000000) (hs : s = (S.get i).all) :
    Calls Try.prog 22 #[.pointer (some ⟨g, 0, none⟩), .int .i64 i] w fun e w' => e = .returned (.string s) ∧ ∃ n, w' = w.drewN n := by
  subst hi
  obtain ⟨c0, c1, c2⟩ := hI.cells hk
  unfold Way.len at hb
  rw [hs]
  exact all_in g k w hk _ _ _ c0 c1 c2 (by omega) (by omega)
theorem traceQ (g k : Nat) (S : W3) (i : Int) (s : ByteArray) (w0 w : World) (hI : Is3 w0 w g S) (hk : k < 3) (hi : i = (k : Int)) (hs : s = (S.get i).t) :
    Calls Try.prog 21 #[.pointer (some ⟨g, 0, none⟩), .int .i64 i] w fun e w' => e = .returned (.string s) ∧ ∃ n, w' = w.drewN n := by
  subst hi
  obtain ⟨c0, c1, c2⟩ := hI.cells hk
  rw [hs]
  exact trace_in g k w hk _ c2
set_option maxHeartbeats 800000 in
set_option maxRecDepth 100000 in
theorem leftQ (g k : Nat) (S : W3) (i : Int) (s t : ByteArray) (w0 w : World) (hI : Is3 w0 w g S) (hk : k < 3) (hi : i = (k : Int)) (hb : (S.get i).len ≤ 1000000) (hs : s = (S.get i).all) (ht : t = (S.get i).t) (hsz : s.size ≤ 1000000) (htz : t.size ≤ s.size) :
    Calls Try.prog 23 #[.pointer (some ⟨g, 0, none⟩), .int .i64 i] w fun e w' => e = .returned (.int .i64 ((s.size : Int) - (t.size : Int))) ∧ ∃ n, w' = w.drewN n := by
  have A := fun W h => allQ g k S i s w0 W h hk hi hb hs
  have T := fun W h => traceQ g k S i t w0 W h hk hi ht
  have hw := wrap_in ((s.size : Int) - (t.size : Int)) (by omega) (by omega)
  clear hs ht hb hi
  go_enter Try.func23, Try.ntmps23
  go_wp2_with (first | (go_at_call 22; (with_reducible refine (A _ (by first | exact hI | exact hI.below (pw_below_drewN (Below.refl _ _) _))).mono ?_); rintro e w' ⟨rfl, ⟨nd, rfl⟩⟩) | (go_at_call 21; (with_reducible refine (T _ (by first | exact hI | exact hI.below (pw_below_drewN (Below.refl _ _) _))).mono ?_); rintro e w' ⟨rfl, ⟨nd2, rfl⟩⟩))
  go_ret
  exact ⟨rfl, _, rfl⟩
set_option maxHeartbeats 800000 in
set_option maxRecDepth 100000 in
theorem left_nil (w : World) : Calls Try.prog 23 #[.pointer none, .int .i64 0] w fun e w' => e = .returned (.int .i64 0) ∧ ∃ n, w' = w.drewN n := by
  have A := all_nil 0
  have T := trace_nil 0
  go_enter Try.func23, Try.ntmps23
  go_wp2_with (first | (go_at_call 22; (with_reducible refine (A _).mono ?_); rintro e w' ⟨rfl, ⟨nd, rfl⟩⟩) | (go_at_call 21; (with_reducible refine (T _).mono ?_); rintro e w' ⟨rfl, ⟨nd2, rfl⟩⟩))
  go_ret
  exact ⟨rfl, _, rfl⟩
set_option maxHeartbeats 800000 in
set_option maxRecDepth 100000 in
theorem crash_nil (w : World) : Calls Try.prog 26 #[.pointer none] w fun e w' => e = .returned (.tuple #[]) ∧ w' = w := by
  go_enter Try.func26, Try.ntmps26
  go_wp2
  ((try simp only [Exit.inBlock, Exit.then]); refine bodyPost_ret (results_none rfl _ _ _) rfl ?_)
  exact ⟨rfl, rfl⟩
/-! ### what the document's wire is, of a wire -/
def ry (x : Way) : Ry := ⟨x.all, x.t.size + x.q.size, x.t.size⟩
def refS (S : W3) : R3 := ⟨ry S.a, ry S.b, ry S.c⟩
theorem refS_get (S : W3) (i : Int) : (refS S).get i = ry (S.get i) := by
  unfold refS R3.get W3.get
  split
  · rfl
  · split <;> rfl
theorem refS_put (S : W3) (i : Int) (x : Way) : refS (S.put i x) = (refS S).put i (ry x) := by
  unfold refS R3.put W3.put
  split
  · rfl
  · split <;> rfl
theorem refS_push {S : W3} {i : Int} (hi : inR i) (s : ByteArray) : refS (pushS S i s) = (refS S).put i ⟨((refS S).get i).s ++ s, ((refS S).get i).g, ((refS S).get i).c⟩ := by
  unfold pushS
  rw [if_pos hi, refS_put, refS_get]
  unfold ry
  rw [push_all]
  rfl
theorem refS_pump {S : W3} {i : Int} (hi : inR i) (hq : (S.get i).q.size ≤ 8) : refS (pumpS S i) = (refS S).put i ⟨((refS S).get i).s, ((refS S).get i).g + pumpN (S.get i).q (S.get i).w, ((refS S).get i).c⟩ := by
  unfold pumpS
  rw [if_pos hi, refS_put, refS_get]
  unfold ry
  rw [pump_all, pump_q _ hq, pump_t]
  simp only [Nat.add_assoc]
theorem take_sizes (x : Way) (a : Int) : (takeW x a).t.size = x.t.size + min a.toNat x.q.size ∧ (takeW x a).q.size = x.q.size - min a.toNat x.q.size := by
  unfold takeW
  split
  · rename_i h
    rw [show a.toNat = 0 by omega]
    simp
  · dsimp only
    unfold takeN
    rw [ByteArray.size_append, ByteArray.size_extract, ByteArray.size_extract]
    omega
theorem refS_take {S : W3} {i : Int} (hi : inR i) (a : Int) : refS (takeS S i a) = (refS S).put i ⟨((refS S).get i).s, ((refS S).get i).g, ((refS S).get i).c + min a.toNat (S.get i).q.size⟩ := by
  unfold takeS
  rw [if_pos hi, refS_put, refS_get]
  unfold ry
  have h := take_sizes (S.get i) a
  rw [take_all, h.1, h.2]
  dsimp only
  congr 2
  omega
theorem took_eq (x : Way) (a : Int) : tookW x a = x.all.extract x.t.size (x.t.size + min a.toNat x.q.size) := by
  have hn : ∀ n, n ≤ x.q.size → x.all.extract x.t.size (x.t.size + n) = x.q.extract 0 n := by
    intro n hn
    apply ByteArray.ext
    unfold Way.all
    rw [ByteArray.data_extract, ByteArray.data_extract, ByteArray.data_append, ByteArray.data_append]
    apply Array.ext'
    have h1 : x.t.data.toList.length = x.t.size := by simp
    have h2 : x.q.data.toList.length = x.q.size := by simp
    simp only [Array.toList_extract, Array.toList_append, List.extract]
    rw [List.append_assoc, List.drop_append_of_le_length (by simp), List.drop_of_length_le (by simp), List.nil_append, List.take_append_of_le_length (by simp; omega)]
    simp
  unfold tookW
  split
  · rename_i h
    rw [show a.toNat = 0 by omega, hn _ (by omega)]
    simp
    rfl
  · unfold takeN
    rw [hn _ (by omega)]
theorem crY_ry (x : Way) : ry (crW x) = crY (ry x) := by
  unfold ry crW crY
  have := t_begin x
  dsimp only
  rw [this]
  have h : (⟨⟨#[]⟩, ⟨#[]⟩, x.t⟩ : Way).all = x.t := by
    show x.t ++ ⟨#[]⟩ ++ ⟨#[]⟩ = x.t
    have e : x.t ++ (⟨#[]⟩ : ByteArray) = x.t := ByteArray.append_empty
    rw [e, e]
  rw [h]
  rfl
theorem refS_crash (S : W3) : refS (crashS S) = crR (refS S) := by
  unfold refS crashS crR
  simp only [crY_ry]
theorem ry_le (x : Way) : (ry x).c ≤ (ry x).g ∧ (ry x).g ≤ (ry x).s.size ∧ (ry x).s.size = x.len ∧ (ry x).g - (ry x).c = x.q.size := by
  unfold ry
  dsimp only
  rw [all_size]
  unfold Way.len
  omega
theorem small3 {S : W3} {N : Nat} (h : Good S N) (hN : N ≤ 2048) (i : Int) (hi : inR i) : ((refS S).get i).c ≤ ((refS S).get i).s.size ∧ ((refS S).get i).s.size ≤ 1000000 := by
  rw [refS_get]
  obtain ⟨y1, y2, y3, y4⟩ := ry_le (S.get i)
  have := (h i hi).1
  omega
def cCells (x : S29) : Array Value := #[.int .i64 x.f0, .int .i64 x.f1, .string x.f2, .int .i64 x.f3]
theorem IsR.all_ {w0 W : World} {g k : Nat} {R : R3} (h : IsR w0 W g R) (hk : k < 3) (s : ByteArray) : IsR w0 (W.setCell ⟨g, k * 3, none⟩ (.string s)) g (R.put (k : Int) ⟨s, (R.get (k : Int)).g, (R.get (k : Int)).c⟩) := by
  refine ⟨?_, h.2⟩
  have : k = 0 ∨ k = 1 ∨ k = 2 := by omega
  rcases this with rfl | rfl | rfl
  · simpa [rCells, R3.put, R3.get] using blk_set h.1 0 (.string s)
  · simpa [rCells, R3.put, R3.get] using blk_set h.1 3 (.string s)
  · simpa [rCells, R3.put, R3.get] using blk_set h.1 6 (.string s)
theorem new_isR (w0 w : World) (hB : Below w0.heap.size w0 w) : IsR w0 (w.alloc (.cells #[.string (⟨#[]⟩ : ByteArray), .int .i64 0, .int .i64 0, .string (⟨#[]⟩ : ByteArray), .int .i64 0, .int .i64 0, .string (⟨#[]⟩ : ByteArray), .int .i64 0, .int .i64 0] 41)) w.heap.size (refS zeroW) :=
  ⟨heap_alloc_new w _, hB.size⟩
set_option maxHeartbeats 16000000 in
set_option maxRecDepth 100000 in
theorem wdoes_main (k : Nat) (A0 : Option Addr) (c0 : Nat) (l : List S29) (w : World) (hr0 : Kd.C k29 w A0 l.length l) (hc0 : l.length ≤ c0) (hl : l.length ≤ 80) (ht : tot l ≤ 2048) (hwf : ∀ x ∈ l, x.f3 ≤ 9223372036854775807) (hg : countermandlaw06_great.f k l = some false) :
    Calls Try.prog 6 #[.slice A0 l.length c0] w fun e w' => e = .returned (.bool true) ∧ Below w.heap.size w w' := by
  have hu29 := Try.underlying29
  have hu38 := Try.underlying38
  have hu39 := Try.underlying39
  have hu41 := Try.underlying41
  have hu36 := Try.underlying36
  have hu9 := Try.underlying9
  have AL := countermandlaw06_alive.calls true
  have GR := countermandlaw06_great.calls k A0 c0 l false
  have HW := Aside0.mk (And.intro hr0 hwf)
  clear hwf
  go_enter Try.func6, Try.ntmps6
  go_wp2_with (first | (go_at_call 14; (with_reducible refine (AL _ alive_eq).mono ?_); rintro e w1 ⟨rfl, hB1⟩) | (go_at_call 15; (with_reducible refine (GR _ (Kd.C_below hr0 hB1) hc0 hg).mono ?_); rintro e w2 ⟨rfl, hB2⟩))
  have hB2' : Below w.heap.size w w2 := hB1.trans (hB2.mono hB1.size)
  clear hB1 hB2 AL GR hr0
  refine (new3 w _ hB2').mono ?_
  rintro e w4 ⟨g, rfl, hA, hB4, _⟩
  go_wp2
  have hgm := new_isR w w4 hB4
  have hA5 := hA.below (below_alloc (Below.refl _ _) (.cells #[.string (⟨#[]⟩ : ByteArray), .int .i64 0, .int .i64 0, .string (⟨#[]⟩ : ByteArray), .int .i64 0, .int .i64 0, .string (⟨#[]⟩ : ByteArray), .int .i64 0, .int .i64 0] 41))
  have hB5 := below_alloc hB4 (.cells #[.string (⟨#[]⟩ : ByteArray), .int .i64 0, .int .i64 0, .string (⟨#[]⟩ : ByteArray), .int .i64 0, .int .i64 0, .string (⟨#[]⟩ : ByteArray), .int .i64 0, .int .i64 0] 41)
  have hne : g ≠ w4.heap.size := by have := blk_lt hA.1; omega
  clear hA hB2' hB4
  have HS := Aside0.mk (And.intro hA5 (And.intro hgm hB5))
  clear hA5 hgm hB5
  generalize w4.alloc (.cells #[.string (⟨#[]⟩ : ByteArray), .int .i64 0, .int .i64 0, .string (⟨#[]⟩ : ByteArray), .int .i64 0, .int .i64 0, .string (⟨#[]⟩ : ByteArray), .int .i64 0, .int .i64 0] 41) = w5 at HS ⊢
  generalize w4.heap.size = gm at HS hne ⊢
  go_loopg [23] l.length (fun m v wr => ∃ (j : Nat) (S : W3) (N : Nat), v = .int .i64 (j : Int) ∧ m + j = l.length ∧ Aside0 (Is3 w wr g S ∧ IsR w wr gm (refS S) ∧ Good S N ∧ N + tot (l.drop j) ≤ 2048 ∧ Below w.heap.size w wr))
  case atStart => exact ⟨0, zeroW, 0, rfl, by omega, ⟨HS.out.1, HS.out.2.1, good_zero, by rw [List.drop_zero]; omega, HS.out.2.2⟩⟩
  case round =>
    clear HS
    obtain ⟨j, S, N, rfl, hj, HC⟩ := hrel
    by_cases hlt : j < l.length
    · have q0 : decide ((j : Int) < (l.length : Int)) = true := decide_eq_true (by omega)
      obtain ⟨ad, rfl, x0, x1, x2, x3⟩ := at_T29 (Kd.C_below HW.out.1 HC.out.2.2.2.2) (j : Int) (by omega) (by omega)
      simp only [Int.toNat_natCast] at x0 x1 x2 x3
      obtain ⟨x, r, hx⟩ : ∃ x r, l.drop j = x :: r := ⟨_, _, List.drop_eq_getElem_cons hlt⟩
      obtain ⟨hrd, _, hr⟩ := rd_at hx
      rw [hrd] at x0 x1 x2 x3
      have hxm : x ∈ l := List.mem_of_mem_drop (by rw [hx]; exact List.mem_cons_self)
      have hx3 := HW.out.2 x hxm
      have p0 : ((0 : Int) ≤ (j : Int)) = True := eq_true (by omega)
      have p1 : ((j : Int) < (l.length : Int)) = True := eq_true (by omega)
      have hxt : tot (l.drop j) = x.f2.size + tot r := by rw [hx]; rfl
      have hNt := HC.out.2.2.2.1
      rw [hxt] at hNt
      have hNt2 : (N + x.f2.size) + tot (l.drop (j + 1)) ≤ 2048 := by rw [hr]; omega
      have hN9 : N ≤ 2048 := by omega
      have hxs : x.f2.size ≤ 2048 := by omega
      clear hrd hxt hx hr hxm
      go_upto_region 9 with (fail)
      have hA := heap_alloc_new wr (.cells (cCells x) 29)
      have K1 := Aside0.mk (show Is3 w (wr.alloc (.cells (cCells x) 29)) g S ∧ IsR w (wr.alloc (.cells (cCells x) 29)) gm (refS S) ∧ Below w.heap.size w (wr.alloc (.cells (cCells x) 29)) from ⟨HC.out.1.below (below_alloc (Below.refl _ _) _), HC.out.2.1.below (below_alloc (Below.refl _ _) _), below_alloc HC.out.2.2.2.2 _⟩)
      have hgw : g < wr.heap.size := blk_lt HC.out.1.1
      have hgw2 : gm < wr.heap.size := blk_lt HC.out.2.1.1
      have n1 : wr.heap.size ≠ g := by omega
      have n2 : wr.heap.size ≠ gm := by omega
      have hcc : (cCells x) = #[.int .i64 x.f0, .int .i64 x.f1, .string x.f2, .int .i64 x.f3] := rfl
      rw [← hcc]
      generalize wr.alloc (.cells (cCells x) 29) = W1 at hA K1 ⊢
      generalize wr.heap.size = gc at hA hgw hgw2 n1 n2 ⊢
      have d0 : W1.cell? ⟨gc, 0, none⟩ = some (.int .i64 x.f0) := (blk_cell hA 0).trans rfl
      have d1 : W1.cell? ⟨gc, 1, none⟩ = some (.int .i64 x.f1) := (blk_cell hA 1).trans rfl
      have d2 : W1.cell? ⟨gc, 2, none⟩ = some (.string x.f2) := (blk_cell hA 2).trans rfl
      have d3 : W1.cell? ⟨gc, 3, none⟩ = some (.int .i64 x.f3) := (blk_cell hA 3).trans rfl
      clear x0 x1 x2 x3 hcc
      have HA := Aside0.mk hA
      clear hA
      have IS := countermandref06_Is.calls x.f1 (decide (inR x.f1)) W1 (is_eq x.f1)
      go_wp2_with (fail)
      have HG := Aside0.mk HC.out.2.2.1
      by_cases hR : inR x.f1
      · rw [decide_eq_true hR] at IS
        obtain ⟨ki, hki⟩ : ∃ ki : Nat, x.f1 = (ki : Int) := ⟨x.f1.toNat, by unfold inR at hR; omega⟩
        have hk3 : ki < 3 := by unfold inR at hR; omega
        have hRk : inR (ki : Int) := by rw [← hki]; exact hR
        rw [hki] at d1 IS ⊢
        have HK := Aside0.mk hki
        clear hki hR
        refine IS.mono ?_
        clear IS
        rintro e w7 ⟨rfl, nd, rfl⟩
        have K2 := Aside0.mk (show Is3 w (W1.drewN nd) g (S) ∧ IsR w (W1.drewN nd) gm (refS S) ∧ Below w.heap.size w (W1.drewN nd) ∧ (W1.drewN nd).heap[gc]? = some (.cells (cCells x) 29 (0, 0)) from ⟨K1.out.1.below (pw_below_drewN (Below.refl _ _) _), K1.out.2.1.below (pw_below_drewN (Below.refl _ _) _), pw_below_drewN K1.out.2.2 _, HA.out⟩)
        clear d0 d1 d2 d3
        generalize W1.drewN nd = W2 at K2 ⊢
        have d0 : W2.cell? ⟨gc, 0, none⟩ = some (.int .i64 x.f0) := (blk_cell K2.out.2.2.2 0).trans rfl
        have d1 : W2.cell? ⟨gc, 1, none⟩ = some (.int .i64 (ki : Int)) := (blk_cell K2.out.2.2.2 1).trans (by rw [← HK.out]; rfl)
        have d2 : W2.cell? ⟨gc, 2, none⟩ = some (.string x.f2) := (blk_cell K2.out.2.2.2 2).trans rfl
        have d3 : W2.cell? ⟨gc, 3, none⟩ = some (.int .i64 x.f3) := (blk_cell K2.out.2.2.2 3).trans rfl
        go_upto_block 2 with (fail)
        go_cut [8] (fun v8 wc => v8 = .bool true ∧ Aside0 (Is3 w wc g (stepS S x) ∧ IsR w wc gm (refS (stepS S x)) ∧ Below w.heap.size w wc ∧ wc.heap[gc]? = some (.cells (cCells x) 29 (0, 0))))
        case first =>
          by_cases e0 : x.f0 = 0
          · have b0 : (x.f0 == 0) = true := by simpa using e0
            have E0 := Aside0.mk e0
            clear e0
            have HSS := Aside0.mk (show stepS S x = pushS S (ki : Int) x.f2 from by unfold stepS; rw [if_pos E0.out]; rw [HK.out])
            clear HA K1
            have PU := push3 g S (ki : Int) x.f2 w W2 K2.out.1 K2.out.2.2.1 (fun h => by have := (HG.out _ h).1; unfold Way.len at this; omega)
            rw [decide_eq_true hRk] at PU
            go_wp2_with (fail)
            refine PU.mono ?_
            rintro e w7 ⟨rfl, hI7, hB7, hk7⟩
            have K7 := Aside0.mk (show Is3 w w7 g (pushS S (ki : Int) x.f2) ∧ IsR w w7 gm (refS S) ∧ Below w.heap.size w w7 ∧ w7.heap[gc]? = some (.cells (cCells x) 29 (0, 0)) from ⟨hI7, K2.out.2.1.keep hk7 (Ne.symm hne), hB7, hk7.blk K2.out.2.2.2 n1 (by simp)⟩)
            clear hI7 hB7 hk7 PU d0 d1 d2 d3
            have d0 : w7.cell? ⟨gc, 0, none⟩ = some (.int .i64 x.f0) := (blk_cell K7.out.2.2.2 0).trans rfl
            have d1 : w7.cell? ⟨gc, 1, none⟩ = some (.int .i64 (ki : Int)) := (blk_cell K7.out.2.2.2 1).trans (by rw [← HK.out]; rfl)
            have d2 : w7.cell? ⟨gc, 2, none⟩ = some (.string x.f2) := (blk_cell K7.out.2.2.2 2).trans rfl
            have d3 : w7.cell? ⟨gc, 3, none⟩ = some (.int .i64 x.f3) := (blk_cell K7.out.2.2.2 3).trans rfl
            have hz := (HG.out _ hRk).1
            have hy := (ry_le (S.get (ki : Int))).2.2.1
            rw [← refS_get] at hy
            obtain ⟨m0, _, _⟩ := K7.out.2.1.cells hk3
            have mf := blk_frozen K7.out.2.1.1
            obtain ⟨sm, hsm⟩ : ∃ sm, sm = ((refS S).get (ki : Int)).s := ⟨_, rfl⟩
            rw [← hsm] at hy m0
            have hbs : sm.size + x.f2.size ≤ 9223372036854775807 := by omega
            have b0 := eq_true hbs
            have b2 : (9223372036854775807 < sm.size + x.f2.size) = False := eq_false (Nat.not_lt.2 hbs)
            have HSM := Aside0.mk hsm
            clear hz hy hsm hbs
            go_wp2_with (fail)
            go_region
            go_wp2
            go_meet
            case rel =>
              have hM9 := K7.out.2.1.all_ hk3 (sm ++ x.f2)
              rw [HSM.out, ← refS_push hRk, ← HSM.out] at hM9
              rw [HSS.out]
              exact ⟨rfl, ⟨(K7.out.1.keep (KeepBut.set_ (KeepBut.refl w7 gm none) _ _) hne).below (pw_below_drewN (Below.refl _ _) 1), hM9.below (pw_below_drewN (Below.refl _ _) 1), pw_below_drewN (below_set K7.out.2.2.1 K7.out.2.1.2) 1, ((KeepBut.set_ (KeepBut.refl w7 gm none) _ _).blk K7.out.2.2.2 n2 (by simp))⟩⟩
          have b0 : (x.f0 == 0) = false := by simpa using e0
          have E0 := Aside0.mk e0
          clear e0
          by_cases e1 : x.f0 = 1
          · have b1 : (x.f0 == 1) = true := by simpa using e1
            have E1 := Aside0.mk e1
            clear e1
            have HSS := Aside0.mk (show stepS S x = pumpS S (ki : Int) from by unfold stepS; rw [if_neg E0.out]; rw [if_pos E1.out]; rw [HK.out])
            clear HA K1
            have hz := (HG.out _ hRk).1
            have hq8 := (HG.out _ hRk).2
            obtain ⟨y1, y2, y3, y4⟩ := ry_le (S.get (ki : Int))
            have ysz : (ry (S.get (ki : Int))).s.size = (S.get (ki : Int)).t.size + (S.get (ki : Int)).q.size + (S.get (ki : Int)).w.size := y3
            have ygs : (ry (S.get (ki : Int))).g = (S.get (ki : Int)).t.size + (S.get (ki : Int)).q.size := rfl
            have RP := refPump_ok gm ki w W2 (refS S) K2.out.2.1 K2.out.2.2.1 hk3 (pumpN (S.get (ki : Int)).q (S.get (ki : Int)).w) (by rw [refS_get]; exact y1) (by rw [refS_get]; exact y2) (by rw [refS_get]; omega) (by rw [refS_get]; omega) (by rw [refS_get, y4]; unfold pumpN; omega)
            rw [← refS_pump hRk hq8] at RP
            have PU := fun W7 h1 h2 => pump3 g S (ki : Int) w W7 h1 h2 (fun h => (HG.out _ h).2)
            simp only [if_pos hRk] at PU
            generalize pumpN (S.get (ki : Int)).q (S.get (ki : Int)).w = pn at RP PU
            clear hz hq8 y1 y2 y3 y4 ysz ygs
            go_wp2_with (fail)
            refine RP.mono ?_
            rintro e w7 ⟨rfl, hM7, hB7, hk7⟩
            have K7 := Aside0.mk (show Is3 w w7 g (S) ∧ IsR w w7 gm (refS (pumpS S (ki : Int))) ∧ Below w.heap.size w w7 ∧ w7.heap[gc]? = some (.cells (cCells x) 29 (0, 0)) from ⟨K2.out.1.keep hk7 hne, hM7, hB7, hk7.blk K2.out.2.2.2 n2 (by simp)⟩)
            clear hM7 hB7 hk7 RP d0 d1 d2 d3
            have d0 : w7.cell? ⟨gc, 0, none⟩ = some (.int .i64 x.f0) := (blk_cell K7.out.2.2.2 0).trans rfl
            have d1 : w7.cell? ⟨gc, 1, none⟩ = some (.int .i64 (ki : Int)) := (blk_cell K7.out.2.2.2 1).trans (by rw [← HK.out]; rfl)
            have d2 : w7.cell? ⟨gc, 2, none⟩ = some (.string x.f2) := (blk_cell K7.out.2.2.2 2).trans rfl
            have d3 : w7.cell? ⟨gc, 3, none⟩ = some (.int .i64 x.f3) := (blk_cell K7.out.2.2.2 3).trans rfl
            go_wp2_with (fail)
            refine (PU w7 K7.out.1 K7.out.2.2.1).mono ?_
            rintro e w8 ⟨rfl, hI8, hB8, hk8⟩
            clear PU
            go_wp2
            go_meet
            case rel =>
              rw [HSS.out]
              exact ⟨rfl, ⟨hI8, K7.out.2.1.keep hk8 (Ne.symm hne), hB8, hk8.blk K7.out.2.2.2 n1 (by simp)⟩⟩
          have b1 : (x.f0 == 1) = false := by simpa using e1
          have E1 := Aside0.mk e1
          clear e1
          by_cases e2 : x.f0 = 2
          · have b2 : (x.f0 == 2) = true := by simpa using e2
            have E2 := Aside0.mk e2
            clear e2
            have HSS := Aside0.mk (show stepS S x = takeS S (ki : Int) x.f3 from by unfold stepS; rw [if_neg E0.out]; rw [if_neg E1.out]; rw [if_pos E2.out]; rw [HK.out])
            clear HA K1
            have hz := (HG.out _ hRk).1
            have hq8 := (HG.out _ hRk).2
            obtain ⟨y1, y2, y3, y4⟩ := ry_le (S.get (ki : Int))
            have ysz : (ry (S.get (ki : Int))).s.size = (S.get (ki : Int)).t.size + (S.get (ki : Int)).q.size + (S.get (ki : Int)).w.size := y3
            have ygs : (ry (S.get (ki : Int))).g = (S.get (ki : Int)).t.size + (S.get (ki : Int)).q.size := rfl
            have RP := refTake_ok gm ki x.f3 w W2 (refS S) K2.out.2.1 K2.out.2.2.1 hk3 (min x.f3.toNat (S.get (ki : Int)).q.size) (by rw [refS_get]; exact y1) (by rw [refS_get]; exact y2) (by rw [refS_get]; omega) hx3 (by rw [refS_get, y4])
            rw [← refS_take hRk x.f3] at RP
            have PU := fun W7 h1 h2 => take3 g S (ki : Int) x.f3 w W7 h1 h2 (fun h => by have := (HG.out _ h).1; unfold Way.len at this; omega)
            simp only [if_pos hRk] at PU
            rw [refS_get] at RP
            have hto := took_eq (S.get (ki : Int)) x.f3
            have hto2 : (ry (S.get (ki : Int))).s.extract (ry (S.get (ki : Int))).c ((ry (S.get (ki : Int))).c + min x.f3.toNat (S.get (ki : Int)).q.size) = tookW (S.get (ki : Int)) x.f3 := by rw [hto]; rfl
            rw [hto2] at RP
            generalize tookW (S.get (ki : Int)) x.f3 = tk at RP PU
            clear hto hto2
            clear hz hq8 y1 y2 y3 y4 ysz ygs
            go_wp2_with (fail)
            refine RP.mono ?_
            rintro e w7 ⟨rfl, hM7, hB7, hk7⟩
            have K7 := Aside0.mk (show Is3 w w7 g (S) ∧ IsR w w7 gm (refS (takeS S (ki : Int) x.f3)) ∧ Below w.heap.size w w7 ∧ w7.heap[gc]? = some (.cells (cCells x) 29 (0, 0)) from ⟨K2.out.1.keep hk7 hne, hM7, hB7, hk7.blk K2.out.2.2.2 n2 (by simp)⟩)
            clear hM7 hB7 hk7 RP d0 d1 d2 d3
            have d0 : w7.cell? ⟨gc, 0, none⟩ = some (.int .i64 x.f0) := (blk_cell K7.out.2.2.2 0).trans rfl
            have d1 : w7.cell? ⟨gc, 1, none⟩ = some (.int .i64 (ki : Int)) := (blk_cell K7.out.2.2.2 1).trans (by rw [← HK.out]; rfl)
            have d2 : w7.cell? ⟨gc, 2, none⟩ = some (.string x.f2) := (blk_cell K7.out.2.2.2 2).trans rfl
            have d3 : w7.cell? ⟨gc, 3, none⟩ = some (.int .i64 x.f3) := (blk_cell K7.out.2.2.2 3).trans rfl
            go_wp2_with (fail)
            refine (PU w7 K7.out.1 K7.out.2.2.1).mono ?_
            rintro e w8 ⟨rfl, hI8, hB8, hk8⟩
            clear PU
            go_wp2
            go_meet
            case rel =>
              rw [HSS.out]
              exact ⟨rfl, ⟨hI8, K7.out.2.1.keep hk8 (Ne.symm hne), hB8, hk8.blk K7.out.2.2.2 n1 (by simp)⟩⟩
          have b2 : (x.f0 == 2) = false := by simpa using e2
          have E2 := Aside0.mk e2
          clear e2
          by_cases e3 : x.f0 = 3
          · have b3 : (x.f0 == 3) = true := by simpa using e3
            have E3 := Aside0.mk e3
            clear e3
            have HSS := Aside0.mk (show stepS S x = crashS S from by unfold stepS; rw [if_neg E0.out]; rw [if_neg E1.out]; rw [if_neg E2.out]; rw [if_pos E3.out])
            clear HA K1
            have hg9 := K2.out.2.1
            go_wp2_with (fail)
            refine (crash3 g S w W2 K2.out.1 K2.out.2.2.1).mono ?_
            rintro e w7 ⟨rfl, hI7, hB7, hk7⟩
            have K7 := Aside0.mk (show Is3 w w7 g (crashS S) ∧ IsR w w7 gm (refS S) ∧ Below w.heap.size w w7 ∧ w7.heap[gc]? = some (.cells (cCells x) 29 (0, 0)) from ⟨hI7, K2.out.2.1.keep hk7 (Ne.symm hne), hB7, hk7.blk K2.out.2.2.2 n1 (by simp)⟩)
            clear hI7 hB7 hk7 hg9
            go_wp2_with (fail)
            refine (refCrash_ok gm w w7 (refS S) K7.out.2.1 K7.out.2.2.1 (small3 HG.out hN9 0 (by decide)) (small3 HG.out hN9 1 (by decide)) (small3 HG.out hN9 2 (by decide))).mono ?_
            rintro e w8 ⟨rfl, hM8, hB8, hk8⟩
            have hM9 : IsR w w8 gm (refS (crashS S)) := by rw [refS_crash]; exact hM8
            go_wp2
            go_meet
            case rel =>
              rw [HSS.out]
              exact ⟨rfl, ⟨K7.out.1.keep hk8 hne, hM9, hB8, hk8.blk K7.out.2.2.2 n2 (by simp)⟩⟩
          have b3 : (x.f0 == 3) = false := by simpa using e3
          have E3 := Aside0.mk e3
          clear e3
          have HSS := Aside0.mk (show stepS S x = S from by unfold stepS; rw [if_neg E0.out]; rw [if_neg E1.out]; rw [if_neg E2.out]; rw [if_neg E3.out])
          clear HA K1
          go_wp2
          go_meet
          case rel =>
            rw [HSS.out]
            exact ⟨rfl, ⟨K2.out.1, K2.out.2.1, K2.out.2.2.1, K2.out.2.2.2⟩⟩
        case rest =>
          obtain ⟨rfl, HR⟩ := hcut
          have hG2 := good_step HC.out.2.2.1 x
          clear K2 HA K1 d0 d1 d2 d3 HG
          generalize stepS S x = S2 at HR hG2
          obtain ⟨⟨⟨s0, g0, k0⟩, ⟨s1, g1, k1⟩, ⟨s2, g2, k2⟩⟩, hRR⟩ : ∃ R, R = refS S2 := ⟨_, rfl⟩
          rw [← hRR] at HR
          have hs0 : s0 = S2.a.all := congrArg (fun R : R3 => R.a.s) hRR
          have hk0 : k0 = S2.a.t.size := congrArg (fun R : R3 => R.a.c) hRR
          have hb0 : S2.a.len ≤ 1000000 := by have := (hG2 0 (by decide)).1; exact Nat.le_trans this (by omega)
          have hz0 : s0.size ≤ 1000000 := by rw [hs0, all_size]; exact hb0
          have hl0 : k0 ≤ s0.size := by rw [hs0, hk0, all_size]; unfold Way.len; omega
          have ht0 : s0.extract 0 k0 = S2.a.t := by rw [hs0, hk0]; exact t_begin _
          have AL0 := Aside0.mk (fun W h => allQ g 0 S2 0 s0 w W h (by decide) rfl hb0 hs0)
          have TR0 := Aside0.mk (fun W h => traceQ g 0 S2 0 (s0.extract 0 k0) w W h (by decide) rfl ht0)
          have LE0 := fun W h => leftQ g 0 S2 0 s0 (s0.extract 0 k0) w W h (by decide) rfl hb0 hs0 ht0 hz0 (by rw [ByteArray.size_extract]; omega)
          rw [show (s0.extract 0 k0).size = k0 by rw [ByteArray.size_extract]; omega] at LE0
          replace LE0 := Aside0.mk LE0
          clear hs0 hk0 hb0 ht0
          have hs1 : s1 = S2.b.all := congrArg (fun R : R3 => R.b.s) hRR
          have hk1 : k1 = S2.b.t.size := congrArg (fun R : R3 => R.b.c) hRR
          have hb1 : S2.b.len ≤ 1000000 := by have := (hG2 1 (by decide)).1; exact Nat.le_trans this (by omega)
          have hz1 : s1.size ≤ 1000000 := by rw [hs1, all_size]; exact hb1
          have hl1 : k1 ≤ s1.size := by rw [hs1, hk1, all_size]; unfold Way.len; omega
          have ht1 : s1.extract 0 k1 = S2.b.t := by rw [hs1, hk1]; exact t_begin _
          have AL1 := Aside0.mk (fun W h => allQ g 1 S2 1 s1 w W h (by decide) rfl hb1 hs1)
          have TR1 := Aside0.mk (fun W h => traceQ g 1 S2 1 (s1.extract 0 k1) w W h (by decide) rfl ht1)
          have LE1 := fun W h => leftQ g 1 S2 1 s1 (s1.extract 0 k1) w W h (by decide) rfl hb1 hs1 ht1 hz1 (by rw [ByteArray.size_extract]; omega)
          rw [show (s1.extract 0 k1).size = k1 by rw [ByteArray.size_extract]; omega] at LE1
          replace LE1 := Aside0.mk LE1
          clear hs1 hk1 hb1 ht1
          have hs2 : s2 = S2.c.all := congrArg (fun R : R3 => R.c.s) hRR
          have hk2 : k2 = S2.c.t.size := congrArg (fun R : R3 => R.c.c) hRR
          have hb2 : S2.c.len ≤ 1000000 := by have := (hG2 2 (by decide)).1; exact Nat.le_trans this (by omega)
          have hz2 : s2.size ≤ 1000000 := by rw [hs2, all_size]; exact hb2
          have hl2 : k2 ≤ s2.size := by rw [hs2, hk2, all_size]; unfold Way.len; omega
          have ht2 : s2.extract 0 k2 = S2.c.t := by rw [hs2, hk2]; exact t_begin _
          have AL2 := Aside0.mk (fun W h => allQ g 2 S2 2 s2 w W h (by decide) rfl hb2 hs2)
          have TR2 := Aside0.mk (fun W h => traceQ g 2 S2 2 (s2.extract 0 k2) w W h (by decide) rfl ht2)
          have LE2 := fun W h => leftQ g 2 S2 2 s2 (s2.extract 0 k2) w W h (by decide) rfl hb2 hs2 ht2 hz2 (by rw [ByteArray.size_extract]; omega)
          rw [show (s2.extract 0 k2).size = k2 by rw [ByteArray.size_extract]; omega] at LE2
          replace LE2 := Aside0.mk LE2
          clear hs2 hk2 hb2 ht2
          have hRR9 := Aside0.mk hRR
          clear hRR
          have HG2 := Aside0.mk hG2
          clear hG2
          go_wp2_with (fail)
          go_quiet (fail)
          rename_i nq
          have K3 := Aside0.mk (show Is3 w (wc.drewN nq) g S2 ∧ IsR w (wc.drewN nq) gm ⟨⟨s0, g0, k0⟩, ⟨s1, g1, k1⟩, ⟨s2, g2, k2⟩⟩ ∧ Below w.heap.size w (wc.drewN nq) from ⟨HR.out.1.below (pw_below_drewN (Below.refl _ _) _), HR.out.2.1.below (pw_below_drewN (Below.refl _ _) _), pw_below_drewN HR.out.2.2.1 _⟩)
          generalize (wc.drewN nq) = w9 at K3 ⊢
          clear HR
          have c0 : w9.cell? ⟨gm, 0, none⟩ = some (.string s0) := (blk_cell K3.out.2.1.1 0).trans rfl
          have c1 : w9.cell? ⟨gm, 1, none⟩ = some (.int .i64 (g0 : Int)) := (blk_cell K3.out.2.1.1 1).trans rfl
          have c2 : w9.cell? ⟨gm, 2, none⟩ = some (.int .i64 (k0 : Int)) := (blk_cell K3.out.2.1.1 2).trans rfl
          have c3 : w9.cell? ⟨gm, 3, none⟩ = some (.string s1) := (blk_cell K3.out.2.1.1 3).trans rfl
          have c4 : w9.cell? ⟨gm, 4, none⟩ = some (.int .i64 (g1 : Int)) := (blk_cell K3.out.2.1.1 4).trans rfl
          have c5 : w9.cell? ⟨gm, 5, none⟩ = some (.int .i64 (k1 : Int)) := (blk_cell K3.out.2.1.1 5).trans rfl
          have c6 : w9.cell? ⟨gm, 6, none⟩ = some (.string s2) := (blk_cell K3.out.2.1.1 6).trans rfl
          have c7 : w9.cell? ⟨gm, 7, none⟩ = some (.int .i64 (g2 : Int)) := (blk_cell K3.out.2.1.1 7).trans rfl
          have c8 : w9.cell? ⟨gm, 8, none⟩ = some (.int .i64 (k2 : Int)) := (blk_cell K3.out.2.1.1 8).trans rfl
          have hx0 := fun wx => idx39_0 wx (.string s0) (.int .i64 (g0 : Int)) (.int .i64 (k0 : Int)) (.string s1) (.int .i64 (g1 : Int)) (.int .i64 (k1 : Int)) (.string s2) (.int .i64 (g2 : Int)) (.int .i64 (k2 : Int))
          have hx1 := fun wx => idx39_1 wx (.string s0) (.int .i64 (g0 : Int)) (.int .i64 (k0 : Int)) (.string s1) (.int .i64 (g1 : Int)) (.int .i64 (k1 : Int)) (.string s2) (.int .i64 (g2 : Int)) (.int .i64 (k2 : Int))
          have hx2 := fun wx => idx39_2 wx (.string s0) (.int .i64 (g0 : Int)) (.int .i64 (k0 : Int)) (.string s1) (.int .i64 (g1 : Int)) (.int .i64 (k1 : Int)) (.string s2) (.int .i64 (g2 : Int)) (.int .i64 (k2 : Int))
          go_wp2
          clear c0 c1 c2 c3 c4 c5 c6 c7 c8
          go_loopg [119] 3 (fun m v wr => ∃ i : Nat, v = .int .i64 (i : Int) ∧ m + i = 3 ∧ Aside0 (Is3 w wr g S2 ∧ IsR w wr gm ⟨⟨s0, g0, k0⟩, ⟨s1, g1, k1⟩, ⟨s2, g2, k2⟩⟩ ∧ Below w.heap.size w wr))
          case atStart => exact ⟨0, rfl, rfl, K3⟩
          case round =>
            clear K3
            obtain ⟨i, rfl, hi, HD⟩ := hrel
            have : i = 0 ∨ i = 1 ∨ i = 2 ∨ i = 3 := by omega
            rcases this with rfl | rfl | rfl | rfl
            · go_upto_region 34 with (fail)
              have hA := heap_alloc_new wr (.cells #[.string s0, .int .i64 (g0 : Int), .int .i64 (k0 : Int)] 38)
              have K4 := Aside0.mk (show Is3 w (wr.alloc (.cells #[.string s0, .int .i64 (g0 : Int), .int .i64 (k0 : Int)] 38)) g S2 ∧ IsR w (wr.alloc (.cells #[.string s0, .int .i64 (g0 : Int), .int .i64 (k0 : Int)] 38)) gm ⟨⟨s0, g0, k0⟩, ⟨s1, g1, k1⟩, ⟨s2, g2, k2⟩⟩ ∧ Below w.heap.size w (wr.alloc (.cells #[.string s0, .int .i64 (g0 : Int), .int .i64 (k0 : Int)] 38)) from ⟨HD.out.1.below (below_alloc (Below.refl _ _) _), HD.out.2.1.below (below_alloc (Below.refl _ _) _), below_alloc HD.out.2.2 _⟩)
              generalize wr.alloc (.cells #[.string s0, .int .i64 (g0 : Int), .int .i64 (k0 : Int)] 38) = wl at hA K4 ⊢
              generalize wr.heap.size = gy at hA ⊢
              have d0 : wl.cell? ⟨gy, 0, none⟩ = some (.string s0) := (blk_cell hA 0).trans rfl
              have d2 : wl.cell? ⟨gy, 2, none⟩ = some (.int .i64 (k0 : Int)) := (blk_cell hA 2).trans rfl
              have hbn : ((s0.size : Int) - (k0 : Int) != (s0.size : Int) - (k0 : Int)) = false := by simp
              have hbw : ((s0.size : Int) - (k0 : Int) != IntKind.i64.wrap ((s0.size : Int) - (k0 : Int))) = false := by rw [IntWalk.i64_in _ (by omega)]; exact hbn
              have p9 : (k0 ≤ s0.size) = True := eq_true hl0
              clear hA
              go_wp2_with (fail)
              go_region_held3 (fun w' => w'.cell? ⟨gy, 0, none⟩ = some (.string s0) ∧ w'.cell? ⟨gy, 2, none⟩ = some (.int .i64 (k0 : Int))) (go_keep)
                (first
                  | (go_at_call 22; refine (AL0.out _ (by first | exact K4.out.1 | exact K4.out.1.below (pw_below_drewN (Below.refl _ _) _))).mono ?_; rintro e wq ⟨rfl, na1, rfl⟩)
                  | (go_at_call 21; refine (TR0.out _ (by first | exact K4.out.1 | exact K4.out.1.below (pw_below_drewN (Below.refl _ _) _))).mono ?_; rintro e wq ⟨rfl, na2, rfl⟩)
                  | (go_at_call 23; refine (LE0.out _ (by first | exact K4.out.1 | exact K4.out.1.below (pw_below_drewN (Below.refl _ _) _))).mono ?_; rintro e wq ⟨rfl, na3, rfl⟩))
              go_wp2
              go_roundg 2
              case rel => exact ⟨1, rfl, by omega, ⟨K4.out.1.below (pw_below_drewN (Below.refl _ _) _), K4.out.2.1.below (pw_below_drewN (Below.refl _ _) _), pw_below_drewN K4.out.2.2 _⟩⟩
              case measure => omega
            · go_upto_region 34 with (fail)
              have hA := heap_alloc_new wr (.cells #[.string s1, .int .i64 (g1 : Int), .int .i64 (k1 : Int)] 38)
              have K4 := Aside0.mk (show Is3 w (wr.alloc (.cells #[.string s1, .int .i64 (g1 : Int), .int .i64 (k1 : Int)] 38)) g S2 ∧ IsR w (wr.alloc (.cells #[.string s1, .int .i64 (g1 : Int), .int .i64 (k1 : Int)] 38)) gm ⟨⟨s0, g0, k0⟩, ⟨s1, g1, k1⟩, ⟨s2, g2, k2⟩⟩ ∧ Below w.heap.size w (wr.alloc (.cells #[.string s1, .int .i64 (g1 : Int), .int .i64 (k1 : Int)] 38)) from ⟨HD.out.1.below (below_alloc (Below.refl _ _) _), HD.out.2.1.below (below_alloc (Below.refl _ _) _), below_alloc HD.out.2.2 _⟩)
              generalize wr.alloc (.cells #[.string s1, .int .i64 (g1 : Int), .int .i64 (k1 : Int)] 38) = wl at hA K4 ⊢
              generalize wr.heap.size = gy at hA ⊢
              have d0 : wl.cell? ⟨gy, 0, none⟩ = some (.string s1) := (blk_cell hA 0).trans rfl
              have d2 : wl.cell? ⟨gy, 2, none⟩ = some (.int .i64 (k1 : Int)) := (blk_cell hA 2).trans rfl
              have hbn : ((s1.size : Int) - (k1 : Int) != (s1.size : Int) - (k1 : Int)) = false := by simp
              have hbw : ((s1.size : Int) - (k1 : Int) != IntKind.i64.wrap ((s1.size : Int) - (k1 : Int))) = false := by rw [IntWalk.i64_in _ (by omega)]; exact hbn
              have p9 : (k1 ≤ s1.size) = True := eq_true hl1
              clear hA
              go_wp2_with (fail)
              go_region_held3 (fun w' => w'.cell? ⟨gy, 0, none⟩ = some (.string s1) ∧ w'.cell? ⟨gy, 2, none⟩ = some (.int .i64 (k1 : Int))) (go_keep)
                (first
                  | (go_at_call 22; refine (AL1.out _ (by first | exact K4.out.1 | exact K4.out.1.below (pw_below_drewN (Below.refl _ _) _))).mono ?_; rintro e wq ⟨rfl, na1, rfl⟩)
                  | (go_at_call 21; refine (TR1.out _ (by first | exact K4.out.1 | exact K4.out.1.below (pw_below_drewN (Below.refl _ _) _))).mono ?_; rintro e wq ⟨rfl, na2, rfl⟩)
                  | (go_at_call 23; refine (LE1.out _ (by first | exact K4.out.1 | exact K4.out.1.below (pw_below_drewN (Below.refl _ _) _))).mono ?_; rintro e wq ⟨rfl, na3, rfl⟩))
              go_wp2
              go_roundg 1
              case rel => exact ⟨2, rfl, by omega, ⟨K4.out.1.below (pw_below_drewN (Below.refl _ _) _), K4.out.2.1.below (pw_below_drewN (Below.refl _ _) _), pw_below_drewN K4.out.2.2 _⟩⟩
              case measure => omega
            · go_upto_region 34 with (fail)
              have hA := heap_alloc_new wr (.cells #[.string s2, .int .i64 (g2 : Int), .int .i64 (k2 : Int)] 38)
              have K4 := Aside0.mk (show Is3 w (wr.alloc (.cells #[.string s2, .int .i64 (g2 : Int), .int .i64 (k2 : Int)] 38)) g S2 ∧ IsR w (wr.alloc (.cells #[.string s2, .int .i64 (g2 : Int), .int .i64 (k2 : Int)] 38)) gm ⟨⟨s0, g0, k0⟩, ⟨s1, g1, k1⟩, ⟨s2, g2, k2⟩⟩ ∧ Below w.heap.size w (wr.alloc (.cells #[.string s2, .int .i64 (g2 : Int), .int .i64 (k2 : Int)] 38)) from ⟨HD.out.1.below (below_alloc (Below.refl _ _) _), HD.out.2.1.below (below_alloc (Below.refl _ _) _), below_alloc HD.out.2.2 _⟩)
              generalize wr.alloc (.cells #[.string s2, .int .i64 (g2 : Int), .int .i64 (k2 : Int)] 38) = wl at hA K4 ⊢
              generalize wr.heap.size = gy at hA ⊢
              have d0 : wl.cell? ⟨gy, 0, none⟩ = some (.string s2) := (blk_cell hA 0).trans rfl
              have d2 : wl.cell? ⟨gy, 2, none⟩ = some (.int .i64 (k2 : Int)) := (blk_cell hA 2).trans rfl
              have hbn : ((s2.size : Int) - (k2 : Int) != (s2.size : Int) - (k2 : Int)) = false := by simp
              have hbw : ((s2.size : Int) - (k2 : Int) != IntKind.i64.wrap ((s2.size : Int) - (k2 : Int))) = false := by rw [IntWalk.i64_in _ (by omega)]; exact hbn
              have p9 : (k2 ≤ s2.size) = True := eq_true hl2
              clear hA
              go_wp2_with (fail)
              go_region_held3 (fun w' => w'.cell? ⟨gy, 0, none⟩ = some (.string s2) ∧ w'.cell? ⟨gy, 2, none⟩ = some (.int .i64 (k2 : Int))) (go_keep)
                (first
                  | (go_at_call 22; refine (AL2.out _ (by first | exact K4.out.1 | exact K4.out.1.below (pw_below_drewN (Below.refl _ _) _))).mono ?_; rintro e wq ⟨rfl, na1, rfl⟩)
                  | (go_at_call 21; refine (TR2.out _ (by first | exact K4.out.1 | exact K4.out.1.below (pw_below_drewN (Below.refl _ _) _))).mono ?_; rintro e wq ⟨rfl, na2, rfl⟩)
                  | (go_at_call 23; refine (LE2.out _ (by first | exact K4.out.1 | exact K4.out.1.below (pw_below_drewN (Below.refl _ _) _))).mono ?_; rintro e wq ⟨rfl, na3, rfl⟩))
              go_wp2
              go_roundg 0
              case rel => exact ⟨3, rfl, by omega, ⟨K4.out.1.below (pw_below_drewN (Below.refl _ _) _), K4.out.2.1.below (pw_below_drewN (Below.refl _ _) _), pw_below_drewN K4.out.2.2 _⟩⟩
              case measure => omega
            · go_wp2
              go_roundg (l.length - (j + 1))
              case rel => exact ⟨j + 1, S2, N + x.f2.size, (by rw [Int.natCast_add]; rfl), (by omega), ⟨HD.out.1, by rw [← hRR9.out]; exact HD.out.2.1, HG2.out, hNt2, HD.out.2.2⟩⟩
              case measure => omega
      · rw [decide_eq_false hR] at IS
        refine IS.mono ?_
        clear IS
        rintro e w7 ⟨rfl, nd, rfl⟩
        have K2 := Aside0.mk (show Is3 w (W1.drewN nd) g (S) ∧ IsR w (W1.drewN nd) gm (refS S) ∧ Below w.heap.size w (W1.drewN nd) ∧ (W1.drewN nd).heap[gc]? = some (.cells (cCells x) 29 (0, 0)) from ⟨K1.out.1.below (pw_below_drewN (Below.refl _ _) _), K1.out.2.1.below (pw_below_drewN (Below.refl _ _) _), pw_below_drewN K1.out.2.2 _, HA.out⟩)
        clear d0 d1 d2 d3
        generalize W1.drewN nd = W2 at K2 ⊢
        have d0 : W2.cell? ⟨gc, 0, none⟩ = some (.int .i64 x.f0) := (blk_cell K2.out.2.2.2 0).trans rfl
        have d1 : W2.cell? ⟨gc, 1, none⟩ = some (.int .i64 x.f1) := (blk_cell K2.out.2.2.2 1).trans rfl
        have d2 : W2.cell? ⟨gc, 2, none⟩ = some (.string x.f2) := (blk_cell K2.out.2.2.2 2).trans rfl
        have d3 : W2.cell? ⟨gc, 3, none⟩ = some (.int .i64 x.f3) := (blk_cell K2.out.2.2.2 3).trans rfl
        go_upto_block 2 with (fail)
        go_cut [8] (fun v8 wc => v8 = .bool true ∧ Aside0 (Is3 w wc g (stepS S x) ∧ IsR w wc gm (refS (stepS S x)) ∧ Below w.heap.size w wc ∧ wc.heap[gc]? = some (.cells (cCells x) 29 (0, 0))))
        case first =>
          by_cases e0 : x.f0 = 0
          · have b0 : (x.f0 == 0) = true := by simpa using e0
            have E0 := Aside0.mk e0
            clear e0
            have HSS := Aside0.mk (show stepS S x = pushS S x.f1 x.f2 from by unfold stepS; rw [if_pos E0.out])
            clear HA K1
            have PU := push3 g S x.f1 x.f2 w W2 K2.out.1 K2.out.2.2.1 (fun h => absurd h hR)
            rw [decide_eq_false hR] at PU
            have HE := Aside0.mk (show pushS S x.f1 x.f2 = S from by unfold pushS; rw [if_neg hR])
            rw [HE.out] at PU
            go_wp2_with (fail)
            refine PU.mono ?_
            rintro e w7 ⟨rfl, hI7, hB7, hk7⟩
            clear PU
            go_wp2
            go_meet
            case rel =>
              rw [HSS.out]
              exact ⟨rfl, ⟨by rw [HE.out]; exact hI7, by rw [HE.out]; exact K2.out.2.1.keep hk7 (Ne.symm hne), hB7, hk7.blk K2.out.2.2.2 n1 (by simp)⟩⟩
          have b0 : (x.f0 == 0) = false := by simpa using e0
          have E0 := Aside0.mk e0
          clear e0
          by_cases e1 : x.f0 = 1
          · have b1 : (x.f0 == 1) = true := by simpa using e1
            have E1 := Aside0.mk e1
            clear e1
            have HSS := Aside0.mk (show stepS S x = pumpS S x.f1 from by unfold stepS; rw [if_neg E0.out]; rw [if_pos E1.out])
            clear HA K1
            have PU := pump3 g S x.f1 w W2 K2.out.1 K2.out.2.2.1 (fun h => absurd h hR)
            rw [if_neg hR] at PU
            have HE := Aside0.mk (show pumpS S x.f1 = S from by unfold pumpS; rw [if_neg hR])
            rw [HE.out] at PU
            go_wp2_with (fail)
            refine PU.mono ?_
            rintro e w7 ⟨rfl, hI7, hB7, hk7⟩
            clear PU
            go_wp2
            go_meet
            case rel =>
              rw [HSS.out]
              exact ⟨rfl, ⟨by rw [HE.out]; exact hI7, by rw [HE.out]; exact K2.out.2.1.keep hk7 (Ne.symm hne), hB7, hk7.blk K2.out.2.2.2 n1 (by simp)⟩⟩
          have b1 : (x.f0 == 1) = false := by simpa using e1
          have E1 := Aside0.mk e1
          clear e1
          by_cases e2 : x.f0 = 2
          · have b2 : (x.f0 == 2) = true := by simpa using e2
            have E2 := Aside0.mk e2
            clear e2
            have HSS := Aside0.mk (show stepS S x = takeS S x.f1 x.f3 from by unfold stepS; rw [if_neg E0.out]; rw [if_neg E1.out]; rw [if_pos E2.out])
            clear HA K1
            have PU := take3 g S x.f1 x.f3 w W2 K2.out.1 K2.out.2.2.1 (fun h => absurd h hR)
            rw [if_neg hR] at PU
            have HE := Aside0.mk (show takeS S x.f1 x.f3 = S from by unfold takeS; rw [if_neg hR])
            rw [HE.out] at PU
            go_wp2_with (fail)
            refine PU.mono ?_
            rintro e w7 ⟨rfl, hI7, hB7, hk7⟩
            clear PU
            go_wp2
            go_meet
            case rel =>
              rw [HSS.out]
              exact ⟨rfl, ⟨by rw [HE.out]; exact hI7, by rw [HE.out]; exact K2.out.2.1.keep hk7 (Ne.symm hne), hB7, hk7.blk K2.out.2.2.2 n1 (by simp)⟩⟩
          have b2 : (x.f0 == 2) = false := by simpa using e2
          have E2 := Aside0.mk e2
          clear e2
          by_cases e3 : x.f0 = 3
          · have b3 : (x.f0 == 3) = true := by simpa using e3
            have E3 := Aside0.mk e3
            clear e3
            have HSS := Aside0.mk (show stepS S x = crashS S from by unfold stepS; rw [if_neg E0.out]; rw [if_neg E1.out]; rw [if_neg E2.out]; rw [if_pos E3.out])
            clear HA K1
            have hg9 := K2.out.2.1
            go_wp2_with (fail)
            refine (crash3 g S w W2 K2.out.1 K2.out.2.2.1).mono ?_
            rintro e w7 ⟨rfl, hI7, hB7, hk7⟩
            have K7 := Aside0.mk (show Is3 w w7 g (crashS S) ∧ IsR w w7 gm (refS S) ∧ Below w.heap.size w w7 ∧ w7.heap[gc]? = some (.cells (cCells x) 29 (0, 0)) from ⟨hI7, K2.out.2.1.keep hk7 (Ne.symm hne), hB7, hk7.blk K2.out.2.2.2 n1 (by simp)⟩)
            clear hI7 hB7 hk7 hg9
            go_wp2_with (fail)
            refine (refCrash_ok gm w w7 (refS S) K7.out.2.1 K7.out.2.2.1 (small3 HG.out hN9 0 (by decide)) (small3 HG.out hN9 1 (by decide)) (small3 HG.out hN9 2 (by decide))).mono ?_
            rintro e w8 ⟨rfl, hM8, hB8, hk8⟩
            have hM9 : IsR w w8 gm (refS (crashS S)) := by rw [refS_crash]; exact hM8
            go_wp2
            go_meet
            case rel =>
              rw [HSS.out]
              exact ⟨rfl, ⟨K7.out.1.keep hk8 hne, hM9, hB8, hk8.blk K7.out.2.2.2 n2 (by simp)⟩⟩
          have b3 : (x.f0 == 3) = false := by simpa using e3
          have E3 := Aside0.mk e3
          clear e3
          have HSS := Aside0.mk (show stepS S x = S from by unfold stepS; rw [if_neg E0.out]; rw [if_neg E1.out]; rw [if_neg E2.out]; rw [if_neg E3.out])
          clear HA K1
          go_wp2
          go_meet
          case rel =>
            rw [HSS.out]
            exact ⟨rfl, ⟨K2.out.1, K2.out.2.1, K2.out.2.2.1, K2.out.2.2.2⟩⟩
        case rest =>
          obtain ⟨rfl, HR⟩ := hcut
          have hG2 := good_step HC.out.2.2.1 x
          clear K2 HA K1 d0 d1 d2 d3 HG
          generalize stepS S x = S2 at HR hG2
          have d1 : wc.cell? ⟨gc, 1, none⟩ = some (.int .i64 x.f1) := (blk_cell HR.out.2.2.2 1).trans rfl
          have hR3 : ¬ (0 ≤ x.f1 ∧ x.f1 < 3) := fun h => hR ⟨h.1, by omega⟩
          have TO := fun W => trace_out g x.f1 W hR3
          have AO := fun W => all_out g x.f1 W hR3
          have ee : (⟨#[]⟩ : ByteArray) ++ (⟨#[]⟩ : ByteArray) = ⟨#[]⟩ := rfl
          clear hR3 hR
          obtain ⟨⟨⟨s0, g0, k0⟩, ⟨s1, g1, k1⟩, ⟨s2, g2, k2⟩⟩, hRR⟩ : ∃ R, R = refS S2 := ⟨_, rfl⟩
          rw [← hRR] at HR
          have hs0 : s0 = S2.a.all := congrArg (fun R : R3 => R.a.s) hRR
          have hk0 : k0 = S2.a.t.size := congrArg (fun R : R3 => R.a.c) hRR
          have hb0 : S2.a.len ≤ 1000000 := by have := (hG2 0 (by decide)).1; exact Nat.le_trans this (by omega)
          have hz0 : s0.size ≤ 1000000 := by rw [hs0, all_size]; exact hb0
          have hl0 : k0 ≤ s0.size := by rw [hs0, hk0, all_size]; unfold Way.len; omega
          have ht0 : s0.extract 0 k0 = S2.a.t := by rw [hs0, hk0]; exact t_begin _
          have AL0 := Aside0.mk (fun W h => allQ g 0 S2 0 s0 w W h (by decide) rfl hb0 hs0)
          have TR0 := Aside0.mk (fun W h => traceQ g 0 S2 0 (s0.extract 0 k0) w W h (by decide) rfl ht0)
          have LE0 := fun W h => leftQ g 0 S2 0 s0 (s0.extract 0 k0) w W h (by decide) rfl hb0 hs0 ht0 hz0 (by rw [ByteArray.size_extract]; omega)
          rw [show (s0.extract 0 k0).size = k0 by rw [ByteArray.size_extract]; omega] at LE0
          replace LE0 := Aside0.mk LE0
          clear hs0 hk0 hb0 ht0
          have hs1 : s1 = S2.b.all := congrArg (fun R : R3 => R.b.s) hRR
          have hk1 : k1 = S2.b.t.size := congrArg (fun R : R3 => R.b.c) hRR
          have hb1 : S2.b.len ≤ 1000000 := by have := (hG2 1 (by decide)).1; exact Nat.le_trans this (by omega)
          have hz1 : s1.size ≤ 1000000 := by rw [hs1, all_size]; exact hb1
          have hl1 : k1 ≤ s1.size := by rw [hs1, hk1, all_size]; unfold Way.len; omega
          have ht1 : s1.extract 0 k1 = S2.b.t := by rw [hs1, hk1]; exact t_begin _
          have AL1 := Aside0.mk (fun W h => allQ g 1 S2 1 s1 w W h (by decide) rfl hb1 hs1)
          have TR1 := Aside0.mk (fun W h => traceQ g 1 S2 1 (s1.extract 0 k1) w W h (by decide) rfl ht1)
          have LE1 := fun W h => leftQ g 1 S2 1 s1 (s1.extract 0 k1) w W h (by decide) rfl hb1 hs1 ht1 hz1 (by rw [ByteArray.size_extract]; omega)
          rw [show (s1.extract 0 k1).size = k1 by rw [ByteArray.size_extract]; omega] at LE1
          replace LE1 := Aside0.mk LE1
          clear hs1 hk1 hb1 ht1
          have hs2 : s2 = S2.c.all := congrArg (fun R : R3 => R.c.s) hRR
          have hk2 : k2 = S2.c.t.size := congrArg (fun R : R3 => R.c.c) hRR
          have hb2 : S2.c.len ≤ 1000000 := by have := (hG2 2 (by decide)).1; exact Nat.le_trans this (by omega)
          have hz2 : s2.size ≤ 1000000 := by rw [hs2, all_size]; exact hb2
          have hl2 : k2 ≤ s2.size := by rw [hs2, hk2, all_size]; unfold Way.len; omega
          have ht2 : s2.extract 0 k2 = S2.c.t := by rw [hs2, hk2]; exact t_begin _
          have AL2 := Aside0.mk (fun W h => allQ g 2 S2 2 s2 w W h (by decide) rfl hb2 hs2)
          have TR2 := Aside0.mk (fun W h => traceQ g 2 S2 2 (s2.extract 0 k2) w W h (by decide) rfl ht2)
          have LE2 := fun W h => leftQ g 2 S2 2 s2 (s2.extract 0 k2) w W h (by decide) rfl hb2 hs2 ht2 hz2 (by rw [ByteArray.size_extract]; omega)
          rw [show (s2.extract 0 k2).size = k2 by rw [ByteArray.size_extract]; omega] at LE2
          replace LE2 := Aside0.mk LE2
          clear hs2 hk2 hb2 ht2
          have hRR9 := Aside0.mk hRR
          clear hRR
          have HG2 := Aside0.mk hG2
          clear hG2
          go_wp2_with (fail)
          go_region_held3 (fun w' => w'.cell? ⟨gc, 1, none⟩ = some (.int .i64 x.f1)) (go_keep)
            (first
              | (go_at_call 21; refine (TO _).mono ?_; rintro e wq ⟨rfl, nq1, rfl⟩)
              | (go_at_call 22; refine (AO _).mono ?_; rintro e wq ⟨rfl, nq2, rfl⟩))
          have K3 := Aside0.mk (show Is3 w (wc.drewN (1 + nq1 + nq2)) g S2 ∧ IsR w (wc.drewN (1 + nq1 + nq2)) gm ⟨⟨s0, g0, k0⟩, ⟨s1, g1, k1⟩, ⟨s2, g2, k2⟩⟩ ∧ Below w.heap.size w (wc.drewN (1 + nq1 + nq2)) from ⟨HR.out.1.below (pw_below_drewN (Below.refl _ _) _), HR.out.2.1.below (pw_below_drewN (Below.refl _ _) _), pw_below_drewN HR.out.2.2.1 _⟩)
          generalize (wc.drewN (1 + nq1 + nq2)) = w9 at K3 ⊢
          clear HR d1
          have c0 : w9.cell? ⟨gm, 0, none⟩ = some (.string s0) := (blk_cell K3.out.2.1.1 0).trans rfl
          have c1 : w9.cell? ⟨gm, 1, none⟩ = some (.int .i64 (g0 : Int)) := (blk_cell K3.out.2.1.1 1).trans rfl
          have c2 : w9.cell? ⟨gm, 2, none⟩ = some (.int .i64 (k0 : Int)) := (blk_cell K3.out.2.1.1 2).trans rfl
          have c3 : w9.cell? ⟨gm, 3, none⟩ = some (.string s1) := (blk_cell K3.out.2.1.1 3).trans rfl
          have c4 : w9.cell? ⟨gm, 4, none⟩ = some (.int .i64 (g1 : Int)) := (blk_cell K3.out.2.1.1 4).trans rfl
          have c5 : w9.cell? ⟨gm, 5, none⟩ = some (.int .i64 (k1 : Int)) := (blk_cell K3.out.2.1.1 5).trans rfl
          have c6 : w9.cell? ⟨gm, 6, none⟩ = some (.string s2) := (blk_cell K3.out.2.1.1 6).trans rfl
          have c7 : w9.cell? ⟨gm, 7, none⟩ = some (.int .i64 (g2 : Int)) := (blk_cell K3.out.2.1.1 7).trans rfl
          have c8 : w9.cell? ⟨gm, 8, none⟩ = some (.int .i64 (k2 : Int)) := (blk_cell K3.out.2.1.1 8).trans rfl
          have hx0 := fun wx => idx39_0 wx (.string s0) (.int .i64 (g0 : Int)) (.int .i64 (k0 : Int)) (.string s1) (.int .i64 (g1 : Int)) (.int .i64 (k1 : Int)) (.string s2) (.int .i64 (g2 : Int)) (.int .i64 (k2 : Int))
          have hx1 := fun wx => idx39_1 wx (.string s0) (.int .i64 (g0 : Int)) (.int .i64 (k0 : Int)) (.string s1) (.int .i64 (g1 : Int)) (.int .i64 (k1 : Int)) (.string s2) (.int .i64 (g2 : Int)) (.int .i64 (k2 : Int))
          have hx2 := fun wx => idx39_2 wx (.string s0) (.int .i64 (g0 : Int)) (.int .i64 (k0 : Int)) (.string s1) (.int .i64 (g1 : Int)) (.int .i64 (k1 : Int)) (.string s2) (.int .i64 (g2 : Int)) (.int .i64 (k2 : Int))
          go_wp2
          clear c0 c1 c2 c3 c4 c5 c6 c7 c8
          go_loopg [119] 3 (fun m v wr => ∃ i : Nat, v = .int .i64 (i : Int) ∧ m + i = 3 ∧ Aside0 (Is3 w wr g S2 ∧ IsR w wr gm ⟨⟨s0, g0, k0⟩, ⟨s1, g1, k1⟩, ⟨s2, g2, k2⟩⟩ ∧ Below w.heap.size w wr))
          case atStart => exact ⟨0, rfl, rfl, K3⟩
          case round =>
            clear K3
            obtain ⟨i, rfl, hi, HD⟩ := hrel
            have : i = 0 ∨ i = 1 ∨ i = 2 ∨ i = 3 := by omega
            rcases this with rfl | rfl | rfl | rfl
            · go_upto_region 34 with (fail)
              have hA := heap_alloc_new wr (.cells #[.string s0, .int .i64 (g0 : Int), .int .i64 (k0 : Int)] 38)
              have K4 := Aside0.mk (show Is3 w (wr.alloc (.cells #[.string s0, .int .i64 (g0 : Int), .int .i64 (k0 : Int)] 38)) g S2 ∧ IsR w (wr.alloc (.cells #[.string s0, .int .i64 (g0 : Int), .int .i64 (k0 : Int)] 38)) gm ⟨⟨s0, g0, k0⟩, ⟨s1, g1, k1⟩, ⟨s2, g2, k2⟩⟩ ∧ Below w.heap.size w (wr.alloc (.cells #[.string s0, .int .i64 (g0 : Int), .int .i64 (k0 : Int)] 38)) from ⟨HD.out.1.below (below_alloc (Below.refl _ _) _), HD.out.2.1.below (below_alloc (Below.refl _ _) _), below_alloc HD.out.2.2 _⟩)
              generalize wr.alloc (.cells #[.string s0, .int .i64 (g0 : Int), .int .i64 (k0 : Int)] 38) = wl at hA K4 ⊢
              generalize wr.heap.size = gy at hA ⊢
              have d0 : wl.cell? ⟨gy, 0, none⟩ = some (.string s0) := (blk_cell hA 0).trans rfl
              have d2 : wl.cell? ⟨gy, 2, none⟩ = some (.int .i64 (k0 : Int)) := (blk_cell hA 2).trans rfl
              have hbn : ((s0.size : Int) - (k0 : Int) != (s0.size : Int) - (k0 : Int)) = false := by simp
              have hbw : ((s0.size : Int) - (k0 : Int) != IntKind.i64.wrap ((s0.size : Int) - (k0 : Int))) = false := by rw [IntWalk.i64_in _ (by omega)]; exact hbn
              have p9 : (k0 ≤ s0.size) = True := eq_true hl0
              clear hA
              go_wp2_with (fail)
              go_region_held3 (fun w' => w'.cell? ⟨gy, 0, none⟩ = some (.string s0) ∧ w'.cell? ⟨gy, 2, none⟩ = some (.int .i64 (k0 : Int))) (go_keep)
                (first
                  | (go_at_call 22; refine (AL0.out _ (by first | exact K4.out.1 | exact K4.out.1.below (pw_below_drewN (Below.refl _ _) _))).mono ?_; rintro e wq ⟨rfl, na1, rfl⟩)
                  | (go_at_call 21; refine (TR0.out _ (by first | exact K4.out.1 | exact K4.out.1.below (pw_below_drewN (Below.refl _ _) _))).mono ?_; rintro e wq ⟨rfl, na2, rfl⟩)
                  | (go_at_call 23; refine (LE0.out _ (by first | exact K4.out.1 | exact K4.out.1.below (pw_below_drewN (Below.refl _ _) _))).mono ?_; rintro e wq ⟨rfl, na3, rfl⟩))
              go_wp2
              go_roundg 2
              case rel => exact ⟨1, rfl, by omega, ⟨K4.out.1.below (pw_below_drewN (Below.refl _ _) _), K4.out.2.1.below (pw_below_drewN (Below.refl _ _) _), pw_below_drewN K4.out.2.2 _⟩⟩
              case measure => omega
            · go_upto_region 34 with (fail)
              have hA := heap_alloc_new wr (.cells #[.string s1, .int .i64 (g1 : Int), .int .i64 (k1 : Int)] 38)
              have K4 := Aside0.mk (show Is3 w (wr.alloc (.cells #[.string s1, .int .i64 (g1 : Int), .int .i64 (k1 : Int)] 38)) g S2 ∧ IsR w (wr.alloc (.cells #[.string s1, .int .i64 (g1 : Int), .int .i64 (k1 : Int)] 38)) gm ⟨⟨s0, g0, k0⟩, ⟨s1, g1, k1⟩, ⟨s2, g2, k2⟩⟩ ∧ Below w.heap.size w (wr.alloc (.cells #[.string s1, .int .i64 (g1 : Int), .int .i64 (k1 : Int)] 38)) from ⟨HD.out.1.below (below_alloc (Below.refl _ _) _), HD.out.2.1.below (below_alloc (Below.refl _ _) _), below_alloc HD.out.2.2 _⟩)
              generalize wr.alloc (.cells #[.string s1, .int .i64 (g1 : Int), .int .i64 (k1 : Int)] 38) = wl at hA K4 ⊢
              generalize wr.heap.size = gy at hA ⊢
              have d0 : wl.cell? ⟨gy, 0, none⟩ = some (.string s1) := (blk_cell hA 0).trans rfl
              have d2 : wl.cell? ⟨gy, 2, none⟩ = some (.int .i64 (k1 : Int)) := (blk_cell hA 2).trans rfl
              have hbn : ((s1.size : Int) - (k1 : Int) != (s1.size : Int) - (k1 : Int)) = false := by simp
              have hbw : ((s1.size : Int) - (k1 : Int) != IntKind.i64.wrap ((s1.size : Int) - (k1 : Int))) = false := by rw [IntWalk.i64_in _ (by omega)]; exact hbn
              have p9 : (k1 ≤ s1.size) = True := eq_true hl1
              clear hA
              go_wp2_with (fail)
              go_region_held3 (fun w' => w'.cell? ⟨gy, 0, none⟩ = some (.string s1) ∧ w'.cell? ⟨gy, 2, none⟩ = some (.int .i64 (k1 : Int))) (go_keep)
                (first
                  | (go_at_call 22; refine (AL1.out _ (by first | exact K4.out.1 | exact K4.out.1.below (pw_below_drewN (Below.refl _ _) _))).mono ?_; rintro e wq ⟨rfl, na1, rfl⟩)
                  | (go_at_call 21; refine (TR1.out _ (by first | exact K4.out.1 | exact K4.out.1.below (pw_below_drewN (Below.refl _ _) _))).mono ?_; rintro e wq ⟨rfl, na2, rfl⟩)
                  | (go_at_call 23; refine (LE1.out _ (by first | exact K4.out.1 | exact K4.out.1.below (pw_below_drewN (Below.refl _ _) _))).mono ?_; rintro e wq ⟨rfl, na3, rfl⟩))
              go_wp2
              go_roundg 1
              case rel => exact ⟨2, rfl, by omega, ⟨K4.out.1.below (pw_below_drewN (Below.refl _ _) _), K4.out.2.1.below (pw_below_drewN (Below.refl _ _) _), pw_below_drewN K4.out.2.2 _⟩⟩
              case measure => omega
            · go_upto_region 34 with (fail)
              have hA := heap_alloc_new wr (.cells #[.string s2, .int .i64 (g2 : Int), .int .i64 (k2 : Int)] 38)
              have K4 := Aside0.mk (show Is3 w (wr.alloc (.cells #[.string s2, .int .i64 (g2 : Int), .int .i64 (k2 : Int)] 38)) g S2 ∧ IsR w (wr.alloc (.cells #[.string s2, .int .i64 (g2 : Int), .int .i64 (k2 : Int)] 38)) gm ⟨⟨s0, g0, k0⟩, ⟨s1, g1, k1⟩, ⟨s2, g2, k2⟩⟩ ∧ Below w.heap.size w (wr.alloc (.cells #[.string s2, .int .i64 (g2 : Int), .int .i64 (k2 : Int)] 38)) from ⟨HD.out.1.below (below_alloc (Below.refl _ _) _), HD.out.2.1.below (below_alloc (Below.refl _ _) _), below_alloc HD.out.2.2 _⟩)
              generalize wr.alloc (.cells #[.string s2, .int .i64 (g2 : Int), .int .i64 (k2 : Int)] 38) = wl at hA K4 ⊢
              generalize wr.heap.size = gy at hA ⊢
              have d0 : wl.cell? ⟨gy, 0, none⟩ = some (.string s2) := (blk_cell hA 0).trans rfl
              have d2 : wl.cell? ⟨gy, 2, none⟩ = some (.int .i64 (k2 : Int)) := (blk_cell hA 2).trans rfl
              have hbn : ((s2.size : Int) - (k2 : Int) != (s2.size : Int) - (k2 : Int)) = false := by simp
              have hbw : ((s2.size : Int) - (k2 : Int) != IntKind.i64.wrap ((s2.size : Int) - (k2 : Int))) = false := by rw [IntWalk.i64_in _ (by omega)]; exact hbn
              have p9 : (k2 ≤ s2.size) = True := eq_true hl2
              clear hA
              go_wp2_with (fail)
              go_region_held3 (fun w' => w'.cell? ⟨gy, 0, none⟩ = some (.string s2) ∧ w'.cell? ⟨gy, 2, none⟩ = some (.int .i64 (k2 : Int))) (go_keep)
                (first
                  | (go_at_call 22; refine (AL2.out _ (by first | exact K4.out.1 | exact K4.out.1.below (pw_below_drewN (Below.refl _ _) _))).mono ?_; rintro e wq ⟨rfl, na1, rfl⟩)
                  | (go_at_call 21; refine (TR2.out _ (by first | exact K4.out.1 | exact K4.out.1.below (pw_below_drewN (Below.refl _ _) _))).mono ?_; rintro e wq ⟨rfl, na2, rfl⟩)
                  | (go_at_call 23; refine (LE2.out _ (by first | exact K4.out.1 | exact K4.out.1.below (pw_below_drewN (Below.refl _ _) _))).mono ?_; rintro e wq ⟨rfl, na3, rfl⟩))
              go_wp2
              go_roundg 0
              case rel => exact ⟨3, rfl, by omega, ⟨K4.out.1.below (pw_below_drewN (Below.refl _ _) _), K4.out.2.1.below (pw_below_drewN (Below.refl _ _) _), pw_below_drewN K4.out.2.2 _⟩⟩
              case measure => omega
            · go_wp2
              go_roundg (l.length - (j + 1))
              case rel => exact ⟨j + 1, S2, N + x.f2.size, (by rw [Int.natCast_add]; rfl), (by omega), ⟨HD.out.1, by rw [← hRR9.out]; exact HD.out.2.1, HG2.out, hNt2, HD.out.2.2⟩⟩
              case measure => omega
    · have q0 : decide ((j : Int) < (l.length : Int)) = false := decide_eq_false (by omega)
      have ee : (⟨#[]⟩ : ByteArray) ++ (⟨#[]⟩ : ByteArray) = ⟨#[]⟩ := rfl
      have N18 := push_nil 0
      have N19 := pump_nil 0
      have N20 := fun W => take_nil 0 W 1
      have N21 := trace_nil 0
      have N22 := all_nil 0
      go_wp2_with (fail)
      refine (crash_nil _).mono ?_
      rintro e wn ⟨rfl, rfl⟩
      go_wp2_with
        (first
          | (go_at_call 18; refine (N18 _ _).mono ?_; rintro e wq ⟨rfl, nq1, rfl⟩)
          | (go_at_call 19; refine (N19 _).mono ?_; rintro e wq ⟨rfl, nq2, rfl⟩)
          | (go_at_call 23; refine (left_nil _).mono ?_; rintro e wq ⟨rfl, nq3, rfl⟩)
          | (go_at_call 20; refine (N20 _).mono ?_; rintro e wq ⟨rfl, nq4, rfl⟩)
          | (go_at_call 21; refine (N21 _).mono ?_; rintro e wq ⟨rfl, nq5, rfl⟩)
          | (go_at_call 22; refine (N22 _).mono ?_; rintro e wq ⟨rfl, nq6, rfl⟩))
      go_ret
      exact ⟨rfl, pw_below_drewN HC.out.2.2.2.2 _⟩
set_option maxHeartbeats 1600000 in
set_option maxRecDepth 100000 in
theorem wdoes_great (k : Nat) (A0 : Option Addr) (c0 : Nat) (l : List S29) (w : World) (hr0 : Kd.C k29 w A0 l.length l) (hc0 : l.length ≤ c0) (hg : countermandlaw06_great.f k l = some true) :
    Calls Try.prog 6 #[.slice A0 l.length c0] w fun e w' => e = .returned (.bool true) ∧ Below w.heap.size w w' := by
  have AL := countermandlaw06_alive.calls true
  have GR := countermandlaw06_great.calls k A0 c0 l true
  go_enter Try.func6, Try.ntmps6
  go_wp2_with (first | (go_at_call 14; (with_reducible refine (AL _ alive_eq).mono ?_); rintro e w1 ⟨rfl, hB1⟩) | (go_at_call 15; (with_reducible refine (GR _ (Kd.C_below hr0 hB1) hc0 hg).mono ?_); rintro e w2 ⟨rfl, hB2⟩))
  go_ret
  exact ⟨rfl, hB1.trans (hB2.mono hB1.size)⟩
/-- what the walk leaves: that the script's bytes are told apart -/
def countermandlaw06_WireDoes.Pure : Prop := ∀ (l0 : List (S29)), ∃ k b, countermandlaw06_great.f k l0 = some b ∧ (b = false → l0.length ≤ 80 ∧ tot l0 ≤ 2048)
theorem wf_le {n : Int} (h : (Lit.int .i64 n).wf = true) : n ≤ 9223372036854775807 := by
  simp [Lit.wf, IntKind.min, IntKind.max, IntKind.signed, IntKind.bits] at h
  omega
theorem countermandlaw06_WireDoes.walk (P : countermandlaw06_WireDoes.Pure) (a0 : Option Addr) (len0 cap0 : Nat) (z0 : List (S29)) (w : World) (w0 : z0.length = len0 ∧ Kd.C k29 w a0 z0.length z0 ∧ z0.length ≤ cap0 ∧ z0.length ≤ maxLen ∧ (∀ x ∈ z0, (Lit.int .i64 x.f0).wf = true ∧ (Lit.int .i64 x.f1).wf = true ∧ x.f2.size ≤ maxLen ∧ (Lit.int .i64 x.f3).wf = true)) :
    Calls Try.prog 6 #[.slice a0 len0 cap0] w fun e w' => e = .returned (.bool true) ∧ Below w.heap.size w w' := by
  obtain ⟨rfl, hr0, hc0, _, hwf⟩ := w0
  obtain ⟨k, b, hg, hb⟩ := P z0
  cases b
  · exact wdoes_main k a0 cap0 z0 w hr0 hc0 (hb rfl).1 (hb rfl).2 (fun x hx => wf_le (hwf x hx).2.2.2) hg
  · exact wdoes_great k a0 cap0 z0 w hr0 hc0 hg

end Go.Proofs.Ytodffnchcbapcaa.PWireDoes
