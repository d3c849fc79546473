/- Written by a program of this session, which began as the kit's print and is turned in wip/printer: the plain form of each function, and that the Go code comes to it. -/
import Derived.Test.YtodffnchcbapcaaPWireApartx0
import Derived.Test.YtodffnchcbapcaaPWireApartx1
import Derived.Test.YtodffnchcbapcaaPWireApartx2
import Derived.BigRegion
namespace Go.Proofs.Ytodffnchcbapcaa.PWireApart
open Go.RowKit Go.Proofs.YtodffnchcbapcaaW.PrintWords Go.Proofs.YtodffnchcbapcaaW.PrintLast Go.Proofs.YtodffnchcbapcaaW.PrintMore
attribute [local go_sem] max2_int min2_int max_two min_two max_three min_three max_four min_four   -- for this text's walks alone
set_option linter.unusedVariables false
set_option linter.unusedSimpArgs false

/-! ### countermandlaw06_WireApart: function 7 -/
--IMPORT Derived.BigRegion
--ROUNDS
theorem Ev.eq {α : Type} {g : Nat → Option α} {r q : α} (h : Ev g r) (e : r = q) : Ev g q := e ▸ h
theorem wrap_next (i n : Nat) (h : i < n) (hn : n ≤ 9223372036854775807) : wrap64 ((i : Int) + 1) = ((i + 1 : Nat) : Int) := by unfold wrap64; omega
theorem wrap_in (x : Int) (h0 : -9223372036854775808 ≤ x) (h1 : x ≤ 9223372036854775807) : wrap64 x = x := by unfold wrap64; omega
/-! a socket's way: what is to go, what is on its way, what came there -/
structure Way where
  w : ByteArray
  q : ByteArray
  t : ByteArray
def Way.all (x : Way) : ByteArray := x.t ++ x.q ++ x.w
def Way.len (x : Way) : Nat := x.t.size + x.q.size + x.w.size
def pushW (x : Way) (s : ByteArray) : Way := ⟨x.w ++ s, x.q, x.t⟩
def pumpW (x : Way) : Way := ⟨x.w.extract (pumpN x.q x.w) x.w.size, x.q ++ x.w.extract 0 (pumpN x.q x.w), x.t⟩
def takeW (x : Way) (a : Int) : Way := if a ≤ 0 then x else ⟨x.w, x.q.extract (takeN x.q a) x.q.size, x.t ++ x.q.extract 0 (takeN x.q a)⟩
def tookW (x : Way) (a : Int) : ByteArray := if a ≤ 0 then (⟨#[]⟩ : ByteArray) else x.q.extract 0 (takeN x.q a)
theorem pumpN_le (y x : ByteArray) : pumpN y x ≤ x.size ∧ (y.size ≤ 8 → pumpN y x + y.size ≤ 8) := by unfold pumpN; omega
theorem takeN_le (y : ByteArray) (a : Int) : takeN y a ≤ y.size := by unfold takeN; omega
theorem cut_join (x : ByteArray) (n : Nat) (h : n ≤ x.size) : x.extract 0 n ++ x.extract n x.size = x := by
  rw [ByteArray.extract_append_extract, show min 0 n = 0 by omega, show max n x.size = x.size by omega, ByteArray.extract_zero_size]
theorem push_all (x : Way) (s : ByteArray) : (pushW x s).all = x.all ++ s := by
  show x.t ++ x.q ++ (x.w ++ s) = x.t ++ x.q ++ x.w ++ s
  exact ByteArray.append_assoc.symm
theorem pump_all (x : Way) : (pumpW x).all = x.all := by
  unfold Way.all pumpW
  dsimp only
  rw [← ByteArray.append_assoc, ByteArray.append_assoc (c := x.w.extract _ _), cut_join x.w _ (pumpN_le _ _).1]
theorem take_all (x : Way) (a : Int) : (takeW x a).all = x.all := by
  unfold takeW
  split
  · rfl
  · unfold Way.all
    dsimp only
    rw [ByteArray.append_assoc (a := x.t), cut_join x.q _ (takeN_le _ _)]
theorem all_size (x : Way) : x.all.size = x.len := by unfold Way.all Way.len; rw [ByteArray.size_append, ByteArray.size_append]
theorem push_len (x : Way) (s : ByteArray) : (pushW x s).len = x.len + s.size := by rw [← all_size, push_all, ByteArray.size_append, all_size]
theorem pump_len (x : Way) : (pumpW x).len = x.len := by rw [← all_size, pump_all, all_size]
theorem take_len (x : Way) (a : Int) : (takeW x a).len = x.len := by rw [← all_size, take_all, all_size]
theorem pump_q (x : Way) (_h : x.q.size ≤ 8) : (pumpW x).q.size = x.q.size + pumpN x.q x.w := by
  unfold pumpW; dsimp only
  rw [ByteArray.size_append, ByteArray.size_extract]
  have := (pumpN_le x.q x.w).1
  omega
theorem pump_t (x : Way) : (pumpW x).t = x.t := rfl
theorem push_t (x : Way) (s : ByteArray) : (pushW x s).t = x.t := rfl
theorem push_q (x : Way) (s : ByteArray) : (pushW x s).q = x.q := rfl
theorem take_q (x : Way) (a : Int) : (takeW x a).q.size ≤ x.q.size := by
  unfold takeW
  split
  · exact Nat.le_refl _
  · dsimp only
    rw [ByteArray.size_extract]; omega
theorem take_t (x : Way) (a : Int) : x.t.size ≤ (takeW x a).t.size := by
  unfold takeW
  split
  · exact Nat.le_refl _
  · dsimp only
    rw [ByteArray.size_append]; omega
theorem t_begin (x : Way) : x.all.extract 0 x.t.size = x.t := by
  unfold Way.all
  rw [ByteArray.append_assoc]
  exact ByteArray.extract_append_eq_left rfl
/-! three of them -/
structure W3 where
  a : Way
  b : Way
  c : Way
def W3.get (W : W3) (i : Int) : Way := if i = 0 then W.a else if i = 1 then W.b else W.c
def W3.put (W : W3) (i : Int) (x : Way) : W3 := if i = 0 then ⟨x, W.b, W.c⟩ else if i = 1 then ⟨W.a, x, W.c⟩ else ⟨W.a, W.b, x⟩
def inR (i : Int) : Prop := 0 ≤ i ∧ i ≤ 2
instance (i : Int) : Decidable (inR i) := inferInstanceAs (Decidable (_ ∧ _))
theorem cases3 {i : Int} (h : inR i) : i = 0 ∨ i = 1 ∨ i = 2 := by unfold inR at h; omega
theorem get_put (W : W3) (i : Int) (x : Way) : (W.put i x).get i = x := by
  unfold W3.put W3.get
  by_cases h0 : i = 0
  · rw [if_pos h0, if_pos h0]
  · rw [if_neg h0, if_neg h0]
    by_cases h1 : i = 1
    · rw [if_pos h1, if_pos h1]
    · rw [if_neg h1, if_neg h1]
theorem get_put_ne (W : W3) (i j : Int) (x : Way) (hi : inR i) (hj : inR j) (h : j ≠ i) : (W.put i x).get j = W.get j := by
  rcases cases3 hi with rfl | rfl | rfl <;> rcases cases3 hj with rfl | rfl | rfl <;> first | rfl | exact absurd rfl h
abbrev B9 := ByteArray × ByteArray × ByteArray × ByteArray × ByteArray × ByteArray × ByteArray × ByteArray × ByteArray
def tup (W : W3) : B9 := (W.a.w, W.a.q, W.a.t, W.b.w, W.b.q, W.b.t, W.c.w, W.c.q, W.c.t)
def zeroW : W3 := ⟨⟨⟨#[]⟩, ⟨#[]⟩, ⟨#[]⟩⟩, ⟨⟨#[]⟩, ⟨#[]⟩, ⟨#[]⟩⟩, ⟨⟨#[]⟩, ⟨#[]⟩, ⟨#[]⟩⟩⟩
theorem new_eq : wire_New.f = some (tup zeroW) := rfl
def pushS (W : W3) (i : Int) (s : ByteArray) : W3 := if inR i then W.put i (pushW (W.get i) s) else W
def pumpS (W : W3) (i : Int) : W3 := if inR i then W.put i (pumpW (W.get i)) else W
def takeS (W : W3) (i a : Int) : W3 := if inR i then W.put i (takeW (W.get i) a) else W
theorem push_eq (W : W3) (i : Int) (s : ByteArray) (h : inR i → (W.get i).w.size + s.size ≤ 9223372036854775807) :
    wire_Wire_Push.f W.a.w W.a.q W.a.t W.b.w W.b.q W.b.t W.c.w W.c.q W.c.t i s = some (decide (inR i), tup (pushS W i s)) := by
  unfold wire_Wire_Push.f pushS
  by_cases hi : inR i
  · rw [if_pos hi, decide_eq_true hi]
    have h := h hi
    rcases cases3 hi with rfl | rfl | rfl
    · rw [if_pos rfl]; exact (if_pos h).trans rfl
    · rw [if_neg (by decide), if_pos rfl]; exact (if_pos h).trans rfl
    · rw [if_neg (by decide), if_neg (by decide), if_pos rfl]; exact (if_pos h).trans rfl
  · rw [if_neg hi, decide_eq_false hi]
    unfold inR at hi
    rw [if_neg (by omega), if_neg (by omega), if_neg (by omega)]; rfl
theorem pump_eq (W : W3) (i : Int) (h : inR i → (W.get i).q.size ≤ 8) :
    wire_Wire_Pump.f W.a.w W.a.q W.a.t W.b.w W.b.q W.b.t W.c.w W.c.q W.c.t i = some (if inR i then (pumpN (W.get i).q (W.get i).w : Int) else 0, tup (pumpS W i)) := by
  unfold wire_Wire_Pump.f pumpS
  by_cases hi : inR i
  · rw [if_pos hi, if_pos hi]
    have h := h hi
    rcases cases3 hi with rfl | rfl | rfl
    · rw [if_pos rfl]; exact (if_pos h).trans rfl
    · rw [if_neg (by decide), if_pos rfl]; exact (if_pos h).trans rfl
    · rw [if_neg (by decide), if_neg (by decide), if_pos rfl]; exact (if_pos h).trans rfl
  · rw [if_neg hi, if_neg hi]
    unfold inR at hi
    rw [if_neg (by omega), if_neg (by omega), if_neg (by omega)]; rfl
theorem take_eq (W : W3) (i a : Int) (h : inR i → (W.get i).t.size + (W.get i).q.size ≤ 9223372036854775807) :
    wire_Wire_Take.f W.a.w W.a.q W.a.t W.b.w W.b.q W.b.t W.c.w W.c.q W.c.t i a = some (if inR i then tookW (W.get i) a else (⟨#[]⟩ : ByteArray), tup (takeS W i a)) := by
  unfold wire_Wire_Take.f takeS tookW takeW
  by_cases hi : inR i
  · rw [if_pos hi, if_pos hi]
    have h := h hi
    have hle := takeN_le (W.get i).q a
    by_cases ha : a ≤ 0
    · rw [if_pos ha, if_pos ha, if_pos ha, if_pos ha, if_pos ha]
      rcases cases3 hi with rfl | rfl | rfl
      · rw [if_pos rfl]; rfl
      · rw [if_neg (by decide), if_pos rfl]; rfl
      · rw [if_neg (by decide), if_neg (by decide), if_pos rfl]; rfl
    · rw [if_neg ha, if_neg ha, if_neg ha, if_neg ha, if_neg ha]
      rcases cases3 hi with rfl | rfl | rfl
      · rw [if_pos rfl]; exact (if_pos (Nat.le_trans (Nat.add_le_add_left hle _) h)).trans rfl
      · rw [if_neg (by decide), if_pos rfl]; exact (if_pos (Nat.le_trans (Nat.add_le_add_left hle _) h)).trans rfl
      · rw [if_neg (by decide), if_neg (by decide), if_pos rfl]; exact (if_pos (Nat.le_trans (Nat.add_le_add_left hle _) h)).trans rfl
  · rw [if_neg hi, if_neg hi]
    unfold inR at hi
    rw [if_neg (by omega), if_neg (by omega), if_neg (by omega)]; rfl
theorem trace_eq (W : W3) (i : Int) :
    wire_Wire_Trace.f W.a.w W.a.q W.a.t W.b.w W.b.q W.b.t W.c.w W.c.q W.c.t i = some (if inR i then (W.get i).t else (⟨#[]⟩ : ByteArray), tup W) := by
  unfold wire_Wire_Trace.f
  by_cases hi : inR i
  · rw [if_pos hi]
    rcases cases3 hi with rfl | rfl | rfl
    · rw [if_pos rfl]; rfl
    · rw [if_neg (by decide), if_pos rfl]; rfl
    · rw [if_neg (by decide), if_neg (by decide), if_pos rfl]; rfl
  · rw [if_neg hi]
    unfold inR at hi
    rw [if_neg (by omega), if_neg (by omega), if_neg (by omega)]; rfl
theorem all_eq (W : W3) (i : Int) (h : inR i → (W.get i).len ≤ 9223372036854775807) :
    wire_Wire_All.f W.a.w W.a.q W.a.t W.b.w W.b.q W.b.t W.c.w W.c.q W.c.t i = some (if inR i then (W.get i).all else (⟨#[]⟩ : ByteArray), tup W) := by
  unfold wire_Wire_All.f
  by_cases hi : inR i
  · rw [if_pos hi]
    have h := h hi
    unfold Way.len at h
    rcases cases3 hi with rfl | rfl | rfl
    · rw [if_pos rfl]; exact (if_pos h).trans rfl
    · rw [if_neg (by decide), if_pos rfl]; exact (if_pos h).trans rfl
    · rw [if_neg (by decide), if_neg (by decide), if_pos rfl]; exact (if_pos h).trans rfl
  · rw [if_neg hi]
    unfold inR at hi
    rw [if_neg (by omega), if_neg (by omega), if_neg (by omega)]; rfl
theorem left_eq (W : W3) (i : Int) (h : inR i → (W.get i).len ≤ 9223372036854775807) :
    wire_Wire_Left.f W.a.w W.a.q W.a.t W.b.w W.b.q W.b.t W.c.w W.c.q W.c.t i = some (if inR i then ((W.get i).len : Int) - ((W.get i).t.size : Int) else 0, tup W) := by
  unfold wire_Wire_Left.f
  rw [all_eq W i h, Option.bind_some]
  show (wire_Wire_Trace.f W.a.w W.a.q W.a.t W.b.w W.b.q W.b.t W.c.w W.c.q W.c.t i).bind _ = _
  rw [trace_eq, Option.bind_some]
  by_cases hi : inR i
  · have h := h hi
    rw [if_pos hi, if_pos hi, if_pos hi]
    show some (wrap64 (((W.get i).all.size : Int) - ((W.get i).t.size : Int)), tup W) = _
    rw [all_size]
    have : (W.get i).t.size ≤ (W.get i).len := by unfold Way.len; omega
    rw [wrap_in _ (by omega) (by omega)]
  · rw [if_neg hi, if_neg hi, if_neg hi]
    show some (wrap64 (((⟨#[]⟩ : ByteArray).size : Int) - ((⟨#[]⟩ : ByteArray).size : Int)), tup W) = _
    rw [show wrap64 (((⟨#[]⟩ : ByteArray).size : Int) - ((⟨#[]⟩ : ByteArray).size : Int)) = 0 by rw [Int.sub_self]; exact wrap_in 0 (by decide) (by decide)]
theorem is_eq (i : Int) : countermandref06_Is.f i = some (decide (inR i)) := by
  unfold countermandref06_Is.f
  by_cases h : i ≥ 0
  · rw [if_pos h]
    by_cases h2 : i ≤ 2
    · rw [decide_eq_true h2, decide_eq_true (show inR i from ⟨h, h2⟩)]
    · rw [decide_eq_false h2, decide_eq_false (show ¬ inR i from fun q => h2 q.2)]
  · rw [if_neg h, decide_eq_false (show ¬ inR i from fun q => h q.1)]
theorem alive_eq : countermandlaw06_alive.f = some true := by decide +kernel
/-! a script's bytes -/
def tot : List S29 → Nat
  | [] => 0
  | x :: r => x.f2.size + tot r
theorem rd_at {l : List S29} {i : Nat} {x : S29} {r : List S29} (h : l.drop i = x :: r) : rd_T29 l (i : Int) = x ∧ i < l.length ∧ l.drop (i + 1) = r := by
  have hi : i < l.length := by
    rcases Nat.lt_or_ge i l.length with h' | h'
    · exact h'
    · rw [List.drop_eq_nil_of_le h'] at h; cases h
  rw [List.drop_eq_getElem_cons hi] at h
  injection h with h1 h2
  refine ⟨?_, hi, h2⟩
  unfold rd_T29
  rw [Int.toNat_natCast, List.getD_eq_getElem?_getD, List.getElem?_eq_getElem hi]
  exact h1
theorem drop_end {l : List S29} {i : Nat} (h : l.drop i = []) (hi : i ≤ l.length) : i = l.length := by
  have := List.drop_eq_nil_iff.1 h
  omega
theorem great_loop (l : List S29) (hl : l.length ≤ 80) : ∀ (r : List S29) (i n : Nat), l.drop i = r → i ≤ l.length → n ≤ 2048 →
    ∃ b, Ev (fun k => countermandlaw06_great.l0 k (n : Int) l (l.length : Int) (i : Int)) b ∧ (b = false → n + tot r ≤ 2048)
  | [], i, n, h, hi, hn => by
    have hi' := drop_end h hi
    refine ⟨false, Ev.step (f := fun _ => some false) (fun k => ?_) (Ev.now _), fun _ => by simpa [tot] using hn⟩
    rw [countermandlaw06_great.l0, if_neg (by omega)]
  | x :: r, i, n, h, hi, hn => by
    obtain ⟨hx, hlt, hr⟩ := rd_at h
    have hw := wrap_next i l.length hlt (by omega)
    by_cases h1 : (x.f2.size : Int) > 2048
    · refine ⟨true, Ev.step (f := fun _ => some true) (fun k => ?_) (Ev.now _), fun e => by cases e⟩
      rw [countermandlaw06_great.l0, if_pos (by omega), if_pos (by omega), if_pos (by omega), hx, if_pos h1]
    have e : wrap64 ((n : Int) + (x.f2.size : Int)) = ((n + x.f2.size : Nat) : Int) := by rw [wrap_in _ (by omega) (by omega)]; omega
    by_cases h2 : ((n + x.f2.size : Nat) : Int) > 2048
    · refine ⟨true, Ev.step (f := fun _ => some true) (fun k => ?_) (Ev.now _), fun e => by cases e⟩
      rw [countermandlaw06_great.l0, if_pos (by omega), if_pos (by omega), if_pos (by omega), hx, if_neg h1, e, if_pos h2]
    obtain ⟨b, hb, ht⟩ := great_loop l hl r (i + 1) (n + x.f2.size) hr (by omega) (by omega)
    refine ⟨b, Ev.step (fun k => ?_) hb, fun q => by have := ht q; simp only [tot]; omega⟩
    rw [countermandlaw06_great.l0, if_pos (by omega), if_pos (by omega), if_pos (by omega), hx, if_neg h1, e, if_neg h2, hw]
theorem great_ev (l : List S29) : ∃ b, Ev (fun k => countermandlaw06_great.f k l) b ∧ (b = false → l.length ≤ 80 ∧ tot l ≤ 2048) := by
  by_cases h : (l.length : Int) > 80
  · refine ⟨true, Ev.congr (fun k => ?_) (Ev.now _), fun e => by cases e⟩
    unfold countermandlaw06_great.f
    rw [if_pos h]
  · obtain ⟨b, hb, ht⟩ := great_loop l (by omega) l 0 0 rfl (by omega) (by omega)
    refine ⟨b, Ev.congr (fun k => ?_) hb, fun e => ⟨by omega, by have := ht e; omega⟩⟩
    unfold countermandlaw06_great.f
    rw [if_neg h]
    rfl
/-! what can be: few bytes, no more than eight on their way -/
def Good (W : W3) (N : Nat) : Prop := ∀ i, inR i → (W.get i).len ≤ N ∧ (W.get i).q.size ≤ 8
theorem good_put {W : W3} {N M : Nat} (h : Good W N) (hm : N ≤ M) (i : Int) (hi : inR i) (x : Way) (h1 : x.len ≤ M) (h2 : x.q.size ≤ 8) : Good (W.put i x) M := by
  intro j hj
  by_cases e : j = i
  · subst e; rw [get_put]; exact ⟨h1, h2⟩
  · rw [get_put_ne W i j x hi hj e]
    have := h j hj
    omega
theorem good_mono {W : W3} {N M : Nat} (h : Good W N) (hm : N ≤ M) : Good W M := fun i hi => ⟨Nat.le_trans (h i hi).1 hm, (h i hi).2⟩
theorem good_zero : Good zeroW 0 := by
  intro i hi
  rcases cases3 hi with rfl | rfl | rfl <;> exact ⟨Nat.le_refl _, Nat.zero_le _⟩
theorem good_push {W : W3} {N : Nat} (h : Good W N) (i : Int) (s : ByteArray) : Good (pushS W i s) (N + s.size) := by
  unfold pushS
  by_cases hi : inR i
  · rw [if_pos hi]
    exact good_put h (by omega) i hi _ (by rw [push_len]; have := (h i hi).1; omega) (by rw [push_q]; exact (h i hi).2)
  · rw [if_neg hi]; exact good_mono h (by omega)
theorem good_pump {W : W3} {N : Nat} (h : Good W N) (i : Int) : Good (pumpS W i) N := by
  unfold pumpS
  by_cases hi : inR i
  · rw [if_pos hi]
    refine good_put h (Nat.le_refl _) i hi _ (by rw [pump_len]; exact (h i hi).1) ?_
    rw [pump_q _ (h i hi).2]
    have := (pumpN_le (W.get i).q (W.get i).w).2 (h i hi).2
    omega
  · rw [if_neg hi]; exact h
theorem good_take {W : W3} {N : Nat} (h : Good W N) (i a : Int) : Good (takeS W i a) N := by
  unfold takeS
  by_cases hi : inR i
  · rw [if_pos hi]
    exact good_put h (Nat.le_refl _) i hi _ (by rw [take_len]; exact (h i hi).1) (Nat.le_trans (take_q _ _) (h i hi).2)
  · rw [if_neg hi]; exact h
theorem get_push (W : W3) (i j : Int) (s : ByteArray) (hj : inR j) : (pushS W i s).get j = if i = j then pushW (W.get j) s else W.get j := by
  unfold pushS
  by_cases hi : inR i
  · rw [if_pos hi]
    by_cases e : i = j
    · subst e; rw [get_put, if_pos rfl]
    · rw [get_put_ne W i j _ hi hj (fun q => e q.symm), if_neg e]
  · rw [if_neg hi, if_neg (show ¬ i = j from fun e => hi (by rw [e]; exact hj))]
theorem get_pump (W : W3) (i j : Int) (hj : inR j) : (pumpS W i).get j = if i = j then pumpW (W.get j) else W.get j := by
  unfold pumpS
  by_cases hi : inR i
  · rw [if_pos hi]
    by_cases e : i = j
    · subst e; rw [get_put, if_pos rfl]
    · rw [get_put_ne W i j _ hi hj (fun q => e q.symm), if_neg e]
  · rw [if_neg hi, if_neg (show ¬ i = j from fun e => hi (by rw [e]; exact hj))]
theorem get_take (W : W3) (i j a : Int) (hj : inR j) : (takeS W i a).get j = if i = j then takeW (W.get j) a else W.get j := by
  unfold takeS
  by_cases hi : inR i
  · rw [if_pos hi]
    by_cases e : i = j
    · subst e; rw [get_put, if_pos rfl]
    · rw [get_put_ne W i j _ hi hj (fun q => e q.symm), if_neg e]
  · rw [if_neg hi, if_neg (show ¬ i = j from fun e => hi (by rw [e]; exact hj))]
/-! ### the wire's state as three ways -/
def Is3 (w0 W : World) (g : Nat) (S : W3) : Prop := IsS69 w0 W g S.a.w S.a.q S.a.t S.b.w S.b.q S.b.t S.c.w S.c.q S.c.t
theorem Is3.keep {w0 W W' : World} {g g' : Nat} {S : W3} (h : Is3 w0 W g S) (k : KeepBut W W' g' none) (hne : g ≠ g') : Is3 w0 W' g S := ⟨k.blk h.1 hne (by simp), h.2⟩
theorem Is3.below {w0 W W' : World} {g : Nat} {S : W3} (h : Is3 w0 W g S) (k : Below W.heap.size W W') : Is3 w0 W' g S := IsS69.below h k
theorem push3 (g : Nat) (S : W3) (i : Int) (s : ByteArray) (w0 w : World) (hI : Is3 w0 w g S) (hB : Below w0.heap.size w0 w) (hs : inR i → (S.get i).w.size + s.size ≤ 9223372036854775807) :
    Calls Try.prog 18 #[.pointer (some ⟨g, 0, none⟩), .int .i64 i, .string s] w fun e w' => e = .returned (.bool (decide (inR i))) ∧ Is3 w0 w' g (pushS S i s) ∧ Below w0.heap.size w0 w' ∧ KeepBut w w' g none :=
  wire_Wire_Push.calls g _ _ _ _ _ _ _ _ _ i s _ _ _ _ _ _ _ _ _ _ w0 w hI hB (push_eq S i s hs)
theorem pump3 (g : Nat) (S : W3) (i : Int) (w0 w : World) (hI : Is3 w0 w g S) (hB : Below w0.heap.size w0 w) (hs : inR i → (S.get i).q.size ≤ 8) :
    Calls Try.prog 19 #[.pointer (some ⟨g, 0, none⟩), .int .i64 i] w fun e w' => e = .returned (.int .i64 (if inR i then (pumpN (S.get i).q (S.get i).w : Int) else 0)) ∧ Is3 w0 w' g (pumpS S i) ∧ Below w0.heap.size w0 w' ∧ KeepBut w w' g none :=
  wire_Wire_Pump.calls g _ _ _ _ _ _ _ _ _ i _ _ _ _ _ _ _ _ _ _ w0 w hI hB (pump_eq S i hs)
theorem take3 (g : Nat) (S : W3) (i a : Int) (w0 w : World) (hI : Is3 w0 w g S) (hB : Below w0.heap.size w0 w) (hs : inR i → (S.get i).t.size + (S.get i).q.size ≤ 9223372036854775807) :
    Calls Try.prog 20 #[.pointer (some ⟨g, 0, none⟩), .int .i64 i, .int .i64 a] w fun e w' => e = .returned (.string (if inR i then tookW (S.get i) a else (⟨#[]⟩ : ByteArray))) ∧ Is3 w0 w' g (takeS S i a) ∧ Below w0.heap.size w0 w' ∧ KeepBut w w' g none :=
  wire_Wire_Take.calls g _ _ _ _ _ _ _ _ _ i a _ _ _ _ _ _ _ _ _ _ w0 w hI hB (take_eq S i a hs)
theorem pump4 (g : Nat) (S : W3) (i : Int) (w0 w : World) (hI : Is3 w0 w g S) (hB : Below w0.heap.size w0 w) (hs : inR i → (S.get i).q.size ≤ 8) :
    Calls Try.prog 19 #[.pointer (some ⟨g, 0, none⟩), .int .i64 i] w fun e w' => (∃ v, e = .returned (.int .i64 v)) ∧ Is3 w0 w' g (pumpS S i) ∧ Below w0.heap.size w0 w' ∧ KeepBut w w' g none :=
  (pump3 g S i w0 w hI hB hs).mono fun _ _ h => ⟨⟨_, h.1⟩, h.2⟩
theorem take4 (g : Nat) (S : W3) (i a : Int) (w0 w : World) (hI : Is3 w0 w g S) (hB : Below w0.heap.size w0 w) (hs : inR i → (S.get i).t.size + (S.get i).q.size ≤ 9223372036854775807) :
    Calls Try.prog 20 #[.pointer (some ⟨g, 0, none⟩), .int .i64 i, .int .i64 a] w fun e w' => (∃ v, e = .returned (.string v)) ∧ Is3 w0 w' g (takeS S i a) ∧ Below w0.heap.size w0 w' ∧ KeepBut w w' g none :=
  (take3 g S i a w0 w hI hB hs).mono fun _ _ h => ⟨⟨_, h.1⟩, h.2⟩
theorem trace3 (g : Nat) (S : W3) (i : Int) (w0 w : World) (hI : Is3 w0 w g S) (hB : Below w0.heap.size w0 w) :
    Calls Try.prog 21 #[.pointer (some ⟨g, 0, none⟩), .int .i64 i] w fun e w' => e = .returned (.string (if inR i then (S.get i).t else (⟨#[]⟩ : ByteArray))) ∧ Is3 w0 w' g S ∧ Below w0.heap.size w0 w' ∧ KeepBut w w' g none :=
  wire_Wire_Trace.calls g _ _ _ _ _ _ _ _ _ i _ _ _ _ _ _ _ _ _ _ w0 w hI hB (trace_eq S i)
theorem all3 (g : Nat) (S : W3) (i : Int) (w0 w : World) (hI : Is3 w0 w g S) (hB : Below w0.heap.size w0 w) (hs : inR i → (S.get i).len ≤ 9223372036854775807) :
    Calls Try.prog 22 #[.pointer (some ⟨g, 0, none⟩), .int .i64 i] w fun e w' => e = .returned (.string (if inR i then (S.get i).all else (⟨#[]⟩ : ByteArray))) ∧ Is3 w0 w' g S ∧ Below w0.heap.size w0 w' ∧ KeepBut w w' g none :=
  wire_Wire_All.calls g _ _ _ _ _ _ _ _ _ i _ _ _ _ _ _ _ _ _ _ w0 w hI hB (all_eq S i hs)
def crW (x : Way) : Way := ⟨⟨#[]⟩, ⟨#[]⟩, x.t⟩
def crashS (S : W3) : W3 := ⟨crW S.a, crW S.b, crW S.c⟩
theorem crash3 (g : Nat) (S : W3) (w0 w : World) (hI : Is3 w0 w g S) (hB : Below w0.heap.size w0 w) :
    Calls Try.prog 26 #[.pointer (some ⟨g, 0, none⟩)] w fun e w' => e = .returned (.tuple #[]) ∧ Is3 w0 w' g (crashS S) ∧ Below w0.heap.size w0 w' ∧ KeepBut w w' g none :=
  wire_Wire_Crash.calls g _ _ _ _ _ _ _ _ _ _ _ _ _ _ _ _ _ _ w0 w hI hB rfl
theorem new3 (w0 w : World) (hB : Below w0.heap.size w0 w) : Calls Try.prog 17 #[] w fun e w' => ∃ g_ : Nat, e = .returned (.pointer (some ⟨g_, 0, none⟩)) ∧ Is3 w0 w' g_ zeroW ∧ Below w0.heap.size w0 w' ∧ Below w.heap.size w w' :=
  wire_New.calls _ _ _ _ _ _ _ _ _ w0 w hB new_eq
theorem get_crash (S : W3) (j : Int) : (crashS S).get j = crW (S.get j) := by
  unfold crashS W3.get
  split
  · rfl
  · split <;> rfl
theorem good_crash {S : W3} {N : Nat} (h : Good S N) : Good (crashS S) N := by
  intro i hi
  rw [get_crash]
  have := (h i hi).1
  unfold Way.len at this
  refine ⟨?_, Nat.zero_le _⟩
  show (S.get i).t.size + (0 : Nat) + 0 ≤ N
  omega
/-- what a call does to a wire -/
def stepS (S : W3) (x : S29) : W3 := if x.f0 = 0 then pushS S x.f1 x.f2 else if x.f0 = 1 then pumpS S x.f1 else if x.f0 = 2 then takeS S x.f1 x.f3 else if x.f0 = 3 then crashS S else S
theorem good_step {S : W3} {N : Nat} (h : Good S N) (x : S29) : Good (stepS S x) (N + x.f2.size) := by
  unfold stepS
  split
  · exact good_push h _ _
  split
  · exact good_mono (good_pump h _) (by omega)
  split
  · exact good_mono (good_take h _ _) (by omega)
  split
  · exact good_mono (good_crash h) (by omega)
  · exact good_mono h (by omega)
theorem get_step (S : W3) (x : S29) (j : Int) (hj : inR j) : (stepS S x).get j = if x.f0 = 3 then crW (S.get j) else if x.f1 = j then (if x.f0 = 0 then pushW (S.get j) x.f2 else if x.f0 = 1 then pumpW (S.get j) else if x.f0 = 2 then takeW (S.get j) x.f3 else S.get j) else S.get j := by
  unfold stepS
  by_cases h0 : x.f0 = 0
  · rw [if_pos h0, if_neg (show ¬ x.f0 = 3 by omega), if_pos h0, get_push _ _ _ _ hj]
  rw [if_neg h0]
  by_cases h1 : x.f0 = 1
  · rw [if_pos h1, if_neg (show ¬ x.f0 = 3 by omega), if_neg h0, if_pos h1, get_pump _ _ _ hj]
  rw [if_neg h1]
  by_cases h2 : x.f0 = 2
  · rw [if_pos h2, if_neg (show ¬ x.f0 = 3 by omega), if_neg h0, if_neg h1, if_pos h2, get_take _ _ _ _ hj]
  rw [if_neg h2]
  by_cases h3 : x.f0 = 3
  · rw [if_pos h3, if_pos h3, get_crash]
  · rw [if_neg h3, if_neg h3, if_neg h0, if_neg h1, if_neg h2]; simp
def skips (x : S29) (sock : Int) : Prop := x.f1 ≠ sock ∧ x.f0 < 3
instance (x : S29) (sock : Int) : Decidable (skips x sock) := inferInstanceAs (Decidable (_ ∧ _))
def apartS (S : W3) (x : S29) (sock : Int) : W3 := if skips x sock then S else stepS S x
theorem apart_get {A B : W3} (sock : Int) (hs : inR sock) (x : S29) (h : A.get sock = B.get sock) : (stepS A x).get sock = (apartS B x sock).get sock := by
  unfold apartS
  rw [get_step _ _ _ hs]
  by_cases hk : skips x sock
  · rw [if_pos hk, ← h]
    obtain ⟨h1, h2⟩ := hk
    rw [if_neg (by omega), if_neg h1]
  · rw [if_neg hk, get_step _ _ _ hs, h]
theorem good_apart {S : W3} {N : Nat} (h : Good S N) (x : S29) (sock : Int) : Good (apartS S x sock) (N + x.f2.size) := by
  unfold apartS
  split
  · exact good_mono h (by omega)
  · exact good_step h x
def cCells (x : S29) : Array Value := #[.int .i64 x.f0, .int .i64 x.f1, .string x.f2, .int .i64 x.f3]
theorem ap_idx (x : S29) (W : World) (g : Nat) (h : W.heap[g]? = some (.cells (cCells x) 29 (0, 0))) : W.cell? ⟨g, 0, none⟩ = some (.int .i64 x.f0) ∧ W.cell? ⟨g, 1, none⟩ = some (.int .i64 x.f1) ∧ W.cell? ⟨g, 2, none⟩ = some (.string x.f2) ∧ W.cell? ⟨g, 3, none⟩ = some (.int .i64 x.f3) :=
  ⟨(blk_cell h 0).trans rfl, (blk_cell h 1).trans rfl, (blk_cell h 2).trans rfl, (blk_cell h 3).trans rfl⟩
set_option maxHeartbeats 16000000 in
set_option maxRecDepth 100000 in
theorem apart_main (k : Nat) (A0 : Option Addr) (c0 : Nat) (l : List S29) (sock : Int) (w : World) (hr0 : Kd.C k29 w A0 l.length l) (hc0 : l.length ≤ c0) (hl : l.length ≤ 80) (ht : tot l ≤ 2048) (hg : countermandlaw06_great.f k l = some false) (hs : inR sock) :
    Calls Try.prog 7 #[.slice A0 l.length c0, .int .i64 sock] w fun e w' => e = .returned (.bool true) ∧ Below w.heap.size w w' := by
  have hu29 := Try.underlying29
  have hu42 := Try.underlying42
  have AL := countermandlaw06_alive.calls true
  have GR := countermandlaw06_great.calls k A0 c0 l false
  have IS := countermandref06_Is.calls sock true
  have hisq : countermandref06_Is.f sock = some true := by rw [is_eq, decide_eq_true hs]
  go_enter Try.func7, Try.ntmps7
  go_wp2_with (first | (go_at_call 14; (with_reducible refine (AL _ alive_eq).mono ?_); rintro e w1 ⟨rfl, hB1⟩) | (go_at_call 15; (with_reducible refine (GR _ (Kd.C_below hr0 hB1) hc0 hg).mono ?_); rintro e w2 ⟨rfl, hB2⟩) | (go_at_call 16; (with_reducible refine (IS _ hisq).mono ?_); rintro e w3 ⟨rfl, ⟨nd, rfl⟩⟩))
  have hB2' : Below w.heap.size w (w2.drewN nd) := pw_below_drewN (hB1.trans (hB2.mono hB1.size)) nd
  generalize w2.drewN nd = w3 at hB2' ⊢
  clear hB1 hB2 AL GR IS
  refine (new3 w _ hB2').mono ?_
  rintro e w4 ⟨ga, rfl, hA, hB4, _⟩
  go_wp2_with (fail)
  refine (new3 w4 w4 (Below.refl _ _)).mono ?_
  rintro e w5 ⟨gb, rfl, hB, hB5', hn5⟩
  have hA5 : Is3 w w5 ga zeroW := hA.below hn5
  have hlt : ga < w4.heap.size := blk_lt hA.1
  have hne : ga ≠ gb := by have := hB.2; omega
  have hB6 : Is3 w w5 gb zeroW := ⟨hB.1, Nat.le_trans hB4.size hB.2⟩
  have hB5 : Below w.heap.size w w5 := hB4.trans (hn5.mono hB4.size)
  have HS := Aside0.mk (show Is3 w w5 ga zeroW ∧ Is3 w w5 gb zeroW ∧ Below w.heap.size w w5 from ⟨hA5, hB6, hB5⟩)
  clear hA hB hB2' hB4 hB5' hn5 hA5 hB6 hB5 hlt
  go_wp2
  go_loopg [24] l.length (fun m v wr => ∃ (j : Nat) (A B : W3) (N : Nat), v = .int .i64 (j : Int) ∧ m + j = l.length ∧ Aside0 (Is3 w wr ga A ∧ Is3 w wr gb B ∧ Good A N ∧ Good B N ∧ N + tot (l.drop j) ≤ 2048 ∧ A.get sock = B.get sock ∧ Below w.heap.size w wr))
  case atStart => exact ⟨0, zeroW, zeroW, 0, rfl, by omega, ⟨HS.out.1, HS.out.2.1, good_zero, good_zero, by rw [List.drop_zero]; omega, rfl, HS.out.2.2⟩⟩
  case round =>
    obtain ⟨j, A, B, N, rfl, hj, HC⟩ := hrel
    by_cases hlt : j < l.length
    · have q0 : decide ((j : Int) < (l.length : Int)) = true := decide_eq_true (by omega)
      obtain ⟨ad, rfl, x0, x1, x2, x3⟩ := at_T29 hr0 (j : Int) (by omega) (by omega)
      replace x0 := (HC.out.2.2.2.2.2.2.cell (World.block_lt_of_cell? w _ x0)).trans x0
      replace x1 := (HC.out.2.2.2.2.2.2.cell (World.block_lt_of_cell? w _ x1)).trans x1
      replace x2 := (HC.out.2.2.2.2.2.2.cell (World.block_lt_of_cell? w _ x2)).trans x2
      replace x3 := (HC.out.2.2.2.2.2.2.cell (World.block_lt_of_cell? w _ x3)).trans x3
      simp only [Int.toNat_natCast] at x0 x1 x2 x3
      obtain ⟨x, r, hx⟩ : ∃ x r, l.drop j = x :: r := ⟨_, _, List.drop_eq_getElem_cons hlt⟩
      obtain ⟨hrd, _, hr⟩ := rd_at hx
      rw [hrd] at x0 x1 x2 x3
      have p0 : ((0 : Int) ≤ (j : Int)) = True := eq_true (by omega)
      have p1 : ((j : Int) < (l.length : Int)) = True := eq_true (by omega)
      go_wp2
      obtain ⟨W1, hW1⟩ : ∃ W1, W1 = ((wr.alloc (Obj.cells #[Value.int IntKind.i64 x.f0, Value.int IntKind.i64 x.f1, Value.string x.f2, Value.int IntKind.i64 x.f3] 29)).alloc (Obj.cells #[Value.pointer (some { block := ga, off := 0 }), Value.pointer (some { block := gb, off := 0 })] 26)) := ⟨_, rfl⟩
      rw [← hW1]
      have bl : Below wr.heap.size wr W1 := by rw [hW1]; exact below_alloc (below_alloc (Below.refl _ _) _) _
      have lw : w.heap.size ≤ wr.heap.size := HC.out.2.2.2.2.2.2.size
      have la : ga < wr.heap.size := blk_lt HC.out.1.1
      have lb : gb < wr.heap.size := blk_lt HC.out.2.1.1
      have hcc : W1.heap[wr.heap.size]? = some (.cells (cCells x) 29 (0, 0)) := by
        rw [hW1, Below.heap_alloc _ _ _ (by simp)]
        exact heap_alloc_new wr _
      have hcl : W1.heap[wr.heap.size + 1]? = some (.cells #[Value.pointer (some { block := ga, off := 0 }), Value.pointer (some { block := gb, off := 0 })] 26 (0, 0)) := by
        rw [hW1]
        have := heap_alloc_new (wr.alloc (Obj.cells #[Value.int IntKind.i64 x.f0, Value.int IntKind.i64 x.f1, Value.string x.f2, Value.int IntKind.i64 x.f3] 29)) (Obj.cells #[Value.pointer (some { block := ga, off := 0 }), Value.pointer (some { block := gb, off := 0 })] 26)
        simpa using this
      have H0 := Aside0.mk (show Is3 w W1 ga A ∧ Is3 w W1 gb B ∧ Below w.heap.size w W1 ∧ W1.heap[wr.heap.size]? = some (.cells (cCells x) 29 (0, 0)) ∧ W1.heap[wr.heap.size + 1]? = some (.cells #[Value.pointer (some { block := ga, off := 0 }), Value.pointer (some { block := gb, off := 0 })] 26 (0, 0)) from ⟨HC.out.1.below bl, HC.out.2.1.below bl, HC.out.2.2.2.2.2.2.trans (bl.mono lw), hcc, hcl⟩)
      have ht2 : tot (l.drop j) = x.f2.size + tot r := by rw [hx]; rfl
      have hN := HC.out.2.2.2.2.1
      rw [ht2] at hN
      clear bl hcc hcl hW1 x0 x1 x2 x3 hrd
      have nca : wr.heap.size ≠ ga := by omega
      have ncb : wr.heap.size ≠ gb := by omega
      have nla : wr.heap.size + 1 ≠ ga := by omega
      have nlb : wr.heap.size + 1 ≠ gb := by omega
      clear la lb
      generalize wr.heap.size = gc at H0 nca ncb nla nlb lw ⊢
      go_loopg [32] 2 (fun m v wr => ∃ i : Nat, v = .int .i64 (i : Int) ∧ m + i = 2 ∧ Aside0 (Is3 w wr ga (if i = 0 then A else stepS A x) ∧ Is3 w wr gb (if i ≤ 1 then B else apartS B x sock) ∧ Below w.heap.size w wr ∧ wr.heap[gc]? = some (.cells (cCells x) 29 (0, 0)) ∧ wr.heap[gc + 1]? = some (.cells #[Value.pointer (some { block := ga, off := 0 }), Value.pointer (some { block := gb, off := 0 })] 26 (0, 0))))
      case atStart => exact ⟨0, rfl, rfl, ⟨H0.out.1, H0.out.2.1, H0.out.2.2.1, H0.out.2.2.2.1, H0.out.2.2.2.2⟩⟩
      case round =>
        clear H0
        obtain ⟨i, rfl, hi, HD⟩ := hrel
        have hcc := HD.out.2.2.2.1
        have hcl := HD.out.2.2.2.2
        have hBw := HD.out.2.2.1
        obtain ⟨y0, y1, y2, y3⟩ := ap_idx x _ _ hcc
        have z0 : _ = some (Value.pointer (some { block := ga, off := 0 })) := (blk_cell hcl 0).trans rfl
        have z1 : _ = some (Value.pointer (some { block := gb, off := 0 })) := (blk_cell hcl 1).trans rfl
        have : i = 0 ∨ i = 1 ∨ i = 2 := by omega
        rcases this with rfl | rfl | rfl
        · have hI : Is3 w _ ga A := HD.out.1
          have hO : Is3 w _ gb B := HD.out.2.1
          by_cases e0 : x.f0 = 0
          · have b0 : (x.f0 == 0) = true := by simpa using e0
            have E0 := Aside0.mk e0
            clear e0
            go_wp2_with (go_at_call 18; (refine (push3 ga A x.f1 x.f2 w _ hI hBw (fun h => by have := (HC.out.2.2.1 x.f1 h).1; unfold Way.len at this; omega)).mono ?_); rintro e w7 ⟨rfl, hI7, hB7, hk7⟩)
            go_roundg 1
            case rel =>
              exact ⟨1, rfl, rfl, ⟨(by rw [if_neg (by decide)]; unfold stepS; rw [if_pos E0.out]; exact hI7), (by rw [if_pos (by decide)]; exact hO.keep hk7 (Ne.symm hne)), hB7, hk7.blk hcc nca (by simp), hk7.blk hcl nla (by simp)⟩⟩
            case measure => omega
          have b0 : (x.f0 == 0) = false := by simpa using e0
          have E0 := Aside0.mk e0
          clear e0
          by_cases e1 : x.f0 = 1
          · have b1 : (x.f0 == 1) = true := by simpa using e1
            have E1 := Aside0.mk e1
            clear e1
            go_wp2_with (go_at_call 19; (refine (pump4 ga A x.f1 w _ hI hBw (fun h => (HC.out.2.2.1 x.f1 h).2)).mono ?_); rintro e w7 ⟨⟨v7, rfl⟩, hI7, hB7, hk7⟩)
            go_roundg 1
            case rel =>
              exact ⟨1, rfl, rfl, ⟨(by rw [if_neg (by decide)]; unfold stepS; rw [if_neg E0.out]; rw [if_pos E1.out]; exact hI7), (by rw [if_pos (by decide)]; exact hO.keep hk7 (Ne.symm hne)), hB7, hk7.blk hcc nca (by simp), hk7.blk hcl nla (by simp)⟩⟩
            case measure => omega
          have b1 : (x.f0 == 1) = false := by simpa using e1
          have E1 := Aside0.mk e1
          clear e1
          by_cases e2 : x.f0 = 2
          · have b2 : (x.f0 == 2) = true := by simpa using e2
            have E2 := Aside0.mk e2
            clear e2
            go_wp2_with (go_at_call 20; (refine (take4 ga A x.f1 x.f3 w _ hI hBw (fun h => by have := (HC.out.2.2.1 x.f1 h).1; unfold Way.len at this; omega)).mono ?_); rintro e w7 ⟨⟨v7, rfl⟩, hI7, hB7, hk7⟩)
            go_roundg 1
            case rel =>
              exact ⟨1, rfl, rfl, ⟨(by rw [if_neg (by decide)]; unfold stepS; rw [if_neg E0.out]; rw [if_neg E1.out]; rw [if_pos E2.out]; exact hI7), (by rw [if_pos (by decide)]; exact hO.keep hk7 (Ne.symm hne)), hB7, hk7.blk hcc nca (by simp), hk7.blk hcl nla (by simp)⟩⟩
            case measure => omega
          have b2 : (x.f0 == 2) = false := by simpa using e2
          have E2 := Aside0.mk e2
          clear e2
          by_cases e3 : x.f0 = 3
          · have b3 : (x.f0 == 3) = true := by simpa using e3
            have E3 := Aside0.mk e3
            clear e3
            go_wp2_with (go_at_call 26; (refine (crash3 ga A w _ hI hBw).mono ?_); rintro e w7 ⟨rfl, hI7, hB7, hk7⟩)
            go_roundg 1
            case rel =>
              exact ⟨1, rfl, rfl, ⟨(by rw [if_neg (by decide)]; unfold stepS; rw [if_neg E0.out]; rw [if_neg E1.out]; rw [if_neg E2.out]; rw [if_pos E3.out]; exact hI7), (by rw [if_pos (by decide)]; exact hO.keep hk7 (Ne.symm hne)), hB7, hk7.blk hcc nca (by simp), hk7.blk hcl nla (by simp)⟩⟩
            case measure => omega
          have b3 : (x.f0 == 3) = false := by simpa using e3
          have E3 := Aside0.mk e3
          clear e3
          go_wp2
          go_roundg 1
          case rel =>
            exact ⟨1, rfl, rfl, ⟨(by rw [if_neg (by decide)]; unfold stepS; rw [if_neg E0.out, if_neg E1.out, if_neg E2.out, if_neg E3.out]; exact hI), (by rw [if_pos (by decide)]; exact hO), hBw, hcc, hcl⟩⟩
          case measure => omega
        · have hO : Is3 w _ ga (stepS A x) := HD.out.1
          have hI : Is3 w _ gb B := HD.out.2.1
          by_cases hsk : skips x sock
          · have k0 : (x.f1 != sock) = true := by simpa using hsk.1
            have k1 : decide (x.f0 < 3) = true := decide_eq_true hsk.2
            have HK := Aside0.mk hsk
            clear hsk
            go_wp2
            go_roundg 0
            case rel =>
              exact ⟨2, rfl, rfl, ⟨(by rw [if_neg (by decide)]; exact hO), (by rw [if_neg (by decide)]; unfold apartS; rw [if_pos HK.out]; exact hI), hBw, hcc, hcl⟩⟩
            case measure => omega
          by_cases hs1 : x.f1 = sock
          · have k0 : (x.f1 != sock) = false := by simpa using hs1
            have HK := Aside0.mk hsk
            clear hsk hs1
            by_cases e0 : x.f0 = 0
            · have b0 : (x.f0 == 0) = true := by simpa using e0
              have E0 := Aside0.mk e0
              clear e0
              go_wp2_with (go_at_call 18; (refine (push3 gb B x.f1 x.f2 w _ hI hBw (fun h => by have := (HC.out.2.2.2.1 x.f1 h).1; unfold Way.len at this; omega)).mono ?_); rintro e w7 ⟨rfl, hI7, hB7, hk7⟩)
              go_roundg 0
              case rel =>
                exact ⟨2, rfl, rfl, ⟨(by rw [if_neg (by decide)]; exact hO.keep hk7 hne), (by rw [if_neg (by decide)]; unfold apartS; rw [if_neg HK.out]; unfold stepS; rw [if_pos E0.out]; exact hI7), hB7, hk7.blk hcc ncb (by simp), hk7.blk hcl nlb (by simp)⟩⟩
              case measure => omega
            have b0 : (x.f0 == 0) = false := by simpa using e0
            have E0 := Aside0.mk e0
            clear e0
            by_cases e1 : x.f0 = 1
            · have b1 : (x.f0 == 1) = true := by simpa using e1
              have E1 := Aside0.mk e1
              clear e1
              go_wp2_with (go_at_call 19; (refine (pump4 gb B x.f1 w _ hI hBw (fun h => (HC.out.2.2.2.1 x.f1 h).2)).mono ?_); rintro e w7 ⟨⟨v7, rfl⟩, hI7, hB7, hk7⟩)
              go_roundg 0
              case rel =>
                exact ⟨2, rfl, rfl, ⟨(by rw [if_neg (by decide)]; exact hO.keep hk7 hne), (by rw [if_neg (by decide)]; unfold apartS; rw [if_neg HK.out]; unfold stepS; rw [if_neg E0.out]; rw [if_pos E1.out]; exact hI7), hB7, hk7.blk hcc ncb (by simp), hk7.blk hcl nlb (by simp)⟩⟩
              case measure => omega
            have b1 : (x.f0 == 1) = false := by simpa using e1
            have E1 := Aside0.mk e1
            clear e1
            by_cases e2 : x.f0 = 2
            · have b2 : (x.f0 == 2) = true := by simpa using e2
              have E2 := Aside0.mk e2
              clear e2
              go_wp2_with (go_at_call 20; (refine (take4 gb B x.f1 x.f3 w _ hI hBw (fun h => by have := (HC.out.2.2.2.1 x.f1 h).1; unfold Way.len at this; omega)).mono ?_); rintro e w7 ⟨⟨v7, rfl⟩, hI7, hB7, hk7⟩)
              go_roundg 0
              case rel =>
                exact ⟨2, rfl, rfl, ⟨(by rw [if_neg (by decide)]; exact hO.keep hk7 hne), (by rw [if_neg (by decide)]; unfold apartS; rw [if_neg HK.out]; unfold stepS; rw [if_neg E0.out]; rw [if_neg E1.out]; rw [if_pos E2.out]; exact hI7), hB7, hk7.blk hcc ncb (by simp), hk7.blk hcl nlb (by simp)⟩⟩
              case measure => omega
            have b2 : (x.f0 == 2) = false := by simpa using e2
            have E2 := Aside0.mk e2
            clear e2
            by_cases e3 : x.f0 = 3
            · have b3 : (x.f0 == 3) = true := by simpa using e3
              have E3 := Aside0.mk e3
              clear e3
              go_wp2_with (go_at_call 26; (refine (crash3 gb B w _ hI hBw).mono ?_); rintro e w7 ⟨rfl, hI7, hB7, hk7⟩)
              go_roundg 0
              case rel =>
                exact ⟨2, rfl, rfl, ⟨(by rw [if_neg (by decide)]; exact hO.keep hk7 hne), (by rw [if_neg (by decide)]; unfold apartS; rw [if_neg HK.out]; unfold stepS; rw [if_neg E0.out]; rw [if_neg E1.out]; rw [if_neg E2.out]; rw [if_pos E3.out]; exact hI7), hB7, hk7.blk hcc ncb (by simp), hk7.blk hcl nlb (by simp)⟩⟩
              case measure => omega
            have b3 : (x.f0 == 3) = false := by simpa using e3
            have E3 := Aside0.mk e3
            clear e3
            go_wp2
            go_roundg 0
            case rel =>
              exact ⟨2, rfl, rfl, ⟨(by rw [if_neg (by decide)]; exact hO), (by rw [if_neg (by decide)]; unfold apartS; rw [if_neg HK.out]; unfold stepS; rw [if_neg E0.out, if_neg E1.out, if_neg E2.out, if_neg E3.out]; exact hI), hBw, hcc, hcl⟩⟩
            case measure => omega
          · have k0 : (x.f1 != sock) = true := by simpa using hs1
            have k2 : ¬ x.f0 < 3 := fun h => hsk ⟨hs1, h⟩
            have k1 : decide (x.f0 < 3) = false := decide_eq_false k2
            have e0 : ¬ x.f0 = 0 := by omega
            have e1 : ¬ x.f0 = 1 := by omega
            have e2 : ¬ x.f0 = 2 := by omega
            have b0 : (x.f0 == 0) = false := by simpa using e0
            have b1 : (x.f0 == 1) = false := by simpa using e1
            have b2 : (x.f0 == 2) = false := by simpa using e2
            have E0 := Aside0.mk e0
            have E1 := Aside0.mk e1
            have E2 := Aside0.mk e2
            have HK := Aside0.mk hsk
            clear hsk hs1 e0 e1 e2 k2
            by_cases e3 : x.f0 = 3
            · have b3 : (x.f0 == 3) = true := by simpa using e3
              have E3 := Aside0.mk e3
              clear e3
              go_wp2_with (go_at_call 26; (refine (crash3 gb B w _ hI hBw).mono ?_); rintro e w7 ⟨rfl, hI7, hB7, hk7⟩)
              go_roundg 0
              case rel =>
                exact ⟨2, rfl, rfl, ⟨(by rw [if_neg (by decide)]; exact hO.keep hk7 hne), (by rw [if_neg (by decide)]; unfold apartS; rw [if_neg HK.out]; unfold stepS; rw [if_neg E0.out]; rw [if_neg E1.out]; rw [if_neg E2.out]; rw [if_pos E3.out]; exact hI7), hB7, hk7.blk hcc ncb (by simp), hk7.blk hcl nlb (by simp)⟩⟩
              case measure => omega
            have b3 : (x.f0 == 3) = false := by simpa using e3
            have E3 := Aside0.mk e3
            clear e3
            go_wp2
            go_roundg 0
            case rel =>
              exact ⟨2, rfl, rfl, ⟨(by rw [if_neg (by decide)]; exact hO), (by rw [if_neg (by decide)]; unfold apartS; rw [if_neg HK.out]; unfold stepS; rw [if_neg E0.out, if_neg E1.out, if_neg E2.out, if_neg E3.out]; exact hI), hBw, hcc, hcl⟩⟩
            case measure => omega
        · go_wp2
          go_roundg (l.length - (j + 1))
          case rel =>
            have h1 : Is3 w _ ga (stepS A x) := HD.out.1
            have h2 : Is3 w _ gb (apartS B x sock) := HD.out.2.1
            exact ⟨j + 1, stepS A x, apartS B x sock, N + x.f2.size, (by rw [Int.natCast_add]; rfl), (by omega), ⟨h1, h2, good_step HC.out.2.2.1 x, good_apart HC.out.2.2.2.1 x sock, (by rw [hr]; omega), apart_get sock hs x HC.out.2.2.2.2.2.1, HD.out.2.2.1⟩⟩
          case measure => omega
    · have q0 : decide ((j : Int) < (l.length : Int)) = false := decide_eq_false (by omega)
      have hNm : N ≤ 2048 := by have := HC.out.2.2.2.2.1; omega
      have A3 := fun W h1 h2 => all3 ga A sock w W h1 h2 (fun h => by have := (HC.out.2.2.1 sock h).1; omega)
      have B3 := fun W h1 h2 => all3 gb B sock w W h1 h2 (fun h => by have := (HC.out.2.2.2.1 sock h).1; omega)
      have hIA := HC.out.1
      have hIB := HC.out.2.1
      have hBw := HC.out.2.2.2.2.2.2
      have he := HC.out.2.2.2.2.2.1
      simp only [if_pos hs, he] at A3 B3
      have TA := fun W h1 h2 => trace3 ga A sock w W h1 h2
      have TB := fun W h1 h2 => trace3 gb B sock w W h1 h2
      simp only [if_pos hs, he] at TA TB
      go_wp2_with (fail)
      refine (A3 _ hIA hBw).mono ?_
      rintro e w7 ⟨rfl, hIA7, hB7, hk7⟩
      have hIB7 := hIB.keep hk7 (Ne.symm hne)
      go_wp2_with (fail)
      refine (B3 _ hIB7 hB7).mono ?_
      rintro e w8 ⟨rfl, hIB8, hB8, hk8⟩
      have hIA8 := hIA7.keep hk8 hne
      go_wp2_with (fail)
      refine (TA _ hIA8 hB8).mono ?_
      rintro e w9 ⟨rfl, hIA9, hB9, hk9⟩
      have hIB9 := hIB8.keep hk9 (Ne.symm hne)
      go_wp2_with (fail)
      refine (TB _ hIB9 hB9).mono ?_
      rintro e w10 ⟨rfl, hIB10, hB10, hk10⟩
      go_wp2
      go_ret
      exact ⟨by simp, hB10⟩
set_option maxHeartbeats 1600000 in
set_option maxRecDepth 100000 in
theorem apart_great (k : Nat) (A0 : Option Addr) (c0 : Nat) (l : List S29) (sock : Int) (w : World) (hr0 : Kd.C k29 w A0 l.length l) (hc0 : l.length ≤ c0) (hg : countermandlaw06_great.f k l = some true) :
    Calls Try.prog 7 #[.slice A0 l.length c0, .int .i64 sock] w fun e w' => e = .returned (.bool true) ∧ Below w.heap.size w w' := by
  have AL := countermandlaw06_alive.calls true
  have GR := countermandlaw06_great.calls k A0 c0 l true
  go_enter Try.func7, Try.ntmps7
  go_wp2_with (first | (go_at_call 14; (with_reducible refine (AL _ alive_eq).mono ?_); rintro e w1 ⟨rfl, hB1⟩) | (go_at_call 15; (with_reducible refine (GR _ (Kd.C_below hr0 hB1) hc0 hg).mono ?_); rintro e w2 ⟨rfl, hB2⟩))
  go_ret
  exact ⟨rfl, hB1.trans (hB2.mono hB1.size)⟩
set_option maxHeartbeats 1600000 in
set_option maxRecDepth 100000 in
theorem apart_none (k : Nat) (A0 : Option Addr) (c0 : Nat) (l : List S29) (sock : Int) (w : World) (hr0 : Kd.C k29 w A0 l.length l) (hc0 : l.length ≤ c0) (hg : countermandlaw06_great.f k l = some false) (hs : ¬ inR sock) :
    Calls Try.prog 7 #[.slice A0 l.length c0, .int .i64 sock] w fun e w' => e = .returned (.bool true) ∧ Below w.heap.size w w' := by
  have AL := countermandlaw06_alive.calls true
  have GR := countermandlaw06_great.calls k A0 c0 l false
  have IS := countermandref06_Is.calls sock false
  have hisq : countermandref06_Is.f sock = some false := by rw [is_eq, decide_eq_false hs]
  go_enter Try.func7, Try.ntmps7
  go_wp2_with (first | (go_at_call 14; (with_reducible refine (AL _ alive_eq).mono ?_); rintro e w1 ⟨rfl, hB1⟩) | (go_at_call 15; (with_reducible refine (GR _ (Kd.C_below hr0 hB1) hc0 hg).mono ?_); rintro e w2 ⟨rfl, hB2⟩) | (go_at_call 16; (with_reducible refine (IS _ hisq).mono ?_); rintro e w3 ⟨rfl, ⟨nd, rfl⟩⟩))
  go_ret
  exact ⟨rfl, pw_below_drewN (hB1.trans (hB2.mono hB1.size)) nd⟩
/-- what the walk leaves: that the script's bytes are told apart -/
def countermandlaw06_WireApart.Pure : Prop := ∀ (l0 : List (S29)), ∃ k b, countermandlaw06_great.f k l0 = some b ∧ (b = false → l0.length ≤ 80 ∧ tot l0 ≤ 2048)
theorem countermandlaw06_WireApart.walk (P : countermandlaw06_WireApart.Pure) (a0 : Option Addr) (len0 cap0 : Nat) (z0 : List (S29)) (a1 : Int) (w : World) (w0 : z0.length = len0 ∧ Kd.C k29 w a0 z0.length z0 ∧ z0.length ≤ cap0 ∧ z0.length ≤ maxLen ∧ (∀ x ∈ z0, (Lit.int .i64 x.f0).wf = true ∧ (Lit.int .i64 x.f1).wf = true ∧ x.f2.size ≤ maxLen ∧ (Lit.int .i64 x.f3).wf = true)) (w1 : (Lit.int .i64 a1).wf = true) :
    Calls Try.prog 7 #[.slice a0 len0 cap0, .int .i64 a1] w fun e w' => e = .returned (.bool true) ∧ Below w.heap.size w w' := by
  obtain ⟨rfl, hr0, hc0, _⟩ := w0
  obtain ⟨k, b, hg, hb⟩ := P z0
  cases b
  · by_cases hs : inR a1
    · exact apart_main k a0 cap0 z0 a1 w hr0 hc0 (hb rfl).1 (hb rfl).2 hg hs
    · exact apart_none k a0 cap0 z0 a1 w hr0 hc0 hg hs
  · exact apart_great k a0 cap0 z0 a1 w hr0 hc0 hg

end Go.Proofs.Ytodffnchcbapcaa.PWireApart
