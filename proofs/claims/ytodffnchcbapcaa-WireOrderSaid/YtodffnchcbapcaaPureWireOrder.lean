/- Proved: without a crash All is all that was pushed to a socket, in order, and Trace its beginning, that never shrinks; no condition beyond the statement's own bounds. -/
import Derived.Test.YtodffnchcbapcaaPWireOrderx2
namespace Go.Proofs.Ytodffnchcbapcaa.Pure
open Go.RowKit Go.Proofs.Ytodffnchcbapcaa.PWireOrder Go.Proofs.YtodffnchcbapcaaW.PrintWords Go.Proofs.YtodffnchcbapcaaW.PrintLast

theorem Ev.eq {α : Type} {g : Nat → Option α} {r q : α} (h : Ev g r) (e : r = q) : Ev g q := e ▸ h
theorem wrap_next (i n : Nat) (h : i < n) (hn : n ≤ 9223372036854775807) : wrap64 ((i : Int) + 1) = ((i + 1 : Nat) : Int) := by unfold wrap64; omega
theorem wrap_in (x : Int) (h0 : -9223372036854775808 ≤ x) (h1 : x ≤ 9223372036854775807) : wrap64 x = x := by unfold wrap64; omega
/-! a socket's way: what is to go, what is on its way, what came there -/
structure Way where
  w : ByteArray
  q : ByteArray
  t : ByteArray
def Way.all (x : Way) : ByteArray := x.t ++ x.q ++ x.w
def Way.len (x : Way) : Nat := x.t.size + x.q.size + x.w.size
def pushW (x : Way) (s : ByteArray) : Way := ⟨x.w ++ s, x.q, x.t⟩
def pumpW (x : Way) : Way := ⟨x.w.extract (pumpN x.q x.w) x.w.size, x.q ++ x.w.extract 0 (pumpN x.q x.w), x.t⟩
def takeW (x : Way) (a : Int) : Way := if a ≤ 0 then x else ⟨x.w, x.q.extract (takeN x.q a) x.q.size, x.t ++ x.q.extract 0 (takeN x.q a)⟩
def tookW (x : Way) (a : Int) : ByteArray := if a ≤ 0 then (⟨#[]⟩ : ByteArray) else x.q.extract 0 (takeN x.q a)
theorem pumpN_le (y x : ByteArray) : pumpN y x ≤ x.size ∧ (y.size ≤ 8 → pumpN y x + y.size ≤ 8) := by unfold pumpN; omega
theorem takeN_le (y : ByteArray) (a : Int) : takeN y a ≤ y.size := by unfold takeN; omega
theorem cut_join (x : ByteArray) (n : Nat) (h : n ≤ x.size) : x.extract 0 n ++ x.extract n x.size = x := by
  rw [ByteArray.extract_append_extract, show min 0 n = 0 by omega, show max n x.size = x.size by omega, ByteArray.extract_zero_size]
theorem push_all (x : Way) (s : ByteArray) : (pushW x s).all = x.all ++ s := by
  show x.t ++ x.q ++ (x.w ++ s) = x.t ++ x.q ++ x.w ++ s
  exact ByteArray.append_assoc.symm
theorem pump_all (x : Way) : (pumpW x).all = x.all := by
  unfold Way.all pumpW
  dsimp only
  rw [← ByteArray.append_assoc, ByteArray.append_assoc (c := x.w.extract _ _), cut_join x.w _ (pumpN_le _ _).1]
theorem take_all (x : Way) (a : Int) : (takeW x a).all = x.all := by
  unfold takeW
  split
  · rfl
  · unfold Way.all
    dsimp only
    rw [ByteArray.append_assoc (a := x.t), cut_join x.q _ (takeN_le _ _)]
theorem all_size (x : Way) : x.all.size = x.len := by unfold Way.all Way.len; rw [ByteArray.size_append, ByteArray.size_append]
theorem push_len (x : Way) (s : ByteArray) : (pushW x s).len = x.len + s.size := by rw [← all_size, push_all, ByteArray.size_append, all_size]
theorem pump_len (x : Way) : (pumpW x).len = x.len := by rw [← all_size, pump_all, all_size]
theorem take_len (x : Way) (a : Int) : (takeW x a).len = x.len := by rw [← all_size, take_all, all_size]
theorem pump_q (x : Way) (_h : x.q.size ≤ 8) : (pumpW x).q.size = x.q.size + pumpN x.q x.w := by
  unfold pumpW; dsimp only
  rw [ByteArray.size_append, ByteArray.size_extract]
  have := (pumpN_le x.q x.w).1
  omega
theorem pump_t (x : Way) : (pumpW x).t = x.t := rfl
theorem push_t (x : Way) (s : ByteArray) : (pushW x s).t = x.t := rfl
theorem push_q (x : Way) (s : ByteArray) : (pushW x s).q = x.q := rfl
theorem take_q (x : Way) (a : Int) : (takeW x a).q.size ≤ x.q.size := by
  unfold takeW
  split
  · exact Nat.le_refl _
  · dsimp only
    rw [ByteArray.size_extract]; omega
theorem take_t (x : Way) (a : Int) : x.t.size ≤ (takeW x a).t.size := by
  unfold takeW
  split
  · exact Nat.le_refl _
  · dsimp only
    rw [ByteArray.size_append]; omega
theorem t_begin (x : Way) : x.all.extract 0 x.t.size = x.t := by
  unfold Way.all
  rw [ByteArray.append_assoc]
  exact ByteArray.extract_append_eq_left rfl
/-! three of them -/
structure W3 where
  a : Way
  b : Way
  c : Way
def W3.get (W : W3) (i : Int) : Way := if i = 0 then W.a else if i = 1 then W.b else W.c
def W3.put (W : W3) (i : Int) (x : Way) : W3 := if i = 0 then ⟨x, W.b, W.c⟩ else if i = 1 then ⟨W.a, x, W.c⟩ else ⟨W.a, W.b, x⟩
def inR (i : Int) : Prop := 0 ≤ i ∧ i ≤ 2
instance (i : Int) : Decidable (inR i) := inferInstanceAs (Decidable (_ ∧ _))
theorem cases3 {i : Int} (h : inR i) : i = 0 ∨ i = 1 ∨ i = 2 := by unfold inR at h; omega
theorem get_put (W : W3) (i : Int) (x : Way) : (W.put i x).get i = x := by
  unfold W3.put W3.get
  by_cases h0 : i = 0
  · rw [if_pos h0, if_pos h0]
  · rw [if_neg h0, if_neg h0]
    by_cases h1 : i = 1
    · rw [if_pos h1, if_pos h1]
    · rw [if_neg h1, if_neg h1]
theorem get_put_ne (W : W3) (i j : Int) (x : Way) (hi : inR i) (hj : inR j) (h : j ≠ i) : (W.put i x).get j = W.get j := by
  rcases cases3 hi with rfl | rfl | rfl <;> rcases cases3 hj with rfl | rfl | rfl <;> first | rfl | exact absurd rfl h
abbrev B9 := ByteArray × ByteArray × ByteArray × ByteArray × ByteArray × ByteArray × ByteArray × ByteArray × ByteArray
def tup (W : W3) : B9 := (W.a.w, W.a.q, W.a.t, W.b.w, W.b.q, W.b.t, W.c.w, W.c.q, W.c.t)
def zeroW : W3 := ⟨⟨⟨#[]⟩, ⟨#[]⟩, ⟨#[]⟩⟩, ⟨⟨#[]⟩, ⟨#[]⟩, ⟨#[]⟩⟩, ⟨⟨#[]⟩, ⟨#[]⟩, ⟨#[]⟩⟩⟩
theorem new_eq : wire_New.f = some (tup zeroW) := rfl
def pushS (W : W3) (i : Int) (s : ByteArray) : W3 := if inR i then W.put i (pushW (W.get i) s) else W
def pumpS (W : W3) (i : Int) : W3 := if inR i then W.put i (pumpW (W.get i)) else W
def takeS (W : W3) (i a : Int) : W3 := if inR i then W.put i (takeW (W.get i) a) else W
theorem push_eq (W : W3) (i : Int) (s : ByteArray) (h : inR i → (W.get i).w.size + s.size ≤ 9223372036854775807) :
    wire_Wire_Push.f W.a.w W.a.q W.a.t W.b.w W.b.q W.b.t W.c.w W.c.q W.c.t i s = some (decide (inR i), tup (pushS W i s)) := by
  unfold wire_Wire_Push.f pushS
  by_cases hi : inR i
  · rw [if_pos hi, decide_eq_true hi]
    have h := h hi
    rcases cases3 hi with rfl | rfl | rfl
    · rw [if_pos rfl]; exact (if_pos h).trans rfl
    · rw [if_neg (by decide), if_pos rfl]; exact (if_pos h).trans rfl
    · rw [if_neg (by decide), if_neg (by decide), if_pos rfl]; exact (if_pos h).trans rfl
  · rw [if_neg hi, decide_eq_false hi]
    unfold inR at hi
    rw [if_neg (by omega), if_neg (by omega), if_neg (by omega)]; rfl
theorem pump_eq (W : W3) (i : Int) (h : inR i → (W.get i).q.size ≤ 8) :
    wire_Wire_Pump.f W.a.w W.a.q W.a.t W.b.w W.b.q W.b.t W.c.w W.c.q W.c.t i = some (if inR i then (pumpN (W.get i).q (W.get i).w : Int) else 0, tup (pumpS W i)) := by
  unfold wire_Wire_Pump.f pumpS
  by_cases hi : inR i
  · rw [if_pos hi, if_pos hi]
    have h := h hi
    rcases cases3 hi with rfl | rfl | rfl
    · rw [if_pos rfl]; exact (if_pos h).trans rfl
    · rw [if_neg (by decide), if_pos rfl]; exact (if_pos h).trans rfl
    · rw [if_neg (by decide), if_neg (by decide), if_pos rfl]; exact (if_pos h).trans rfl
  · rw [if_neg hi, if_neg hi]
    unfold inR at hi
    rw [if_neg (by omega), if_neg (by omega), if_neg (by omega)]; rfl
theorem take_eq (W : W3) (i a : Int) (h : inR i → (W.get i).t.size + (W.get i).q.size ≤ 9223372036854775807) :
    wire_Wire_Take.f W.a.w W.a.q W.a.t W.b.w W.b.q W.b.t W.c.w W.c.q W.c.t i a = some (if inR i then tookW (W.get i) a else (⟨#[]⟩ : ByteArray), tup (takeS W i a)) := by
  unfold wire_Wire_Take.f takeS tookW takeW
  by_cases hi : inR i
  · rw [if_pos hi, if_pos hi]
    have h := h hi
    have hle := takeN_le (W.get i).q a
    by_cases ha : a ≤ 0
    · rw [if_pos ha, if_pos ha, if_pos ha, if_pos ha, if_pos ha]
      rcases cases3 hi with rfl | rfl | rfl
      · rw [if_pos rfl]; rfl
      · rw [if_neg (by decide), if_pos rfl]; rfl
      · rw [if_neg (by decide), if_neg (by decide), if_pos rfl]; rfl
    · rw [if_neg ha, if_neg ha, if_neg ha, if_neg ha, if_neg ha]
      rcases cases3 hi with rfl | rfl | rfl
      · rw [if_pos rfl]; exact (if_pos (Nat.le_trans (Nat.add_le_add_left hle _) h)).trans rfl
      · rw [if_neg (by decide), if_pos rfl]; exact (if_pos (Nat.le_trans (Nat.add_le_add_left hle _) h)).trans rfl
      · rw [if_neg (by decide), if_neg (by decide), if_pos rfl]; exact (if_pos (Nat.le_trans (Nat.add_le_add_left hle _) h)).trans rfl
  · rw [if_neg hi, if_neg hi]
    unfold inR at hi
    rw [if_neg (by omega), if_neg (by omega), if_neg (by omega)]; rfl
theorem trace_eq (W : W3) (i : Int) :
    wire_Wire_Trace.f W.a.w W.a.q W.a.t W.b.w W.b.q W.b.t W.c.w W.c.q W.c.t i = some (if inR i then (W.get i).t else (⟨#[]⟩ : ByteArray), tup W) := by
  unfold wire_Wire_Trace.f
  by_cases hi : inR i
  · rw [if_pos hi]
    rcases cases3 hi with rfl | rfl | rfl
    · rw [if_pos rfl]; rfl
    · rw [if_neg (by decide), if_pos rfl]; rfl
    · rw [if_neg (by decide), if_neg (by decide), if_pos rfl]; rfl
  · rw [if_neg hi]
    unfold inR at hi
    rw [if_neg (by omega), if_neg (by omega), if_neg (by omega)]; rfl
theorem all_eq (W : W3) (i : Int) (h : inR i → (W.get i).len ≤ 9223372036854775807) :
    wire_Wire_All.f W.a.w W.a.q W.a.t W.b.w W.b.q W.b.t W.c.w W.c.q W.c.t i = some (if inR i then (W.get i).all else (⟨#[]⟩ : ByteArray), tup W) := by
  unfold wire_Wire_All.f
  by_cases hi : inR i
  · rw [if_pos hi]
    have h := h hi
    unfold Way.len at h
    rcases cases3 hi with rfl | rfl | rfl
    · rw [if_pos rfl]; exact (if_pos h).trans rfl
    · rw [if_neg (by decide), if_pos rfl]; exact (if_pos h).trans rfl
    · rw [if_neg (by decide), if_neg (by decide), if_pos rfl]; exact (if_pos h).trans rfl
  · rw [if_neg hi]
    unfold inR at hi
    rw [if_neg (by omega), if_neg (by omega), if_neg (by omega)]; rfl
theorem left_eq (W : W3) (i : Int) (h : inR i → (W.get i).len ≤ 9223372036854775807) :
    wire_Wire_Left.f W.a.w W.a.q W.a.t W.b.w W.b.q W.b.t W.c.w W.c.q W.c.t i = some (if inR i then ((W.get i).len : Int) - ((W.get i).t.size : Int) else 0, tup W) := by
  unfold wire_Wire_Left.f
  rw [all_eq W i h, Option.bind_some]
  show (wire_Wire_Trace.f W.a.w W.a.q W.a.t W.b.w W.b.q W.b.t W.c.w W.c.q W.c.t i).bind _ = _
  rw [trace_eq, Option.bind_some]
  by_cases hi : inR i
  · have h := h hi
    rw [if_pos hi, if_pos hi, if_pos hi]
    show some (wrap64 (((W.get i).all.size : Int) - ((W.get i).t.size : Int)), tup W) = _
    rw [all_size]
    have : (W.get i).t.size ≤ (W.get i).len := by unfold Way.len; omega
    rw [wrap_in _ (by omega) (by omega)]
  · rw [if_neg hi, if_neg hi, if_neg hi]
    show some (wrap64 (((⟨#[]⟩ : ByteArray).size : Int) - ((⟨#[]⟩ : ByteArray).size : Int)), tup W) = _
    rw [show wrap64 (((⟨#[]⟩ : ByteArray).size : Int) - ((⟨#[]⟩ : ByteArray).size : Int)) = 0 by rw [Int.sub_self]; exact wrap_in 0 (by decide) (by decide)]
theorem is_eq (i : Int) : countermandref06_Is.f i = some (decide (inR i)) := by
  unfold countermandref06_Is.f
  by_cases h : i ≥ 0
  · rw [if_pos h]
    by_cases h2 : i ≤ 2
    · rw [decide_eq_true h2, decide_eq_true (show inR i from ⟨h, h2⟩)]
    · rw [decide_eq_false h2, decide_eq_false (show ¬ inR i from fun q => h2 q.2)]
  · rw [if_neg h, decide_eq_false (show ¬ inR i from fun q => h q.1)]
theorem alive_eq : countermandlaw06_alive.f = some true := by decide +kernel
--END wire
/-! a script's bytes -/
def tot : List S29 → Nat
  | [] => 0
  | x :: r => x.f2.size + tot r
theorem rd_at {l : List S29} {i : Nat} {x : S29} {r : List S29} (h : l.drop i = x :: r) : rd_T29 l (i : Int) = x ∧ i < l.length ∧ l.drop (i + 1) = r := by
  have hi : i < l.length := by
    rcases Nat.lt_or_ge i l.length with h' | h'
    · exact h'
    · rw [List.drop_eq_nil_of_le h'] at h; cases h
  rw [List.drop_eq_getElem_cons hi] at h
  injection h with h1 h2
  refine ⟨?_, hi, h2⟩
  unfold rd_T29
  rw [Int.toNat_natCast, List.getD_eq_getElem?_getD, List.getElem?_eq_getElem hi]
  exact h1
theorem drop_end {l : List S29} {i : Nat} (h : l.drop i = []) (hi : i ≤ l.length) : i = l.length := by
  have := List.drop_eq_nil_iff.1 h
  omega
theorem great_loop (l : List S29) (hl : l.length ≤ 80) : ∀ (r : List S29) (i n : Nat), l.drop i = r → i ≤ l.length → n ≤ 2048 →
    ∃ b, Ev (fun k => countermandlaw06_great.l0 k (n : Int) l (l.length : Int) (i : Int)) b ∧ (b = false → n + tot r ≤ 2048)
  | [], i, n, h, hi, hn => by
    have hi' := drop_end h hi
    refine ⟨false, Ev.step (f := fun _ => some false) (fun k => ?_) (Ev.now _), fun _ => by simpa [tot] using hn⟩
    rw [countermandlaw06_great.l0, if_neg (by omega)]
  | x :: r, i, n, h, hi, hn => by
    obtain ⟨hx, hlt, hr⟩ := rd_at h
    have hw := wrap_next i l.length hlt (by omega)
    by_cases h1 : (x.f2.size : Int) > 2048
    · refine ⟨true, Ev.step (f := fun _ => some true) (fun k => ?_) (Ev.now _), fun e => by cases e⟩
      rw [countermandlaw06_great.l0, if_pos (by omega), if_pos (by omega), if_pos (by omega), hx, if_pos h1]
    have e : wrap64 ((n : Int) + (x.f2.size : Int)) = ((n + x.f2.size : Nat) : Int) := by rw [wrap_in _ (by omega) (by omega)]; omega
    by_cases h2 : ((n + x.f2.size : Nat) : Int) > 2048
    · refine ⟨true, Ev.step (f := fun _ => some true) (fun k => ?_) (Ev.now _), fun e => by cases e⟩
      rw [countermandlaw06_great.l0, if_pos (by omega), if_pos (by omega), if_pos (by omega), hx, if_neg h1, e, if_pos h2]
    obtain ⟨b, hb, ht⟩ := great_loop l hl r (i + 1) (n + x.f2.size) hr (by omega) (by omega)
    refine ⟨b, Ev.step (fun k => ?_) hb, fun q => by have := ht q; simp only [tot]; omega⟩
    rw [countermandlaw06_great.l0, if_pos (by omega), if_pos (by omega), if_pos (by omega), hx, if_neg h1, e, if_neg h2, hw]
theorem great_ev (l : List S29) : ∃ b, Ev (fun k => countermandlaw06_great.f k l) b ∧ (b = false → l.length ≤ 80 ∧ tot l ≤ 2048) := by
  by_cases h : (l.length : Int) > 80
  · refine ⟨true, Ev.congr (fun k => ?_) (Ev.now _), fun e => by cases e⟩
    unfold countermandlaw06_great.f
    rw [if_pos h]
  · obtain ⟨b, hb, ht⟩ := great_loop l (by omega) l 0 0 rfl (by omega) (by omega)
    refine ⟨b, Ev.congr (fun k => ?_) hb, fun e => ⟨by omega, by have := ht e; omega⟩⟩
    unfold countermandlaw06_great.f
    rw [if_neg h]
    rfl
/-! what can be: few bytes, no more than eight on their way -/
def Good (W : W3) (N : Nat) : Prop := ∀ i, inR i → (W.get i).len ≤ N ∧ (W.get i).q.size ≤ 8
theorem good_put {W : W3} {N M : Nat} (h : Good W N) (hm : N ≤ M) (i : Int) (hi : inR i) (x : Way) (h1 : x.len ≤ M) (h2 : x.q.size ≤ 8) : Good (W.put i x) M := by
  intro j hj
  by_cases e : j = i
  · subst e; rw [get_put]; exact ⟨h1, h2⟩
  · rw [get_put_ne W i j x hi hj e]
    have := h j hj
    omega
theorem good_mono {W : W3} {N M : Nat} (h : Good W N) (hm : N ≤ M) : Good W M := fun i hi => ⟨Nat.le_trans (h i hi).1 hm, (h i hi).2⟩
theorem good_zero : Good zeroW 0 := by
  intro i hi
  rcases cases3 hi with rfl | rfl | rfl <;> exact ⟨Nat.le_refl _, Nat.zero_le _⟩
theorem good_push {W : W3} {N : Nat} (h : Good W N) (i : Int) (s : ByteArray) : Good (pushS W i s) (N + s.size) := by
  unfold pushS
  by_cases hi : inR i
  · rw [if_pos hi]
    exact good_put h (by omega) i hi _ (by rw [push_len]; have := (h i hi).1; omega) (by rw [push_q]; exact (h i hi).2)
  · rw [if_neg hi]; exact good_mono h (by omega)
theorem good_pump {W : W3} {N : Nat} (h : Good W N) (i : Int) : Good (pumpS W i) N := by
  unfold pumpS
  by_cases hi : inR i
  · rw [if_pos hi]
    refine good_put h (Nat.le_refl _) i hi _ (by rw [pump_len]; exact (h i hi).1) ?_
    rw [pump_q _ (h i hi).2]
    have := (pumpN_le (W.get i).q (W.get i).w).2 (h i hi).2
    omega
  · rw [if_neg hi]; exact h
theorem good_take {W : W3} {N : Nat} (h : Good W N) (i a : Int) : Good (takeS W i a) N := by
  unfold takeS
  by_cases hi : inR i
  · rw [if_pos hi]
    exact good_put h (Nat.le_refl _) i hi _ (by rw [take_len]; exact (h i hi).1) (Nat.le_trans (take_q _ _) (h i hi).2)
  · rw [if_neg hi]; exact h
theorem get_push (W : W3) (i j : Int) (s : ByteArray) (hj : inR j) : (pushS W i s).get j = if i = j then pushW (W.get j) s else W.get j := by
  unfold pushS
  by_cases hi : inR i
  · rw [if_pos hi]
    by_cases e : i = j
    · subst e; rw [get_put, if_pos rfl]
    · rw [get_put_ne W i j _ hi hj (fun q => e q.symm), if_neg e]
  · rw [if_neg hi, if_neg (show ¬ i = j from fun e => hi (by rw [e]; exact hj))]
theorem get_pump (W : W3) (i j : Int) (hj : inR j) : (pumpS W i).get j = if i = j then pumpW (W.get j) else W.get j := by
  unfold pumpS
  by_cases hi : inR i
  · rw [if_pos hi]
    by_cases e : i = j
    · subst e; rw [get_put, if_pos rfl]
    · rw [get_put_ne W i j _ hi hj (fun q => e q.symm), if_neg e]
  · rw [if_neg hi, if_neg (show ¬ i = j from fun e => hi (by rw [e]; exact hj))]
theorem get_take (W : W3) (i j a : Int) (hj : inR j) : (takeS W i a).get j = if i = j then takeW (W.get j) a else W.get j := by
  unfold takeS
  by_cases hi : inR i
  · rw [if_pos hi]
    by_cases e : i = j
    · subst e; rw [get_put, if_pos rfl]
    · rw [get_put_ne W i j _ hi hj (fun q => e q.symm), if_neg e]
  · rw [if_neg hi, if_neg (show ¬ i = j from fun e => hi (by rw [e]; exact hj))]
--END script

theorem order_j2 (l : List S29) (i : Int) (hi : inR i) (j : Nat) (W : W3) (all : ByteArray) (came N : Nat) (hg : Good W N) (hN : N ≤ 2048) (ha : (W.get i).all = all) (hc : came ≤ (W.get i).t.size) (hj : j < l.length) (hl : l.length ≤ 80)
    (ih : Ev (fun k => countermandlaw06_WireOrder.l0 k i all ((W.get i).t.size : Int) l (l.length : Int) ((j + 1 : Nat) : Int) W.a.w W.a.q W.a.t W.b.w W.b.q W.b.t W.c.w W.c.q W.c.t) true) :
    Ev (fun k => countermandlaw06_WireOrder.j2 k i all (came : Int) l (l.length : Int) (j : Int) W.a.w W.a.q W.a.t W.b.w W.b.q W.b.t W.c.w W.c.q W.c.t) true := by
  refine Ev.step (fun k => ?_) ih
  have hl2 := (hg i hi).1
  have hs : (W.get i).t.size ≤ all.size := by
    rw [← ha, all_size]; unfold Way.len; omega
  rw [countermandlaw06_WireOrder.j2, trace_eq, Option.bind_some, if_pos hi]
  show ((wire_Wire_All.f W.a.w W.a.q W.a.t W.b.w W.b.q W.b.t W.c.w W.c.q W.c.t i).bind _) = _
  rw [all_eq W i (fun _ => by omega), Option.bind_some, if_pos hi, ha]
  show (if all.toList = all.toList then (if ((W.get i).t.size : Int) < (came : Int) then _ else (if 0 ≤ ((W.get i).t.size : Int) then (if ((W.get i).t.size : Int) ≤ (all.size : Int) then (if (W.get i).t.toList = (all.extract 0 (W.get i).t.size).toList then _ else _) else _) else _)) else _) = _
  have hb : all.extract 0 (W.get i).t.size = (W.get i).t := by rw [← ha]; exact t_begin _
  rw [if_pos rfl, if_neg (by omega), if_pos (by omega), if_pos (by omega), hb, if_pos rfl, wrap_next j l.length hj (by omega)]
  rfl
theorem order_ev (l : List S29) (hl : l.length ≤ 80) (i : Int) (hi : inR i) : ∀ (r : List S29) (j : Nat) (W : W3) (all : ByteArray) (came N : Nat), l.drop j = r → j ≤ l.length → Good W N → N + tot r ≤ 2048 → all.size ≤ N → (W.get i).all = all → came ≤ (W.get i).t.size →
    Ev (fun k => countermandlaw06_WireOrder.l0 k i all (came : Int) l (l.length : Int) (j : Int) W.a.w W.a.q W.a.t W.b.w W.b.q W.b.t W.c.w W.c.q W.c.t) true
  | [], j, W, all, came, N, h, hj, hg, ht, has, ha, hc => by
    have hj' := drop_end h hj
    refine Ev.step (f := fun _ => some true) (fun k => ?_) (Ev.now _)
    rw [countermandlaw06_WireOrder.l0, if_neg (by omega)]
  | x :: r, j, W, all, came, N, h, hj, hg, ht, has, ha, hc => by
    obtain ⟨hx, hlt, hr⟩ := rd_at h
    simp only [tot] at ht
    have go : ∀ (W' : W3) (all' : ByteArray) (N' : Nat), Good W' N' → N' + tot r ≤ 2048 → all'.size ≤ N' → (W'.get i).all = all' → came ≤ (W'.get i).t.size →
        Ev (fun k => countermandlaw06_WireOrder.j2 k i all' (came : Int) l (l.length : Int) (j : Int) W'.a.w W'.a.q W'.a.t W'.b.w W'.b.q W'.b.t W'.c.w W'.c.q W'.c.t) true := by
      intro W' all' N' hg' ht' has' ha' hc'
      exact order_j2 l i hi j W' all' came N' hg' (by omega) ha' hc' hlt hl (order_ev l hl i hi r (j + 1) W' all' (W'.get i).t.size N' hr (by omega) hg' ht' has' ha' (Nat.le_refl _))
    by_cases h0 : x.f0 = 0
    · have hp : wire_Wire_Push.f W.a.w W.a.q W.a.t W.b.w W.b.q W.b.t W.c.w W.c.q W.c.t x.f1 x.f2 = some (decide (inR x.f1), tup (pushS W x.f1 x.f2)) := push_eq W x.f1 x.f2 (fun h => by
        have := (hg x.f1 h).1
        unfold Way.len at this; omega)
      have hg' := good_push hg x.f1 x.f2
      have hgt := get_push W x.f1 i x.f2 hi
      by_cases e : x.f1 = i
      · rw [if_pos e] at hgt
        refine Ev.step (fun k => ?_) (go (pushS W x.f1 x.f2) (all ++ x.f2) (N + x.f2.size) hg' (by omega) (by rw [ByteArray.size_append]; omega) (by rw [hgt, push_all, ha]) (by rw [hgt, push_t]; exact hc))
        rw [countermandlaw06_WireOrder.l0, if_pos (by omega), if_pos (by omega), if_pos (by omega), hx, if_pos h0, hp, Option.bind_some, if_pos e, if_pos (by omega)]
        rfl
      · rw [if_neg e] at hgt
        refine Ev.step (fun k => ?_) (go (pushS W x.f1 x.f2) all (N + x.f2.size) hg' (by omega) (by omega) (by rw [hgt, ha]) (by rw [hgt]; exact hc))
        rw [countermandlaw06_WireOrder.l0, if_pos (by omega), if_pos (by omega), if_pos (by omega), hx, if_pos h0, hp, Option.bind_some, if_neg e]
        rfl
    by_cases h1 : x.f0 = 1
    · have hp := pump_eq W x.f1 (fun h => (hg x.f1 h).2)
      have hgt := get_pump W x.f1 i hi
      refine Ev.step (fun k => ?_) (go (pumpS W x.f1) all N (good_pump hg x.f1) (by omega) has (by
        rw [hgt]; split
        · rw [pump_all, ha]
        · exact ha) (by
        rw [hgt]; split
        · rw [pump_t]; exact hc
        · exact hc))
      rw [countermandlaw06_WireOrder.l0, if_pos (by omega), if_pos (by omega), if_pos (by omega), hx, if_neg h0, if_pos h1, hp, Option.bind_some]
      rfl
    by_cases h2 : x.f0 = 2
    · have hp := take_eq W x.f1 x.f3 (fun h => by
        have := (hg x.f1 h).1
        unfold Way.len at this; omega)
      have hgt := get_take W x.f1 i x.f3 hi
      refine Ev.step (fun k => ?_) (go (takeS W x.f1 x.f3) all N (good_take hg x.f1 x.f3) (by omega) has (by
        rw [hgt]; split
        · rw [take_all, ha]
        · exact ha) (by
        rw [hgt]; split
        · exact Nat.le_trans hc (take_t _ _)
        · exact hc))
      rw [countermandlaw06_WireOrder.l0, if_pos (by omega), if_pos (by omega), if_pos (by omega), hx, if_neg h0, if_neg h1, if_pos h2, hp, Option.bind_some]
      rfl
    · refine Ev.step (fun k => ?_) (go W all N hg (by omega) has ha hc)
      rw [countermandlaw06_WireOrder.l0, if_pos (by omega), if_pos (by omega), if_pos (by omega), hx, if_neg h0, if_neg h1, if_neg h2]
theorem WireOrder : countermandlaw06_WireOrder.Pure := by
  intro l i _ _ _
  apply Ev.rounds
  unfold countermandlaw06_WireOrder.f
  have jt : Ev (fun k => countermandlaw06_WireOrder.j0 k l i true) true :=
    Ev.step (f := fun _ => some true) (fun k => by rw [countermandlaw06_WireOrder.j0, if_pos rfl]) (Ev.now _)
  refine Ev.congr (fun k => by rw [alive_eq, Option.bind_some, if_pos rfl]) ?_
  obtain ⟨b, hb, hf⟩ := great_ev l
  refine Ev.bind hb ?_
  cases b
  · obtain ⟨hl, ht⟩ := hf rfl
    refine Ev.congr (fun k => by rw [if_neg (by decide), is_eq, Option.bind_some]) ?_
    by_cases hi : inR i
    · rw [decide_eq_true hi]
      have z : zeroW.get i = ⟨⟨#[]⟩, ⟨#[]⟩, ⟨#[]⟩⟩ := by
        rcases cases3 hi with rfl | rfl | rfl <;> rfl
      refine Ev.step (fun k => ?_) (order_ev l hl i hi l 0 zeroW (⟨#[]⟩ : ByteArray) 0 0 rfl (by omega) good_zero (by omega) (Nat.le_refl _) (by rw [z]; rfl) (Nat.zero_le _))
      rw [countermandlaw06_WireOrder.j0, if_neg (by decide), new_eq, Option.bind_some]
      rfl
    · rw [decide_eq_false hi]; exact jt
  · exact Ev.congr (fun k => if_pos rfl) jt

end Go.Proofs.Ytodffnchcbapcaa.Pure
