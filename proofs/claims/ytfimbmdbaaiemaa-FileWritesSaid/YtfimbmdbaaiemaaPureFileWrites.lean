/- Proved: a text that is put byte by byte, from any beginning of it on, in an empty file, is there; no condition beyond the statement's own bounds. -/
import Derived.Test.YtfimbmdbaaiemaaPFileWritesx2
import Derived.Lib.Strings
import Derived.OpenShut
namespace Go.Proofs.Ytfimbmdbaaiemaa.Pure
open Go.RowKit Go.Proofs.Ytfimbmdbaaiemaa.PFileWrites Go.Proofs.YtfimbmdbaaiemaaW.PrintWords Go.Proofs.YtfimbmdbaaiemaaW.PrintLast

theorem wrap_next (i n : Nat) (h : i < n) (hn : n ≤ 9223372036854775807) : wrap64 ((i : Int) + 1) = ((i + 1 : Nat) : Int) := by unfold wrap64; omega
theorem wrap_in (x : Int) (h0 : -9223372036854775808 ≤ x) (h1 : x ≤ 9223372036854775807) : wrap64 x = x := by unfold wrap64; omega
theorem ba_ext {a b : ByteArray} (h : a.data.toList = b.data.toList) : a = b := by
  cases a; cases b; simp at h; rw [h]
theorem bt_get (s : ByteArray) (i : Nat) (h : i < s.size) : bt s (i : Int) = (((s.data.toList[i]'(by rw [data_length]; exact h)).toNat : Nat) : Int) := by
  unfold bt
  rw [dif_pos (show ((i : Int)).toNat < s.size by rw [Int.toNat_natCast]; exact h)]
  simp only [Int.toNat_natCast, Array.getElem_toList]
  rfl
theorem u8_back (b : Int) (h0 : 0 ≤ b) (h1 : b ≤ 255) : (((UInt8.ofNat b.toNat).toNat : Nat) : Int) = b := by
  rw [UInt8.toNat_ofNat']; omega
/-- one byte put, noughts between -/
def putB (l : List UInt8) (p : Nat) (b : UInt8) : List UInt8 := (l ++ List.replicate (p + 1 - l.length) 0).set p b
theorem putB_length (l : List UInt8) (p : Nat) (b : UInt8) : (putB l p b).length = max l.length (p + 1) := by
  unfold putB; rw [List.length_set, List.length_append, List.length_replicate]; omega
theorem putB_get (l : List UInt8) (p : Nat) (b : UInt8) (j : Nat) : (putB l p b)[j]? = if j = p then some b else if j < l.length then l[j]? else if j < p then some 0 else none := by
  unfold putB
  by_cases h : j = p
  · subst h
    rw [if_pos rfl, List.getElem?_set_self (by rw [List.length_append, List.length_replicate]; omega)]
  · rw [if_neg h, List.getElem?_set_ne (fun e => h e.symm)]
    by_cases h2 : j < l.length
    · rw [if_pos h2, List.getElem?_append_left h2]
    · rw [if_neg h2, List.getElem?_append_right (by omega), List.getElem?_replicate]
      by_cases h3 : j < p
      · rw [if_pos h3, if_pos (by omega)]
      · rw [if_neg h3, if_neg (by omega)]
theorem putL_data (s : ByteArray) (p : Nat) (b : Int) : (strOfNums (putL s p b)).data.toList = putB s.data.toList p (UInt8.ofNat b.toNat) := by
  rw [strOfNums_data]
  unfold putL putB Held.bytesI
  rw [List.map_set, List.map_append, List.map_map, List.map_replicate, data_length]
  congr 2
  have : ((fun n : Int => UInt8.ofNat n.toNat) ∘ fun b : UInt8 => (b.toNat : Int)) = id := by
    funext x
    simp
  rw [this, List.map_id]
def atB (l : List UInt8) (x : Int) : Int := if x < 0 then -1 else match l[x.toNat]? with | some b => (b.toNat : Int) | none => -1
theorem at_eq (b : Bool) (s : ByteArray) (x : Int) : file_At.f b s x = some (atB s.data.toList x) := by
  unfold file_At.f atB
  by_cases h : x < 0
  · rw [if_pos h, if_pos h]
  · rw [if_neg h, if_neg h]
    obtain ⟨n, rfl⟩ : ∃ n : Nat, x = (n : Int) := ⟨x.toNat, by omega⟩
    rw [Int.toNat_natCast]
    by_cases h2 : (n : Int) ≥ (s.size : Int)
    · rw [if_pos h2, List.getElem?_eq_none (by rw [data_length]; omega)]
    · rw [if_neg h2, if_pos (by omega), if_pos (by omega), List.getElem?_eq_getElem (by rw [data_length]; omega), bt_get s n (by omega)]
      have := (s.data.toList[n]'(by rw [data_length]; omega)).toNat_lt
      rw [wrap_in _ (by omega) (by omega)]
theorem put_eq (b : Bool) (s : ByteArray) (p : Nat) (x : Int) (hp : p < 32) (hs : s.size ≤ 1099511627776) : file_Put.f b s (p : Int) x = some (true, strOfNums (putL s p x)) := by
  unfold file_Put.f
  rw [if_neg (by omega), if_neg (by omega), if_pos hs, Int.toNat_natCast]
theorem alive_ok : countermandlaw09_alive.f = some true := by decide +kernel
/-- what is put so far: nothing but a beginning's bytes where told -/
def Inv (s t : ByteArray) (is : Bool) (P : Nat → Prop) : Prop := t.size ≤ s.size ∧ (is = true ∨ t.size = 0) ∧ (s.size = 0 → is = false) ∧ ∀ j, P j → j < s.size → t.data.toList[j]? = s.data.toList[j]?
theorem inv_put {s t : ByteArray} {is : Bool} {P : Nat → Prop} (h : Inv s t is P) (i : Nat) (hi : i < s.size) : Inv s (strOfNums (putL t i (bt s (i : Int)))) true (fun j => P j ∨ j = i) := by
  obtain ⟨h1, h2, h3, h4⟩ := h
  refine ⟨?_, .inl rfl, fun e => by omega, fun j hj hjs => ?_⟩
  · rw [← data_length (strOfNums _), putL_data, putB_length, data_length]; omega
  · rw [putL_data, putB_get]
    by_cases e : j = i
    · subst e
      rw [if_pos rfl, bt_get s j hjs, Int.toNat_natCast, UInt8.ofNat_toNat]
      exact (List.getElem?_eq_getElem _).symm
    · have hp : P j := by rcases hj with h | h; exact h; exact absurd h e
      have := h4 j hp hjs
      rw [List.getElem?_eq_getElem (l := s.data.toList) (by rw [data_length]; exact hjs)] at this
      have hl : j < t.data.toList.length := (List.getElem?_eq_some_iff.1 this).1
      rw [if_neg e, if_pos hl, this, List.getElem?_eq_getElem (l := s.data.toList) (by rw [data_length]; exact hjs)]
theorem inv_mono {s t : ByteArray} {is : Bool} {P P' : Nat → Prop} (h : Inv s t is P) (k : ∀ j, P' j → P j) : Inv s t is P' := ⟨h.1, h.2.1, h.2.2.1, fun j hj => h.2.2.2 j (k j hj)⟩
theorem seen_set (x : List Bool) (i j : Nat) (hi : i < x.length) : (x.set i true).getD j false = true ↔ (x.getD j false = true ∨ j = i) := by
  rw [List.getD_eq_getElem?_getD, List.getD_eq_getElem?_getD]
  by_cases e : j = i
  · subst e; rw [List.getElem?_set_self hi]; simp
  · rw [List.getElem?_set_ne (fun e' => e e'.symm)]; simp [e]
theorem l1_ev (s : ByteArray) (x : List Bool) (hx : x.length = s.size) (hs : s.size ≤ 32) : ∀ (d i : Nat) (is : Bool) (t : ByteArray), i + d = s.size → Inv s t is (fun j => x.getD j false = true ∨ j < i) → countermandlaw09_FileWrites.l1 (d + 1) s x (x.length : Int) (i : Int) is t = some true
  | 0, i, is, t, hi, h => by
    rw [countermandlaw09_FileWrites.l1]
    rw [if_neg (by omega)]
    obtain ⟨h1, h2, h3, h4⟩ := h
    have e : t = s := by
      apply ba_ext
      apply List.ext_getElem?
      intro j
      by_cases hj : j < s.size
      · exact h4 j (.inr (by omega)) hj
      · rw [List.getElem?_eq_none (by rw [data_length]; omega), List.getElem?_eq_none (by rw [data_length]; omega)]
    subst e
    rw [if_pos rfl]
    by_cases h0 : t.size = 0
    · have := h3 h0
      subst this
      have e0 : t.toList = [] := by rw [ByteArray.toList_eq]; exact List.eq_nil_of_length_eq_zero (by rw [data_length]; exact h0)
      rw [if_neg (by decide), if_pos e0]
    · have : is = true := by rcases h2 with h | h; exact h; exact absurd h h0
      have e0 : ¬ t.toList = ([] : List UInt8) := by
        rw [ByteArray.toList_eq]; intro e; have := data_length t; rw [e] at this; exact h0 this.symm
      rw [if_pos this, if_neg e0]
  | d + 1, i, is, t, hi, h => by
    rw [countermandlaw09_FileWrites.l1]
    rw [if_pos (by omega), if_pos (by omega), if_pos (by omega), wrap_next i 32 (by omega) (by omega)]
    have er : rdOf false x (i : Int) = x.getD i false := by unfold rdOf; rw [Int.toNat_natCast]
    rw [er]
    by_cases hb : x.getD i false = true
    · rw [if_pos hb]
      refine l1_ev s x hx hs d (i + 1) is t (by omega) (inv_mono h fun j hj => ?_)
      rcases hj with hj | hj
      · exact .inl hj
      · rcases Nat.lt_or_ge j i with h' | h'
        · exact .inr h'
        · have : j = i := by omega
          subst this; exact .inl hb
    · rw [if_neg hb, if_pos (by omega), put_eq is t i _ (by omega) (by have := h.1; omega), Option.bind_some]
      refine l1_ev s x hx hs d (i + 1) true _ (by omega) (inv_mono (inv_put h i (by omega)) fun j hj => ?_)
      rcases hj with hj | hj
      · exact .inl (.inl hj)
      · rcases Nat.lt_or_ge j i with h' | h'
        · exact .inl (.inr h')
        · exact .inr (by omega)
theorem l0_ev (s : ByteArray) (hs : s.size ≤ 32) (l : List Int) (hl : l.length ≤ 100) : ∀ (d i : Nat) (x : List Bool) (is : Bool) (t : ByteArray), i + d = l.length → x.length = s.size → Inv s t is (fun j => x.getD j false = true) → countermandlaw09_FileWrites.l0 (d + s.size + 2) s x l (l.length : Int) (i : Int) is t = some true
  | 0, i, x, is, t, hi, hx, h => by
    rw [show 0 + s.size + 2 = (s.size + 1) + 1 by omega, countermandlaw09_FileWrites.l0]
    rw [if_neg (by omega)]
    exact l1_ev s x hx hs s.size 0 is t (by omega) (inv_mono h fun j hj => by rcases hj with h | h; exact h; omega)
  | d + 1, i, x, is, t, hi, hx, h => by
    rw [show d + 1 + s.size + 2 = (d + s.size + 2) + 1 by omega, countermandlaw09_FileWrites.l0]
    rw [if_pos (by omega), if_pos (by omega), if_pos (by omega), wrap_next i 100 (by omega) (by omega)]
    generalize rd l (i : Int) = v
    by_cases h1 : v ≥ 0
    · rw [if_pos h1]
      by_cases h2 : v < (s.size : Int)
      · obtain ⟨n, rfl⟩ : ∃ n : Nat, v = (n : Int) := ⟨v.toNat, by omega⟩
        rw [if_pos h2, if_pos (by omega), put_eq is t n _ (by omega) (by have := h.1; omega), Option.bind_some, if_pos (by omega), Int.toNat_natCast]
        exact l0_ev s hs l hl d (i + 1) _ true _ (by omega) (by rw [List.length_set]; exact hx) (inv_mono (inv_put h n (by omega)) fun j hj => (seen_set x n j (by omega)).1 hj)
      · rw [if_neg h2]; exact l0_ev s hs l hl d (i + 1) x is t (by omega) hx h
    · rw [if_neg h1]; exact l0_ev s hs l hl d (i + 1) x is t (by omega) hx h
theorem FileWrites : countermandlaw09_FileWrites.Pure := by
  intro s l h1 h2 h3 h4
  refine ⟨l.length + s.size + 2 + 1, ?_⟩
  unfold countermandlaw09_FileWrites.f
  rw [alive_ok, Option.bind_some, if_pos rfl]
  by_cases h : (s.size : Int) > 32
  · rw [if_pos h, countermandlaw09_FileWrites.j0, if_pos rfl]
  · rw [if_neg h, countermandlaw09_FileWrites.j0]
    by_cases h5 : (l.length : Int) > 100
    · rw [if_pos (decide_eq_true h5)]
    · rw [if_neg (by simp; omega), if_pos (by omega), if_pos (by rw [Int.toNat_natCast]; omega), Int.toNat_natCast]
      refine l0_ev s (by omega) l (by omega) l.length 0 _ false _ (by omega) (by rw [List.length_replicate]) ⟨by show 0 ≤ _; omega, .inr rfl, fun _ => rfl, fun j hj _ => ?_⟩
      dsimp only at hj
      rw [List.getD_eq_getElem?_getD, List.getElem?_replicate] at hj
      split at hj <;> simp at hj

end Go.Proofs.Ytfimbmdbaaiemaa.Pure
