/- Proved: a byte that was put is there, and no other one is changed, bytes between are noughts; no condition beyond the statement's own bounds. -/
import Derived.Test.YtfimbmdbaaiemaaPFilePutsx2
import Derived.Lib.Strings
import Derived.OpenShut
namespace Go.Proofs.Ytfimbmdbaaiemaa.Pure
open Go.RowKit Go.Proofs.Ytfimbmdbaaiemaa.PFilePuts Go.Proofs.YtfimbmdbaaiemaaW.PrintWords Go.Proofs.YtfimbmdbaaiemaaW.PrintLast

theorem wrap_next (i n : Nat) (h : i < n) (hn : n ≤ 9223372036854775807) : wrap64 ((i : Int) + 1) = ((i + 1 : Nat) : Int) := by unfold wrap64; omega
theorem wrap_in (x : Int) (h0 : -9223372036854775808 ≤ x) (h1 : x ≤ 9223372036854775807) : wrap64 x = x := by unfold wrap64; omega
theorem ba_ext {a b : ByteArray} (h : a.data.toList = b.data.toList) : a = b := by
  cases a; cases b; simp at h; rw [h]
theorem bt_get (s : ByteArray) (i : Nat) (h : i < s.size) : bt s (i : Int) = (((s.data.toList[i]'(by rw [data_length]; exact h)).toNat : Nat) : Int) := by
  unfold bt
  rw [dif_pos (show ((i : Int)).toNat < s.size by rw [Int.toNat_natCast]; exact h)]
  simp only [Int.toNat_natCast, Array.getElem_toList]
  rfl
theorem u8_back (b : Int) (h0 : 0 ≤ b) (h1 : b ≤ 255) : (((UInt8.ofNat b.toNat).toNat : Nat) : Int) = b := by
  rw [UInt8.toNat_ofNat']; omega
/-- one byte put, noughts between -/
def putB (l : List UInt8) (p : Nat) (b : UInt8) : List UInt8 := (l ++ List.replicate (p + 1 - l.length) 0).set p b
theorem putB_length (l : List UInt8) (p : Nat) (b : UInt8) : (putB l p b).length = max l.length (p + 1) := by
  unfold putB; rw [List.length_set, List.length_append, List.length_replicate]; omega
theorem putB_get (l : List UInt8) (p : Nat) (b : UInt8) (j : Nat) : (putB l p b)[j]? = if j = p then some b else if j < l.length then l[j]? else if j < p then some 0 else none := by
  unfold putB
  by_cases h : j = p
  · subst h
    rw [if_pos rfl, List.getElem?_set_self (by rw [List.length_append, List.length_replicate]; omega)]
  · rw [if_neg h, List.getElem?_set_ne (fun e => h e.symm)]
    by_cases h2 : j < l.length
    · rw [if_pos h2, List.getElem?_append_left h2]
    · rw [if_neg h2, List.getElem?_append_right (by omega), List.getElem?_replicate]
      by_cases h3 : j < p
      · rw [if_pos h3, if_pos (by omega)]
      · rw [if_neg h3, if_neg (by omega)]
theorem putL_data (s : ByteArray) (p : Nat) (b : Int) : (strOfNums (putL s p b)).data.toList = putB s.data.toList p (UInt8.ofNat b.toNat) := by
  rw [strOfNums_data]
  unfold putL putB Held.bytesI
  rw [List.map_set, List.map_append, List.map_map, List.map_replicate, data_length]
  congr 2
  have : ((fun n : Int => UInt8.ofNat n.toNat) ∘ fun b : UInt8 => (b.toNat : Int)) = id := by
    funext x
    simp
  rw [this, List.map_id]
def atB (l : List UInt8) (x : Int) : Int := if x < 0 then -1 else match l[x.toNat]? with | some b => (b.toNat : Int) | none => -1
theorem at_eq (b : Bool) (s : ByteArray) (x : Int) : file_At.f b s x = some (atB s.data.toList x) := by
  unfold file_At.f atB
  by_cases h : x < 0
  · rw [if_pos h, if_pos h]
  · rw [if_neg h, if_neg h]
    obtain ⟨n, rfl⟩ : ∃ n : Nat, x = (n : Int) := ⟨x.toNat, by omega⟩
    rw [Int.toNat_natCast]
    by_cases h2 : (n : Int) ≥ (s.size : Int)
    · rw [if_pos h2, List.getElem?_eq_none (by rw [data_length]; omega)]
    · rw [if_neg h2, if_pos (by omega), if_pos (by omega), List.getElem?_eq_getElem (by rw [data_length]; omega), bt_get s n (by omega)]
      have := (s.data.toList[n]'(by rw [data_length]; omega)).toNat_lt
      rw [wrap_in _ (by omega) (by omega)]
theorem put_eq (b : Bool) (s : ByteArray) (p : Nat) (x : Int) (hp : p < 32) (hs : s.size ≤ 1099511627776) : file_Put.f b s (p : Int) x = some (true, strOfNums (putL s p x)) := by
  unfold file_Put.f
  rw [if_neg (by omega), if_neg (by omega), if_pos hs, Int.toNat_natCast]
theorem alive_ok : countermandlaw09_alive.f = some true := by decide +kernel
theorem good_ok (b : Bool) (s : ByteArray) : ∃ r, file_Good.f b s = some r ∧ (r = true → s.size ≤ 32) := by
  unfold file_Good.f
  by_cases h : (s.size : Int) ≤ 32
  · rw [if_pos h]
    by_cases h2 : b = true
    · rw [if_pos h2]; exact ⟨_, rfl, fun _ => by omega⟩
    · rw [if_neg h2]; exact ⟨_, rfl, fun _ => by omega⟩
  · rw [if_neg h]; exact ⟨_, rfl, fun h => by cases h⟩
theorem puts_eq (l : List UInt8) (p : Nat) (b : UInt8) (x : Int) (hx : x ≠ (p : Int)) : atB l x = atB (putB l p b) x ∨ (atB l x = -1 ∧ atB (putB l p b) x = 0 ∧ x ≥ (l.length : Int) ∧ x < (p : Int)) := by
  unfold atB
  by_cases h : x < 0
  · rw [if_pos h, if_pos h]; exact .inl rfl
  · rw [if_neg h, if_neg h, putB_get, if_neg (by omega)]
    by_cases h2 : x.toNat < l.length
    · rw [if_pos h2]; exact .inl rfl
    · rw [if_neg h2, List.getElem?_eq_none (by omega)]
      by_cases h3 : x.toNat < p
      · rw [if_pos h3]; exact .inr ⟨rfl, rfl, by omega, by omega⟩
      · rw [if_neg h3]; exact .inl rfl
theorem j0_true (x1 x2 x3 : Int) (b : Bool) (s : ByteArray) : countermandlaw09_FilePuts.j0 1 x1 x2 x3 true b s = some true := by
  rw [countermandlaw09_FilePuts.j0]
  rw [if_pos rfl]
theorem j0_ok (p : Nat) (x2 x3 : Int) (b : Bool) (s : ByteArray) (hp : p < 32) (hs : s.size ≤ 32) (h2 : (Lit.int .u8 x2).wf = true) : countermandlaw09_FilePuts.j0 1 (p : Int) x2 x3 false b s = some true := by
  rw [countermandlaw09_FilePuts.j0]
  have hb := bounds_u8 h2
  rw [if_neg (by decide), put_eq b s p x2 hp (by omega), Option.bind_some, at_eq, Option.bind_some, at_eq, Option.bind_some, at_eq, Option.bind_some, putL_data]
  have e1 : atB (putB s.data.toList p (UInt8.ofNat x2.toNat)) (p : Int) = x2 := by
    unfold atB
    rw [if_neg (by omega), putB_get, Int.toNat_natCast, if_pos rfl]
    exact u8_back x2 hb.1 hb.2
  have e2 : (((strOfNums (putL s p x2)).size : Nat) : Int) = mx (s.size : Int) (wrap64 ((p : Int) + 1)) := by
    rw [← data_length, putL_data, putB_length, data_length, wrap_next p 32 hp (by omega)]
    unfold mx
    split <;> omega
  rw [e1, wrap_in x2 (by omega) (by omega), if_pos rfl, if_pos e2]
  by_cases h3 : x3 = (p : Int)
  · rw [if_pos h3]
  · rw [if_neg h3]
    rcases puts_eq s.data.toList p (UInt8.ofNat x2.toNat) x3 h3 with h | ⟨h, h', h4, h5⟩
    · rw [if_pos h]
    · rw [data_length] at h4
      rw [h, h', if_neg (by decide), if_pos rfl, if_pos rfl, if_pos h4]
      simp [h5]
theorem FilePuts : countermandlaw09_FilePuts.Pure := by
  intro b s a1 a2 a3 hs h1 h2 h3
  refine ⟨1, ?_⟩
  unfold countermandlaw09_FilePuts.f
  rw [alive_ok, Option.bind_some, if_pos rfl]
  obtain ⟨r, hr, hl⟩ := good_ok b s
  rw [hr, Option.bind_some]
  by_cases h : r = true
  · rw [if_pos h]
    by_cases h4 : a1 < 0
    · rw [if_pos h4]; exact j0_true _ _ _ _ _
    · rw [if_neg h4]
      by_cases h5 : a1 > 31
      · rw [decide_eq_true h5]; exact j0_true _ _ _ _ _
      · rw [decide_eq_false h5]
        obtain ⟨p, rfl⟩ : ∃ p : Nat, a1 = (p : Int) := ⟨a1.toNat, by omega⟩
        exact j0_ok p a2 a3 b s (by omega) (hl h) h2
  · rw [if_neg h]; exact j0_true _ _ _ _ _

end Go.Proofs.Ytfimbmdbaaiemaa.Pure
