/- Proved: a file's bytes, told place by place, are its text; no condition beyond the statement's own bounds. -/
import Derived.Test.YtfimbmdbaaiemaaPFileTextx1
import Derived.Lib.Strings
import Derived.OpenShut
namespace Go.Proofs.Ytfimbmdbaaiemaa.Pure
open Go.RowKit Go.Proofs.Ytfimbmdbaaiemaa.PFileText Go.Proofs.YtfimbmdbaaiemaaW.PrintWords Go.Proofs.YtfimbmdbaaiemaaW.PrintLast

theorem wrap_next (i n : Nat) (h : i < n) (hn : n ≤ 9223372036854775807) : wrap64 ((i : Int) + 1) = ((i + 1 : Nat) : Int) := by unfold wrap64; omega
theorem wrap_in (x : Int) (h0 : -9223372036854775808 ≤ x) (h1 : x ≤ 9223372036854775807) : wrap64 x = x := by unfold wrap64; omega
theorem ba_ext {a b : ByteArray} (h : a.data.toList = b.data.toList) : a = b := by
  cases a; cases b; simp at h; rw [h]
theorem bt_get (s : ByteArray) (i : Nat) (h : i < s.size) : bt s (i : Int) = (((s.data.toList[i]'(by rw [data_length]; exact h)).toNat : Nat) : Int) := by
  unfold bt
  rw [dif_pos (show ((i : Int)).toNat < s.size by rw [Int.toNat_natCast]; exact h)]
  simp only [Int.toNat_natCast, Array.getElem_toList]
  rfl
theorem u8_back (b : Int) (h0 : 0 ≤ b) (h1 : b ≤ 255) : (((UInt8.ofNat b.toNat).toNat : Nat) : Int) = b := by
  rw [UInt8.toNat_ofNat']; omega
/-- one byte put, noughts between -/
def putB (l : List UInt8) (p : Nat) (b : UInt8) : List UInt8 := (l ++ List.replicate (p + 1 - l.length) 0).set p b
theorem putB_length (l : List UInt8) (p : Nat) (b : UInt8) : (putB l p b).length = max l.length (p + 1) := by
  unfold putB; rw [List.length_set, List.length_append, List.length_replicate]; omega
theorem putB_get (l : List UInt8) (p : Nat) (b : UInt8) (j : Nat) : (putB l p b)[j]? = if j = p then some b else if j < l.length then l[j]? else if j < p then some 0 else none := by
  unfold putB
  by_cases h : j = p
  · subst h
    rw [if_pos rfl, List.getElem?_set_self (by rw [List.length_append, List.length_replicate]; omega)]
  · rw [if_neg h, List.getElem?_set_ne (fun e => h e.symm)]
    by_cases h2 : j < l.length
    · rw [if_pos h2, List.getElem?_append_left h2]
    · rw [if_neg h2, List.getElem?_append_right (by omega), List.getElem?_replicate]
      by_cases h3 : j < p
      · rw [if_pos h3, if_pos (by omega)]
      · rw [if_neg h3, if_neg (by omega)]
theorem putL_data (s : ByteArray) (p : Nat) (b : Int) : (strOfNums (putL s p b)).data.toList = putB s.data.toList p (UInt8.ofNat b.toNat) := by
  rw [strOfNums_data]
  unfold putL putB Held.bytesI
  rw [List.map_set, List.map_append, List.map_map, List.map_replicate, data_length]
  congr 2
  have : ((fun n : Int => UInt8.ofNat n.toNat) ∘ fun b : UInt8 => (b.toNat : Int)) = id := by
    funext x
    simp
  rw [this, List.map_id]
def atB (l : List UInt8) (x : Int) : Int := if x < 0 then -1 else match l[x.toNat]? with | some b => (b.toNat : Int) | none => -1
theorem at_eq (b : Bool) (s : ByteArray) (x : Int) : file_At.f b s x = some (atB s.data.toList x) := by
  unfold file_At.f atB
  by_cases h : x < 0
  · rw [if_pos h, if_pos h]
  · rw [if_neg h, if_neg h]
    obtain ⟨n, rfl⟩ : ∃ n : Nat, x = (n : Int) := ⟨x.toNat, by omega⟩
    rw [Int.toNat_natCast]
    by_cases h2 : (n : Int) ≥ (s.size : Int)
    · rw [if_pos h2, List.getElem?_eq_none (by rw [data_length]; omega)]
    · rw [if_neg h2, if_pos (by omega), if_pos (by omega), List.getElem?_eq_getElem (by rw [data_length]; omega), bt_get s n (by omega)]
      have := (s.data.toList[n]'(by rw [data_length]; omega)).toNat_lt
      rw [wrap_in _ (by omega) (by omega)]
theorem put_eq (b : Bool) (s : ByteArray) (p : Nat) (x : Int) (hp : p < 32) (hs : s.size ≤ 1099511627776) : file_Put.f b s (p : Int) x = some (true, strOfNums (putL s p x)) := by
  unfold file_Put.f
  rw [if_neg (by omega), if_neg (by omega), if_pos hs, Int.toNat_natCast]
theorem alive_ok : countermandlaw09_alive.f = some true := by decide +kernel
theorem good_ok (b : Bool) (s : ByteArray) : ∃ r, file_Good.f b s = some r ∧ (r = true → s.size ≤ 32) := by
  unfold file_Good.f
  by_cases h : (s.size : Int) ≤ 32
  · rw [if_pos h]
    by_cases h2 : b = true
    · rw [if_pos h2]; exact ⟨_, rfl, fun _ => by omega⟩
    · rw [if_neg h2]; exact ⟨_, rfl, fun _ => by omega⟩
  · rw [if_neg h]; exact ⟨_, rfl, fun h => by cases h⟩
theorem loop_ev (b : Bool) (s : ByteArray) (hs : s.size ≤ 32) : ∀ (d i : Nat) (x : ByteArray), i + d = s.size → x.data.toList = s.data.toList.take i → countermandlaw09_FileText.l0 (d + 1) x (i : Int) b s = some true
  | 0, i, x, hi, hx => by
    have e : x = s := ba_ext (by rw [hx, List.take_of_length_le (by rw [data_length]; omega)])
    subst e
    rw [countermandlaw09_FileText.l0]
    simp only [at_eq, Option.bind_some]
    have h1 : atB x.data.toList (i : Int) = -1 := by
      unfold atB
      rw [if_neg (by omega), Int.toNat_natCast, List.getElem?_eq_none (by rw [data_length]; omega)]
    have h2 : atB x.data.toList (x.size : Int) = -1 := by
      unfold atB
      rw [if_neg (by omega), Int.toNat_natCast, List.getElem?_eq_none (by rw [data_length]; omega)]
    have h3 : atB x.data.toList (-1) = -1 := rfl
    rw [if_pos (by omega), h1, if_neg (by decide), if_pos trivial, h2, if_pos rfl, h3]
    rfl
  | d + 1, i, x, hi, hx => by
    rw [countermandlaw09_FileText.l0]
    simp only [at_eq, Option.bind_some]
    have hlt : i < s.data.toList.length := by rw [data_length]; omega
    have h1 : atB s.data.toList (i : Int) = ((s.data.toList[i]).toNat : Int) := by
      unfold atB
      rw [if_neg (by omega), Int.toNat_natCast, List.getElem?_eq_getElem hlt]
    have hb := (s.data.toList[i]).toNat_lt
    have hxs : x.size = i := by rw [← data_length, hx, List.length_take]; omega
    have h4 : (x ++ strOfNums [((s.data.toList[i]).toNat : Int) % 256]).data.toList = s.data.toList.take (i + 1) := by
      rw [ByteArray.data_append, Array.toList_append, hx, strOfNums_data, List.take_succ_eq_append_getElem hlt]
      congr 1
      simp only [List.map_cons, List.map_nil]
      congr 1
      rw [show ((((s.data.toList[i]).toNat : Nat) : Int) % 256).toNat = (s.data.toList[i]).toNat by omega]
      exact UInt8.ofNat_toNat
    rw [if_pos (by omega), h1, if_pos (by omega), if_pos (by rw [hxs, strOfNums_size]; simp; omega), wrap_next i 32 (by omega) (by omega)]
    exact loop_ev b s hs d (i + 1) _ (by omega) h4
theorem FileText : countermandlaw09_FileText.Pure := by
  intro b s hs
  unfold countermandlaw09_FileText.f
  obtain ⟨r, hr, hl⟩ := good_ok b s
  refine ⟨s.size + 1, ?_⟩
  rw [alive_ok, Option.bind_some, if_pos rfl, hr, Option.bind_some]
  by_cases h : r = true
  · rw [if_pos h]
    exact loop_ev b s (hl h) s.size 0 _ (by omega) (by rfl)
  · rw [if_neg h]

end Go.Proofs.Ytfimbmdbaaiemaa.Pure
