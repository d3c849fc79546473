/- Proved: cut twice, to one size and to a lesser one, is cut to the lesser one, and a file that is cut to its own size stays as it is; no condition beyond the statement's own bounds. -/
import Derived.Test.YtfimbmdbaaiemaaPFileCutsx3
import Derived.Lib.Strings
import Derived.OpenShut
namespace Go.Proofs.Ytfimbmdbaaiemaa.Pure
open Go.RowKit Go.Proofs.Ytfimbmdbaaiemaa.PFileCuts Go.Proofs.YtfimbmdbaaiemaaW.PrintWords Go.Proofs.YtfimbmdbaaiemaaW.PrintLast

theorem wrap_next (i n : Nat) (h : i < n) (hn : n ≤ 9223372036854775807) : wrap64 ((i : Int) + 1) = ((i + 1 : Nat) : Int) := by unfold wrap64; omega
theorem wrap_in (x : Int) (h0 : -9223372036854775808 ≤ x) (h1 : x ≤ 9223372036854775807) : wrap64 x = x := by unfold wrap64; omega
theorem ba_ext {a b : ByteArray} (h : a.data.toList = b.data.toList) : a = b := by
  cases a; cases b; simp at h; rw [h]
theorem bt_get (s : ByteArray) (i : Nat) (h : i < s.size) : bt s (i : Int) = (((s.data.toList[i]'(by rw [data_length]; exact h)).toNat : Nat) : Int) := by
  unfold bt
  rw [dif_pos (show ((i : Int)).toNat < s.size by rw [Int.toNat_natCast]; exact h)]
  simp only [Int.toNat_natCast, Array.getElem_toList]
  rfl
theorem u8_back (b : Int) (h0 : 0 ≤ b) (h1 : b ≤ 255) : (((UInt8.ofNat b.toNat).toNat : Nat) : Int) = b := by
  rw [UInt8.toNat_ofNat']; omega
/-- one byte put, noughts between -/
def putB (l : List UInt8) (p : Nat) (b : UInt8) : List UInt8 := (l ++ List.replicate (p + 1 - l.length) 0).set p b
theorem putB_length (l : List UInt8) (p : Nat) (b : UInt8) : (putB l p b).length = max l.length (p + 1) := by
  unfold putB; rw [List.length_set, List.length_append, List.length_replicate]; omega
theorem putB_get (l : List UInt8) (p : Nat) (b : UInt8) (j : Nat) : (putB l p b)[j]? = if j = p then some b else if j < l.length then l[j]? else if j < p then some 0 else none := by
  unfold putB
  by_cases h : j = p
  · subst h
    rw [if_pos rfl, List.getElem?_set_self (by rw [List.length_append, List.length_replicate]; omega)]
  · rw [if_neg h, List.getElem?_set_ne (fun e => h e.symm)]
    by_cases h2 : j < l.length
    · rw [if_pos h2, List.getElem?_append_left h2]
    · rw [if_neg h2, List.getElem?_append_right (by omega), List.getElem?_replicate]
      by_cases h3 : j < p
      · rw [if_pos h3, if_pos (by omega)]
      · rw [if_neg h3, if_neg (by omega)]
theorem putL_data (s : ByteArray) (p : Nat) (b : Int) : (strOfNums (putL s p b)).data.toList = putB s.data.toList p (UInt8.ofNat b.toNat) := by
  rw [strOfNums_data]
  unfold putL putB Held.bytesI
  rw [List.map_set, List.map_append, List.map_map, List.map_replicate, data_length]
  congr 2
  have : ((fun n : Int => UInt8.ofNat n.toNat) ∘ fun b : UInt8 => (b.toNat : Int)) = id := by
    funext x
    simp
  rw [this, List.map_id]
def atB (l : List UInt8) (x : Int) : Int := if x < 0 then -1 else match l[x.toNat]? with | some b => (b.toNat : Int) | none => -1
theorem at_eq (b : Bool) (s : ByteArray) (x : Int) : file_At.f b s x = some (atB s.data.toList x) := by
  unfold file_At.f atB
  by_cases h : x < 0
  · rw [if_pos h, if_pos h]
  · rw [if_neg h, if_neg h]
    obtain ⟨n, rfl⟩ : ∃ n : Nat, x = (n : Int) := ⟨x.toNat, by omega⟩
    rw [Int.toNat_natCast]
    by_cases h2 : (n : Int) ≥ (s.size : Int)
    · rw [if_pos h2, List.getElem?_eq_none (by rw [data_length]; omega)]
    · rw [if_neg h2, if_pos (by omega), if_pos (by omega), List.getElem?_eq_getElem (by rw [data_length]; omega), bt_get s n (by omega)]
      have := (s.data.toList[n]'(by rw [data_length]; omega)).toNat_lt
      rw [wrap_in _ (by omega) (by omega)]
theorem put_eq (b : Bool) (s : ByteArray) (p : Nat) (x : Int) (hp : p < 32) (hs : s.size ≤ 1099511627776) : file_Put.f b s (p : Int) x = some (true, strOfNums (putL s p x)) := by
  unfold file_Put.f
  rw [if_neg (by omega), if_neg (by omega), if_pos hs, Int.toNat_natCast]
theorem alive_ok : countermandlaw09_alive.f = some true := by decide +kernel
theorem good_ok (b : Bool) (s : ByteArray) : ∃ r, file_Good.f b s = some r ∧ (r = true → s.size ≤ 32) := by
  unfold file_Good.f
  by_cases h : (s.size : Int) ≤ 32
  · rw [if_pos h]
    by_cases h2 : b = true
    · rw [if_pos h2]; exact ⟨_, rfl, fun _ => by omega⟩
    · rw [if_neg h2]; exact ⟨_, rfl, fun _ => by omega⟩
  · rw [if_neg h]; exact ⟨_, rfl, fun h => by cases h⟩
def cutB (l : List UInt8) (n : Nat) : List UInt8 := l.take n ++ List.replicate (n - l.length) 0
theorem cutB_length (l : List UInt8) (n : Nat) : (cutB l n).length = n := by unfold cutB; rw [List.length_append, List.length_take, List.length_replicate]; omega
theorem cutB_self (l : List UInt8) : cutB l l.length = l := by unfold cutB; rw [List.take_length, Nat.sub_self]; simp
theorem cutB_twice (l : List UInt8) (a b : Nat) (h : b ≤ a) : cutB (cutB l a) b = cutB l b := by
  have e : cutB (cutB l a) b = (cutB l a).take b := by
    have := cutB_length l a
    rw [cutB, this, show b - a = 0 by omega]
    simp
  rw [e]
  unfold cutB
  rw [List.take_append, List.take_take, List.length_take, List.take_replicate]
  by_cases h2 : b ≤ l.length
  · rw [show min b a = b by omega, show min (b - min a l.length) (a - l.length) = 0 by omega, show b - l.length = 0 by omega]
  · rw [List.take_of_length_le (by omega), List.take_of_length_le (by omega)]
    congr 2
    omega
def mkb (l : List UInt8) : ByteArray := ⟨l.toArray⟩
theorem mkb_size (l : List UInt8) : (mkb l).size = l.length := by simp [mkb, ByteArray.size]
theorem mkb_list (l : List UInt8) : (mkb l).data.toList = l := rfl
theorem cut_none (k : Nat) (s : ByteArray) (x : Int) : file_Cut.f (k + 1) false s x = some (false, s) := by
  unfold file_Cut.f
  rw [if_neg (by decide), file_Cut.j0, if_pos rfl]
theorem cut_in (k : Nat) (s : ByteArray) (n : Nat) (hs : s.size ≤ 32) (hn : n ≤ 32) : file_Cut.f (k + 1) true s (n : Int) = some (true, mkb (cutB s.data.toList n)) := by
  unfold file_Cut.f
  rw [if_pos rfl, if_neg (by omega), file_Cut.j0, if_neg (by simp; omega)]
  by_cases h : (n : Int) ≤ (s.size : Int)
  · rw [if_pos h, if_pos (by omega), Int.toNat_natCast]
    have e : s.extract 0 n = mkb (cutB s.data.toList n) := by
      apply ba_ext
      rw [mkb_list, cutB, data_length, show n - s.size = 0 by omega]
      simp
    rw [e]
  · rw [if_neg h, wrap_in _ (by omega) (by omega)]
    obtain ⟨d, hd⟩ : ∃ d : Nat, (n : Int) - (s.size : Int) = (d : Int) := ⟨n - s.size, by omega⟩
    have e1 : strings_Repeat.f (⟨#[0]⟩ : ByteArray) (d : Int) = some (mkb (List.replicate d 0)) := by
      unfold strings_Repeat.f
      have h1 : (⟨#[0]⟩ : ByteArray).size = 1 := rfl
      rw [if_pos (by omega), h1, Int.toNat_natCast, if_pos (by omega), if_pos (by omega)]
      have := Lib.repeatL_replicate 0 1 d
      rw [Nat.mul_one] at this
      show some (mkb (Lib.repeatL (List.replicate 1 0) d)) = _
      rw [this]
    rw [hd, e1, Option.bind_some, if_pos (by rw [mkb_size, List.length_replicate]; omega)]
    have e : s ++ mkb (List.replicate d 0) = mkb (cutB s.data.toList n) := by
      apply ba_ext
      rw [mkb_list, ByteArray.data_append, Array.toList_append, mkb_list, cutB, data_length, List.take_of_length_le (by rw [data_length]; omega), show n - s.size = d by omega]
    rw [e]
theorem j0_true (k : Nat) (x1 x2 : Int) (b : Bool) (s : ByteArray) : countermandlaw09_FileCuts.j0 (k + 1) x1 x2 true b s = some true := by
  rw [countermandlaw09_FileCuts.j0, if_pos rfl]
theorem j0_ok (k n m : Nat) (b : Bool) (s : ByteArray) (hs : s.size ≤ 32) (hn : n ≤ 32) (hm : m ≤ n) : countermandlaw09_FileCuts.j0 (k + 2) (n : Int) (m : Int) false b s = some true := by
  rw [countermandlaw09_FileCuts.j0, if_neg (by decide)]
  cases b
  · rw [cut_none, Option.bind_some, cut_none, Option.bind_some, cut_none, Option.bind_some, if_pos (by simp), Option.bind_some]
    simp
  · rw [cut_in k s n hs hn, Option.bind_some, cut_in k _ m (by rw [mkb_size, cutB_length]; exact hn) (by omega), Option.bind_some, cut_in k s m hs (by omega), Option.bind_some, mkb_list, cutB_twice _ _ _ hm, if_pos (by simp), cut_in k s s.size hs hs, Option.bind_some]
    have e : mkb (cutB s.data.toList s.size) = s := by
      apply ba_ext
      rw [mkb_list]
      have := cutB_self s.data.toList
      rwa [data_length] at this
    rw [e]
    simp
theorem FileCuts : countermandlaw09_FileCuts.Pure := by
  intro b s a1 a2 hs h1 h2
  refine ⟨2, ?_⟩
  unfold countermandlaw09_FileCuts.f
  rw [alive_ok, Option.bind_some, if_pos rfl]
  obtain ⟨r, hr, hl⟩ := good_ok b s
  rw [hr, Option.bind_some]
  by_cases h : r = true
  · rw [if_pos h]
    by_cases h4 : a1 < a2
    · rw [if_pos h4]; exact j0_true _ _ _ _ _
    · rw [if_neg h4]
      by_cases h5 : a2 < 0
      · rw [if_pos h5]; exact j0_true _ _ _ _ _
      · rw [if_neg h5]
        by_cases h6 : a1 > 32
        · rw [decide_eq_true h6]; exact j0_true _ _ _ _ _
        · rw [decide_eq_false h6]
          obtain ⟨n, rfl⟩ : ∃ p : Nat, a1 = (p : Int) := ⟨a1.toNat, by omega⟩
          obtain ⟨m, rfl⟩ : ∃ p : Nat, a2 = (p : Int) := ⟨a2.toNat, by omega⟩
          exact j0_ok 0 n m b s (hl h) (by omega) (by omega)
  · rw [if_neg h]; exact j0_true _ _ _ _ _

end Go.Proofs.Ytfimbmdbaaiemaa.Pure
