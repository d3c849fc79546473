/- Proved: At, Put, Cut, Make and Good answer what the document says, of all files that can be, places and bytes, and what they answer can be; no condition beyond the statement's own bounds. -/
import Derived.Test.YtfimbmdbaaiemaaPFileDoesx5
import Derived.Lib.Strings
import Derived.OpenShut
namespace Go.Proofs.Ytfimbmdbaaiemaa.Pure
open Go.RowKit Go.Proofs.Ytfimbmdbaaiemaa.PFileDoes Go.Proofs.YtfimbmdbaaiemaaW.PrintWords Go.Proofs.YtfimbmdbaaiemaaW.PrintLast

theorem wrap_next (i n : Nat) (h : i < n) (hn : n ≤ 9223372036854775807) : wrap64 ((i : Int) + 1) = ((i + 1 : Nat) : Int) := by unfold wrap64; omega
theorem wrap_in (x : Int) (h0 : -9223372036854775808 ≤ x) (h1 : x ≤ 9223372036854775807) : wrap64 x = x := by unfold wrap64; omega
theorem ba_ext {a b : ByteArray} (h : a.data.toList = b.data.toList) : a = b := by
  cases a; cases b; simp at h; rw [h]
theorem bt_get (s : ByteArray) (i : Nat) (h : i < s.size) : bt s (i : Int) = (((s.data.toList[i]'(by rw [data_length]; exact h)).toNat : Nat) : Int) := by
  unfold bt
  rw [dif_pos (show ((i : Int)).toNat < s.size by rw [Int.toNat_natCast]; exact h)]
  simp only [Int.toNat_natCast, Array.getElem_toList]
  rfl
theorem u8_back (b : Int) (h0 : 0 ≤ b) (h1 : b ≤ 255) : (((UInt8.ofNat b.toNat).toNat : Nat) : Int) = b := by
  rw [UInt8.toNat_ofNat']; omega
/-- one byte put, noughts between -/
def putB (l : List UInt8) (p : Nat) (b : UInt8) : List UInt8 := (l ++ List.replicate (p + 1 - l.length) 0).set p b
theorem putB_length (l : List UInt8) (p : Nat) (b : UInt8) : (putB l p b).length = max l.length (p + 1) := by
  unfold putB; rw [List.length_set, List.length_append, List.length_replicate]; omega
theorem putB_get (l : List UInt8) (p : Nat) (b : UInt8) (j : Nat) : (putB l p b)[j]? = if j = p then some b else if j < l.length then l[j]? else if j < p then some 0 else none := by
  unfold putB
  by_cases h : j = p
  · subst h
    rw [if_pos rfl, List.getElem?_set_self (by rw [List.length_append, List.length_replicate]; omega)]
  · rw [if_neg h, List.getElem?_set_ne (fun e => h e.symm)]
    by_cases h2 : j < l.length
    · rw [if_pos h2, List.getElem?_append_left h2]
    · rw [if_neg h2, List.getElem?_append_right (by omega), List.getElem?_replicate]
      by_cases h3 : j < p
      · rw [if_pos h3, if_pos (by omega)]
      · rw [if_neg h3, if_neg (by omega)]
theorem putL_data (s : ByteArray) (p : Nat) (b : Int) : (strOfNums (putL s p b)).data.toList = putB s.data.toList p (UInt8.ofNat b.toNat) := by
  rw [strOfNums_data]
  unfold putL putB Held.bytesI
  rw [List.map_set, List.map_append, List.map_map, List.map_replicate, data_length]
  congr 2
  have : ((fun n : Int => UInt8.ofNat n.toNat) ∘ fun b : UInt8 => (b.toNat : Int)) = id := by
    funext x
    simp
  rw [this, List.map_id]
def atB (l : List UInt8) (x : Int) : Int := if x < 0 then -1 else match l[x.toNat]? with | some b => (b.toNat : Int) | none => -1
theorem at_eq (b : Bool) (s : ByteArray) (x : Int) : file_At.f b s x = some (atB s.data.toList x) := by
  unfold file_At.f atB
  by_cases h : x < 0
  · rw [if_pos h, if_pos h]
  · rw [if_neg h, if_neg h]
    obtain ⟨n, rfl⟩ : ∃ n : Nat, x = (n : Int) := ⟨x.toNat, by omega⟩
    rw [Int.toNat_natCast]
    by_cases h2 : (n : Int) ≥ (s.size : Int)
    · rw [if_pos h2, List.getElem?_eq_none (by rw [data_length]; omega)]
    · rw [if_neg h2, if_pos (by omega), if_pos (by omega), List.getElem?_eq_getElem (by rw [data_length]; omega), bt_get s n (by omega)]
      have := (s.data.toList[n]'(by rw [data_length]; omega)).toNat_lt
      rw [wrap_in _ (by omega) (by omega)]
theorem put_eq (b : Bool) (s : ByteArray) (p : Nat) (x : Int) (hp : p < 32) (hs : s.size ≤ 1099511627776) : file_Put.f b s (p : Int) x = some (true, strOfNums (putL s p x)) := by
  unfold file_Put.f
  rw [if_neg (by omega), if_neg (by omega), if_pos hs, Int.toNat_natCast]
theorem alive_ok : countermandlaw09_alive.f = some true := by decide +kernel
def cutB (l : List UInt8) (n : Nat) : List UInt8 := l.take n ++ List.replicate (n - l.length) 0
theorem cutB_length (l : List UInt8) (n : Nat) : (cutB l n).length = n := by unfold cutB; rw [List.length_append, List.length_take, List.length_replicate]; omega
theorem cutB_get (l : List UInt8) (n i : Nat) (h : i < n) : (cutB l n)[i]? = some (l.getD i 0) := by
  unfold cutB
  rw [List.getD_eq_getElem?_getD]
  by_cases h2 : i < l.length
  · rw [List.getElem?_append_left (by rw [List.length_take]; omega), List.getElem?_take_of_lt h, List.getElem?_eq_getElem h2]; rfl
  · rw [List.getElem?_append_right (by rw [List.length_take]; omega), List.getElem?_replicate, if_pos (by rw [List.length_take]; omega), List.getElem?_eq_none (by omega)]; rfl
theorem putB_at (l : List UInt8) (p : Nat) (b : UInt8) (i : Nat) (h : i < max l.length (p + 1)) : (putB l p b)[i]? = some (if i = p then b else l.getD i 0) := by
  rw [putB_get, List.getD_eq_getElem?_getD]
  by_cases h1 : i = p
  · rw [if_pos h1, if_pos h1]
  · rw [if_neg h1, if_neg h1]
    by_cases h2 : i < l.length
    · rw [if_pos h2, List.getElem?_eq_getElem h2]; rfl
    · rw [if_neg h2, if_pos (by omega), List.getElem?_eq_none (by omega)]; rfl
def mkb (l : List UInt8) : ByteArray := ⟨l.toArray⟩
theorem mkb_size (l : List UInt8) : (mkb l).size = l.length := by simp [mkb, ByteArray.size]
theorem mkb_list (l : List UInt8) : (mkb l).data.toList = l := rfl
theorem good_eq (b : Bool) (s : ByteArray) : file_Good.f b s = some (decide (s.size ≤ 32) && (b || decide (s.toList = []))) := by
  unfold file_Good.f
  by_cases h : (s.size : Int) ≤ 32
  · rw [if_pos h, decide_eq_true (show s.size ≤ 32 by omega)]
    cases b
    · rw [if_neg (by decide)]
      by_cases h2 : s.toList = []
      · simp [h2]
      · simp [h2]
    · rw [if_pos rfl]; simp
  · rw [if_neg h, decide_eq_false (show ¬ s.size ≤ 32 by omega)]; rfl
theorem cut_in (k : Nat) (s : ByteArray) (n : Nat) (hs : s.size ≤ 32) (hn : n ≤ 32) : file_Cut.f (k + 1) true s (n : Int) = some (true, mkb (cutB s.data.toList n)) := by
  unfold file_Cut.f
  rw [if_pos rfl, if_neg (by omega), file_Cut.j0, if_neg (by simp; omega)]
  by_cases h : (n : Int) ≤ (s.size : Int)
  · rw [if_pos h, if_pos (by omega), Int.toNat_natCast]
    have e : s.extract 0 n = mkb (cutB s.data.toList n) := by
      apply ba_ext
      rw [mkb_list, cutB, data_length, show n - s.size = 0 by omega]
      simp
    rw [e]
  · rw [if_neg h, wrap_in _ (by omega) (by omega)]
    obtain ⟨d, hd⟩ : ∃ d : Nat, (n : Int) - (s.size : Int) = (d : Int) := ⟨n - s.size, by omega⟩
    have e1 : strings_Repeat.f (⟨#[0]⟩ : ByteArray) (d : Int) = some (mkb (List.replicate d 0)) := by
      unfold strings_Repeat.f
      have h1 : (⟨#[0]⟩ : ByteArray).size = 1 := rfl
      rw [if_pos (by omega), h1, Int.toNat_natCast, if_pos (by omega), if_pos (by omega)]
      have := Lib.repeatL_replicate 0 1 d
      rw [Nat.mul_one] at this
      show some (mkb (Lib.repeatL (List.replicate 1 0) d)) = _
      rw [this]
    rw [hd, e1, Option.bind_some, if_pos (by rw [mkb_size, List.length_replicate]; omega)]
    have e : s ++ mkb (List.replicate d 0) = mkb (cutB s.data.toList n) := by
      apply ba_ext
      rw [mkb_list, ByteArray.data_append, Array.toList_append, mkb_list, cutB, data_length, List.take_of_length_le (by rw [data_length]; omega), show n - s.size = d by omega]
    rw [e]
theorem cut_out (k : Nat) (b : Bool) (s : ByteArray) (x : Int) (h : b = false ∨ x < 0 ∨ x > 32) : file_Cut.f (k + 1) b s x = some (b, s) := by
  unfold file_Cut.f
  cases b
  · rw [if_neg (by decide), file_Cut.j0, if_pos rfl]
  · rw [if_pos rfl]
    by_cases h1 : x < 0
    · rw [if_pos h1, file_Cut.j0, if_pos rfl]
    · have h2 : x > 32 := by rcases h with h | h | h; cases h; exact absurd h h1; exact h
      rw [if_neg h1, file_Cut.j0, if_pos (decide_eq_true h2)]
/-! the document's answers -/
theorem rat_l0 (b : Bool) (s : ByteArray) (hs : s.size ≤ 32) (x : Int) (k : Nat) : ∀ (d i : Nat), i + d = s.size → (x < 0 ∨ (i : Int) ≤ x) → countermandref09_At.l0 (k + d + 1) x (i : Int) b s = some (atB s.data.toList x)
  | 0, i, hi, hx => by
    rw [countermandref09_At.l0, if_neg (by omega)]
    unfold atB
    by_cases h : x < 0
    · rw [if_pos h]
    · rw [if_neg h, List.getElem?_eq_none (by rw [data_length]; omega)]
  | d + 1, i, hi, hx => by
    rw [show k + (d + 1) + 1 = (k + d + 1) + 1 by omega, countermandref09_At.l0, if_pos (by omega)]
    by_cases h : (i : Int) = x
    · subst h
      have hl : i < s.data.toList.length := by rw [data_length]; omega
      rw [if_pos rfl, if_pos (by omega), bt_get s i (by omega)]
      have := (s.data.toList[i]).toNat_lt
      rw [wrap_in _ (by omega) (by omega)]
      unfold atB
      rw [if_neg (by omega), Int.toNat_natCast, List.getElem?_eq_getElem hl]
    · rw [if_neg h, wrap_next i 32 (by omega) (by omega)]
      exact rat_l0 b s hs x k d (i + 1) (by omega) (by omega)
theorem rat_eq (k : Nat) (b : Bool) (s : ByteArray) (hs : s.size ≤ 32) (x : Int) : countermandref09_At.f (k + 33) b s x = some (atB s.data.toList x) := by
  unfold countermandref09_At.f
  rw [show k + 33 = (k + 32 - s.size) + s.size + 1 by omega]
  exact rat_l0 b s hs x _ s.size 0 (by omega) (by omega)
theorem mx_at (l : List UInt8) (i : Nat) : UInt8.ofNat ((mx (atB l (i : Int)) 0) % 256).toNat = l.getD i 0 := by
  unfold atB
  rw [if_neg (by omega), Int.toNat_natCast, List.getD_eq_getElem?_getD]
  cases h : l[i]? with
  | none => rfl
  | some b =>
    have hb := b.toNat_lt
    have e : (mx (b.toNat : Int) 0) % 256 = (b.toNat : Int) := by unfold mx; split <;> omega
    show UInt8.ofNat ((mx (b.toNat : Int) 0) % 256).toNat = b
    rw [e, Int.toNat_natCast]
    exact UInt8.ofNat_toNat
theorem grow (T : List UInt8) (x : ByteArray) (i : Nat) (v : Int) (u : UInt8) (hx : x.data.toList = T.take i) (hT : T[i]? = some u) (hv : UInt8.ofNat v.toNat = u) : (x ++ strOfNums [v]).data.toList = T.take (i + 1) := by
  have hlt : i < T.length := (List.getElem?_eq_some_iff.1 hT).1
  rw [ByteArray.data_append, Array.toList_append, hx, strOfNums_data, List.take_succ_eq_append_getElem hlt]
  congr 1
  rw [List.getElem?_eq_getElem hlt] at hT
  injection hT with hT
  rw [hT]
  simp only [List.map_cons, List.map_nil, hv]
theorem size_of_take {x : ByteArray} {T : List UInt8} {i : Nat} (hx : x.data.toList = T.take i) : x.size ≤ i := by
  rw [← data_length, hx, List.length_take]; omega
theorem rcut_l0 (b : Bool) (s : ByteArray) (hs : s.size ≤ 32) (n : Nat) (hn : n ≤ 32) (k : Nat) : ∀ (d i : Nat) (x : ByteArray), i + d = n → x.data.toList = (cutB s.data.toList n).take i → countermandref09_Cut.l0 (k + 33 + d + 1) (n : Int) x (i : Int) b s = some (true, mkb (cutB s.data.toList n))
  | 0, i, x, hi, hx => by
    rw [countermandref09_Cut.l0, if_neg (by omega)]
    have : x = mkb (cutB s.data.toList n) := ba_ext (by rw [hx, mkb_list, List.take_of_length_le (by rw [cutB_length]; omega)])
    rw [this]
  | d + 1, i, x, hi, hx => by
    rw [show k + 33 + (d + 1) + 1 = (k + 33 + d + 1) + 1 by omega, countermandref09_Cut.l0, if_pos (by omega), show k + 33 + d + 1 = (k + d + 1) + 33 by omega, rat_eq _ b s hs, Option.bind_some, Option.bind_some, if_pos (by rw [strOfNums_size]; have := size_of_take hx; simp; omega), wrap_next i 32 (by omega) (by omega), show k + d + 1 + 33 = k + 33 + d + 1 by omega]
    exact rcut_l0 b s hs n hn k d (i + 1) _ (by omega) (grow _ x i _ _ hx (cutB_get _ _ _ (by omega)) (mx_at _ _))
theorem rcut_in (k : Nat) (s : ByteArray) (n : Nat) (hs : s.size ≤ 32) (hn : n ≤ 32) : countermandref09_Cut.f (k + 70) true s (n : Int) = some (true, mkb (cutB s.data.toList n)) := by
  unfold countermandref09_Cut.f
  rw [if_pos rfl, if_neg (by omega), countermandref09_Cut.j0, if_neg (by simp; omega), show k + 69 = (k + 35 - n) + 33 + n + 1 by omega]
  exact rcut_l0 true s hs n hn _ n 0 _ (by omega) rfl
theorem rcut_out (k : Nat) (b : Bool) (s : ByteArray) (x : Int) (h : b = false ∨ x < 0 ∨ x > 32) : countermandref09_Cut.f (k + 1) b s x = some (b, s) := by
  unfold countermandref09_Cut.f
  cases b
  · rw [if_neg (by decide), countermandref09_Cut.j0, if_pos rfl]
  · rw [if_pos rfl]
    by_cases h1 : x < 0
    · rw [if_pos h1, countermandref09_Cut.j0, if_pos rfl]
    · have h2 : x > 32 := by rcases h with h | h | h; cases h; exact absurd h h1; exact h
      rw [if_neg h1, countermandref09_Cut.j0, if_pos (decide_eq_true h2)]
theorem rput_l0 (b : Bool) (s : ByteArray) (hs : s.size ≤ 32) (p : Nat) (hp : p < 32) (v : Int) (hv0 : 0 ≤ v) (hv : v ≤ 255) (k : Nat) : ∀ (d i : Nat) (x : ByteArray), i + d = max s.size (p + 1) → x.data.toList = (putB s.data.toList p (UInt8.ofNat v.toNat)).take i → countermandref09_Put.l0 (k + 34 + 2 * d + 2) (p : Int) v x (i : Int) b s = some (true, mkb (putB s.data.toList p (UInt8.ofNat v.toNat)))
  | 0, i, x, hi, hx => by
    rw [countermandref09_Put.l0, if_neg (by omega), show k + 34 + 2 * 0 + 1 = (k + 34) + 1 by omega, countermandref09_Put.j2, if_neg (by simp; omega)]
    have : x = mkb (putB s.data.toList p (UInt8.ofNat v.toNat)) := ba_ext (by rw [hx, mkb_list, List.take_of_length_le (by rw [putB_length, data_length]; omega)])
    rw [this]
  | d + 1, i, x, hi, hx => by
    have j2 : countermandref09_Put.j2 (k + 34 + 2 * d + 3) (p : Int) v x (i : Int) true b s = some (true, mkb (putB s.data.toList p (UInt8.ofNat v.toNat))) := by
      have hT := putB_at s.data.toList p (UInt8.ofNat v.toNat) i (by rw [data_length]; omega)
      have hsz := size_of_take hx
      rw [countermandref09_Put.j2, if_pos rfl, show k + 34 + 2 * d + 2 = (k + 2 * d + 3) + 33 by omega, rat_eq _ b s hs, Option.bind_some]
      by_cases h : (i : Int) = (p : Int)
      · have hip : i = p := by omega
        rw [if_pos h, Option.bind_some, if_pos (by rw [strOfNums_size]; simp; omega), wrap_next i 32 (by omega) (by omega), show k + 2 * d + 3 + 33 = k + 34 + 2 * d + 2 by omega]
        refine rput_l0 b s hs p hp v hv0 hv k d (i + 1) _ (by omega) (grow _ x i _ _ hx hT ?_)
        rw [if_pos hip, wrap_in v (by omega) (by omega), show v % 256 = v by omega]
      · rw [if_neg h, Option.bind_some, if_pos (by rw [strOfNums_size]; simp; omega), wrap_next i 32 (by omega) (by omega), show k + 2 * d + 3 + 33 = k + 34 + 2 * d + 2 by omega]
        refine rput_l0 b s hs p hp v hv0 hv k d (i + 1) _ (by omega) (grow _ x i _ _ hx hT ?_)
        rw [if_neg (by omega)]
        exact mx_at _ _
    rw [show k + 34 + 2 * (d + 1) + 2 = (k + 34 + 2 * d + 3) + 1 by omega, countermandref09_Put.l0]
    by_cases h : (i : Int) < (s.size : Int)
    · rw [if_pos h]; exact j2
    · rw [if_neg h, decide_eq_true (show (i : Int) ≤ (p : Int) by omega)]; exact j2
theorem rput_in (k : Nat) (b : Bool) (s : ByteArray) (hs : s.size ≤ 32) (p : Nat) (hp : p < 32) (v : Int) (hv0 : 0 ≤ v) (hv : v ≤ 255) : countermandref09_Put.f (k + 110) b s (p : Int) v = some (true, mkb (putB s.data.toList p (UInt8.ofNat v.toNat))) := by
  unfold countermandref09_Put.f
  rw [if_neg (by omega), countermandref09_Put.j0, if_neg (by simp; omega)]
  obtain ⟨m, hm⟩ : ∃ m, m = max s.size (p + 1) := ⟨_, rfl⟩
  rw [show k + 109 = (k + 73 - 2 * m) + 34 + 2 * m + 2 by omega]
  exact rput_l0 b s hs p hp v hv0 hv _ m 0 _ (by omega) rfl
theorem rput_out (k : Nat) (b : Bool) (s : ByteArray) (x v : Int) (h : x < 0 ∨ x > 31) : countermandref09_Put.f (k + 1) b s x v = some (b, s) := by
  unfold countermandref09_Put.f
  by_cases h1 : x < 0
  · rw [if_pos h1, countermandref09_Put.j0, if_pos rfl]
  · rw [if_neg h1, countermandref09_Put.j0, if_pos (decide_eq_true (by omega))]
theorem put_out (b : Bool) (s : ByteArray) (x v : Int) (h : x < 0 ∨ x > 31) : file_Put.f b s x v = some (b, s) := by
  unfold file_Put.f
  by_cases h1 : x < 0
  · rw [if_pos h1]
  · rw [if_neg h1, if_pos (by omega)]
/-- what Put and Cut answer, in the program and in the document -/
theorem puts_same (b : Bool) (s : ByteArray) (x v : Int) (hs : s.size ≤ 32) (hg : b = true ∨ s.toList = []) (hv0 : 0 ≤ v) (hv : v ≤ 255) : ∃ b' s', file_Put.f b s x v = some (b', s') ∧ (∀ k, countermandref09_Put.f (k + 110) b s x v = some (b', s')) ∧ s'.size ≤ 32 ∧ (b' = true ∨ s'.toList = []) := by
  by_cases h : x < 0 ∨ x > 31
  · exact ⟨b, s, put_out b s x v h, fun k => rput_out (k + 109) b s x v h, hs, hg⟩
  · obtain ⟨p, rfl⟩ : ∃ p : Nat, x = (p : Int) := ⟨x.toNat, by omega⟩
    have e : strOfNums (putL s p v) = mkb (putB s.data.toList p (UInt8.ofNat v.toNat)) := ba_ext (by rw [putL_data, mkb_list])
    refine ⟨true, mkb (putB s.data.toList p (UInt8.ofNat v.toNat)), by rw [put_eq b s p v (by omega) (by omega), e], fun k => rput_in k b s hs p (by omega) v hv0 hv, by rw [mkb_size, putB_length, data_length]; omega, .inl rfl⟩
theorem cuts_same (b : Bool) (s : ByteArray) (x : Int) (hs : s.size ≤ 32) (hg : b = true ∨ s.toList = []) : ∃ b' s', (∀ k, file_Cut.f (k + 1) b s x = some (b', s')) ∧ (∀ k, countermandref09_Cut.f (k + 70) b s x = some (b', s')) ∧ s'.size ≤ 32 ∧ (b' = true ∨ s'.toList = []) := by
  by_cases h : b = false ∨ x < 0 ∨ x > 32
  · exact ⟨b, s, fun k => cut_out k b s x h, fun k => rcut_out (k + 69) b s x h, hs, hg⟩
  · obtain ⟨p, rfl⟩ : ∃ p : Nat, x = (p : Int) := ⟨x.toNat, by omega⟩
    have hb : b = true := by cases b; exact absurd (.inl rfl) h; rfl
    subst hb
    exact ⟨true, mkb (cutB s.data.toList p), fun k => cut_in k s p hs (by omega), fun k => rcut_in k s p hs (by omega), by rw [mkb_size, cutB_length]; omega, .inl rfl⟩
theorem good_true (b : Bool) (s : ByteArray) (hs : s.size ≤ 32) (hg : b = true ∨ s.toList = []) : file_Good.f b s = some true := by
  rw [good_eq, decide_eq_true hs]
  rcases hg with rfl | h
  · simp
  · simp [h]
theorem j0_ok (x v : Int) (b : Bool) (s : ByteArray) (hv0 : 0 ≤ v) (hv : v ≤ 255) : countermandlaw09_FileDoes.j0 111 x v false b s = some true := by
  rw [countermandlaw09_FileDoes.j0, if_neg (by decide)]
  by_cases hg : s.size ≤ 32 ∧ (b = true ∨ s.toList = [])
  · obtain ⟨p1, p2, hp, hrp, hps, hpg⟩ := puts_same b s x v hg.1 hg.2 hv0 hv
    obtain ⟨c1, c2, hc, hrc, hcs, hcg⟩ := cuts_same b s x hg.1 hg.2
    rw [good_true b s hg.1 hg.2, Option.bind_some, if_pos rfl, hp, Option.bind_some, hc 109, Option.bind_some, hrp 0, Option.bind_some, if_pos (by simp), hrc 40, Option.bind_some, if_pos (by simp), at_eq, Option.bind_some, rat_eq 77 b s hg.1, Option.bind_some, if_pos rfl]
    unfold file_Make.f
    rw [Option.bind_some, if_pos (by simp), good_true p1 p2 hps hpg, Option.bind_some, if_pos rfl, good_true c1 c2 hcs hcg, Option.bind_some]
  · rw [good_eq, Option.bind_some, if_neg]
    intro h
    simp at h
    exact hg ⟨h.1, h.2⟩
theorem FileDoes : countermandlaw09_FileDoes.Pure := by
  intro b s x v hs hx hv
  have hb := bounds_u8 hv
  refine ⟨111, ?_⟩
  have J := j0_ok x v b s hb.1 hb.2
  unfold countermandlaw09_FileDoes.f
  rw [alive_ok, Option.bind_some, if_pos rfl, good_eq, Option.bind_some]
  by_cases h : s.size ≤ 32
  · rw [if_pos (by omega), decide_eq_true h]
    cases b
    · rw [if_neg (by decide)]
      by_cases h2 : s.toList = []
      · rw [if_pos (by simp [h2]), if_pos h2]; exact J
      · rw [if_neg (by simp [h2]), if_neg h2]; exact J
    · rw [if_pos rfl, if_pos (by simp)]; exact J
  · rw [if_neg (by omega), decide_eq_false h, if_neg (by simp)]; exact J

end Go.Proofs.Ytfimbmdbaaiemaa.Pure
