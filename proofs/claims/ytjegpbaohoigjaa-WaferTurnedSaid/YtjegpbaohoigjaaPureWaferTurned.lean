/- Proved: with up to four bytes in a row of its load, or its sum, turned a record is none, nor if it is cut; no condition beyond the statement's own bounds. -/
import Derived.Test.YtjegpbaohoigjaaPWaferTurnedx2
import Derived.Test.YtjegpbaohoigjaaPlain
import Derived.Lib.Strings
import Derived.OpenShut
namespace Go.Proofs.Ytjegpbaohoigjaa.Pure
open Go.RowKit Go.Proofs.Ytjegpbaohoigjaa.PWaferTurned Go.Proofs.YtjegpbaohoigjaaW.PrintWords Go.Proofs.YtjegpbaohoigjaaW.PrintLast
open Go.Proofs.Ytjegpbaohoigjaa.Plain Go.Proofs.Ytjegpbaohoigjaa

--BEGIN sum
theorem sum_l1 (s : ByteArray) (x6 x7 : Int) (k : Nat) : ∀ (n : Nat) (v : B32), n ≤ 8 → wafer_Sum.l1 (k + n + 1) s (v.toNat : Int) x6 x7 ((8 - n : Nat) : Int) = wafer_Sum.l0 k s ((steps n v).toNat : Int) x6 (wrap64 (x7 + 1))
  | 0, v, _ => by simp only [wafer_Sum.l1]; rw [if_neg (by omega)]; rfl
  | n + 1, v, h => by
    show wafer_Sum.l1 (k + n + 1 + 1) s _ x6 x7 _ = _
    simp only [wafer_Sum.l1]
    rw [if_pos (by omega), prog_step, wrap_next (8 - (n + 1)) 8 (by omega) (by omega), show (8 - (n + 1) + 1 : Nat) = 8 - n by omega]
    exact sum_l1 s x6 x7 k n (Plain.step v) (by omega)
theorem sum_l0 (s : ByteArray) (hs : s.size ≤ 9223372036854775806) : ∀ (d i : Nat) (v : B32), i + d = s.size → wafer_Sum.l0 (10 * d + 1) s (v.toNat : Int) (s.size : Int) (i : Int) = some (((~~~ (crc v (s.data.toList.drop i))).toNat : Nat) : Int)
  | 0, i, v, h => by
    simp only [wafer_Sum.l0]
    rw [if_neg (by omega), prog_not, List.drop_eq_nil_of_le (by rw [data_length]; omega)]
    rfl
  | d + 1, i, v, h => by
    show wafer_Sum.l0 (10 * d + 10 + 1) s _ _ _ = _
    simp only [wafer_Sum.l0]
    rw [if_pos (by omega), if_pos (by omega), if_pos (by omega), bt_get s i (by omega), prog_byte]
    have := sum_l1 s (s.size : Int) (i : Int) (10 * d + 1) 8 (v ^^^ BitVec.ofNat 32 (s.data.toList[i]'(by rw [data_length]; omega)).toNat) (by omega)
    rw [show (10 * d + 1 + 8 + 1 : Nat) = 10 * d + 10 by omega] at this
    rw [show ((8 - 8 : Nat) : Int) = 0 by rfl] at this
    rw [this, wrap_next i s.size (by omega) (by omega), sum_l0 s hs d (i + 1) _ (by omega), drop_get s i (by omega)]
    rfl
theorem sum_ev (s : ByteArray) (hs : s.size ≤ 9223372036854775806) : Ev (fun k => wafer_Sum.f k s) (((sumL s.data.toList).toNat : Nat) : Int) :=
  Ev.of (fun k => wafer_Sum.mono s k) (k := 10 * s.size + 1) (by
    unfold wafer_Sum.f
    have := sum_l0 s hs s.size 0 4294967295#32 (by omega)
    exact this)
theorem foots_eq (v : B32) : wafer_foots.f (v.toNat : Int) = some ⟨(foot v).toArray⟩ := by unfold wafer_foots.f; rw [foot_nums]
theorem close_ev (s : ByteArray) (h : s.size ≤ 1024) : Ev (fun k => wafer_Close.f k s) ⟨(rec s.data.toList).toArray⟩ := by
  unfold wafer_Close.f
  have e : strOfNums [((s.size : Int) / 256) % 256, (s.size : Int) % 256] = ⟨(headL s.data.toList.length).toArray⟩ := by rw [head_nums, data_length]
  refine Ev.congr (fun k => by rw [if_neg (by omega), Option.bind_some, e]) ?_
  have hsz : ((⟨(headL s.data.toList.length).toArray⟩ : ByteArray)).size = 2 := rfl
  refine Ev.congr (fun k => by rw [if_pos (by rw [hsz]; omega)]) ?_
  refine Ev.bind (sum_ev _ (by rw [ByteArray.size_append, hsz]; omega)) ?_
  refine Ev.congr (fun k => by rw [foots_eq, Option.bind_some]) ?_
  refine Ev.congr (fun k => by rw [if_pos (by rw [hsz]; show 2 + s.size + 4 ≤ _; omega)]) ?_
  have : (⟨(headL s.data.toList.length).toArray⟩ ++ s ++ ⟨(foot (sumL ((⟨(headL s.data.toList.length).toArray⟩ : ByteArray) ++ s).data.toList)).toArray⟩ : ByteArray) = ⟨(rec s.data.toList).toArray⟩ := by
    apply ba_ext
    rw [ba_append, ba_append]
    rfl
  rw [this]
  exact Ev.now _
theorem alive_ev : Ev (fun k => countermandlaw02_alive.f k) true := by
  unfold countermandlaw02_alive.f
  refine Ev.bind (sum_ev _ (by decide)) ?_
  refine Ev.congr (fun k => by rw [if_pos (by decide +kernel)]) ?_
  refine Ev.bind (close_ev _ (by decide)) ?_
  exact Ev.congr (fun k => by rfl) (Ev.now _)
--END sum--BEGIN open
theorem i64_or (a b : Int) (ha : 0 ≤ a) (ha2 : a < 256) (hb : 0 ≤ b) (hb2 : b < 256) : Go.bits .or .i64 (wrap64 ((wrap64 a) * 256)) (wrap64 b) = a * 256 + b := by
  rw [wrap_in a (by omega) (by omega), wrap_in b (by omega) (by omega), wrap_in (a * 256) (by omega) (by omega)]
  obtain ⟨m, rfl⟩ := Int.eq_ofNat_of_zero_le ha
  obtain ⟨n, rfl⟩ := Int.eq_ofNat_of_zero_le hb
  have hm : m < 256 := by omega
  have hn : n < 256 := by omega
  have key : m * 256 ||| n = m * 256 + n := by
    have := Nat.two_pow_add_eq_or_of_lt (i := 8) (b := n) hn m
    rw [show (2 : Nat) ^ 8 * m = m * 256 by omega] at this
    exact this.symm
  show IntKind.i64.wrap ((BitVec.ofInt 64 ((m : Int) * 256) ||| BitVec.ofInt 64 (n : Int)).toNat : Int) = _
  rw [BitVec.toNat_or, show ((m : Int) * 256) = ((m * 256 : Nat) : Int) by omega, BitVec.ofInt_natCast, BitVec.ofInt_natCast, BitVec.toNat_ofNat, BitVec.toNat_ofNat, Nat.mod_eq_of_lt (by omega), Nat.mod_eq_of_lt (by omega), key, IntKind.wrap_i64]
  omega
theorem len_eq (s : ByteArray) (h : 2 ≤ s.size) : bt s 0 * 256 + bt s 1 = ((lenL s.data.toList : Nat) : Int) := by
  have h0 := bt_get s 0 (by omega)
  have h1 := bt_get s 1 (by omega)
  rw [show ((0 : Nat) : Int) = 0 by rfl] at h0
  rw [show ((1 : Nat) : Int) = 1 by rfl] at h1
  have hl : 2 ≤ s.data.toList.length := by rw [data_length]; exact h
  rw [h0, h1]
  unfold lenL
  have g0 : s.data.toList.getD 0 0 = s.data.toList[0] := by simp [List.getD, List.getElem?_eq_getElem (show 0 < s.data.toList.length by omega)]
  have g1 : s.data.toList.getD 1 0 = s.data.toList[1] := by simp [List.getD, List.getElem?_eq_getElem (show 1 < s.data.toList.length by omega)]
  rw [g0, g1]
  omega
theorem open_ev (s : ByteArray) (hs : s.size ≤ 9223372036854775806) : Ev (fun k => wafer_Open.f k s) (⟨(openL s.data.toList).1.toArray⟩, (((openL s.data.toList).2 : Nat) : Int)) := by
  have hl := data_length s
  have hn := lenL_lt s.data.toList
  have empty : (⟨#[]⟩ : ByteArray) = ⟨([] : List UInt8).toArray⟩ := rfl
  unfold wafer_Open.f
  by_cases h1 : (s.size : Int) < 2
  · refine Ev.congr (fun k => if_pos h1) ?_
    unfold openL
    rw [if_pos (by omega)]
    exact Ev.now _
  refine Ev.congr (fun k => by rw [if_neg h1, if_pos (by omega), if_pos (by omega)]) ?_
  have b0 := bt_range s 0
  have b1 := bt_range s 1
  rw [i64_or (bt s 0) (bt s 1) (by omega) (by omega) (by omega) (by omega), len_eq s (by omega)]
  generalize hL : lenL s.data.toList = n at *
  rw [wrap_in (2 + (n : Int)) (by omega) (by omega), wrap_in (2 + (n : Int) + 4) (by omega) (by omega)]
  by_cases h2 : 1024 < n ∨ s.data.toList.length < n + 6
  · have e : openL s.data.toList = ([], 0) := by unfold openL; rw [if_neg (by omega), hL, if_pos h2]
    rw [e]
    by_cases h3 : (n : Int) > 1024
    · refine Ev.congr (fun k => if_pos h3) (Ev.step (f := fun _ => some (⟨#[]⟩, 0)) (fun k => by simp only [wafer_Open.j0]; exact if_pos trivial) (Ev.now _))
    · refine Ev.congr (fun k => if_neg h3) (Ev.step (f := fun _ => some (⟨#[]⟩, 0)) (fun k => by simp only [wafer_Open.j0]; rw [if_pos (by simp; omega)]) (Ev.now _))
  refine Ev.congr (fun k => if_neg (by omega)) ?_
  refine Ev.step (fun k => by simp only [wafer_Open.j0]; rw [if_neg (by simp; omega), wrap_in (2 + (n : Int)) (by omega) (by omega), if_pos (by omega), if_pos (by omega)]) ?_
  refine Ev.bind (sum_ev _ (by simp; omega)) ?_
  refine Ev.congr (fun k => by rw [foots_eq, Option.bind_some, if_pos (by omega), if_pos (by omega)]) ?_
  rw [show (2 + (n : Int)).toNat = 2 + n by omega, show (2 + (n : Int) + 4).toNat = 2 + n + 4 by omega]
  simp only [ByteArray.toList_eq, Lib.extract_data, List.drop_zero, Nat.sub_zero]
  rw [show 2 + n + 4 - (2 + n) = 4 by omega]
  by_cases h4 : foot (sumL (s.data.toList.take (2 + n))) = (s.data.toList.drop (2 + n)).take 4
  · have e : openL s.data.toList = ((s.data.toList.drop 2).take n, n + 6) := by unfold openL; rw [if_neg (by omega), hL, if_neg h2, if_pos h4]
    rw [e]
    refine Ev.congr (fun k => by rw [if_pos h4, if_pos (by omega)]) ?_
    rw [Lib.extract_eq, show 2 + n - 2 = n by omega, show (2 + (n : Int) + 4) = (((n + 6 : Nat)) : Int) by omega]
    exact Ev.now _
  · have e : openL s.data.toList = ([], 0) := by unfold openL; rw [if_neg (by omega), hL, if_neg h2, if_neg h4]
    rw [e]
    exact Ev.congr (fun k => if_neg h4) (Ev.now _)
/-! ### a burst: the sum over a record and its own foot is one number, and four bytes turned change it -/
def leN : List UInt8 → Nat
  | [] => 0
  | b :: r => b.toNat + 256 * leN r
theorem leN_lt : ∀ (r : List UInt8), leN r < 2 ^ (8 * r.length)
  | [] => by simp [leN]
  | b :: r => by
    have h := leN_lt r
    have hb := b.toNat_lt
    unfold leN
    rw [List.length_cons, show 8 * (r.length + 1) = 8 * r.length + 8 by omega, Nat.pow_add]
    omega
theorem low_high (b y : Nat) (hb : b < 256) : b + 256 * y = b ^^^ (y <<< 8) := by
  apply Nat.eq_of_testBit_eq
  intro j
  rw [show b + 256 * y = 2 ^ 8 * y + b by omega, Nat.testBit_two_pow_mul_add y (show b < 2 ^ 8 by omega), Nat.testBit_xor, Nat.testBit_shiftLeft]
  by_cases h : j < 8
  · rw [if_pos h, decide_eq_false (show ¬ j ≥ 8 by omega)]; simp
  · rw [if_neg h, decide_eq_true (show j ≥ 8 by omega), Nat.testBit_lt_two_pow (show b < 2 ^ j from Nat.lt_of_lt_of_le (show b < 2 ^ 8 by omega) (Nat.pow_le_pow_right (by omega) (by omega)))]; simp
theorem ofNat_le (b : UInt8) (r : List UInt8) : BitVec.ofNat 32 (leN (b :: r)) = BitVec.ofNat 32 b.toNat ^^^ (BitVec.ofNat 32 (leN r) <<< 8) := by
  apply BitVec.eq_of_toNat_eq
  show (BitVec.ofNat 32 (b.toNat + 256 * leN r)).toNat = _
  rw [BitVec.toNat_xor, BitVec.toNat_shiftLeft, BitVec.toNat_ofNat, BitVec.toNat_ofNat, BitVec.toNat_ofNat, low_high _ _ b.toNat_lt, Nat.shiftLeft_eq, Nat.shiftLeft_eq, Nat.xor_mod_two_pow]
  exact congrArg (fun z => (b.toNat % 2 ^ 32) ^^^ z) (by omega)
theorem step_even (v : B32) (h : v.toNat % 2 = 0) : Plain.step v = v >>> 1 := by
  unfold Plain.step
  rw [if_neg (by omega), BitVec.xor_zero]
theorem steps_shl : ∀ (n : Nat) (b : B32), b.toNat < 2 ^ (32 - n) → n ≤ 32 → steps n (b <<< n) = b
  | 0, b, _, _ => by show b <<< 0 = b; simp
  | n + 1, b, h, hn => by
    have e : (b <<< (n + 1)).toNat = b.toNat * 2 ^ (n + 1) := by
      rw [BitVec.toNat_shiftLeft, Nat.shiftLeft_eq, Nat.mod_eq_of_lt]
      have : 2 ^ (32 - (n + 1)) * 2 ^ (n + 1) = 2 ^ 32 := by rw [← Nat.pow_add]; congr 1; omega
      calc b.toNat * 2 ^ (n + 1) < 2 ^ (32 - (n + 1)) * 2 ^ (n + 1) := Nat.mul_lt_mul_of_pos_right h (Nat.two_pow_pos _)
        _ = 2 ^ 32 := this
    have e2 : (b <<< n).toNat = b.toNat * 2 ^ n := by
      rw [BitVec.toNat_shiftLeft, Nat.shiftLeft_eq, Nat.mod_eq_of_lt]
      have h' : b.toNat < 2 ^ (32 - n) := Nat.lt_of_lt_of_le h (Nat.pow_le_pow_right (by omega) (by omega))
      have : 2 ^ (32 - n) * 2 ^ n = 2 ^ 32 := by rw [← Nat.pow_add]; congr 1; omega
      calc b.toNat * 2 ^ n < 2 ^ (32 - n) * 2 ^ n := Nat.mul_lt_mul_of_pos_right h' (Nat.two_pow_pos _)
        _ = 2 ^ 32 := this
    have e3 : b.toNat * 2 ^ (n + 1) = b.toNat * 2 ^ n * 2 := by rw [Nat.pow_succ, Nat.mul_assoc]
    have hs : Plain.step (b <<< (n + 1)) = b <<< n := by
      rw [step_even _ (by rw [e, e3]; omega)]
      apply BitVec.eq_of_toNat_eq
      rw [BitVec.toNat_ushiftRight, Nat.shiftRight_eq_div_pow, e, e2, e3]
      omega
    show steps n (Plain.step (b <<< (n + 1))) = b
    rw [hs]
    exact steps_shl n b (Nat.lt_of_lt_of_le h (Nat.pow_le_pow_right (by omega) (by omega))) (by omega)
theorem crc_le : ∀ (r : List UInt8) (v : B32), r.length ≤ 4 → crc v r = steps (8 * r.length) (v ^^^ BitVec.ofNat 32 (leN r))
  | [], v, _ => by simp [crc, leN, steps]
  | b :: r, v, h => by
    have hr : r.length ≤ 3 := by simpa using h
    have ih := crc_le r (addB v b) (by omega)
    show crc (addB v b) r = _
    rw [ih, ofNat_le, List.length_cons, show 8 * (r.length + 1) = 8 + 8 * r.length by omega, steps_add]
    congr 1
    rw [← BitVec.xor_assoc, steps_lin]
    have : leN r < 2 ^ 24 := Nat.lt_of_lt_of_le (leN_lt r) (Nat.pow_le_pow_right (by omega) (by omega))
    rw [steps_shl 8 _ (by rw [BitVec.toNat_ofNat]; omega) (by omega)]
    rfl
theorem crc_append (v : B32) (a b : List UInt8) : crc v (a ++ b) = crc (crc v a) b := List.foldl_append ..
theorem crc_shift : ∀ (r : List UInt8) (u w : B32), crc (u ^^^ w) r = crc u r ^^^ steps (8 * r.length) w
  | [], u, w => by simp [crc, steps]
  | b :: r, u, w => by
    show crc (addB (u ^^^ w) b) r = crc (addB u b) r ^^^ _
    have e : addB (u ^^^ w) b = addB u b ^^^ steps 8 w := by
      unfold addB
      rw [← steps_lin]; congr 1; ac_rfl
    rw [e, crc_shift r, ← steps_add, List.length_cons, show 8 + 8 * r.length = 8 * (r.length + 1) by omega]
theorem foot_le (x : B32) : leN (foot x) = x.toNat := by
  have := x.isLt
  unfold foot leN leN leN leN leN
  simp only [UInt8.toNat_ofNat']
  omega
theorem foot_len (x : B32) : (foot x).length = 4 := rfl
/-- the sum over bytes and their own foot -/
theorem crc_own (m : List UInt8) : crc 4294967295#32 (m ++ foot (sumL m)) = steps 32 (4294967295#32) := by
  rw [crc_append, crc_le _ _ (by rw [foot_len]; omega), foot_len, foot_le]
  congr 1
  have : BitVec.ofNat 32 (sumL m).toNat = sumL m := by simp
  rw [this]
  unfold sumL
  apply BitVec.eq_of_getLsbD_eq
  intro i hi
  rw [BitVec.getLsbD_xor, BitVec.getLsbD_not]
  have : (4294967295#32) = BitVec.allOnes 32 := rfl
  rw [this, BitVec.getLsbD_allOnes]
  simp [hi]
def xor4 (a e : List UInt8) : List UInt8 := List.zipWith (fun x y => x ^^^ y) a e
theorem ofNat_xor4 : ∀ (a e : List UInt8), a.length = e.length → BitVec.ofNat 32 (leN (xor4 a e)) = BitVec.ofNat 32 (leN a) ^^^ BitVec.ofNat 32 (leN e)
  | [], [], _ => rfl
  | [], _ :: _, h => by simp at h
  | _ :: _, [], h => by simp at h
  | x :: a, y :: e, h => by
    have ih := ofNat_xor4 a e (by simpa using h)
    show BitVec.ofNat 32 (leN ((x ^^^ y) :: xor4 a e)) = _
    rw [ofNat_le, ofNat_le, ofNat_le, ih, BitVec.shiftLeft_xor_distrib]
    have : BitVec.ofNat 32 (x ^^^ y).toNat = BitVec.ofNat 32 x.toNat ^^^ BitVec.ofNat 32 y.toNat := by
      apply BitVec.eq_of_toNat_eq
      rw [BitVec.toNat_xor, BitVec.toNat_ofNat, BitVec.toNat_ofNat, BitVec.toNat_ofNat, UInt8.toNat_xor, Nat.xor_mod_two_pow]
    rw [this]; ac_rfl
/-- up to four bytes in a row turned: no record -/
theorem open_turned {l : List UInt8} (hl : l.length ≤ 1024) {h a r e : List UInt8} (ht : rec l = h ++ (a ++ r)) (hh : 2 ≤ h.length) (ha : a.length = 4) (he : e.length = 4) (h0 : leN e ≠ 0) :
    openL (h ++ (xor4 a e ++ r)) = ([], 0) := by
  have hx : (xor4 a e).length = 4 := by unfold xor4; rw [List.length_zipWith]; omega
  have hn : h.length + 4 + r.length = l.length + 6 := by
    have := congrArg List.length ht
    rw [rec_length, List.length_append, List.length_append, ha] at this
    omega
  have hg : ∀ (z : List UInt8), lenL (h ++ z) = lenL h := by
    intro z
    unfold lenL
    rw [List.getD_eq_getElem?_getD, List.getD_eq_getElem?_getD, List.getD_eq_getElem?_getD, List.getD_eq_getElem?_getD, List.getElem?_append_left (by omega), List.getElem?_append_left (by omega)]
  have hln : lenL h = l.length := by
    have e1 : lenL (rec l) = l.length := by
      unfold rec
      rw [List.append_assoc]
      exact lenL_headL hl _
    rw [ht, hg] at e1
    exact e1
  have hle : (h ++ (xor4 a e ++ r)).length = l.length + 6 := by rw [List.length_append, List.length_append, hx]; omega
  unfold openL
  rw [if_neg (by omega), hg, hln, if_neg (by omega)]
  by_cases hf : foot (sumL ((h ++ (xor4 a e ++ r)).take (2 + l.length))) = ((h ++ (xor4 a e ++ r)).drop (2 + l.length)).take 4
  · exfalso
    have e1 : (h ++ (xor4 a e ++ r)) = (h ++ (xor4 a e ++ r)).take (2 + l.length) ++ foot (sumL ((h ++ (xor4 a e ++ r)).take (2 + l.length))) := by
      rw [hf, List.take_of_length_le (l := List.drop _ _) (by rw [List.length_drop]; omega), List.take_append_drop]
    have e2 : crc 4294967295#32 (h ++ (xor4 a e ++ r)) = steps 32 (4294967295#32) := by rw [e1]; exact crc_own _
    have e3 : crc 4294967295#32 (h ++ (a ++ r)) = steps 32 (4294967295#32) := by rw [← ht]; exact crc_own _
    rw [crc_append, crc_append] at e2 e3
    rw [crc_le (xor4 a e) _ (by omega), hx, ofNat_xor4 a e (by omega), ← BitVec.xor_assoc, steps_lin, crc_shift] at e2
    rw [crc_le a _ (by omega), ha] at e3
    rw [e3] at e2
    have e4 : steps (8 * r.length) (steps (8 * 4) (BitVec.ofNat 32 (leN e))) = 0#32 := by
      have := congrArg (fun z => steps 32 4294967295#32 ^^^ z) e2
      simp only [← BitVec.xor_assoc, BitVec.xor_self, BitVec.zero_xor] at this
      exact this
    refine steps_ne _ _ (steps_ne _ _ fun hz => h0 ?_) e4
    have h1 := leN_lt e
    rw [he] at h1
    have := congrArg BitVec.toNat hz
    rw [BitVec.toNat_ofNat] at this
    have h2 : (0#32).toNat = 0 := rfl
    omega
  · rw [if_neg hf]
/-- nor is one that is cut -/
theorem open_cut {l : List UInt8} (hl : l.length ≤ 1024) {h z : List UInt8} (ht : rec l = h ++ z) (hh : 2 ≤ h.length) (hc : h.length ≤ l.length + 5) : openL h = ([], 0) := by
  have hln : lenL h = l.length := by
    have e1 : lenL (rec l) = l.length := by
      unfold rec
      rw [List.append_assoc]
      exact lenL_headL hl _
    rw [ht] at e1
    unfold lenL at e1 ⊢
    rw [List.getD_eq_getElem?_getD, List.getD_eq_getElem?_getD, List.getElem?_append_left (by omega), List.getElem?_append_left (by omega), ← List.getD_eq_getElem?_getD, ← List.getD_eq_getElem?_getD] at e1
    exact e1
  unfold openL
  rw [if_neg (by omega), hln, if_pos (Or.inr (by omega))]
/-! what is turned, as bytes -/
theorem bits_u8 (x y : UInt8) : Go.bits .xor .u8 ((x.toNat : Nat) : Int) ((y.toNat : Nat) : Int) = (((x ^^^ y).toNat : Nat) : Int) := by
  have hx := x.toNat_lt
  have hy := y.toNat_lt
  show IntKind.u8.wrap ((BitVec.ofInt 8 (x.toNat : Int) ^^^ BitVec.ofInt 8 (y.toNat : Int)).toNat : Int) = _
  have h := (BitVec.ofInt 8 (x.toNat : Int) ^^^ BitVec.ofInt 8 (y.toNat : Int)).isLt
  have e : (BitVec.ofInt 8 (x.toNat : Int) ^^^ BitVec.ofInt 8 (y.toNat : Int)).toNat = (x ^^^ y).toNat := by
    rw [BitVec.toNat_xor, BitVec.ofInt_natCast, BitVec.ofInt_natCast, BitVec.toNat_ofNat, BitVec.toNat_ofNat, Nat.mod_eq_of_lt (by omega), Nat.mod_eq_of_lt (by omega), UInt8.toNat_xor]
  rw [IntKind.wrap_u8, e]
  have := (x ^^^ y).toNat_lt
  omega
def e8 (t : Int) (i : Nat) : UInt8 := UInt8.ofNat (eB t i).toNat
theorem e8_int (t : Int) (i : Nat) : (((e8 t i).toNat : Nat) : Int) = eB t i := by
  unfold e8
  have : 0 ≤ eB t i ∧ eB t i < 256 := by
    unfold eB; omega
  rw [UInt8.toNat_ofNat']; omega
def toI (l : List UInt8) : List Int := l.map fun b => ((b.toNat : Nat) : Int)
theorem turn_step (h L : List UInt8) (t : Int) (i : Nat) (x : UInt8) (hx : L[i]? = some x) :
    ((toI (h ++ L)).set (h.length + i) (Go.bits .xor .u8 ((toI (h ++ L))[h.length + i]?.getD 0) (eB t i))) = toI (h ++ L.set i (x ^^^ e8 t i)) := by
  have e : (toI (h ++ L))[h.length + i]? = some ((x.toNat : Nat) : Int) := by
    unfold toI
    rw [List.getElem?_map, List.getElem?_append_right (by omega), show h.length + i - h.length = i by omega, hx]; rfl
  rw [e]
  show (toI (h ++ L)).set (h.length + i) (Go.bits .xor .u8 ((x.toNat : Nat) : Int) (eB t i)) = _
  rw [← e8_int, bits_u8]
  unfold toI
  rw [← List.map_set, List.set_append_right _ _ (by omega), show h.length + i - h.length = i by omega]
theorem turn_all (h r : List UInt8) (x0 x1 x2 x3 : UInt8) (t : Int) :
    turnL (toI (h ++ (x0 :: x1 :: x2 :: x3 :: r))) h.length t 4 = toI (h ++ (xor4 [x0, x1, x2, x3] [e8 t 0, e8 t 1, e8 t 2, e8 t 3] ++ r)) := by
  simp only [turnL]
  rw [turn_step h _ t 0 x0 rfl]
  simp only [List.set_cons_zero]
  rw [turn_step h _ t 1 x1 rfl]
  simp only [List.set_cons_zero, List.set_cons_succ]
  rw [turn_step h _ t 2 x2 rfl]
  simp only [List.set_cons_zero, List.set_cons_succ]
  rw [turn_step h _ t 3 x3 rfl]
  rfl
theorem nums_toI (l : List UInt8) : (strOfNums (toI l)).data.toList = l := by
  rw [strOfNums_data]
  unfold toI
  rw [List.map_map]
  have : ((fun n : Int => UInt8.ofNat n.toNat) ∘ fun b : UInt8 => ((b.toNat : Nat) : Int)) = id := by
    funext b
    simp [Function.comp]
  rw [this, List.map_id]
theorem e8_ne (t : Int) (h0 : 0 ≤ t) (h1 : t < 4294967296) (hn : t ≠ 0) : leN [e8 t 0, e8 t 1, e8 t 2, e8 t 3] ≠ 0 := by
  have a0 := e8_int t 0
  have a1 := e8_int t 1
  have a2 := e8_int t 2
  have a3 := e8_int t 3
  unfold eB at a0 a1 a2 a3
  rw [show (2 : Int) ^ (8 * 0) = 1 by decide] at a0
  rw [show (2 : Int) ^ (8 * 1) = 256 by decide] at a1
  rw [show (2 : Int) ^ (8 * 2) = 65536 by decide] at a2
  rw [show (2 : Int) ^ (8 * 3) = 16777216 by decide] at a3
  intro h
  have h : (e8 t 0).toNat + 256 * ((e8 t 1).toNat + 256 * ((e8 t 2).toNat + 256 * ((e8 t 3).toNat + 256 * 0))) = 0 := h
  omega
theorem WaferTurned : countermandlaw02_WaferTurned.Pure := by
  intro a0 a1 a2 _ _ hw2
  obtain ⟨k1, hk1⟩ := alive_ev
  by_cases h0 : a0.size > 1024
  · exact ⟨k1, hk1 k1 (Nat.le_refl _), .inl h0⟩
  by_cases h2 : a2 = 0
  · exact ⟨k1, hk1 k1 (Nat.le_refl _), .inr (.inl h2)⟩
  have hb2 := bounds_u32 hw2
  have hn : a0.data.toList.length = a0.size := data_length a0
  generalize hl : a0.data.toList = l at hn
  have hrl := rec_length l
  obtain ⟨q, hq, hqn⟩ : ∃ q : Nat, (IntKind.u64.wrap a1).tmod (((⟨(rec l).toArray⟩ : ByteArray).size : Int) - 5) = (q : Int) ∧ q ≤ l.length := by
    rw [mkb_size, hrl, IntKind.wrap_u64, Int.tmod_eq_emod_of_nonneg (by omega)]
    exact ⟨(a1 % 18446744073709551616 % (((l.length + 6 : Nat) : Int) - 5)).toNat, by
      have := Int.emod_nonneg (a1 % 18446744073709551616) (show ((l.length + 6 : Nat) : Int) - 5 ≠ 0 by omega)
      omega, by
      have := Int.emod_lt_of_pos (a1 % 18446744073709551616) (show 0 < ((l.length + 6 : Nat) : Int) - 5 by omega)
      omega⟩
  have hp : wrap64 (2 + wrap64 ((IntKind.u64.wrap a1).tmod (((⟨(rec l).toArray⟩ : ByteArray).size : Int) - 5))) = ((2 + q : Nat) : Int) := by
    rw [hq, wrap_in (q : Int) (by omega) (by omega), wrap_in (2 + (q : Int)) (by omega) (by omega)]; omega
  obtain ⟨x0, x1, x2, x3, r, hx⟩ : ∃ x0 x1 x2 x3 r, (rec l).drop (2 + q) = x0 :: x1 :: x2 :: x3 :: r := by
    have hd : 4 ≤ ((rec l).drop (2 + q)).length := by rw [List.length_drop]; omega
    match (rec l).drop (2 + q), hd with
    | x0 :: x1 :: x2 :: x3 :: r, _ => exact ⟨x0, x1, x2, x3, r, rfl⟩
  have hrec : rec l = (rec l).take (2 + q) ++ ([x0, x1, x2, x3] ++ r) := by
    have := List.take_append_drop (2 + q) (rec l)
    rw [hx] at this
    exact this.symm
  have hht : ((rec l).take (2 + q)).length = 2 + q := by rw [List.length_take]; omega
  have hbI : Held.bytesI (⟨(rec l).toArray⟩ : ByteArray) = toI (rec l) := rfl
  have ht : turnL (Held.bytesI (⟨(rec l).toArray⟩ : ByteArray)) (2 + q) a2 4 = toI ((rec l).take (2 + q) ++ (xor4 [x0, x1, x2, x3] [e8 a2 0, e8 a2 1, e8 a2 2, e8 a2 3] ++ r)) := by
    have := turn_all ((rec l).take (2 + q)) r x0 x1 x2 x3 a2
    rw [hht] at this
    rw [hbI]
    conv => lhs; rw [hrec]
    exact this
  have o1 := open_turned (l := l) (by omega) hrec (by omega) rfl rfl (e8_ne a2 hb2.1 (by omega) h2)
  have hc0 : rec l = (rec l).take (2 + q) ++ (rec l).drop (2 + q) := (List.take_append_drop _ _).symm
  have o2 := open_cut (l := l) (by omega) hc0 (by omega) (by omega)
  have ht2 : ((Held.bytesI (⟨(rec l).toArray⟩ : ByteArray)).take (2 + q)) = toI ((rec l).take (2 + q)) := by
    rw [hbI]; unfold toI; rw [List.map_take]
  have E1 := open_ev (strOfNums (turnL (Held.bytesI (⟨(rec l).toArray⟩ : ByteArray)) (2 + q) a2 4)) (by
    rw [strOfNums_size, turnL_len, hbI]; unfold toI; rw [List.length_map]; omega)
  rw [ht, nums_toI, o1] at E1
  have E2 := open_ev (strOfNums ((Held.bytesI (⟨(rec l).toArray⟩ : ByteArray)).take (2 + q))) (by
    rw [strOfNums_size, List.length_take, hbI]; unfold toI; rw [List.length_map]; omega)
  rw [ht2, nums_toI, o2] at E2
  have C := close_ev a0 (by omega)
  rw [hl] at C
  obtain ⟨k2, hk2⟩ := C
  obtain ⟨k3, hk3⟩ := E1
  obtain ⟨k4, hk4⟩ := E2
  refine ⟨max (max k1 k2) (max k3 k4), hk1 _ (by omega), .inr (.inr ⟨⟨(rec l).toArray⟩, 2 + q, ⟨([] : List UInt8).toArray⟩, ⟨([] : List UInt8).toArray⟩, by omega, h2, hk2 _ (by omega), by rw [mkb_size]; omega, by rw [mkb_size]; omega, hp, by rw [mkb_size]; omega, ?_, ?_⟩)⟩
  · rw [ht]; exact hk3 _ (by omega)
  · rw [ht2]; exact hk4 _ (by omega)
end Go.Proofs.Ytjegpbaohoigjaa.Pure
