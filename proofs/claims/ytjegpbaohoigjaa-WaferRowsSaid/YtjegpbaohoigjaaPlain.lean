/- The plain side of the wafer laws: what the sum is as bits, that it is linear, and that its step can be undone. No program in sight. -/
import Derived.Test.YtjegpbaohoigjaaWWords
import Derived.Lib.Strings
namespace Go.Proofs.Ytjegpbaohoigjaa.Plain
open Go.RowKit Go.Proofs.YtjegpbaohoigjaaW.PrintWords

abbrev B32 := BitVec 32
def poly : B32 := 2197175160#32
/-- one bit's step -/
def step (v : B32) : B32 := (v >>> 1) ^^^ (if v.toNat % 2 = 1 then poly else 0#32)
def steps : Nat → B32 → B32
  | 0, v => v
  | n + 1, v => steps n (step v)
def addB (v : B32) (b : UInt8) : B32 := steps 8 (v ^^^ BitVec.ofNat 32 b.toNat)
def crc (v : B32) (l : List UInt8) : B32 := l.foldl addB v
def sumL (l : List UInt8) : B32 := ~~~ (crc 4294967295#32 l)
def foot (v : B32) : List UInt8 := [UInt8.ofNat (v.toNat % 256), UInt8.ofNat (v.toNat / 256 % 256), UInt8.ofNat (v.toNat / 65536 % 256), UInt8.ofNat (v.toNat / 16777216 % 256)]
def headL (n : Nat) : List UInt8 := [UInt8.ofNat (n / 256 % 256), UInt8.ofNat (n % 256)]
/-- a record -/
def rec (l : List UInt8) : List UInt8 := headL l.length ++ l ++ foot (sumL (headL l.length ++ l))

theorem bits_xor (a b : Int) : Go.bits .xor .u32 a b = ((BitVec.ofInt 32 a ^^^ BitVec.ofInt 32 b).toNat : Int) := by
  have h : (BitVec.ofInt 32 a ^^^ BitVec.ofInt 32 b).toNat < 4294967296 := (BitVec.ofInt 32 a ^^^ BitVec.ofInt 32 b).isLt
  show IntKind.u32.wrap ((BitVec.ofInt 32 a ^^^ BitVec.ofInt 32 b).toNat : Int) = _
  rw [IntKind.wrap_u32]; omega
theorem bits_and (a b : Int) : Go.bits .and .u32 a b = ((BitVec.ofInt 32 a &&& BitVec.ofInt 32 b).toNat : Int) := by
  have h : (BitVec.ofInt 32 a &&& BitVec.ofInt 32 b).toNat < 4294967296 := (BitVec.ofInt 32 a &&& BitVec.ofInt 32 b).isLt
  show IntKind.u32.wrap ((BitVec.ofInt 32 a &&& BitVec.ofInt 32 b).toNat : Int) = _
  rw [IntKind.wrap_u32]; omega
theorem ofInt_toNat (v : B32) : BitVec.ofInt 32 (v.toNat : Int) = v := by
  rw [BitVec.ofInt_natCast]; exact BitVec.ofNat_toNat 32 v ▸ (by simp)
theorem div2 (v : B32) : (v.toNat : Int) / (2 : Int) = ((v >>> 1).toNat : Int) := by
  rw [BitVec.toNat_ushiftRight, Nat.shiftRight_eq_div_pow]; omega
theorem and_one (v : B32) : (v &&& 1#32).toNat = v.toNat % 2 := by
  rw [BitVec.toNat_and]; exact Nat.and_one_is_mod v.toNat
/-- the program's step -/
theorem prog_step (v : B32) : Go.bits .xor .u32 ((v.toNat : Int) / 2) (Go.bits .and .u32 2197175160 ((-(Go.bits .and .u32 (v.toNat : Int) 1)) % 4294967296)) = ((step v).toNat : Int) := by
  have h1 : BitVec.ofInt 32 1 = 1#32 := by rfl
  have e : Go.bits .and .u32 2197175160 ((-(Go.bits .and .u32 (v.toNat : Int) 1)) % 4294967296) = ((if v.toNat % 2 = 1 then poly else 0#32 : B32).toNat : Int) := by
    rw [bits_and (v.toNat : Int) 1, ofInt_toNat, h1, and_one]
    by_cases h : v.toNat % 2 = 1
    · rw [if_pos h, h, bits_and]; rfl
    · rw [if_neg h, show v.toNat % 2 = 0 by omega, bits_and]; rfl
  rw [e, bits_xor, div2, ofInt_toNat, ofInt_toNat]
  rfl
theorem prog_byte (v : B32) (b : UInt8) : Go.bits .xor .u32 (v.toNat : Int) (((b.toNat : Nat) : Int) % 4294967296) = ((v ^^^ BitVec.ofNat 32 b.toNat).toNat : Int) := by
  have hb := b.toNat_lt
  rw [show (((b.toNat : Nat) : Int) % 4294967296) = ((b.toNat : Nat) : Int) by omega, bits_xor, ofInt_toNat, BitVec.ofInt_natCast]
theorem prog_not (v : B32) : Go.bits .xor .u32 4294967295 (v.toNat : Int) = ((~~~ v).toNat : Int) := by
  rw [bits_xor, ofInt_toNat]
  have : BitVec.ofInt 32 4294967295 = BitVec.allOnes 32 := by rfl
  rw [this, BitVec.allOnes_xor]
theorem ref_not (v : B32) : (4294967295 - (v.toNat : Int)) % 4294967296 = ((~~~ v).toNat : Int) := by
  have h := v.isLt
  rw [BitVec.toNat_not]; omega

/-! ### the reference's step: a bit of the byte beside a bit of the sum -/
def rstep (c b : B32) : B32 := (c >>> 1) ^^^ (if (c.toNat % 2 = 1) ↔ (b.toNat % 2 = 1) then 0#32 else poly)
theorem xor_par (a b : B32) : (a ^^^ b).toNat % 2 = 1 ↔ ¬ (a.toNat % 2 = 1 ↔ b.toNat % 2 = 1) := by
  rw [BitVec.toNat_xor]; exact Nat.xor_mod_two_eq_one
theorem step_xor (c b : B32) : step (c ^^^ b) = rstep c b ^^^ (b >>> 1) := by
  unfold step rstep
  rw [BitVec.ushiftRight_xor_distrib]
  by_cases h : (c.toNat % 2 = 1) ↔ (b.toNat % 2 = 1)
  · rw [if_pos h, if_neg (fun h' => (xor_par c b).1 h' h), BitVec.xor_zero, BitVec.xor_zero]
  · rw [if_neg h, if_pos ((xor_par c b).2 h)]; ac_rfl
def rsteps : Nat → B32 → B32 → B32
  | 0, c, _ => c
  | n + 1, c, b => rsteps n (rstep c b) (b >>> 1)
theorem steps_xor : ∀ (n : Nat) (c b : B32), steps n (c ^^^ b) = rsteps n c b ^^^ (b >>> n)
  | 0, c, b => by simp [steps, rsteps]
  | n + 1, c, b => by
    show steps n (step (c ^^^ b)) = rsteps n (rstep c b) (b >>> 1) ^^^ (b >>> (n + 1))
    rw [step_xor, steps_xor n, Nat.add_comm n 1, BitVec.shiftRight_add]
theorem small_shift (b : B32) (h : b.toNat < 256) : b >>> 8 = 0#32 := by
  apply BitVec.eq_of_toNat_eq
  rw [BitVec.toNat_ushiftRight, Nat.shiftRight_eq_div_pow]
  simp; omega
theorem steps_byte (c b : B32) (h : b.toNat < 256) : steps 8 (c ^^^ b) = rsteps 8 c b := by
  rw [steps_xor, small_shift b h, BitVec.xor_zero]

/-! ### the step is linear, and can be undone -/
theorem step_lin (a b : B32) : step (a ^^^ b) = step a ^^^ step b := by
  unfold step
  rw [BitVec.ushiftRight_xor_distrib]
  by_cases ha : a.toNat % 2 = 1 <;> by_cases hb : b.toNat % 2 = 1
  · rw [if_neg (fun h => (xor_par a b).1 h (by simp [ha, hb])), if_pos ha, if_pos hb, BitVec.xor_zero]
    have : poly ^^^ poly = 0#32 := BitVec.xor_self
    calc a >>> 1 ^^^ b >>> 1 = (a >>> 1 ^^^ b >>> 1) ^^^ (poly ^^^ poly) := by rw [this, BitVec.xor_zero]
      _ = _ := by ac_rfl
  · rw [if_pos ((xor_par a b).2 (by simp [ha, hb])), if_pos ha, if_neg hb, BitVec.xor_zero]; ac_rfl
  · rw [if_pos ((xor_par a b).2 (by simp [ha, hb])), if_neg ha, if_pos hb, BitVec.xor_zero]; ac_rfl
  · rw [if_neg (fun h => (xor_par a b).1 h (by simp [ha, hb])), if_neg ha, if_neg hb]; simp only [BitVec.xor_zero]
theorem step_zero : step 0#32 = 0#32 := by decide
theorem step_ne (v : B32) (h : v ≠ 0#32) : step v ≠ 0#32 := by
  intro h0
  unfold step at h0
  have hv := v.isLt
  have hs : (v >>> 1).toNat = v.toNat / 2 := by rw [BitVec.toNat_ushiftRight, Nat.shiftRight_eq_div_pow]
  by_cases hp : v.toNat % 2 = 1
  · rw [if_pos hp] at h0
    have e : v >>> 1 = poly := by
      have h1 : (v >>> 1 ^^^ poly) ^^^ poly = 0#32 ^^^ poly := by rw [h0]
      rwa [BitVec.xor_assoc, BitVec.xor_self, BitVec.xor_zero, BitVec.zero_xor] at h1
    have e2 : (v >>> 1).toNat = 2197175160 := by rw [e]; rfl
    omega
  · rw [if_neg hp, BitVec.xor_zero] at h0
    have e2 : (v >>> 1).toNat = 0 := by rw [h0]; rfl
    apply h
    apply BitVec.eq_of_toNat_eq
    show v.toNat = 0
    omega
theorem steps_lin : ∀ (n : Nat) (a b : B32), steps n (a ^^^ b) = steps n a ^^^ steps n b
  | 0, _, _ => rfl
  | n + 1, a, b => by show steps n (step (a ^^^ b)) = _; rw [step_lin, steps_lin n]; rfl
theorem steps_ne : ∀ (n : Nat) (v : B32), v ≠ 0#32 → steps n v ≠ 0#32
  | 0, _, h => h
  | n + 1, v, h => steps_ne n (step v) (step_ne v h)
theorem steps_add : ∀ (m n : Nat) (v : B32), steps (m + n) v = steps n (steps m v)
  | 0, n, v => by rw [Nat.zero_add]; rfl
  | m + 1, n, v => by rw [Nat.succ_add]; exact steps_add m n (step v)

/-! ### strings as lists of bytes -/
theorem bt_get (s : ByteArray) (i : Nat) (h : i < s.size) : bt s (i : Int) = (((s.data.toList[i]'(by rw [data_length]; exact h)).toNat : Nat) : Int) := by
  unfold bt
  rw [dif_pos (by simpa using h)]
  rfl
theorem drop_get (s : ByteArray) (i : Nat) (h : i < s.size) : s.data.toList.drop i = (s.data.toList[i]'(by rw [data_length]; exact h)) :: s.data.toList.drop (i + 1) :=
  List.drop_eq_getElem_cons (by rw [data_length]; exact h)
theorem wrap_next (i n : Nat) (h : i < n) (hn : n ≤ 9223372036854775807) : wrap64 ((i : Int) + 1) = ((i + 1 : Nat) : Int) := by unfold wrap64; omega
theorem wrap_in (x : Int) (h0 : -9223372036854775808 ≤ x) (h1 : x ≤ 9223372036854775807) : wrap64 x = x := by unfold wrap64; omega
theorem foot_nums (v : B32) : strOfNums [(v.toNat : Int) % 256, ((v.toNat : Int) / 256) % 256, ((v.toNat : Int) / 65536) % 256, ((v.toNat : Int) / 16777216) % 256] = ⟨(foot v).toArray⟩ := by
  unfold strOfNums foot
  simp only [List.map_cons, List.map_nil]
  congr 2
theorem head_nums (n : Nat) : strOfNums [((n : Int) / 256) % 256, (n : Int) % 256] = ⟨(headL n).toArray⟩ := by
  unfold strOfNums headL
  simp only [List.map_cons, List.map_nil]
  congr 2
theorem ba_ext {a b : ByteArray} (h : a.data.toList = b.data.toList) : a = b := by
  cases a; cases b; simp only [ByteArray.mk.injEq]; exact Array.ext' h
theorem ba_append (a b : ByteArray) : (a ++ b).data.toList = a.data.toList ++ b.data.toList := by simp
theorem mkb_data (l : List UInt8) : (⟨l.toArray⟩ : ByteArray).data.toList = l := rfl
theorem headL_inj {m n : Nat} (hm : m ≤ 1024) (hn : n ≤ 1024) (h : headL m = headL n) : m = n := by
  unfold headL at h
  simp only [List.cons.injEq, and_true] at h
  obtain ⟨h1, h2⟩ := h
  have e1 := congrArg UInt8.toNat h1
  have e2 := congrArg UInt8.toNat h2
  simp only [UInt8.toNat_ofNat'] at e1 e2
  omega
theorem rec_length (l : List UInt8) : (rec l).length = l.length + 6 := by
  unfold rec; simp [headL, foot]
theorem rec_take2 (l : List UInt8) : (rec l).take 2 = headL l.length := by
  unfold rec; rw [List.append_assoc]; exact List.take_left' (by rfl)
theorem rec_load (l : List UInt8) : ((rec l).drop 2).take l.length = l := by
  unfold rec; rw [List.append_assoc, List.drop_left' (by rfl)]; exact List.take_left' rfl
/-- a record that begins another is that one: the loads are one -/
theorem rec_prefix {a b : List UInt8} (ha : a.length ≤ 1024) (hb : b.length ≤ 1024) (h : (rec b).take (rec a).length = rec a) : a = b := by
  have h2 : (rec a).take 2 = (rec b).take 2 := by
    rw [← h, List.take_take, show min 2 (rec a).length = 2 by rw [rec_length]; omega]
  rw [rec_take2, rec_take2] at h2
  have hl := headL_inj ha hb h2
  have e : rec a = rec b := by
    rw [← h, List.take_of_length_le (by rw [rec_length, rec_length]; omega)]
  have h3 := rec_load a
  rw [e, hl, rec_load] at h3
  exact h3.symm
/-! ### what stands at the beginning of bytes -/
def lenL (l : List UInt8) : Nat := (l.getD 0 0).toNat * 256 + (l.getD 1 0).toNat
/-- the load of the record with which bytes begin, and how many bytes that has -/
def openL (l : List UInt8) : List UInt8 × Nat :=
  if l.length < 2 then ([], 0)
  else if 1024 < lenL l ∨ l.length < lenL l + 6 then ([], 0)
  else if foot (sumL (l.take (2 + lenL l))) = (l.drop (2 + lenL l)).take 4 then ((l.drop 2).take (lenL l), lenL l + 6)
  else ([], 0)
theorem lenL_lt (l : List UInt8) : lenL l < 65536 := by
  unfold lenL
  have h1 := (l.getD 0 0).toNat_lt
  have h2 := (l.getD 1 0).toNat_lt
  omega
theorem headL_lenL {l : List UInt8} (h : 2 ≤ l.length) : headL (lenL l) = l.take 2 := by
  match l, h with
  | x :: y :: r, _ =>
    have h1 := x.toNat_lt
    have h2 := y.toNat_lt
    unfold headL lenL
    simp only [List.getD_cons_zero, List.getD_cons_succ, List.take_succ_cons, List.take_zero, List.cons.injEq, and_true]
    constructor
    · apply UInt8.toNat_inj.1; rw [UInt8.toNat_ofNat']; omega
    · apply UInt8.toNat_inj.1; rw [UInt8.toNat_ofNat']; omega
theorem lenL_headL {n : Nat} (h : n ≤ 1024) (r : List UInt8) : lenL (headL n ++ r) = n := by
  unfold lenL headL
  simp only [List.cons_append, List.getD_cons_zero, List.getD_cons_succ, UInt8.toNat_ofNat']
  omega
/-- a record is opened to its load, whatever stands behind it -/
theorem open_rec {a : List UInt8} (h : a.length ≤ 1024) (m : List UInt8) : openL (rec a ++ m) = (a, a.length + 6) := by
  have e : rec a ++ m = headL a.length ++ (a ++ (foot (sumL (headL a.length ++ a)) ++ m)) := by unfold rec; simp only [List.append_assoc]
  have hl : lenL (rec a ++ m) = a.length := by rw [e, lenL_headL h]
  have hn : (rec a ++ m).length = a.length + 6 + m.length := by rw [List.length_append, rec_length]
  have e1 : (rec a ++ m).take (2 + a.length) = headL a.length ++ a := by
    rw [e, ← List.append_assoc]; exact List.take_left' (by rw [List.length_append]; rfl)
  have e2 : (rec a ++ m).drop (2 + a.length) = foot (sumL (headL a.length ++ a)) ++ m := by
    rw [e, ← List.append_assoc]; exact List.drop_left' (by rw [List.length_append]; rfl)
  have e3 : (rec a ++ m).drop 2 = a ++ (foot (sumL (headL a.length ++ a)) ++ m) := by
    rw [e]; exact List.drop_left' rfl
  unfold openL
  rw [if_neg (by omega), hl, if_neg (by omega), e1, e2, e3, if_pos (show _ = List.take 4 _ from (List.take_left' rfl).symm), List.take_left' rfl]
/-- what is opened is closed to just these -/
theorem close_open {l : List UInt8} (h : 2 ≤ l.length) (h2 : lenL l + 6 ≤ l.length) :
    (rec ((l.drop 2).take (lenL l)) = l.take (lenL l + 6) ↔ foot (sumL (l.take (2 + lenL l))) = (l.drop (2 + lenL l)).take 4) := by
  have hn : ((l.drop 2).take (lenL l)).length = lenL l := by rw [List.length_take, List.length_drop]; omega
  have e : headL (lenL l) ++ (l.drop 2).take (lenL l) = l.take (2 + lenL l) := by
    rw [headL_lenL h, ← List.take_add]
  have e2 : l.take (lenL l + 6) = l.take (2 + lenL l) ++ (l.drop (2 + lenL l)).take 4 := by
    rw [← List.take_add]; congr 1; omega
  unfold rec
  rw [hn, e, e2]
  exact List.append_right_inj _
theorem mkb_size (l : List UInt8) : (⟨l.toArray⟩ : ByteArray).size = l.length := rfl
end Go.Proofs.Ytjegpbaohoigjaa.Plain
