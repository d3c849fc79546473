/- Proved: Open answers what the document says, of all bytes, and what is opened is closed to just these; no condition beyond the statement's own bounds. -/
import Derived.Test.YtjegpbaohoigjaaPWaferOpensx3
import Derived.Test.YtjegpbaohoigjaaPlain
import Derived.Lib.Strings
namespace Go.Proofs.Ytjegpbaohoigjaa.Pure
open Go.RowKit Go.Proofs.Ytjegpbaohoigjaa.PWaferOpens Go.Proofs.YtjegpbaohoigjaaW.PrintWords Go.Proofs.YtjegpbaohoigjaaW.PrintLast
open Go.Proofs.Ytjegpbaohoigjaa.Plain

--BEGIN sum
theorem sum_l1 (s : ByteArray) (x6 x7 : Int) (k : Nat) : ∀ (n : Nat) (v : B32), n ≤ 8 → wafer_Sum.l1 (k + n + 1) s (v.toNat : Int) x6 x7 ((8 - n : Nat) : Int) = wafer_Sum.l0 k s ((steps n v).toNat : Int) x6 (wrap64 (x7 + 1))
  | 0, v, _ => by simp only [wafer_Sum.l1]; rw [if_neg (by omega)]; rfl
  | n + 1, v, h => by
    show wafer_Sum.l1 (k + n + 1 + 1) s _ x6 x7 _ = _
    simp only [wafer_Sum.l1]
    rw [if_pos (by omega), prog_step, wrap_next (8 - (n + 1)) 8 (by omega) (by omega), show (8 - (n + 1) + 1 : Nat) = 8 - n by omega]
    exact sum_l1 s x6 x7 k n (Plain.step v) (by omega)
theorem sum_l0 (s : ByteArray) (hs : s.size ≤ 9223372036854775806) : ∀ (d i : Nat) (v : B32), i + d = s.size → wafer_Sum.l0 (10 * d + 1) s (v.toNat : Int) (s.size : Int) (i : Int) = some (((~~~ (crc v (s.data.toList.drop i))).toNat : Nat) : Int)
  | 0, i, v, h => by
    simp only [wafer_Sum.l0]
    rw [if_neg (by omega), prog_not, List.drop_eq_nil_of_le (by rw [data_length]; omega)]
    rfl
  | d + 1, i, v, h => by
    show wafer_Sum.l0 (10 * d + 10 + 1) s _ _ _ = _
    simp only [wafer_Sum.l0]
    rw [if_pos (by omega), if_pos (by omega), if_pos (by omega), bt_get s i (by omega), prog_byte]
    have := sum_l1 s (s.size : Int) (i : Int) (10 * d + 1) 8 (v ^^^ BitVec.ofNat 32 (s.data.toList[i]'(by rw [data_length]; omega)).toNat) (by omega)
    rw [show (10 * d + 1 + 8 + 1 : Nat) = 10 * d + 10 by omega] at this
    rw [show ((8 - 8 : Nat) : Int) = 0 by rfl] at this
    rw [this, wrap_next i s.size (by omega) (by omega), sum_l0 s hs d (i + 1) _ (by omega), drop_get s i (by omega)]
    rfl
theorem sum_ev (s : ByteArray) (hs : s.size ≤ 9223372036854775806) : Ev (fun k => wafer_Sum.f k s) (((sumL s.data.toList).toNat : Nat) : Int) :=
  Ev.of (fun k => wafer_Sum.mono s k) (k := 10 * s.size + 1) (by
    unfold wafer_Sum.f
    have := sum_l0 s hs s.size 0 4294967295#32 (by omega)
    exact this)
theorem foots_eq (v : B32) : wafer_foots.f (v.toNat : Int) = some ⟨(foot v).toArray⟩ := by unfold wafer_foots.f; rw [foot_nums]
theorem close_ev (s : ByteArray) (h : s.size ≤ 1024) : Ev (fun k => wafer_Close.f k s) ⟨(rec s.data.toList).toArray⟩ := by
  unfold wafer_Close.f
  have e : strOfNums [((s.size : Int) / 256) % 256, (s.size : Int) % 256] = ⟨(headL s.data.toList.length).toArray⟩ := by rw [head_nums, data_length]
  refine Ev.congr (fun k => by rw [if_neg (by omega), Option.bind_some, e]) ?_
  have hsz : ((⟨(headL s.data.toList.length).toArray⟩ : ByteArray)).size = 2 := rfl
  refine Ev.congr (fun k => by rw [if_pos (by rw [hsz]; omega)]) ?_
  refine Ev.bind (sum_ev _ (by rw [ByteArray.size_append, hsz]; omega)) ?_
  refine Ev.congr (fun k => by rw [foots_eq, Option.bind_some]) ?_
  refine Ev.congr (fun k => by rw [if_pos (by rw [hsz]; show 2 + s.size + 4 ≤ _; omega)]) ?_
  have : (⟨(headL s.data.toList.length).toArray⟩ ++ s ++ ⟨(foot (sumL ((⟨(headL s.data.toList.length).toArray⟩ : ByteArray) ++ s).data.toList)).toArray⟩ : ByteArray) = ⟨(rec s.data.toList).toArray⟩ := by
    apply ba_ext
    rw [ba_append, ba_append]
    rfl
  rw [this]
  exact Ev.now _
theorem alive_ev : Ev (fun k => countermandlaw02_alive.f k) true := by
  unfold countermandlaw02_alive.f
  refine Ev.bind (sum_ev _ (by decide)) ?_
  refine Ev.congr (fun k => by rw [if_pos (by decide +kernel)]) ?_
  refine Ev.bind (close_ev _ (by decide)) ?_
  exact Ev.congr (fun k => by rfl) (Ev.now _)
--END sum--BEGIN open
theorem i64_or (a b : Int) (ha : 0 ≤ a) (ha2 : a < 256) (hb : 0 ≤ b) (hb2 : b < 256) : Go.bits .or .i64 (wrap64 ((wrap64 a) * 256)) (wrap64 b) = a * 256 + b := by
  rw [wrap_in a (by omega) (by omega), wrap_in b (by omega) (by omega), wrap_in (a * 256) (by omega) (by omega)]
  obtain ⟨m, rfl⟩ := Int.eq_ofNat_of_zero_le ha
  obtain ⟨n, rfl⟩ := Int.eq_ofNat_of_zero_le hb
  have hm : m < 256 := by omega
  have hn : n < 256 := by omega
  have key : m * 256 ||| n = m * 256 + n := by
    have := Nat.two_pow_add_eq_or_of_lt (i := 8) (b := n) hn m
    rw [show (2 : Nat) ^ 8 * m = m * 256 by omega] at this
    exact this.symm
  show IntKind.i64.wrap ((BitVec.ofInt 64 ((m : Int) * 256) ||| BitVec.ofInt 64 (n : Int)).toNat : Int) = _
  rw [BitVec.toNat_or, show ((m : Int) * 256) = ((m * 256 : Nat) : Int) by omega, BitVec.ofInt_natCast, BitVec.ofInt_natCast, BitVec.toNat_ofNat, BitVec.toNat_ofNat, Nat.mod_eq_of_lt (by omega), Nat.mod_eq_of_lt (by omega), key, IntKind.wrap_i64]
  omega
theorem len_eq (s : ByteArray) (h : 2 ≤ s.size) : bt s 0 * 256 + bt s 1 = ((lenL s.data.toList : Nat) : Int) := by
  have h0 := bt_get s 0 (by omega)
  have h1 := bt_get s 1 (by omega)
  rw [show ((0 : Nat) : Int) = 0 by rfl] at h0
  rw [show ((1 : Nat) : Int) = 1 by rfl] at h1
  have hl : 2 ≤ s.data.toList.length := by rw [data_length]; exact h
  rw [h0, h1]
  unfold lenL
  have g0 : s.data.toList.getD 0 0 = s.data.toList[0] := by simp [List.getD, List.getElem?_eq_getElem (show 0 < s.data.toList.length by omega)]
  have g1 : s.data.toList.getD 1 0 = s.data.toList[1] := by simp [List.getD, List.getElem?_eq_getElem (show 1 < s.data.toList.length by omega)]
  rw [g0, g1]
  omega
theorem open_ev (s : ByteArray) (hs : s.size ≤ 9223372036854775806) : Ev (fun k => wafer_Open.f k s) (⟨(openL s.data.toList).1.toArray⟩, (((openL s.data.toList).2 : Nat) : Int)) := by
  have hl := data_length s
  have hn := lenL_lt s.data.toList
  have empty : (⟨#[]⟩ : ByteArray) = ⟨([] : List UInt8).toArray⟩ := rfl
  unfold wafer_Open.f
  by_cases h1 : (s.size : Int) < 2
  · refine Ev.congr (fun k => if_pos h1) ?_
    unfold openL
    rw [if_pos (by omega)]
    exact Ev.now _
  refine Ev.congr (fun k => by rw [if_neg h1, if_pos (by omega), if_pos (by omega)]) ?_
  have b0 := bt_range s 0
  have b1 := bt_range s 1
  rw [i64_or (bt s 0) (bt s 1) (by omega) (by omega) (by omega) (by omega), len_eq s (by omega)]
  generalize hL : lenL s.data.toList = n at *
  rw [wrap_in (2 + (n : Int)) (by omega) (by omega), wrap_in (2 + (n : Int) + 4) (by omega) (by omega)]
  by_cases h2 : 1024 < n ∨ s.data.toList.length < n + 6
  · have e : openL s.data.toList = ([], 0) := by unfold openL; rw [if_neg (by omega), hL, if_pos h2]
    rw [e]
    by_cases h3 : (n : Int) > 1024
    · refine Ev.congr (fun k => if_pos h3) (Ev.step (f := fun _ => some (⟨#[]⟩, 0)) (fun k => by simp only [wafer_Open.j0]; exact if_pos trivial) (Ev.now _))
    · refine Ev.congr (fun k => if_neg h3) (Ev.step (f := fun _ => some (⟨#[]⟩, 0)) (fun k => by simp only [wafer_Open.j0]; rw [if_pos (by simp; omega)]) (Ev.now _))
  refine Ev.congr (fun k => if_neg (by omega)) ?_
  refine Ev.step (fun k => by simp only [wafer_Open.j0]; rw [if_neg (by simp; omega), wrap_in (2 + (n : Int)) (by omega) (by omega), if_pos (by omega), if_pos (by omega)]) ?_
  refine Ev.bind (sum_ev _ (by simp; omega)) ?_
  refine Ev.congr (fun k => by rw [foots_eq, Option.bind_some, if_pos (by omega), if_pos (by omega)]) ?_
  rw [show (2 + (n : Int)).toNat = 2 + n by omega, show (2 + (n : Int) + 4).toNat = 2 + n + 4 by omega]
  simp only [ByteArray.toList_eq, Lib.extract_data, List.drop_zero, Nat.sub_zero]
  rw [show 2 + n + 4 - (2 + n) = 4 by omega]
  by_cases h4 : foot (sumL (s.data.toList.take (2 + n))) = (s.data.toList.drop (2 + n)).take 4
  · have e : openL s.data.toList = ((s.data.toList.drop 2).take n, n + 6) := by unfold openL; rw [if_neg (by omega), hL, if_neg h2, if_pos h4]
    rw [e]
    refine Ev.congr (fun k => by rw [if_pos h4, if_pos (by omega)]) ?_
    rw [Lib.extract_eq, show 2 + n - 2 = n by omega, show (2 + (n : Int) + 4) = (((n + 6 : Nat)) : Int) by omega]
    exact Ev.now _
  · have e : openL s.data.toList = ([], 0) := by unfold openL; rw [if_neg (by omega), hL, if_neg h2, if_neg h4]
    rw [e]
    exact Ev.congr (fun k => if_neg h4) (Ev.now _)
--END open
--BEGIN ref
theorem tmod2 (v : B32) : Int.tmod (v.toNat : Int) 2 = 1 ↔ v.toNat % 2 = 1 := by rw [Int.tmod_eq_emod_of_nonneg (by omega)]; omega
theorem tdiv2 (v : B32) : (Int.tdiv (v.toNat : Int) 2) % (4294967296 : Int) = ((v >>> 1).toNat : Int) := by
  have h := v.isLt
  rw [Int.tdiv_eq_ediv_of_nonneg (by omega), ← div2]; omega
theorem tdiv2b (v : B32) (hv : v.toNat < 256) : (Int.tdiv (v.toNat : Int) 2) % (256 : Int) = ((v >>> 1).toNat : Int) := by
  rw [Int.tdiv_eq_ediv_of_nonneg (by omega), ← div2]; omega
theorem shr_lt (v : B32) (hv : v.toNat < 256) : (v >>> 1).toNat < 256 := by
  rw [BitVec.toNat_ushiftRight, Nat.shiftRight_eq_div_pow]; omega
theorem rstep_no (c b : B32) (h : (c.toNat % 2 = 1) ↔ (b.toNat % 2 = 1)) : rstep c b = c >>> 1 := by unfold rstep; rw [if_pos h, BitVec.xor_zero]
theorem rstep_yes (c b : B32) (h : ¬ ((c.toNat % 2 = 1) ↔ (b.toNat % 2 = 1))) : Go.bits .xor .u32 ((c >>> 1).toNat : Int) 2197175160 = ((rstep c b).toNat : Int) := by
  unfold rstep; rw [if_neg h, bits_xor, ofInt_toNat]; rfl
theorem ref_l1 (s : ByteArray) (x4 : Int) (k : Nat) : ∀ (n : Nat) (c b : B32), n ≤ 8 → b.toNat < 256 → countermandref02_Sum.l1 (k + n + 1) s (c.toNat : Int) x4 (b.toNat : Int) ((8 - n : Nat) : Int) = countermandref02_Sum.l0 k s ((rsteps n c b).toNat : Int) (wrap64 (x4 + 1))
  | 0, c, b, _, _ => by simp only [countermandref02_Sum.l1]; rw [if_neg (by omega)]; rfl
  | n + 1, c, b, h, hb => by
    show countermandref02_Sum.l1 (k + n + 1 + 1) s _ x4 _ _ = _
    obtain ⟨m, hm⟩ : ∃ m, m = k + n + 1 := ⟨_, rfl⟩
    rw [← hm]
    simp only [countermandref02_Sum.l1]
    rw [hm, if_pos (by omega), wrap_next (8 - (n + 1)) 8 (by omega) (by omega), show (8 - (n + 1) + 1 : Nat) = 8 - n by omega, tdiv2, tdiv2b b hb]
    by_cases hc : c.toNat % 2 = 1 <;> by_cases hd : b.toNat % 2 = 1
    · rw [if_pos ((tmod2 c).2 hc), if_pos ((tmod2 b).2 hd), ref_l1 s x4 k n _ _ (by omega) (shr_lt b hb), ← rstep_no c b (by simp [hc, hd])]; rfl
    · rw [if_pos ((tmod2 c).2 hc), if_neg (fun h => hd ((tmod2 b).1 h)), rstep_yes c b (by simp [hc, hd]), ref_l1 s x4 k n _ _ (by omega) (shr_lt b hb)]; rfl
    · rw [if_neg (fun h => hc ((tmod2 c).1 h)), if_pos ((tmod2 b).2 hd), rstep_yes c b (by simp [hc, hd]), ref_l1 s x4 k n _ _ (by omega) (shr_lt b hb)]; rfl
    · rw [if_neg (fun h => hc ((tmod2 c).1 h)), if_neg (fun h => hd ((tmod2 b).1 h)), ref_l1 s x4 k n _ _ (by omega) (shr_lt b hb), ← rstep_no c b (by simp [hc, hd])]; rfl
theorem byte_nat (b : UInt8) : ((BitVec.ofNat 32 b.toNat : B32)).toNat = b.toNat := by
  have := b.toNat_lt
  rw [BitVec.toNat_ofNat]; omega
theorem ref_l0 (s : ByteArray) (hs : s.size ≤ 9223372036854775806) : ∀ (d i : Nat) (v : B32), i + d = s.size → countermandref02_Sum.l0 (10 * d + 1) s (v.toNat : Int) (i : Int) = some (((~~~ (crc v (s.data.toList.drop i))).toNat : Nat) : Int)
  | 0, i, v, h => by
    simp only [countermandref02_Sum.l0]
    rw [if_neg (by omega), ref_not, List.drop_eq_nil_of_le (by rw [data_length]; omega)]
    rfl
  | d + 1, i, v, h => by
    show countermandref02_Sum.l0 (10 * d + 10 + 1) s _ _ = _
    simp only [countermandref02_Sum.l0]
    rw [if_pos (by omega), if_pos (by omega), bt_get s i (by omega)]
    generalize hB : s.data.toList[i]'(by rw [data_length]; omega) = B
    have hb := byte_nat B
    have := ref_l1 s (i : Int) (10 * d + 1) 8 v (BitVec.ofNat 32 B.toNat) (by omega) (by rw [hb]; exact B.toNat_lt)
    rw [show (10 * d + 1 + 8 + 1 : Nat) = 10 * d + 10 by omega, show ((8 - 8 : Nat) : Int) = 0 by rfl, hb] at this
    rw [this, wrap_next i s.size (by omega) (by omega), ref_l0 s hs d (i + 1) _ (by omega), drop_get s i (by omega), hB]
    show _ = some (((~~~ (crc (steps 8 (v ^^^ BitVec.ofNat 32 B.toNat)) _)).toNat : Nat) : Int)
    rw [steps_byte v _ (by rw [hb]; exact B.toNat_lt)]
theorem rsum_ev (s : ByteArray) (hs : s.size ≤ 9223372036854775806) : Ev (fun k => countermandref02_Sum.f k s) (((sumL s.data.toList).toNat : Nat) : Int) :=
  Ev.of (fun k => countermandref02_Sum.mono s k) (k := 10 * s.size + 1) (by
    unfold countermandref02_Sum.f
    have := ref_l0 s hs s.size 0 4294967295#32 (by omega)
    exact this)
theorem rfoot_nums (v : B32) : strOfNums ([(Int.tmod (v.toNat : Int) 256) % (256 : Int), ((Int.tdiv (v.toNat : Int) 256) % (4294967296 : Int)) % (256 : Int), ((Int.tdiv (v.toNat : Int) 65536) % (4294967296 : Int)) % (256 : Int), ((Int.tdiv (v.toNat : Int) 16777216) % (4294967296 : Int)) % (256 : Int)] : List Int) = ⟨(foot v).toArray⟩ := by
  have h := v.isLt
  rw [← foot_nums]
  congr 1
  rw [Int.tmod_eq_emod_of_nonneg (by omega), Int.tdiv_eq_ediv_of_nonneg (by omega), Int.tdiv_eq_ediv_of_nonneg (by omega), Int.tdiv_eq_ediv_of_nonneg (by omega)]
  simp only [List.cons.injEq, and_true]
  refine ⟨?_, ?_, ?_, ?_⟩ <;> omega
theorem rclose_ev (s : ByteArray) (h : s.size ≤ 1024) : Ev (fun k => countermandref02_Close.f k s) ⟨(rec s.data.toList).toArray⟩ := by
  unfold countermandref02_Close.f
  have e : strOfNums [((s.size : Int) / 256) % 256, (s.size : Int) % 256] = ⟨(headL s.data.toList.length).toArray⟩ := by rw [head_nums, data_length]
  refine Ev.congr (fun k => by rw [if_neg (by omega), Option.bind_some, e]) ?_
  have hsz : ((⟨(headL s.data.toList.length).toArray⟩ : ByteArray)).size = 2 := rfl
  refine Ev.congr (fun k => by rw [if_pos (by rw [hsz]; omega)]) ?_
  refine Ev.bind (rsum_ev _ (by rw [ByteArray.size_append, hsz]; omega)) ?_
  refine Ev.congr (fun k => by rw [Option.bind_some, rfoot_nums]) ?_
  refine Ev.congr (fun k => by rw [if_pos (by rw [hsz]; show 2 + s.size + 4 ≤ _; omega)]) ?_
  have : (⟨(headL s.data.toList.length).toArray⟩ ++ s ++ ⟨(foot (sumL ((⟨(headL s.data.toList.length).toArray⟩ : ByteArray) ++ s).data.toList)).toArray⟩ : ByteArray) = ⟨(rec s.data.toList).toArray⟩ := by
    apply ba_ext
    rw [ba_append, ba_append]
    rfl
  rw [this]
  exact Ev.now _
--END ref

theorem ropen_ev (s : ByteArray) (hs : s.size ≤ 9223372036854775806) : Ev (fun k => countermandref02_Open.f k s) (⟨(openL s.data.toList).1.toArray⟩, (((openL s.data.toList).2 : Nat) : Int)) := by
  have hl := data_length s
  have hn := lenL_lt s.data.toList
  unfold countermandref02_Open.f
  by_cases h1 : (s.size : Int) < 6
  · refine Ev.congr (fun k => if_pos h1) ?_
    have e : openL s.data.toList = ([], 0) := by
      unfold openL
      by_cases h : s.data.toList.length < 2
      · rw [if_pos h]
      · rw [if_neg h, if_pos (by omega)]
    rw [e]
    exact Ev.now _
  refine Ev.congr (fun k => by rw [if_neg h1, if_pos (by omega), if_pos (by omega)]) ?_
  have b0 := bt_range s 0
  have b1 := bt_range s 1
  have e0 : wrap64 ((wrap64 (256 * (wrap64 (bt s 0)))) + (wrap64 (bt s 1))) = ((lenL s.data.toList : Nat) : Int) := by
    rw [← len_eq s (by omega), wrap_in (bt s 0) (by omega) (by omega), wrap_in (bt s 1) (by omega) (by omega), wrap_in (256 * bt s 0) (by omega) (by omega), wrap_in _ (by omega) (by omega)]
    omega
  rw [e0]
  generalize hL : lenL s.data.toList = n at *
  rw [wrap_in (6 + (n : Int)) (by omega) (by omega)]
  by_cases h2 : 1024 < n ∨ s.data.toList.length < n + 6
  · have e : openL s.data.toList = ([], 0) := by unfold openL; rw [if_neg (by omega), hL, if_pos h2]
    rw [e]
    by_cases h3 : (n : Int) > 1024
    · refine Ev.congr (fun k => if_pos h3) (Ev.step (f := fun _ => some (⟨#[]⟩, 0)) (fun k => by simp only [countermandref02_Open.j0]; exact if_pos trivial) (Ev.now _))
    · refine Ev.congr (fun k => if_neg h3) (Ev.step (f := fun _ => some (⟨#[]⟩, 0)) (fun k => by simp only [countermandref02_Open.j0]; rw [if_pos (by simp; omega)]) (Ev.now _))
  refine Ev.congr (fun k => if_neg (by omega)) ?_
  refine Ev.step (fun k => by simp only [countermandref02_Open.j0]; rw [if_neg (by simp; omega), wrap_in (2 + (n : Int)) (by omega) (by omega), wrap_in (6 + (n : Int)) (by omega) (by omega), if_pos (by omega), if_pos (by omega)]) ?_
  rw [show (2 + (n : Int)).toNat = 2 + n by omega, show (6 + (n : Int)).toNat = 6 + n by omega]
  refine Ev.bind (rclose_ev _ (by simp; omega)) ?_
  refine Ev.congr (fun k => by rw [if_pos (by omega), if_pos (by omega)]) ?_
  simp only [ByteArray.toList_eq, Lib.extract_data, List.drop_zero, Nat.sub_zero]
  rw [show 2 + n - 2 = n by omega]
  have co := close_open (l := s.data.toList) (by omega) (by rw [hL]; omega)
  rw [hL, Nat.add_comm n 6] at co
  by_cases h4 : foot (sumL (s.data.toList.take (2 + n))) = (s.data.toList.drop (2 + n)).take 4
  · have e : openL s.data.toList = ((s.data.toList.drop 2).take n, n + 6) := by unfold openL; rw [if_neg (by omega), hL, if_neg h2, if_pos h4]
    rw [e]
    refine Ev.congr (fun k => if_pos (co.2 h4)) ?_
    rw [Lib.extract_eq, show 2 + n - 2 = n by omega, show (6 + (n : Int)) = (((n + 6 : Nat)) : Int) by omega]
    exact Ev.now _
  · have e : openL s.data.toList = ([], 0) := by unfold openL; rw [if_neg (by omega), hL, if_neg h2, if_neg h4]
    rw [e]
    exact Ev.congr (fun k => if_neg (fun h => h4 (co.1 h))) (Ev.now _)

theorem WaferOpens : countermandlaw02_WaferOpens.Pure := by
  intro b hb
  apply Ev.rounds
  unfold countermandlaw02_WaferOpens.f
  refine Ev.bind alive_ev ?_
  refine Ev.congr (fun k => if_pos rfl) ?_
  by_cases h1 : (b.size : Int) > 2048
  · exact Ev.congr (fun k => if_pos h1) (Ev.now true)
  refine Ev.congr (fun k => if_neg h1) ?_
  refine Ev.bind (open_ev b (by omega)) (Ev.bind (ropen_ev b (by omega)) ?_)
  refine Ev.congr (fun k => by rw [if_pos rfl, if_pos rfl]) ?_
  have hl := data_length b
  by_cases h2 : (((openL b.data.toList).2 : Nat) : Int) = 0
  · exact Ev.congr (fun k => if_pos h2) (Ev.now true)
  refine Ev.congr (fun k => if_neg h2) ?_
  have key : ¬ b.data.toList.length < 2 ∧ ¬ (1024 < lenL b.data.toList ∨ b.data.toList.length < lenL b.data.toList + 6) ∧ foot (sumL (b.data.toList.take (2 + lenL b.data.toList))) = (b.data.toList.drop (2 + lenL b.data.toList)).take 4 ∧ openL b.data.toList = ((b.data.toList.drop 2).take (lenL b.data.toList), lenL b.data.toList + 6) := by
    unfold openL at h2 ⊢
    by_cases p1 : b.data.toList.length < 2
    · rw [if_pos p1] at h2; exact absurd rfl h2
    rw [if_neg p1] at h2 ⊢
    by_cases p2 : 1024 < lenL b.data.toList ∨ b.data.toList.length < lenL b.data.toList + 6
    · rw [if_pos p2] at h2; exact absurd rfl h2
    rw [if_neg p2] at h2 ⊢
    by_cases p3 : foot (sumL (b.data.toList.take (2 + lenL b.data.toList))) = (b.data.toList.drop (2 + lenL b.data.toList)).take 4
    · rw [if_pos p3]; exact ⟨p1, p2, p3, rfl⟩
    · rw [if_neg p3] at h2; exact absurd rfl h2
  obtain ⟨p1, p2, p3, e⟩ := key
  rw [e]
  refine Ev.bind (close_ev _ (by rw [mkb_size, List.length_take, List.length_drop]; omega)) ?_
  refine Ev.congr (fun k => ?_) (Ev.now true)
  rw [if_pos (by omega), if_pos (by dsimp only; omega)]
  simp only [ByteArray.toList_eq, Lib.extract_data, List.drop_zero, Nat.sub_zero, Int.toNat_natCast]
  rw [(close_open (by omega) (by omega)).2 p3]
  simp

end Go.Proofs.Ytjegpbaohoigjaa.Pure
