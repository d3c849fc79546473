/- Proved: a row is told load by load, whatever else is behind it that is no record, and All may be left at any time; no condition beyond the statement's own bounds. -/
import Derived.Test.YtjegpbaohoigjaaPWaferRowsx3
import Derived.Test.YtjegpbaohoigjaaPlain
import Derived.Test.YtjegpbaohoigjaaRecs
import Derived.Lib.Strings
import Derived.OpenShut
namespace Go.Proofs.Ytjegpbaohoigjaa.Pure
open Go.RowKit Go.Proofs.Ytjegpbaohoigjaa.PWaferRows Go.Proofs.YtjegpbaohoigjaaW.PrintWords Go.Proofs.YtjegpbaohoigjaaW.PrintLast
open Go.Proofs.Ytjegpbaohoigjaa.Plain Go.Proofs.Ytjegpbaohoigjaa

--BEGIN sum
theorem sum_l1 (s : ByteArray) (x6 x7 : Int) (k : Nat) : ∀ (n : Nat) (v : B32), n ≤ 8 → wafer_Sum.l1 (k + n + 1) s (v.toNat : Int) x6 x7 ((8 - n : Nat) : Int) = wafer_Sum.l0 k s ((steps n v).toNat : Int) x6 (wrap64 (x7 + 1))
  | 0, v, _ => by simp only [wafer_Sum.l1]; rw [if_neg (by omega)]; rfl
  | n + 1, v, h => by
    show wafer_Sum.l1 (k + n + 1 + 1) s _ x6 x7 _ = _
    simp only [wafer_Sum.l1]
    rw [if_pos (by omega), prog_step, wrap_next (8 - (n + 1)) 8 (by omega) (by omega), show (8 - (n + 1) + 1 : Nat) = 8 - n by omega]
    exact sum_l1 s x6 x7 k n (Plain.step v) (by omega)
theorem sum_l0 (s : ByteArray) (hs : s.size ≤ 9223372036854775806) : ∀ (d i : Nat) (v : B32), i + d = s.size → wafer_Sum.l0 (10 * d + 1) s (v.toNat : Int) (s.size : Int) (i : Int) = some (((~~~ (crc v (s.data.toList.drop i))).toNat : Nat) : Int)
  | 0, i, v, h => by
    simp only [wafer_Sum.l0]
    rw [if_neg (by omega), prog_not, List.drop_eq_nil_of_le (by rw [data_length]; omega)]
    rfl
  | d + 1, i, v, h => by
    show wafer_Sum.l0 (10 * d + 10 + 1) s _ _ _ = _
    simp only [wafer_Sum.l0]
    rw [if_pos (by omega), if_pos (by omega), if_pos (by omega), bt_get s i (by omega), prog_byte]
    have := sum_l1 s (s.size : Int) (i : Int) (10 * d + 1) 8 (v ^^^ BitVec.ofNat 32 (s.data.toList[i]'(by rw [data_length]; omega)).toNat) (by omega)
    rw [show (10 * d + 1 + 8 + 1 : Nat) = 10 * d + 10 by omega] at this
    rw [show ((8 - 8 : Nat) : Int) = 0 by rfl] at this
    rw [this, wrap_next i s.size (by omega) (by omega), sum_l0 s hs d (i + 1) _ (by omega), drop_get s i (by omega)]
    rfl
theorem sum_ev (s : ByteArray) (hs : s.size ≤ 9223372036854775806) : Ev (fun k => wafer_Sum.f k s) (((sumL s.data.toList).toNat : Nat) : Int) :=
  Ev.of (fun k => wafer_Sum.mono s k) (k := 10 * s.size + 1) (by
    unfold wafer_Sum.f
    have := sum_l0 s hs s.size 0 4294967295#32 (by omega)
    exact this)
theorem foots_eq (v : B32) : wafer_foots.f (v.toNat : Int) = some ⟨(foot v).toArray⟩ := by unfold wafer_foots.f; rw [foot_nums]
theorem close_ev (s : ByteArray) (h : s.size ≤ 1024) : Ev (fun k => wafer_Close.f k s) ⟨(rec s.data.toList).toArray⟩ := by
  unfold wafer_Close.f
  have e : strOfNums [((s.size : Int) / 256) % 256, (s.size : Int) % 256] = ⟨(headL s.data.toList.length).toArray⟩ := by rw [head_nums, data_length]
  refine Ev.congr (fun k => by rw [if_neg (by omega), Option.bind_some, e]) ?_
  have hsz : ((⟨(headL s.data.toList.length).toArray⟩ : ByteArray)).size = 2 := rfl
  refine Ev.congr (fun k => by rw [if_pos (by rw [hsz]; omega)]) ?_
  refine Ev.bind (sum_ev _ (by rw [ByteArray.size_append, hsz]; omega)) ?_
  refine Ev.congr (fun k => by rw [foots_eq, Option.bind_some]) ?_
  refine Ev.congr (fun k => by rw [if_pos (by rw [hsz]; show 2 + s.size + 4 ≤ _; omega)]) ?_
  have : (⟨(headL s.data.toList.length).toArray⟩ ++ s ++ ⟨(foot (sumL ((⟨(headL s.data.toList.length).toArray⟩ : ByteArray) ++ s).data.toList)).toArray⟩ : ByteArray) = ⟨(rec s.data.toList).toArray⟩ := by
    apply ba_ext
    rw [ba_append, ba_append]
    rfl
  rw [this]
  exact Ev.now _
theorem alive_ev : Ev (fun k => countermandlaw02_alive.f k) true := by
  unfold countermandlaw02_alive.f
  refine Ev.bind (sum_ev _ (by decide)) ?_
  refine Ev.congr (fun k => by rw [if_pos (by decide +kernel)]) ?_
  refine Ev.bind (close_ev _ (by decide)) ?_
  exact Ev.congr (fun k => by rfl) (Ev.now _)
--END sum--BEGIN open
theorem i64_or (a b : Int) (ha : 0 ≤ a) (ha2 : a < 256) (hb : 0 ≤ b) (hb2 : b < 256) : Go.bits .or .i64 (wrap64 ((wrap64 a) * 256)) (wrap64 b) = a * 256 + b := by
  rw [wrap_in a (by omega) (by omega), wrap_in b (by omega) (by omega), wrap_in (a * 256) (by omega) (by omega)]
  obtain ⟨m, rfl⟩ := Int.eq_ofNat_of_zero_le ha
  obtain ⟨n, rfl⟩ := Int.eq_ofNat_of_zero_le hb
  have hm : m < 256 := by omega
  have hn : n < 256 := by omega
  have key : m * 256 ||| n = m * 256 + n := by
    have := Nat.two_pow_add_eq_or_of_lt (i := 8) (b := n) hn m
    rw [show (2 : Nat) ^ 8 * m = m * 256 by omega] at this
    exact this.symm
  show IntKind.i64.wrap ((BitVec.ofInt 64 ((m : Int) * 256) ||| BitVec.ofInt 64 (n : Int)).toNat : Int) = _
  rw [BitVec.toNat_or, show ((m : Int) * 256) = ((m * 256 : Nat) : Int) by omega, BitVec.ofInt_natCast, BitVec.ofInt_natCast, BitVec.toNat_ofNat, BitVec.toNat_ofNat, Nat.mod_eq_of_lt (by omega), Nat.mod_eq_of_lt (by omega), key, IntKind.wrap_i64]
  omega
theorem len_eq (s : ByteArray) (h : 2 ≤ s.size) : bt s 0 * 256 + bt s 1 = ((lenL s.data.toList : Nat) : Int) := by
  have h0 := bt_get s 0 (by omega)
  have h1 := bt_get s 1 (by omega)
  rw [show ((0 : Nat) : Int) = 0 by rfl] at h0
  rw [show ((1 : Nat) : Int) = 1 by rfl] at h1
  have hl : 2 ≤ s.data.toList.length := by rw [data_length]; exact h
  rw [h0, h1]
  unfold lenL
  have g0 : s.data.toList.getD 0 0 = s.data.toList[0] := by simp [List.getD, List.getElem?_eq_getElem (show 0 < s.data.toList.length by omega)]
  have g1 : s.data.toList.getD 1 0 = s.data.toList[1] := by simp [List.getD, List.getElem?_eq_getElem (show 1 < s.data.toList.length by omega)]
  rw [g0, g1]
  omega
theorem open_ev (s : ByteArray) (hs : s.size ≤ 9223372036854775806) : Ev (fun k => wafer_Open.f k s) (⟨(openL s.data.toList).1.toArray⟩, (((openL s.data.toList).2 : Nat) : Int)) := by
  have hl := data_length s
  have hn := lenL_lt s.data.toList
  have empty : (⟨#[]⟩ : ByteArray) = ⟨([] : List UInt8).toArray⟩ := rfl
  unfold wafer_Open.f
  by_cases h1 : (s.size : Int) < 2
  · refine Ev.congr (fun k => if_pos h1) ?_
    unfold openL
    rw [if_pos (by omega)]
    exact Ev.now _
  refine Ev.congr (fun k => by rw [if_neg h1, if_pos (by omega), if_pos (by omega)]) ?_
  have b0 := bt_range s 0
  have b1 := bt_range s 1
  rw [i64_or (bt s 0) (bt s 1) (by omega) (by omega) (by omega) (by omega), len_eq s (by omega)]
  generalize hL : lenL s.data.toList = n at *
  rw [wrap_in (2 + (n : Int)) (by omega) (by omega), wrap_in (2 + (n : Int) + 4) (by omega) (by omega)]
  by_cases h2 : 1024 < n ∨ s.data.toList.length < n + 6
  · have e : openL s.data.toList = ([], 0) := by unfold openL; rw [if_neg (by omega), hL, if_pos h2]
    rw [e]
    by_cases h3 : (n : Int) > 1024
    · refine Ev.congr (fun k => if_pos h3) (Ev.step (f := fun _ => some (⟨#[]⟩, 0)) (fun k => by simp only [wafer_Open.j0]; exact if_pos trivial) (Ev.now _))
    · refine Ev.congr (fun k => if_neg h3) (Ev.step (f := fun _ => some (⟨#[]⟩, 0)) (fun k => by simp only [wafer_Open.j0]; rw [if_pos (by simp; omega)]) (Ev.now _))
  refine Ev.congr (fun k => if_neg (by omega)) ?_
  refine Ev.step (fun k => by simp only [wafer_Open.j0]; rw [if_neg (by simp; omega), wrap_in (2 + (n : Int)) (by omega) (by omega), if_pos (by omega), if_pos (by omega)]) ?_
  refine Ev.bind (sum_ev _ (by simp; omega)) ?_
  refine Ev.congr (fun k => by rw [foots_eq, Option.bind_some, if_pos (by omega), if_pos (by omega)]) ?_
  rw [show (2 + (n : Int)).toNat = 2 + n by omega, show (2 + (n : Int) + 4).toNat = 2 + n + 4 by omega]
  simp only [ByteArray.toList_eq, Lib.extract_data, List.drop_zero, Nat.sub_zero]
  rw [show 2 + n + 4 - (2 + n) = 4 by omega]
  by_cases h4 : foot (sumL (s.data.toList.take (2 + n))) = (s.data.toList.drop (2 + n)).take 4
  · have e : openL s.data.toList = ((s.data.toList.drop 2).take n, n + 6) := by unfold openL; rw [if_neg (by omega), hL, if_neg h2, if_pos h4]
    rw [e]
    refine Ev.congr (fun k => by rw [if_pos h4, if_pos (by omega)]) ?_
    rw [Lib.extract_eq, show 2 + n - 2 = n by omega, show (2 + (n : Int) + 4) = (((n + 6 : Nat)) : Int) by omega]
    exact Ev.now _
  · have e : openL s.data.toList = ([], 0) := by unfold openL; rw [if_neg (by omega), hL, if_neg h2, if_neg h4]
    rw [e]
    exact Ev.congr (fun k => if_neg h4) (Ev.now _)
--END open
--BEGIN ref
theorem tmod2 (v : B32) : Int.tmod (v.toNat : Int) 2 = 1 ↔ v.toNat % 2 = 1 := by rw [Int.tmod_eq_emod_of_nonneg (by omega)]; omega
theorem tdiv2 (v : B32) : (Int.tdiv (v.toNat : Int) 2) % (4294967296 : Int) = ((v >>> 1).toNat : Int) := by
  have h := v.isLt
  rw [Int.tdiv_eq_ediv_of_nonneg (by omega), ← div2]; omega
theorem tdiv2b (v : B32) (hv : v.toNat < 256) : (Int.tdiv (v.toNat : Int) 2) % (256 : Int) = ((v >>> 1).toNat : Int) := by
  rw [Int.tdiv_eq_ediv_of_nonneg (by omega), ← div2]; omega
theorem shr_lt (v : B32) (hv : v.toNat < 256) : (v >>> 1).toNat < 256 := by
  rw [BitVec.toNat_ushiftRight, Nat.shiftRight_eq_div_pow]; omega
theorem rstep_no (c b : B32) (h : (c.toNat % 2 = 1) ↔ (b.toNat % 2 = 1)) : rstep c b = c >>> 1 := by unfold rstep; rw [if_pos h, BitVec.xor_zero]
theorem rstep_yes (c b : B32) (h : ¬ ((c.toNat % 2 = 1) ↔ (b.toNat % 2 = 1))) : Go.bits .xor .u32 ((c >>> 1).toNat : Int) 2197175160 = ((rstep c b).toNat : Int) := by
  unfold rstep; rw [if_neg h, bits_xor, ofInt_toNat]; rfl
theorem ref_l1 (s : ByteArray) (x4 : Int) (k : Nat) : ∀ (n : Nat) (c b : B32), n ≤ 8 → b.toNat < 256 → countermandref02_Sum.l1 (k + n + 1) s (c.toNat : Int) x4 (b.toNat : Int) ((8 - n : Nat) : Int) = countermandref02_Sum.l0 k s ((rsteps n c b).toNat : Int) (wrap64 (x4 + 1))
  | 0, c, b, _, _ => by simp only [countermandref02_Sum.l1]; rw [if_neg (by omega)]; rfl
  | n + 1, c, b, h, hb => by
    show countermandref02_Sum.l1 (k + n + 1 + 1) s _ x4 _ _ = _
    obtain ⟨m, hm⟩ : ∃ m, m = k + n + 1 := ⟨_, rfl⟩
    rw [← hm]
    simp only [countermandref02_Sum.l1]
    rw [hm, if_pos (by omega), wrap_next (8 - (n + 1)) 8 (by omega) (by omega), show (8 - (n + 1) + 1 : Nat) = 8 - n by omega, tdiv2, tdiv2b b hb]
    by_cases hc : c.toNat % 2 = 1 <;> by_cases hd : b.toNat % 2 = 1
    · rw [if_pos ((tmod2 c).2 hc), if_pos ((tmod2 b).2 hd), ref_l1 s x4 k n _ _ (by omega) (shr_lt b hb), ← rstep_no c b (by simp [hc, hd])]; rfl
    · rw [if_pos ((tmod2 c).2 hc), if_neg (fun h => hd ((tmod2 b).1 h)), rstep_yes c b (by simp [hc, hd]), ref_l1 s x4 k n _ _ (by omega) (shr_lt b hb)]; rfl
    · rw [if_neg (fun h => hc ((tmod2 c).1 h)), if_pos ((tmod2 b).2 hd), rstep_yes c b (by simp [hc, hd]), ref_l1 s x4 k n _ _ (by omega) (shr_lt b hb)]; rfl
    · rw [if_neg (fun h => hc ((tmod2 c).1 h)), if_neg (fun h => hd ((tmod2 b).1 h)), ref_l1 s x4 k n _ _ (by omega) (shr_lt b hb), ← rstep_no c b (by simp [hc, hd])]; rfl
theorem byte_nat (b : UInt8) : ((BitVec.ofNat 32 b.toNat : B32)).toNat = b.toNat := by
  have := b.toNat_lt
  rw [BitVec.toNat_ofNat]; omega
theorem ref_l0 (s : ByteArray) (hs : s.size ≤ 9223372036854775806) : ∀ (d i : Nat) (v : B32), i + d = s.size → countermandref02_Sum.l0 (10 * d + 1) s (v.toNat : Int) (i : Int) = some (((~~~ (crc v (s.data.toList.drop i))).toNat : Nat) : Int)
  | 0, i, v, h => by
    simp only [countermandref02_Sum.l0]
    rw [if_neg (by omega), ref_not, List.drop_eq_nil_of_le (by rw [data_length]; omega)]
    rfl
  | d + 1, i, v, h => by
    show countermandref02_Sum.l0 (10 * d + 10 + 1) s _ _ = _
    simp only [countermandref02_Sum.l0]
    rw [if_pos (by omega), if_pos (by omega), bt_get s i (by omega)]
    generalize hB : s.data.toList[i]'(by rw [data_length]; omega) = B
    have hb := byte_nat B
    have := ref_l1 s (i : Int) (10 * d + 1) 8 v (BitVec.ofNat 32 B.toNat) (by omega) (by rw [hb]; exact B.toNat_lt)
    rw [show (10 * d + 1 + 8 + 1 : Nat) = 10 * d + 10 by omega, show ((8 - 8 : Nat) : Int) = 0 by rfl, hb] at this
    rw [this, wrap_next i s.size (by omega) (by omega), ref_l0 s hs d (i + 1) _ (by omega), drop_get s i (by omega), hB]
    show _ = some (((~~~ (crc (steps 8 (v ^^^ BitVec.ofNat 32 B.toNat)) _)).toNat : Nat) : Int)
    rw [steps_byte v _ (by rw [hb]; exact B.toNat_lt)]
theorem rsum_ev (s : ByteArray) (hs : s.size ≤ 9223372036854775806) : Ev (fun k => countermandref02_Sum.f k s) (((sumL s.data.toList).toNat : Nat) : Int) :=
  Ev.of (fun k => countermandref02_Sum.mono s k) (k := 10 * s.size + 1) (by
    unfold countermandref02_Sum.f
    have := ref_l0 s hs s.size 0 4294967295#32 (by omega)
    exact this)
theorem rfoot_nums (v : B32) : strOfNums ([(Int.tmod (v.toNat : Int) 256) % (256 : Int), ((Int.tdiv (v.toNat : Int) 256) % (4294967296 : Int)) % (256 : Int), ((Int.tdiv (v.toNat : Int) 65536) % (4294967296 : Int)) % (256 : Int), ((Int.tdiv (v.toNat : Int) 16777216) % (4294967296 : Int)) % (256 : Int)] : List Int) = ⟨(foot v).toArray⟩ := by
  have h := v.isLt
  rw [← foot_nums]
  congr 1
  rw [Int.tmod_eq_emod_of_nonneg (by omega), Int.tdiv_eq_ediv_of_nonneg (by omega), Int.tdiv_eq_ediv_of_nonneg (by omega), Int.tdiv_eq_ediv_of_nonneg (by omega)]
  simp only [List.cons.injEq, and_true]
  refine ⟨?_, ?_, ?_, ?_⟩ <;> omega
theorem rclose_ev (s : ByteArray) (h : s.size ≤ 1024) : Ev (fun k => countermandref02_Close.f k s) ⟨(rec s.data.toList).toArray⟩ := by
  unfold countermandref02_Close.f
  have e : strOfNums [((s.size : Int) / 256) % 256, (s.size : Int) % 256] = ⟨(headL s.data.toList.length).toArray⟩ := by rw [head_nums, data_length]
  refine Ev.congr (fun k => by rw [if_neg (by omega), Option.bind_some, e]) ?_
  have hsz : ((⟨(headL s.data.toList.length).toArray⟩ : ByteArray)).size = 2 := rfl
  refine Ev.congr (fun k => by rw [if_pos (by rw [hsz]; omega)]) ?_
  refine Ev.bind (rsum_ev _ (by rw [ByteArray.size_append, hsz]; omega)) ?_
  refine Ev.congr (fun k => by rw [Option.bind_some, rfoot_nums]) ?_
  refine Ev.congr (fun k => by rw [if_pos (by rw [hsz]; show 2 + s.size + 4 ≤ _; omega)]) ?_
  have : (⟨(headL s.data.toList.length).toArray⟩ ++ s ++ ⟨(foot (sumL ((⟨(headL s.data.toList.length).toArray⟩ : ByteArray) ++ s).data.toList)).toArray⟩ : ByteArray) = ⟨(rec s.data.toList).toArray⟩ := by
    apply ba_ext
    rw [ba_append, ba_append]
    rfl
  rw [this]
  exact Ev.now _
--END ref

theorem ropen_ev (s : ByteArray) (hs : s.size ≤ 9223372036854775806) : Ev (fun k => countermandref02_Open.f k s) (⟨(openL s.data.toList).1.toArray⟩, (((openL s.data.toList).2 : Nat) : Int)) := by
  have hl := data_length s
  have hn := lenL_lt s.data.toList
  unfold countermandref02_Open.f
  by_cases h1 : (s.size : Int) < 6
  · refine Ev.congr (fun k => if_pos h1) ?_
    have e : openL s.data.toList = ([], 0) := by
      unfold openL
      by_cases h : s.data.toList.length < 2
      · rw [if_pos h]
      · rw [if_neg h, if_pos (by omega)]
    rw [e]
    exact Ev.now _
  refine Ev.congr (fun k => by rw [if_neg h1, if_pos (by omega), if_pos (by omega)]) ?_
  have b0 := bt_range s 0
  have b1 := bt_range s 1
  have e0 : wrap64 ((wrap64 (256 * (wrap64 (bt s 0)))) + (wrap64 (bt s 1))) = ((lenL s.data.toList : Nat) : Int) := by
    rw [← len_eq s (by omega), wrap_in (bt s 0) (by omega) (by omega), wrap_in (bt s 1) (by omega) (by omega), wrap_in (256 * bt s 0) (by omega) (by omega), wrap_in _ (by omega) (by omega)]
    omega
  rw [e0]
  generalize hL : lenL s.data.toList = n at *
  rw [wrap_in (6 + (n : Int)) (by omega) (by omega)]
  by_cases h2 : 1024 < n ∨ s.data.toList.length < n + 6
  · have e : openL s.data.toList = ([], 0) := by unfold openL; rw [if_neg (by omega), hL, if_pos h2]
    rw [e]
    by_cases h3 : (n : Int) > 1024
    · refine Ev.congr (fun k => if_pos h3) (Ev.step (f := fun _ => some (⟨#[]⟩, 0)) (fun k => by simp only [countermandref02_Open.j0]; exact if_pos trivial) (Ev.now _))
    · refine Ev.congr (fun k => if_neg h3) (Ev.step (f := fun _ => some (⟨#[]⟩, 0)) (fun k => by simp only [countermandref02_Open.j0]; rw [if_pos (by simp; omega)]) (Ev.now _))
  refine Ev.congr (fun k => if_neg (by omega)) ?_
  refine Ev.step (fun k => by simp only [countermandref02_Open.j0]; rw [if_neg (by simp; omega), wrap_in (2 + (n : Int)) (by omega) (by omega), wrap_in (6 + (n : Int)) (by omega) (by omega), if_pos (by omega), if_pos (by omega)]) ?_
  rw [show (2 + (n : Int)).toNat = 2 + n by omega, show (6 + (n : Int)).toNat = 6 + n by omega]
  refine Ev.bind (rclose_ev _ (by simp; omega)) ?_
  refine Ev.congr (fun k => by rw [if_pos (by omega), if_pos (by omega)]) ?_
  simp only [ByteArray.toList_eq, Lib.extract_data, List.drop_zero, Nat.sub_zero]
  rw [show 2 + n - 2 = n by omega]
  have co := close_open (l := s.data.toList) (by omega) (by rw [hL]; omega)
  rw [hL, Nat.add_comm n 6] at co
  by_cases h4 : foot (sumL (s.data.toList.take (2 + n))) = (s.data.toList.drop (2 + n)).take 4
  · have e : openL s.data.toList = ((s.data.toList.drop 2).take n, n + 6) := by unfold openL; rw [if_neg (by omega), hL, if_neg h2, if_pos h4]
    rw [e]
    refine Ev.congr (fun k => if_pos (co.2 h4)) ?_
    rw [Lib.extract_eq, show 2 + n - 2 = n by omega, show (6 + (n : Int)) = (((n + 6 : Nat)) : Int) by omega]
    exact Ev.now _
  · have e : openL s.data.toList = ([], 0) := by unfold openL; rw [if_neg (by omega), hL, if_neg h2, if_neg h4]
    rw [e]
    exact Ev.congr (fun k => if_neg (fun h => h4 (co.1 h))) (Ev.now _)


theorem great_loop (l : List ByteArray) (hl : l.length ≤ 20) : ∀ (d i : Nat) (n : Int), i + d = l.length → 0 ≤ n → n ≤ 2048 → ∃ b, Ev (fun k => countermandlaw02_great.l0 k n l (l.length : Int) (i : Int)) b
  | 0, i, n, h, _, _ => by
    refine ⟨false, Ev.step (f := fun _ => some false) (fun k => ?_) (Ev.now _)⟩
    rw [countermandlaw02_great.l0, if_neg (by omega)]
  | d + 1, i, n, h, h0, h1 => by
    have hw := wrap_next i l.length (by omega) (by omega)
    by_cases c1 : ((rdOf ByteArray.empty l (i : Int)).size : Int) > 2048
    · refine ⟨true, Ev.step (f := fun _ => some true) (fun k => ?_) (Ev.now _)⟩
      rw [countermandlaw02_great.l0, if_pos (by omega), if_pos (by omega), if_pos (by omega), if_pos c1]
    have e : wrap64 (n + ((rdOf ByteArray.empty l (i : Int)).size : Int)) = n + ((rdOf ByteArray.empty l (i : Int)).size : Int) := wrap_in _ (by omega) (by omega)
    by_cases c2 : n + ((rdOf ByteArray.empty l (i : Int)).size : Int) > 2048
    · refine ⟨true, Ev.step (f := fun _ => some true) (fun k => ?_) (Ev.now _)⟩
      rw [countermandlaw02_great.l0, if_pos (by omega), if_pos (by omega), if_pos (by omega), if_neg c1, e, if_pos c2]
    obtain ⟨b, hb⟩ := great_loop l hl d (i + 1) (n + ((rdOf ByteArray.empty l (i : Int)).size : Int)) (by omega) (by omega) (by omega)
    refine ⟨b, Ev.step (fun k => ?_) hb⟩
    rw [countermandlaw02_great.l0, if_pos (by omega), if_pos (by omega), if_pos (by omega), if_neg c1, e, if_neg c2, hw]
theorem great_ev (l : List ByteArray) : ∃ b, Ev (fun k => countermandlaw02_great.f k l) b ∧ (b = false → l.length ≤ 20) := by
  by_cases h : (l.length : Int) > 20
  · refine ⟨true, Ev.congr (fun k => ?_) (Ev.now _), fun e => by cases e⟩
    unfold countermandlaw02_great.f
    rw [if_pos h]
  · obtain ⟨b, hb⟩ := great_loop l (by omega) l.length 0 0 (by omega) (by omega) (by omega)
    refine ⟨b, Ev.congr (fun k => ?_) hb, fun _ => by omega⟩
    unfold countermandlaw02_great.f
    rw [if_neg h]
    rfl
theorem both_close (s : ByteArray) : ∃ c : ByteArray, Ev (fun k => wafer_Close.f k s) c ∧ Ev (fun k => countermandref02_Close.f k s) c ∧ c.size ≤ 1030 := by
  by_cases h : s.size ≤ 1024
  · refine ⟨_, close_ev s h, rclose_ev s h, ?_⟩
    rw [mkb_size, rec_length, data_length]; omega
  · refine ⟨⟨#[]⟩, Ev.congr (fun k => ?_) (Ev.now _), Ev.congr (fun k => ?_) (Ev.now _), Nat.zero_le _⟩
    · unfold wafer_Close.f
      rw [if_pos (by omega)]
    · unfold countermandref02_Close.f
      rw [if_pos (by omega)]
theorem rd_at (l : List ByteArray) (i : Nat) (h : i < l.length) : rdOf ByteArray.empty l (i : Int) = l[i] := by
  unfold rdOf
  rw [Int.toNat_natCast, List.getD_eq_getElem?_getD, List.getElem?_eq_getElem h]
  rfl
theorem both_rows (l : List ByteArray) (hl : l.length ≤ 20) : ∀ (d i : Nat) (acc : ByteArray), i + d = l.length → acc.size ≤ 1030 * i →
    ∃ t : List UInt8, Ev (fun k => rowF k (l.drop i)) t ∧ Ev (fun k => countermandref02_Row.l0 k acc l (l.length : Int) (i : Int)) (acc ++ ⟨t.toArray⟩) ∧ t.length ≤ 1030 * d
  | 0, i, acc, h, ha => by
    refine ⟨[], ?_, Ev.step (f := fun _ => some acc) (fun k => ?_) (by
      have e : acc ++ (⟨([] : List UInt8).toArray⟩ : ByteArray) = acc := by apply ba_ext; rw [ba_append]; simp
      rw [e]; exact Ev.now _), Nat.zero_le _⟩
    · rw [List.drop_of_length_le (by omega)]
      exact Ev.now _
    · rw [countermandref02_Row.l0, if_neg (by omega)]
  | d + 1, i, acc, h, ha => by
    have hi : i < l.length := by omega
    obtain ⟨c, h1, h2, h3⟩ := both_close l[i]
    obtain ⟨t, k1, k2, k3⟩ := both_rows l hl d (i + 1) (acc ++ c) (by omega) (by rw [ByteArray.size_append]; omega)
    have e : acc ++ c ++ (⟨t.toArray⟩ : ByteArray) = acc ++ ⟨(c.data.toList ++ t).toArray⟩ := by
      apply ba_ext
      rw [ba_append, ba_append, ba_append]
      simp
    rw [e] at k2
    have k4 := Ev.bind (f := fun (n : Nat) (t' : ByteArray) => if acc.size + t'.size ≤ 9223372036854775807 then countermandref02_Row.l0 n (acc ++ t') l (l.length : Int) ((i + 1 : Nat) : Int) else none) h2 (Ev.congr (fun k => if_pos (by omega)) k2)
    refine ⟨c.data.toList ++ t, ?_, Ev.step (fun k => ?_) k4, ?_⟩
    · rw [List.drop_eq_getElem_cons hi]
      exact Ev.bind h1 (Ev.bind k1 (Ev.now _))
    · rw [countermandref02_Row.l0, if_pos (by omega), if_pos (by omega), if_pos (by omega), rd_at l i hi, wrap_next i l.length hi (by omega)]
    · rw [List.length_append, data_length]; omega
theorem all_ev : ∀ (n : Nat) (s : ByteArray) (acc : List ByteArray), s.size ≤ n → s.size ≤ 100000 → acc.length + s.size ≤ 200000 →
    Ev (fun k => countermandref02_All.l0 k s acc ⟨(openL s.data.toList).1.toArray⟩ (((openL s.data.toList).2 : Nat) : Int)) (acc ++ (recs s.data.toList).map (·.1))
  | n, s, acc, hn, hs, ha => by
    have hos := open_size s.data.toList
    rw [data_length] at hos
    by_cases h0 : (openL s.data.toList).2 = 0
    · rw [recs_zero h0, List.map_nil, List.append_nil]
      refine Ev.step (f := fun _ => some acc) (fun k => ?_) (Ev.now _)
      rw [countermandref02_All.l0, if_neg (by omega)]
    · have hr := recs_next h0
      obtain ⟨sz, hsz⟩ : ∃ sz, sz = (openL s.data.toList).2 := ⟨_, rfl⟩
      rw [← hsz] at h0 hos hr ⊢
      have hd := drop_bytes s sz
      have h1 : (s.extract sz s.size).size < s.size := by rw [ByteArray.size_extract]; omega
      obtain ⟨m, rfl⟩ : ∃ m, n = m + 1 := ⟨n - 1, by omega⟩
      have ih := all_ev m (s.extract sz s.size) (acc ++ [(⟨(openL s.data.toList).1.toArray⟩ : ByteArray)]) (by omega) (by omega) (by rw [List.length_append, List.length_singleton]; omega)
      have ho := ropen_ev (s.extract sz s.size) (by omega)
      rw [hr, List.map_cons, ← hd]
      have e : acc ++ (ldL s.data.toList).1 :: List.map (fun x => x.1) (recs (s.extract sz s.size).data.toList) = acc ++ [(⟨(openL s.data.toList).1.toArray⟩ : ByteArray)] ++ List.map (fun x => x.1) (recs (s.extract sz s.size).data.toList) := by
        rw [List.append_assoc]; rfl
      rw [e]
      refine Ev.step (fun k => ?_) (Ev.bind (f := fun (k : Nat) (bt : ByteArray × Int) => countermandref02_All.l0 k (s.extract sz s.size) (acc ++ [(⟨(openL s.data.toList).1.toArray⟩ : ByteArray)]) bt.1 bt.2) ho ih)
      rw [countermandref02_All.l0, if_pos (by omega), if_pos (by omega), if_pos (by omega), if_pos (by omega), Int.toNat_natCast]
theorem WaferRows : countermandlaw02_WaferRows.Pure := by
  refine ⟨alive_ev.rounds, fun l0 => ?_, fun l0 hl => ?_, fun s hs => (open_ev s (by omega)).rounds, fun s hs => ?_, fun x => ?_⟩
  · obtain ⟨b, hb, h⟩ := great_ev l0
    obtain ⟨k, hk⟩ := hb.rounds
    exact ⟨k, b, hk, h⟩
  · obtain ⟨t, ⟨k1, h1⟩, ⟨k2, h2⟩, h3⟩ := both_rows l0 hl l0.length 0 ⟨#[]⟩ (by omega) (Nat.zero_le _)
    have e : (⟨#[]⟩ : ByteArray) ++ (⟨t.toArray⟩ : ByteArray) = ⟨t.toArray⟩ := by apply ba_ext; rw [ba_append]; simp
    rw [e] at h2
    exact ⟨max k1 k2, t, h1 _ (by omega), h2 _ (by omega), by omega⟩
  · have h := Ev.bind (ropen_ev s (by omega)) (f := fun (k : Nat) (bt : ByteArray × Int) => countermandref02_All.l0 k s ([] : List ByteArray) bt.1 bt.2) (by
      have q := all_ev s.size s [] (Nat.le_refl _) hs (by simp; omega)
      rw [List.nil_append] at q
      exact q)
    exact h.rounds
  · have h := rclose_ev x.1 x.2
    obtain ⟨k, hk⟩ := h.rounds
    exact ⟨k, _, hk, by rw [mkb_size, rec_length, data_length]⟩
end Go.Proofs.Ytjegpbaohoigjaa.Pure
