/- Proved: unlike loads that aren't too long have unlike records, none the beginning of another's; no condition beyond the statement's own bounds. -/
import Derived.Test.YtjegpbaohoigjaaPWaferUnlikex1
import Derived.Test.YtjegpbaohoigjaaPlain
import Derived.Lib.Strings
namespace Go.Proofs.Ytjegpbaohoigjaa.Pure
open Go.RowKit Go.Proofs.Ytjegpbaohoigjaa.PWaferUnlike Go.Proofs.YtjegpbaohoigjaaW.PrintWords Go.Proofs.YtjegpbaohoigjaaW.PrintLast
open Go.Proofs.Ytjegpbaohoigjaa.Plain

--BEGIN sum
theorem sum_l1 (s : ByteArray) (x6 x7 : Int) (k : Nat) : ∀ (n : Nat) (v : B32), n ≤ 8 → wafer_Sum.l1 (k + n + 1) s (v.toNat : Int) x6 x7 ((8 - n : Nat) : Int) = wafer_Sum.l0 k s ((steps n v).toNat : Int) x6 (wrap64 (x7 + 1))
  | 0, v, _ => by simp only [wafer_Sum.l1]; rw [if_neg (by omega)]; rfl
  | n + 1, v, h => by
    show wafer_Sum.l1 (k + n + 1 + 1) s _ x6 x7 _ = _
    simp only [wafer_Sum.l1]
    rw [if_pos (by omega), prog_step, wrap_next (8 - (n + 1)) 8 (by omega) (by omega), show (8 - (n + 1) + 1 : Nat) = 8 - n by omega]
    exact sum_l1 s x6 x7 k n (Plain.step v) (by omega)
theorem sum_l0 (s : ByteArray) (hs : s.size ≤ 9223372036854775806) : ∀ (d i : Nat) (v : B32), i + d = s.size → wafer_Sum.l0 (10 * d + 1) s (v.toNat : Int) (s.size : Int) (i : Int) = some (((~~~ (crc v (s.data.toList.drop i))).toNat : Nat) : Int)
  | 0, i, v, h => by
    simp only [wafer_Sum.l0]
    rw [if_neg (by omega), prog_not, List.drop_eq_nil_of_le (by rw [data_length]; omega)]
    rfl
  | d + 1, i, v, h => by
    show wafer_Sum.l0 (10 * d + 10 + 1) s _ _ _ = _
    simp only [wafer_Sum.l0]
    rw [if_pos (by omega), if_pos (by omega), if_pos (by omega), bt_get s i (by omega), prog_byte]
    have := sum_l1 s (s.size : Int) (i : Int) (10 * d + 1) 8 (v ^^^ BitVec.ofNat 32 (s.data.toList[i]'(by rw [data_length]; omega)).toNat) (by omega)
    rw [show (10 * d + 1 + 8 + 1 : Nat) = 10 * d + 10 by omega] at this
    rw [show ((8 - 8 : Nat) : Int) = 0 by rfl] at this
    rw [this, wrap_next i s.size (by omega) (by omega), sum_l0 s hs d (i + 1) _ (by omega), drop_get s i (by omega)]
    rfl
theorem sum_ev (s : ByteArray) (hs : s.size ≤ 9223372036854775806) : Ev (fun k => wafer_Sum.f k s) (((sumL s.data.toList).toNat : Nat) : Int) :=
  Ev.of (fun k => wafer_Sum.mono s k) (k := 10 * s.size + 1) (by
    unfold wafer_Sum.f
    have := sum_l0 s hs s.size 0 4294967295#32 (by omega)
    exact this)
theorem foots_eq (v : B32) : wafer_foots.f (v.toNat : Int) = some ⟨(foot v).toArray⟩ := by unfold wafer_foots.f; rw [foot_nums]
theorem close_ev (s : ByteArray) (h : s.size ≤ 1024) : Ev (fun k => wafer_Close.f k s) ⟨(rec s.data.toList).toArray⟩ := by
  unfold wafer_Close.f
  have e : strOfNums [((s.size : Int) / 256) % 256, (s.size : Int) % 256] = ⟨(headL s.data.toList.length).toArray⟩ := by rw [head_nums, data_length]
  refine Ev.congr (fun k => by rw [if_neg (by omega), Option.bind_some, e]) ?_
  have hsz : ((⟨(headL s.data.toList.length).toArray⟩ : ByteArray)).size = 2 := rfl
  refine Ev.congr (fun k => by rw [if_pos (by rw [hsz]; omega)]) ?_
  refine Ev.bind (sum_ev _ (by rw [ByteArray.size_append, hsz]; omega)) ?_
  refine Ev.congr (fun k => by rw [foots_eq, Option.bind_some]) ?_
  refine Ev.congr (fun k => by rw [if_pos (by rw [hsz]; show 2 + s.size + 4 ≤ _; omega)]) ?_
  have : (⟨(headL s.data.toList.length).toArray⟩ ++ s ++ ⟨(foot (sumL ((⟨(headL s.data.toList.length).toArray⟩ : ByteArray) ++ s).data.toList)).toArray⟩ : ByteArray) = ⟨(rec s.data.toList).toArray⟩ := by
    apply ba_ext
    rw [ba_append, ba_append]
    rfl
  rw [this]
  exact Ev.now _
theorem alive_ev : Ev (fun k => countermandlaw02_alive.f k) true := by
  unfold countermandlaw02_alive.f
  refine Ev.bind (sum_ev _ (by decide)) ?_
  refine Ev.congr (fun k => by rw [if_pos (by decide +kernel)]) ?_
  refine Ev.bind (close_ev _ (by decide)) ?_
  exact Ev.congr (fun k => by rfl) (Ev.now _)
--END sum

theorem WaferUnlike : countermandlaw02_WaferUnlike.Pure := by
  intro a b ha hb
  apply Ev.rounds
  unfold countermandlaw02_WaferUnlike.f
  refine Ev.bind alive_ev ?_
  refine Ev.congr (fun k => if_pos rfl) ?_
  by_cases h1 : (a.size : Int) > 1024
  · refine Ev.congr (fun k => if_pos h1) ?_
    exact Ev.step (fun k => by simp only [countermandlaw02_WaferUnlike.j0]; exact if_pos trivial) (Ev.now true)
  refine Ev.congr (fun k => if_neg h1) ?_
  by_cases h2 : (b.size : Int) > 1024
  · refine Ev.step (f := fun _ => some true) (fun k => by simp only [countermandlaw02_WaferUnlike.j0]; rw [if_pos (by simpa using h2)]) (Ev.now true)
  refine Ev.step (fun k => by simp only [countermandlaw02_WaferUnlike.j0]; rw [if_neg (by simpa using h2)]) ?_
  refine Ev.bind (close_ev a (by omega)) ?_
  refine Ev.bind (close_ev b (by omega)) ?_
  have la : a.data.toList.length ≤ 1024 := by rw [data_length]; omega
  have lb : b.data.toList.length ≤ 1024 := by rw [data_length]; omega
  simp only [ByteArray.toList_eq, mkb_size]
  by_cases e : a.data.toList = b.data.toList
  · refine Ev.congr (fun k => ?_) (Ev.now true)
    rw [if_pos (by rw [e]), if_pos e]
  have ne : rec a.data.toList ≠ rec b.data.toList := fun h => e (rec_prefix la lb (by rw [← h, List.take_length]))
  refine Ev.congr (fun k => ?_) (Ev.now true)
  rw [if_neg ne, if_neg e]
  by_cases h3 : (((rec a.data.toList).length : Nat) : Int) > (((rec b.data.toList).length : Nat) : Int)
  · rw [if_pos h3]
  rw [if_neg h3, if_pos (by omega), if_pos (by omega), Int.toNat_natCast, Lib.extract_data, mkb_data]
  congr 1
  rw [bne_iff_ne]
  intro h
  exact e (rec_prefix la lb (by simpa using h))

end Go.Proofs.Ytjegpbaohoigjaa.Pure
