/- Proved: two rows, one behind the other, are the row of all their loads; no condition beyond the statement's own bounds. -/
import Derived.Test.YtjegpbaohoigjaaPWaferPartsx1
import Derived.Test.YtjegpbaohoigjaaPlain
import Derived.Lib.Strings
import Derived.OpenShut
namespace Go.Proofs.Ytjegpbaohoigjaa.Pure
open Go.RowKit Go.Proofs.Ytjegpbaohoigjaa.PWaferParts Go.Proofs.YtjegpbaohoigjaaW.PrintWords Go.Proofs.YtjegpbaohoigjaaW.PrintLast
open Go.Proofs.Ytjegpbaohoigjaa.Plain Go.Proofs.Ytjegpbaohoigjaa

--BEGIN sum
theorem sum_l1 (s : ByteArray) (x6 x7 : Int) (k : Nat) : ∀ (n : Nat) (v : B32), n ≤ 8 → wafer_Sum.l1 (k + n + 1) s (v.toNat : Int) x6 x7 ((8 - n : Nat) : Int) = wafer_Sum.l0 k s ((steps n v).toNat : Int) x6 (wrap64 (x7 + 1))
  | 0, v, _ => by simp only [wafer_Sum.l1]; rw [if_neg (by omega)]; rfl
  | n + 1, v, h => by
    show wafer_Sum.l1 (k + n + 1 + 1) s _ x6 x7 _ = _
    simp only [wafer_Sum.l1]
    rw [if_pos (by omega), prog_step, wrap_next (8 - (n + 1)) 8 (by omega) (by omega), show (8 - (n + 1) + 1 : Nat) = 8 - n by omega]
    exact sum_l1 s x6 x7 k n (Plain.step v) (by omega)
theorem sum_l0 (s : ByteArray) (hs : s.size ≤ 9223372036854775806) : ∀ (d i : Nat) (v : B32), i + d = s.size → wafer_Sum.l0 (10 * d + 1) s (v.toNat : Int) (s.size : Int) (i : Int) = some (((~~~ (crc v (s.data.toList.drop i))).toNat : Nat) : Int)
  | 0, i, v, h => by
    simp only [wafer_Sum.l0]
    rw [if_neg (by omega), prog_not, List.drop_eq_nil_of_le (by rw [data_length]; omega)]
    rfl
  | d + 1, i, v, h => by
    show wafer_Sum.l0 (10 * d + 10 + 1) s _ _ _ = _
    simp only [wafer_Sum.l0]
    rw [if_pos (by omega), if_pos (by omega), if_pos (by omega), bt_get s i (by omega), prog_byte]
    have := sum_l1 s (s.size : Int) (i : Int) (10 * d + 1) 8 (v ^^^ BitVec.ofNat 32 (s.data.toList[i]'(by rw [data_length]; omega)).toNat) (by omega)
    rw [show (10 * d + 1 + 8 + 1 : Nat) = 10 * d + 10 by omega] at this
    rw [show ((8 - 8 : Nat) : Int) = 0 by rfl] at this
    rw [this, wrap_next i s.size (by omega) (by omega), sum_l0 s hs d (i + 1) _ (by omega), drop_get s i (by omega)]
    rfl
theorem sum_ev (s : ByteArray) (hs : s.size ≤ 9223372036854775806) : Ev (fun k => wafer_Sum.f k s) (((sumL s.data.toList).toNat : Nat) : Int) :=
  Ev.of (fun k => wafer_Sum.mono s k) (k := 10 * s.size + 1) (by
    unfold wafer_Sum.f
    have := sum_l0 s hs s.size 0 4294967295#32 (by omega)
    exact this)
theorem foots_eq (v : B32) : wafer_foots.f (v.toNat : Int) = some ⟨(foot v).toArray⟩ := by unfold wafer_foots.f; rw [foot_nums]
theorem close_ev (s : ByteArray) (h : s.size ≤ 1024) : Ev (fun k => wafer_Close.f k s) ⟨(rec s.data.toList).toArray⟩ := by
  unfold wafer_Close.f
  have e : strOfNums [((s.size : Int) / 256) % 256, (s.size : Int) % 256] = ⟨(headL s.data.toList.length).toArray⟩ := by rw [head_nums, data_length]
  refine Ev.congr (fun k => by rw [if_neg (by omega), Option.bind_some, e]) ?_
  have hsz : ((⟨(headL s.data.toList.length).toArray⟩ : ByteArray)).size = 2 := rfl
  refine Ev.congr (fun k => by rw [if_pos (by rw [hsz]; omega)]) ?_
  refine Ev.bind (sum_ev _ (by rw [ByteArray.size_append, hsz]; omega)) ?_
  refine Ev.congr (fun k => by rw [foots_eq, Option.bind_some]) ?_
  refine Ev.congr (fun k => by rw [if_pos (by rw [hsz]; show 2 + s.size + 4 ≤ _; omega)]) ?_
  have : (⟨(headL s.data.toList.length).toArray⟩ ++ s ++ ⟨(foot (sumL ((⟨(headL s.data.toList.length).toArray⟩ : ByteArray) ++ s).data.toList)).toArray⟩ : ByteArray) = ⟨(rec s.data.toList).toArray⟩ := by
    apply ba_ext
    rw [ba_append, ba_append]
    rfl
  rw [this]
  exact Ev.now _
theorem alive_ev : Ev (fun k => countermandlaw02_alive.f k) true := by
  unfold countermandlaw02_alive.f
  refine Ev.bind (sum_ev _ (by decide)) ?_
  refine Ev.congr (fun k => by rw [if_pos (by decide +kernel)]) ?_
  refine Ev.bind (close_ev _ (by decide)) ?_
  exact Ev.congr (fun k => by rfl) (Ev.now _)

theorem great_loop (l : List ByteArray) (hl : l.length ≤ 20) : ∀ (d i : Nat) (n : Int), i + d = l.length → 0 ≤ n → n ≤ 2048 → ∃ b, Ev (fun k => countermandlaw02_great.l0 k n l (l.length : Int) (i : Int)) b
  | 0, i, n, h, _, _ => by
    refine ⟨false, Ev.step (f := fun _ => some false) (fun k => ?_) (Ev.now _)⟩
    rw [countermandlaw02_great.l0, if_neg (by omega)]
  | d + 1, i, n, h, h0, h1 => by
    have hw := wrap_next i l.length (by omega) (by omega)
    by_cases c1 : ((rdOf ByteArray.empty l (i : Int)).size : Int) > 2048
    · refine ⟨true, Ev.step (f := fun _ => some true) (fun k => ?_) (Ev.now _)⟩
      rw [countermandlaw02_great.l0, if_pos (by omega), if_pos (by omega), if_pos (by omega), if_pos c1]
    have e : wrap64 (n + ((rdOf ByteArray.empty l (i : Int)).size : Int)) = n + ((rdOf ByteArray.empty l (i : Int)).size : Int) := wrap_in _ (by omega) (by omega)
    by_cases c2 : n + ((rdOf ByteArray.empty l (i : Int)).size : Int) > 2048
    · refine ⟨true, Ev.step (f := fun _ => some true) (fun k => ?_) (Ev.now _)⟩
      rw [countermandlaw02_great.l0, if_pos (by omega), if_pos (by omega), if_pos (by omega), if_neg c1, e, if_pos c2]
    obtain ⟨b, hb⟩ := great_loop l hl d (i + 1) (n + ((rdOf ByteArray.empty l (i : Int)).size : Int)) (by omega) (by omega) (by omega)
    refine ⟨b, Ev.step (fun k => ?_) hb⟩
    rw [countermandlaw02_great.l0, if_pos (by omega), if_pos (by omega), if_pos (by omega), if_neg c1, e, if_neg c2, hw]
theorem great_ev (l : List ByteArray) : ∃ b, Ev (fun k => countermandlaw02_great.f k l) b ∧ (b = false → l.length ≤ 20) := by
  by_cases h : (l.length : Int) > 20
  · refine ⟨true, Ev.congr (fun k => ?_) (Ev.now _), fun e => by cases e⟩
    unfold countermandlaw02_great.f
    rw [if_pos h]
  · obtain ⟨b, hb⟩ := great_loop l (by omega) l.length 0 0 (by omega) (by omega) (by omega)
    refine ⟨b, Ev.congr (fun k => ?_) hb, fun _ => by omega⟩
    unfold countermandlaw02_great.f
    rw [if_neg h]
    rfl
theorem close_any (s : ByteArray) : ∃ c : ByteArray, Ev (fun k => wafer_Close.f k s) c ∧ c.size ≤ 1030 := by
  by_cases h : s.size ≤ 1024
  · refine ⟨_, close_ev s h, ?_⟩
    rw [mkb_size, rec_length, data_length]; omega
  · refine ⟨⟨#[]⟩, Ev.congr (fun k => ?_) (Ev.now _), Nat.zero_le _⟩
    unfold wafer_Close.f
    rw [if_pos (by omega)]
theorem row_any : ∀ (l : List ByteArray), ∃ t : List UInt8, Ev (fun k => rowF k l) t ∧ t.length ≤ 1030 * l.length
  | [] => ⟨[], Ev.now _, Nat.zero_le _⟩
  | x :: r => by
    obtain ⟨c, hc, h1⟩ := close_any x
    obtain ⟨t, ht, h2⟩ := row_any r
    refine ⟨c.data.toList ++ t, Ev.bind hc (Ev.bind ht (Ev.now _)), ?_⟩
    rw [List.length_append, data_length, List.length_cons]; omega
theorem WaferParts : countermandlaw02_WaferParts.Pure := by
  intro l0 l1
  obtain ⟨k1, a1⟩ := alive_ev
  obtain ⟨b0, ⟨k2, a2⟩, hb0⟩ := great_ev l0
  obtain ⟨b1, ⟨k3, a3⟩, hb1⟩ := great_ev l1
  obtain ⟨t0, ⟨k4, a4⟩, ht0⟩ := row_any l0
  obtain ⟨t1, ⟨k5, a5⟩, ht1⟩ := row_any l1
  refine ⟨max (max (max k1 k2) (max k3 k4)) k5, a1 _ (by omega), ?_⟩
  cases b0
  · refine .inr ⟨a2 _ (by omega), ?_⟩
    cases b1
    · have := hb0 rfl
      have := hb1 rfl
      exact .inr ⟨a3 _ (by omega), t0, t1, a4 _ (by omega), a5 _ (by omega), by omega, by omega, by omega⟩
    · exact .inl (a3 _ (by omega))
  · exact .inl (a2 _ (by omega))
end Go.Proofs.Ytjegpbaohoigjaa.Pure
