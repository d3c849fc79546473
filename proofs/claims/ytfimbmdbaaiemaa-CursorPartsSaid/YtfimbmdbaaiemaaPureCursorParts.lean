/- Proved: steps at one socket play no part at another one, and a copy goes on by itself; no condition beyond the statement's own bounds. -/
import Derived.Test.YtfimbmdbaaiemaaPCursorPartsx2
import Derived.Lib.Strings
import Derived.OpenShut
namespace Go.Proofs.Ytfimbmdbaaiemaa.Pure
open Go.RowKit Go.Proofs.Ytfimbmdbaaiemaa.PCursorParts Go.Proofs.YtfimbmdbaaiemaaW.PrintWords Go.Proofs.YtfimbmdbaaiemaaW.PrintLast

theorem wrap_next (i n : Nat) (h : i < n) (hn : n ≤ 9223372036854775807) : wrap64 ((i : Int) + 1) = ((i + 1 : Nat) : Int) := by unfold wrap64; omega
theorem wrap_in (x : Int) (h0 : -9223372036854775808 ≤ x) (h1 : x ≤ 9223372036854775807) : wrap64 x = x := by unfold wrap64; omega
theorem rd_at {l : List Int} {i : Nat} (h : i < l.length) : rd l (i : Int) = l[i] := by
  unfold rd
  rw [Int.toNat_natCast, List.getD_eq_getElem?_getD, List.getElem?_eq_getElem h]
  rfl
/-- how many were read at a socket -/
def cnt (l : List Int) (s : Int) : Nat := min (l.count s) 64
theorem cnt_le (l : List Int) (s : Int) : cnt l s ≤ 64 := by unfold cnt; omega
theorem cnt_nil (s : Int) : cnt [] s = 0 := rfl
theorem cnt_same (l : List Int) (s : Int) : cnt (l ++ [s]) s = min (cnt l s + 1) 64 := by
  unfold cnt; rw [List.count_append, List.count_singleton_self]; omega
theorem cnt_other (l : List Int) (s t : Int) (h : s ≠ t) : cnt (l ++ [t]) s = cnt l s := by
  unfold cnt; rw [List.count_append, List.count_singleton, if_neg (by simp; exact fun e => h e.symm)]; rfl
/-- the state that has read these -/
def fld (l : List Int) (j : Int) : Int := (cnt l j : Int)
def stepB (l : List Int) (s : Int) : Bool := decide (0 ≤ s) && decide (s ≤ 2) && decide (cnt l s < 64)
theorem step_eq (l : List Int) (s : Int) : cursor_Cursor_Step.f (fld l 0) (fld l 1) (fld l 2) s = some (stepB l s, fld (l ++ [s]) 0, fld (l ++ [s]) 1, fld (l ++ [s]) 2) := by
  have key : ∀ j : Int, cnt (l ++ [j]) j = min (cnt l j + 1) 64 := fun j => cnt_same l j
  have hle := cnt_le l
  unfold cursor_Cursor_Step.f fld stepB
  by_cases h0 : s = 0
  · subst h0
    rw [if_pos rfl, key, cnt_other l 1 0 (by decide), cnt_other l 2 0 (by decide)]
    have := hle 0
    by_cases h : ((cnt l 0 : Nat) : Int) ≥ 64
    · rw [if_pos h, show min (cnt l 0 + 1) 64 = cnt l 0 by omega]; simp; omega
    · rw [if_neg h, wrap_next (cnt l 0) 64 (by omega) (by omega), show min (cnt l 0 + 1) 64 = cnt l 0 + 1 by omega]; simp; omega
  rw [if_neg h0]
  by_cases h1 : s = 1
  · subst h1
    rw [if_pos rfl, key, cnt_other l 0 1 (by decide), cnt_other l 2 1 (by decide)]
    have := hle 1
    by_cases h : ((cnt l 1 : Nat) : Int) ≥ 64
    · rw [if_pos h, show min (cnt l 1 + 1) 64 = cnt l 1 by omega]; simp; omega
    · rw [if_neg h, wrap_next (cnt l 1) 64 (by omega) (by omega), show min (cnt l 1 + 1) 64 = cnt l 1 + 1 by omega]; simp; omega
  rw [if_neg h1]
  by_cases h2 : s = 2
  · subst h2
    rw [if_pos rfl, key, cnt_other l 0 2 (by decide), cnt_other l 1 2 (by decide)]
    have := hle 2
    by_cases h : ((cnt l 2 : Nat) : Int) ≥ 64
    · rw [if_pos h, show min (cnt l 2 + 1) 64 = cnt l 2 by omega]; simp; omega
    · rw [if_neg h, wrap_next (cnt l 2) 64 (by omega) (by omega), show min (cnt l 2 + 1) 64 = cnt l 2 + 1 by omega]; simp; omega
  rw [if_neg h2, cnt_other l 0 s (fun e => h0 e.symm), cnt_other l 1 s (fun e => h1 e.symm), cnt_other l 2 s (fun e => h2 e.symm)]
  have : (decide (0 ≤ s) && decide (s ≤ 2) && decide (cnt l s < 64)) = false := by
    by_cases h : 0 ≤ s
    · rw [decide_eq_false (show ¬ s ≤ 2 by omega)]; simp
    · rw [decide_eq_false h]; simp
  rw [this]
def inS (s : Int) : Bool := decide (0 ≤ s) && decide (s ≤ 2)
theorem is_eq (s : Int) : cursor_is.f s = some (inS s) := by
  unfold cursor_is.f inS
  by_cases h : s ≥ 0
  · rw [if_pos h]
    by_cases h2 : s ≤ 2
    · simp [h, h2]; omega
    · simp [h, h2]; omega
  · rw [if_neg h]; simp [show ¬ 0 ≤ s by omega]
/-- what is read at a socket: none, where there is no such -/
def got (l : List Int) (s : Int) : Int := if inS s = true then fld l s else 0
theorem read_eq (l : List Int) (s : Int) : cursor_Cursor_Read.f (fld l 0) (fld l 1) (fld l 2) s = some (got l s, fld l 0, fld l 1, fld l 2) := by
  unfold cursor_Cursor_Read.f got
  rw [is_eq, Option.bind_some]
  by_cases h : inS s = true
  · rw [if_pos h, if_pos h]
    have h' := h
    unfold inS at h'
    simp at h'
    by_cases h0 : s = 0
    · subst h0; rw [if_pos rfl]
    rw [if_neg h0]
    by_cases h1 : s = 1
    · subst h1; rw [if_pos rfl]
    rw [if_neg h1]
    have h2 : s = 2 := by omega
    subst h2
    rw [if_pos rfl]
  · rw [if_neg h, if_neg h]
theorem alive_ok : countermandlaw15_alive.f = some true := by decide +kernel
theorem any_eq (l : List Int) : cursor_Cursor_Any.f (fld l 0) (fld l 1) (fld l 2) = some (!(decide (fld l 0 = 0) && decide (fld l 1 = 0) && decide (fld l 2 = 0)), fld l 0, fld l 1, fld l 2) := by
  unfold cursor_Cursor_Any.f
  by_cases h0 : fld l 0 = 0
  · rw [if_pos h0]
    by_cases h1 : fld l 1 = 0
    · rw [if_pos h1]
      by_cases h2 : fld l 2 = 0
      · rw [if_pos h2]; simp [h0, h1, h2]
      · rw [if_neg h2]; simp [h2]
    · rw [if_neg h1]; simp [h1]
  · rw [if_neg h0]; simp [h0]
def only (l : List Int) (s : Int) : List Int := l.filter (fun x => x == s)
theorem only_same (l : List Int) (s : Int) : cnt (only l s) s = cnt l s := by
  unfold cnt only; rw [List.count_filter (by simp)]
theorem only_other (l : List Int) (s j : Int) (h : j ≠ s) : cnt (only l s) j = 0 := by
  unfold cnt only
  rw [List.count_eq_zero.2 (fun hm => h (by have := (List.mem_filter.1 hm).2; simpa using this))]
  rfl
theorem only_any (l : List Int) (s : Int) (hs : inS s = true) : (!(decide (fld (only l s) 0 = 0) && decide (fld (only l s) 1 = 0) && decide (fld (only l s) 2 = 0))) = decide (fld (only l s) s > 0) := by
  unfold inS at hs
  simp at hs
  have h : ∀ j, j ≠ s → fld (only l s) j = 0 := fun j hj => by unfold fld; rw [only_other l s j hj]; rfl
  have h3 : (0 : Int) ≤ fld (only l s) s := by unfold fld; omega
  by_cases h0 : s = 0
  · subst h0
    rw [h 1 (by decide), h 2 (by decide)]
    by_cases k : fld (only l 0) 0 = 0
    · simp [k]
    · simp [k]; omega
  by_cases h1 : s = 1
  · subst h1
    rw [h 0 (by decide), h 2 (by decide)]
    by_cases k : fld (only l 1) 1 = 0
    · simp [k]
    · simp [k]; omega
  have h2 : s = 2 := by omega
  subst h2
  rw [h 0 (by decide), h 1 (by decide)]
  by_cases k : fld (only l 2) 2 = 0
  · simp [k]
  · simp [k]; omega
theorem l1_ev (L : List Int) (s : Int) (hs : inS s = true) : ∀ (n m : Nat), m + n = 100 → countermandlaw15_CursorParts.l1 (n + 1) s (m : Int) (fld (L ++ List.replicate m s) 0) (fld (L ++ List.replicate m s) 1) (fld (L ++ List.replicate m s) 2) (fld (only L s) 0) (fld (only L s) 1) (fld (only L s) 2) (fld L 0) (fld L 1) (fld L 2) = some true
  | 0, m, h => by
    rw [countermandlaw15_CursorParts.l1, if_neg (by omega), read_eq, Option.bind_some, read_eq, Option.bind_some]
    have e1 : got L s = got (only L s) s := by unfold got fld; rw [if_pos hs, if_pos hs, only_same]
    rw [if_pos e1, read_eq, Option.bind_some]
    have e2 : got (L ++ List.replicate m s) s = 64 := by
      unfold got fld cnt
      rw [if_pos hs, List.count_append, List.count_replicate_self]
      omega
    rw [if_pos e2, any_eq, Option.bind_some, read_eq, Option.bind_some]
    have e3 : got (only L s) s = fld (only L s) s := by unfold got; rw [if_pos hs]
    simp only [only_any L s hs, e3]
    by_cases k : fld (only L s) s > 0
    · rw [if_pos (decide_eq_true k), if_pos k]
    · rw [if_neg (by simp; omega), if_neg k]
  | n + 1, m, h => by
    rw [countermandlaw15_CursorParts.l1, if_pos (by omega), step_eq, Option.bind_some, wrap_next m 100 (by omega) (by omega)]
    have e : L ++ List.replicate m s ++ [s] = L ++ List.replicate (m + 1) s := by rw [List.append_assoc, ← List.replicate_succ']
    rw [e]
    exact l1_ev L s hs n (m + 1) (by omega)
theorem l0_ev (l : List Int) (s : Int) (hs : inS s = true) (hl : l.length ≤ 300) : ∀ (d i : Nat), i + d = l.length → countermandlaw15_CursorParts.l0 (d + 102) s l (l.length : Int) (i : Int) (fld (l.take i) 0) (fld (l.take i) 1) (fld (l.take i) 2) (fld (only (l.take i) s) 0) (fld (only (l.take i) s) 1) (fld (only (l.take i) s) 2) = some true
  | 0, i, h => by
    rw [countermandlaw15_CursorParts.l0, if_neg (by omega)]
    unfold cursor_Cursor_Copy.f
    rw [Option.bind_some]
    have := l1_ev (l.take i) s hs 100 0 (by omega)
    simpa using this
  | d + 1, i, h => by
    have hi : i < l.length := by omega
    have e : l.take i ++ [l[i]] = l.take (i + 1) := (List.take_succ_eq_append_getElem hi).symm
    rw [show d + 1 + 102 = (d + 102) + 1 by omega, countermandlaw15_CursorParts.l0, if_pos (by omega), if_pos (by omega), if_pos (by omega), rd_at hi, step_eq, Option.bind_some, e, wrap_next i 300 (by omega) (by omega)]
    by_cases k : l[i] = s
    · have e2 : only (l.take i) s ++ [l[i]] = only (l.take (i + 1)) s := by
        rw [← e]; unfold only; rw [List.filter_append]; simp [k]
      rw [if_pos k, step_eq, Option.bind_some, e2]
      exact l0_ev l s hs hl d (i + 1) (by omega)
    · have e2 : only (l.take i) s = only (l.take (i + 1)) s := by
        rw [← e]; unfold only; rw [List.filter_append]; simp [k]
      rw [if_neg k, e2]
      exact l0_ev l s hs hl d (i + 1) (by omega)
theorem j0_true (k : Nat) (l : List Int) (s : Int) : countermandlaw15_CursorParts.j0 (k + 1) l s true = some true := by
  rw [countermandlaw15_CursorParts.j0, if_pos rfl]
theorem CursorParts : countermandlaw15_CursorParts.Pure := by
  intro l s h1 h2 h3 h4
  refine ⟨l.length + 102 + 1, ?_⟩
  unfold countermandlaw15_CursorParts.f
  rw [alive_ok, Option.bind_some, if_pos rfl]
  by_cases h5 : (l.length : Int) > 300
  · rw [if_pos h5]; exact j0_true _ _ _
  · rw [if_neg h5]
    by_cases h6 : s < 0
    · rw [if_pos h6]; exact j0_true _ _ _
    · rw [if_neg h6]
      by_cases h7 : s > 2
      · rw [decide_eq_true h7]; exact j0_true _ _ _
      · rw [decide_eq_false h7, countermandlaw15_CursorParts.j0, if_neg (by decide)]
        have hs : inS s = true := by unfold inS; simp; omega
        exact l0_ev l s hs (by omega) l.length 0 (by omega)

end Go.Proofs.Ytfimbmdbaaiemaa.Pure
