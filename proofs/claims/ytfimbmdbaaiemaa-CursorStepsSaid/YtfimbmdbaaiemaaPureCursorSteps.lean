/- Proved: in every row of steps each answer, and how many were read at each socket, are the document's, a copy is another one, and a nil cursor answers; no condition beyond the statement's own bounds. -/
import Derived.Test.YtfimbmdbaaiemaaPCursorStepsx2
import Derived.Lib.Strings
import Derived.OpenShut
namespace Go.Proofs.Ytfimbmdbaaiemaa.Pure
open Go.RowKit Go.Proofs.Ytfimbmdbaaiemaa.PCursorSteps Go.Proofs.YtfimbmdbaaiemaaW.PrintWords Go.Proofs.YtfimbmdbaaiemaaW.PrintLast

theorem wrap_next (i n : Nat) (h : i < n) (hn : n ≤ 9223372036854775807) : wrap64 ((i : Int) + 1) = ((i + 1 : Nat) : Int) := by unfold wrap64; omega
theorem wrap_in (x : Int) (h0 : -9223372036854775808 ≤ x) (h1 : x ≤ 9223372036854775807) : wrap64 x = x := by unfold wrap64; omega
theorem rd_at {l : List Int} {i : Nat} (h : i < l.length) : rd l (i : Int) = l[i] := by
  unfold rd
  rw [Int.toNat_natCast, List.getD_eq_getElem?_getD, List.getElem?_eq_getElem h]
  rfl
/-- how many were read at a socket -/
def cnt (l : List Int) (s : Int) : Nat := min (l.count s) 64
theorem cnt_le (l : List Int) (s : Int) : cnt l s ≤ 64 := by unfold cnt; omega
theorem cnt_nil (s : Int) : cnt [] s = 0 := rfl
theorem cnt_same (l : List Int) (s : Int) : cnt (l ++ [s]) s = min (cnt l s + 1) 64 := by
  unfold cnt; rw [List.count_append, List.count_singleton_self]; omega
theorem cnt_other (l : List Int) (s t : Int) (h : s ≠ t) : cnt (l ++ [t]) s = cnt l s := by
  unfold cnt; rw [List.count_append, List.count_singleton, if_neg (by simp; exact fun e => h e.symm)]; rfl
/-- the state that has read these -/
def fld (l : List Int) (j : Int) : Int := (cnt l j : Int)
def stepB (l : List Int) (s : Int) : Bool := decide (0 ≤ s) && decide (s ≤ 2) && decide (cnt l s < 64)
theorem step_eq (l : List Int) (s : Int) : cursor_Cursor_Step.f (fld l 0) (fld l 1) (fld l 2) s = some (stepB l s, fld (l ++ [s]) 0, fld (l ++ [s]) 1, fld (l ++ [s]) 2) := by
  have key : ∀ j : Int, cnt (l ++ [j]) j = min (cnt l j + 1) 64 := fun j => cnt_same l j
  have hle := cnt_le l
  unfold cursor_Cursor_Step.f fld stepB
  by_cases h0 : s = 0
  · subst h0
    rw [if_pos rfl, key, cnt_other l 1 0 (by decide), cnt_other l 2 0 (by decide)]
    have := hle 0
    by_cases h : ((cnt l 0 : Nat) : Int) ≥ 64
    · rw [if_pos h, show min (cnt l 0 + 1) 64 = cnt l 0 by omega]; simp; omega
    · rw [if_neg h, wrap_next (cnt l 0) 64 (by omega) (by omega), show min (cnt l 0 + 1) 64 = cnt l 0 + 1 by omega]; simp; omega
  rw [if_neg h0]
  by_cases h1 : s = 1
  · subst h1
    rw [if_pos rfl, key, cnt_other l 0 1 (by decide), cnt_other l 2 1 (by decide)]
    have := hle 1
    by_cases h : ((cnt l 1 : Nat) : Int) ≥ 64
    · rw [if_pos h, show min (cnt l 1 + 1) 64 = cnt l 1 by omega]; simp; omega
    · rw [if_neg h, wrap_next (cnt l 1) 64 (by omega) (by omega), show min (cnt l 1 + 1) 64 = cnt l 1 + 1 by omega]; simp; omega
  rw [if_neg h1]
  by_cases h2 : s = 2
  · subst h2
    rw [if_pos rfl, key, cnt_other l 0 2 (by decide), cnt_other l 1 2 (by decide)]
    have := hle 2
    by_cases h : ((cnt l 2 : Nat) : Int) ≥ 64
    · rw [if_pos h, show min (cnt l 2 + 1) 64 = cnt l 2 by omega]; simp; omega
    · rw [if_neg h, wrap_next (cnt l 2) 64 (by omega) (by omega), show min (cnt l 2 + 1) 64 = cnt l 2 + 1 by omega]; simp; omega
  rw [if_neg h2, cnt_other l 0 s (fun e => h0 e.symm), cnt_other l 1 s (fun e => h1 e.symm), cnt_other l 2 s (fun e => h2 e.symm)]
  have : (decide (0 ≤ s) && decide (s ≤ 2) && decide (cnt l s < 64)) = false := by
    by_cases h : 0 ≤ s
    · rw [decide_eq_false (show ¬ s ≤ 2 by omega)]; simp
    · rw [decide_eq_false h]; simp
  rw [this]
def inS (s : Int) : Bool := decide (0 ≤ s) && decide (s ≤ 2)
theorem is_eq (s : Int) : cursor_is.f s = some (inS s) := by
  unfold cursor_is.f inS
  by_cases h : s ≥ 0
  · rw [if_pos h]
    by_cases h2 : s ≤ 2
    · simp [h, h2]; omega
    · simp [h, h2]; omega
  · rw [if_neg h]; simp [show ¬ 0 ≤ s by omega]
/-- what is read at a socket: none, where there is no such -/
def got (l : List Int) (s : Int) : Int := if inS s = true then fld l s else 0
theorem read_eq (l : List Int) (s : Int) : cursor_Cursor_Read.f (fld l 0) (fld l 1) (fld l 2) s = some (got l s, fld l 0, fld l 1, fld l 2) := by
  unfold cursor_Cursor_Read.f got
  rw [is_eq, Option.bind_some]
  by_cases h : inS s = true
  · rw [if_pos h, if_pos h]
    have h' := h
    unfold inS at h'
    simp at h'
    by_cases h0 : s = 0
    · subst h0; rw [if_pos rfl]
    rw [if_neg h0]
    by_cases h1 : s = 1
    · subst h1; rw [if_pos rfl]
    rw [if_neg h1]
    have h2 : s = 2 := by omega
    subst h2
    rw [if_pos rfl]
  · rw [if_neg h, if_neg h]
theorem alive_ok : countermandlaw15_alive.f = some true := by decide +kernel
def anyB (l : List Int) : Bool := !(decide (fld l 0 = 0) && decide (fld l 1 = 0) && decide (fld l 2 = 0))
theorem any_eq (l : List Int) : cursor_Cursor_Any.f (fld l 0) (fld l 1) (fld l 2) = some (anyB l, fld l 0, fld l 1, fld l 2) := by
  unfold cursor_Cursor_Any.f anyB
  by_cases h0 : fld l 0 = 0
  · rw [if_pos h0]
    by_cases h1 : fld l 1 = 0
    · rw [if_pos h1]
      by_cases h2 : fld l 2 = 0
      · rw [if_pos h2]; simp [h0, h1, h2]
      · rw [if_neg h2]; simp [h2]
    · rw [if_neg h1]; simp [h1]
  · rw [if_neg h0]; simp [h0]
theorem any_true (l : List Int) (j : Int) (h : j = 0 ∨ j = 1 ∨ j = 2) (hj : fld l j ≠ 0) : anyB l = true := by
  unfold anyB
  rcases h with rfl | rfl | rfl <;> simp [hj]
theorem any_step (L : List Int) (s : Int) : anyB (L ++ [s]) = (anyB L || stepB L s) := by
  by_cases hs : s = 0 ∨ s = 1 ∨ s = 2
  · have h1 : anyB (L ++ [s]) = true := any_true _ s hs (by unfold fld; rw [cnt_same]; omega)
    rw [h1]
    by_cases h : cnt L s < 64
    · have : stepB L s = true := by unfold stepB; simp [h]; omega
      rw [this]; simp
    · have : anyB L = true := any_true _ s hs (by unfold fld; omega)
      rw [this]; simp
  · have h2 : stepB L s = false := by
      unfold stepB
      by_cases h : 0 ≤ s
      · rw [decide_eq_false (show ¬ s ≤ 2 by omega)]; simp
      · rw [decide_eq_false h]; simp
    rw [h2, Bool.or_false]
    unfold anyB fld
    rw [cnt_other L 0 s (by omega), cnt_other L 1 s (by omega), cnt_other L 2 s (by omega)]
theorem got_le (l : List Int) (s : Int) : 0 ≤ got l s ∧ got l s ≤ 64 := by
  unfold got fld; have := cnt_le l s; split <;> omega
theorem rread_l0 (l : List Int) (s : Int) (hl : l.length ≤ 300) (k : Nat) : ∀ (d i : Nat), i + d = l.length → countermandref15_Read.l0 (k + d + 1) s (got (l.take i) s) l (l.length : Int) (i : Int) = some (got l s)
  | 0, i, h => by
    rw [countermandref15_Read.l0, if_neg (by omega), List.take_of_length_le (by omega)]
  | d + 1, i, h => by
    have hi : i < l.length := by omega
    have e : l.take i ++ [l[i]] = l.take (i + 1) := (List.take_succ_eq_append_getElem hi).symm
    have ih := rread_l0 l s hl k d (i + 1) (by omega)
    rw [show k + (d + 1) + 1 = (k + d + 1) + 1 by omega, countermandref15_Read.l0, if_pos (by omega), if_pos (by omega), if_pos (by omega), rd_at hi, wrap_next i 300 (by omega) (by omega)]
    by_cases h1 : l[i] = s
    · rw [if_pos h1]
      by_cases h2 : l[i] ≥ 0
      · rw [if_pos h2]
        by_cases h3 : l[i] ≤ 2
        · have hin : inS s = true := by unfold inS; simp; omega
          rw [if_pos h3]
          have e1 : got (l.take (i + 1)) s = ((min (cnt (l.take i) s + 1) 64 : Nat) : Int) := by
            unfold got fld; rw [if_pos hin, ← e, h1, cnt_same]
          have e2 : got (l.take i) s = ((cnt (l.take i) s : Nat) : Int) := by unfold got fld; rw [if_pos hin]
          have := cnt_le (l.take i) s
          by_cases h4 : got (l.take i) s < 64
          · rw [if_pos h4, e2, wrap_next (cnt (l.take i) s) 64 (by omega) (by omega), show ((cnt (l.take i) s + 1 : Nat) : Int) = got (l.take (i + 1)) s by rw [e1]; omega]
            exact ih
          · rw [if_neg h4, show got (l.take i) s = got (l.take (i + 1)) s by rw [e1, e2]; omega]
            exact ih
        · have hin : ¬ inS s = true := by unfold inS; simp; omega
          rw [if_neg h3, show got (l.take i) s = got (l.take (i + 1)) s by unfold got; rw [if_neg hin, if_neg hin]]
          exact ih
      · have hin : ¬ inS s = true := by unfold inS; simp; omega
        rw [if_neg h2, show got (l.take i) s = got (l.take (i + 1)) s by unfold got; rw [if_neg hin, if_neg hin]]
        exact ih
    · rw [if_neg h1, show got (l.take i) s = got (l.take (i + 1)) s by unfold got fld; rw [← e, cnt_other _ _ _ (fun e => h1 e.symm)]]
      exact ih
theorem rread_eq (k : Nat) (l : List Int) (s : Int) (hl : l.length ≤ 300) : countermandref15_Read.f (k + 301) l s = some (got l s) := by
  unfold countermandref15_Read.f
  rw [show k + 301 = (k + 300 - l.length) + l.length + 1 by omega]
  have := rread_l0 l s hl (k + 300 - l.length) l.length 0 (by omega)
  have e : got (l.take 0) s = 0 := by unfold got; split <;> rfl
  rw [e] at this
  exact this
theorem at_eq (l : List Int) (s p : Int) (hp : 0 ≤ p) (hp2 : p ≤ 1099511627776) : cursor_Cursor_At.f (fld l 0) (fld l 1) (fld l 2) s p = some (wrap64 (p + got l s), fld l 0, fld l 1, fld l 2) := by
  unfold cursor_Cursor_At.f got
  rw [is_eq, Option.bind_some]
  by_cases h : inS s = true
  · rw [if_pos h, if_pos h]
    have h' := h
    unfold inS at h'
    simp at h'
    by_cases h0 : s = 0
    · subst h0; rw [if_pos rfl]
    rw [if_neg h0]
    by_cases h1 : s = 1
    · subst h1; rw [if_pos rfl]
    rw [if_neg h1]
    have h2 : s = 2 := by omega
    subst h2
    rw [if_pos rfl]
  · rw [if_neg h, if_neg h, wrap_in _ (by omega) (by omega), Int.add_zero]
theorem j4_ok (l : List Int) (s p : Int) (hl : l.length ≤ 300) (hp : 0 ≤ p) (hp2 : p ≤ 1099511627776) : countermandlaw15_CursorSteps.j4 302 l s p (anyB l) (got l s) false (fld l 0) (fld l 1) (fld l 2) (fld (l ++ [0]) 0) (fld (l ++ [0]) 1) (fld (l ++ [0]) 2) = some true := by
  rw [countermandlaw15_CursorSteps.j4, if_neg (by decide), read_eq, Option.bind_some, if_pos rfl, at_eq l s p hp hp2, Option.bind_some, if_pos rfl, any_eq, Option.bind_some]
  have e : got (l ++ [0]) 1 = got l 1 := by unfold got fld; rw [cnt_other l 1 0 (by decide)]
  have r := rread_eq 0 l 0 hl
  by_cases h : anyB l = true
  · rw [if_pos h, if_pos h, read_eq, Option.bind_some, r, Option.bind_some, if_pos rfl, read_eq, Option.bind_some, read_eq, Option.bind_some, e]
    simp
  · rw [if_neg h, if_neg h, read_eq, Option.bind_some, r, Option.bind_some, if_pos rfl, read_eq, Option.bind_some, read_eq, Option.bind_some, e]
    simp
theorem l0_ev (l : List Int) (s p : Int) (hl : l.length ≤ 300) (hp : 0 ≤ p) (hp2 : p ≤ 1099511627776) : ∀ (d i : Nat), i + d = l.length → countermandlaw15_CursorSteps.l0 (3 * d + 303) l s p (anyB (l.take i)) l (l.length : Int) (i : Int) (fld (l.take i) 0) (fld (l.take i) 1) (fld (l.take i) 2) = some true
  | 0, i, h => by
    have e : l.take i = l := List.take_of_length_le (by omega)
    rw [e, show 3 * 0 + 303 = 302 + 1 by rfl, countermandlaw15_CursorSteps.l0, if_neg (by omega), rread_eq 1 l s hl, Option.bind_some]
    unfold cursor_Cursor_Copy.f cursor_Cursor_At_nil.f cursor_Cursor_Step_nil.f cursor_Cursor_Read_nil.f cursor_Cursor_Any_nil.f cursor_Cursor_Copy_nil.f
    rw [Option.bind_some, step_eq, Option.bind_some, Option.bind_some, if_pos rfl, Option.bind_some, if_neg (by decide), Option.bind_some, if_pos rfl, Option.bind_some, if_neg (by decide), Option.bind_some]
    exact j4_ok l s p hl hp hp2
  | d + 1, i, h => by
    have hi : i < l.length := by omega
    have e : l.take i ++ [l[i]] = l.take (i + 1) := (List.take_succ_eq_append_getElem hi).symm
    have ih := l0_ev l s p hl hp hp2 d (i + 1) (by omega)
    have j3 : ∀ x8, x8 = anyB (l.take (i + 1)) → countermandlaw15_CursorSteps.j3 (3 * d + 304) l s p x8 (i : Int) l[i] (stepB (l.take i) l[i]) l (l.length : Int) (i : Int) (fld (l.take i) 0) (fld (l.take i) 1) (fld (l.take i) 2) = some true := by
      rintro x8 rfl
      have r := rread_eq (3 * d + 2) (l.take (i + 1)) l[i] (by rw [List.length_take]; omega)
      rw [countermandlaw15_CursorSteps.j3, step_eq, Option.bind_some, e, wrap_next i 300 (by omega) (by omega)]
      by_cases h1 : stepB (l.take i) l[i] = true
      · rw [if_pos h1, if_pos h1, read_eq, Option.bind_some, if_pos (by omega), if_pos (by omega), Int.toNat_natCast, r, Option.bind_some, if_pos rfl]; exact ih
      · rw [if_neg h1, if_neg h1, read_eq, Option.bind_some, if_pos (by omega), if_pos (by omega), Int.toNat_natCast, r, Option.bind_some, if_pos rfl]; exact ih
    have j2 : countermandlaw15_CursorSteps.j2 (3 * d + 305) l s p (anyB (l.take i)) (i : Int) l[i] (stepB (l.take i) l[i]) l (l.length : Int) (i : Int) (fld (l.take i) 0) (fld (l.take i) 1) (fld (l.take i) 2) = some true := by
      have ea := any_step (l.take i) l[i]
      rw [e] at ea
      rw [countermandlaw15_CursorSteps.j2]
      by_cases h1 : anyB (l.take i) = true
      · rw [if_pos h1]; exact j3 true (by rw [ea, h1]; rfl)
      · rw [if_neg h1]; exact j3 _ (by rw [ea, Bool.eq_false_iff.2 h1]; rfl)
    have r := rread_eq (3 * d + 4) (l.take i) l[i] (by rw [List.length_take]; omega)
    rw [show 3 * (d + 1) + 303 = (3 * d + 305) + 1 by omega, countermandlaw15_CursorSteps.l0, if_pos (by omega), if_pos (by omega), if_pos (by omega), if_pos (by omega), Int.toNat_natCast, rd_at hi, r, Option.bind_some]
    by_cases h1 : l[i] ≥ 0
    · rw [if_pos h1]
      by_cases h2 : l[i] ≤ 2
      · have hin : inS l[i] = true := by unfold inS; simp; omega
        have e3 : decide (got (l.take i) l[i] < 64) = stepB (l.take i) l[i] := by
          unfold got fld stepB; rw [if_pos hin]; simp [h2, show 0 ≤ l[i] from h1]; omega
        rw [if_pos h2, e3]; exact j2
      · have e3 : stepB (l.take i) l[i] = false := by unfold stepB; rw [decide_eq_false h2]; simp
        rw [if_neg h2, ← e3]; exact j2
    · have e3 : stepB (l.take i) l[i] = false := by unfold stepB; rw [decide_eq_false (show ¬ 0 ≤ l[i] by omega)]; rfl
      rw [if_neg h1, ← e3]; exact j2
theorem j0_true (k : Nat) (l : List Int) (s p : Int) : countermandlaw15_CursorSteps.j0 (k + 1) l s p true = some true := by
  rw [countermandlaw15_CursorSteps.j0, if_pos rfl]
theorem CursorSteps : countermandlaw15_CursorSteps.Pure := by
  intro l s p h1 h2 h3 h4 h5
  refine ⟨3 * l.length + 303 + 1, ?_⟩
  unfold countermandlaw15_CursorSteps.f
  rw [alive_ok, Option.bind_some, if_pos rfl]
  by_cases h5 : (l.length : Int) > 300
  · rw [if_pos h5]; exact j0_true _ _ _ _
  · rw [if_neg h5]
    by_cases h6 : p < 0
    · rw [if_pos h6]; exact j0_true _ _ _ _
    · rw [if_neg h6]
      by_cases h7 : p > 1099511627776
      · rw [decide_eq_true h7]; exact j0_true _ _ _ _
      · rw [decide_eq_false h7, countermandlaw15_CursorSteps.j0, if_neg (by decide)]
        exact l0_ev l s p (by omega) (by omega) (by omega) l.length 0 (by omega)

end Go.Proofs.Ytfimbmdbaaiemaa.Pure
