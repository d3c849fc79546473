/- The records with which bytes begin, one behind the other, in plain Lean. -/
import Derived.Test.YtjegpbaohoigjaaPlain
namespace Go.Proofs.Ytjegpbaohoigjaa.Plain
open Go.RowKit Go.Proofs.YtjegpbaohoigjaaW.PrintWords

theorem open_small (l : List UInt8) : (openL l).1.length ≤ 1024 := by
  unfold openL
  split
  · simp
  · split
    · simp
    · split
      · rw [List.length_take, List.length_drop]; omega
      · simp
theorem open_size (l : List UInt8) : (openL l).2 = 0 ∨ ((openL l).2 = (openL l).1.length + 6 ∧ (openL l).2 ≤ l.length) := by
  unfold openL
  split
  · exact .inl rfl
  · split
    · exact .inl rfl
    · split
      · refine .inr ⟨?_, by dsimp only; omega⟩
        rw [List.length_take, List.length_drop]
        dsimp only
        omega
      · exact .inl rfl
abbrev Ld := {x : ByteArray // x.size ≤ 1024}
def ldL (l : List UInt8) : Ld := ⟨⟨(openL l).1.toArray⟩, by rw [mkb_size]; exact open_small l⟩
def recsN : Nat → List UInt8 → List Ld
  | 0, _ => []
  | n + 1, l => if (openL l).2 = 0 then [] else ldL l :: recsN n (l.drop (openL l).2)
theorem recsN_fuel : ∀ (n m : Nat) (l : List UInt8), l.length ≤ n → l.length ≤ m → recsN n l = recsN m l
  | 0, 0, _, _, _ => rfl
  | 0, m + 1, l, h, _ => by
    have hl : l = [] := List.length_eq_zero_iff.1 (by omega)
    subst hl
    rfl
  | n + 1, 0, l, _, h => by
    have hl : l = [] := List.length_eq_zero_iff.1 (by omega)
    subst hl
    rfl
  | n + 1, m + 1, l, h, h' => by
    unfold recsN
    by_cases h0 : (openL l).2 = 0
    · rw [if_pos h0, if_pos h0]
    · rcases open_size l with hs | ⟨hs, hs2⟩
      · exact absurd hs h0
      · rw [if_neg h0, if_neg h0, recsN_fuel n m _ (by rw [List.length_drop]; omega) (by rw [List.length_drop]; omega)]
def recs (l : List UInt8) : List Ld := recsN l.length l
theorem recs_zero {l : List UInt8} (h : (openL l).2 = 0) : recs l = [] := by
  unfold recs
  cases hl : l.length with
  | zero => rfl
  | succ n => unfold recsN; rw [if_pos h]
theorem recs_next {l : List UInt8} (h : (openL l).2 ≠ 0) : recs l = ldL l :: recs (l.drop (openL l).2) := by
  rcases open_size l with hs | ⟨hs, hs2⟩
  · exact absurd hs h
  · unfold recs
    cases hl : l.length with
    | zero => omega
    | succ n =>
      rw [recsN, if_neg h, recsN_fuel n (l.drop (openL l).2).length _ (by rw [List.length_drop]; omega) (Nat.le_refl _)]
theorem recsN_len : ∀ (n : Nat) (l : List UInt8), (recsN n l).length ≤ n
  | 0, _ => Nat.le_refl _
  | n + 1, l => by
    unfold recsN
    split
    · exact Nat.zero_le _
    · rw [List.length_cons]; have := recsN_len n (l.drop (openL l).2); omega
theorem recs_len (l : List UInt8) : (recs l).length ≤ l.length := recsN_len l.length l
/-- how many bytes the records of loads have -/
def whole : List Ld → Nat
  | [] => 0
  | x :: r => x.1.size + 6 + whole r
theorem whole_append : ∀ (a b : List Ld), whole (a ++ b) = whole a + whole b
  | [], b => by simp [whole]
  | x :: r, b => by rw [List.cons_append, whole, whole, whole_append r b]; omega
theorem whole_le : ∀ (a : List Ld), whole a ≤ 1030 * a.length
  | [] => Nat.le_refl _
  | x :: r => by rw [whole, List.length_cons]; have := whole_le r; have := x.2; omega
theorem drop_bytes (s : ByteArray) (n : Nat) : (s.extract n s.size).data.toList = s.data.toList.drop n := by
  rw [ByteArray.data_extract]
  simp
  rw [List.take_of_length_le]
  rw [List.length_drop]
  exact Nat.le_refl _
theorem load_eq (s : ByteArray) : (ldL s.data.toList).1 = ⟨(openL s.data.toList).1.toArray⟩ := rfl
end Go.Proofs.Ytjegpbaohoigjaa.Plain
