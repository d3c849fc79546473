/- Proved: in every script each answer and what the areas have are what the document says; no condition beyond the statement's own bounds. -/
import Derived.Test.YtodffnchcbapcaaPDiskDoesx2
namespace Go.Proofs.Ytodffnchcbapcaa.Pure
open Go.RowKit Go.Proofs.Ytodffnchcbapcaa.PDiskDoes Go.Proofs.YtodffnchcbapcaaW.PrintWords Go.Proofs.YtodffnchcbapcaaW.PrintLast

theorem wrap_next (i n : Nat) (h : i < n) (hn : n ≤ 9223372036854775807) : wrap64 ((i : Int) + 1) = ((i + 1 : Nat) : Int) := by unfold wrap64; omega
theorem wrap_in (x : Int) (h0 : -9223372036854775808 ≤ x) (h1 : x ≤ 9223372036854775807) : wrap64 x = x := by unfold wrap64; omega
theorem drop_end {l : List S53} {i : Nat} (h : l.drop i = []) (hi : i ≤ l.length) : i = l.length := by
  have := List.drop_eq_nil_iff.1 h
  omega
theorem great_loop (l : List S53) (hl : l.length ≤ 60) : ∀ (r : List S53) (i n : Nat), l.drop i = r → i ≤ l.length → n ≤ 32768 →
    ∃ b, Ev (fun k => countermandlaw03_great.l0 k (n : Int) l (l.length : Int) (i : Int)) b ∧ (b = false → n + tot53 r ≤ 32768)
  | [], i, n, h, hi, hn => by
    have hi' := drop_end h hi
    refine ⟨false, Ev.step (f := fun _ => some false) (fun k => ?_) (Ev.now _), fun _ => by simpa [tot53] using hn⟩
    rw [countermandlaw03_great.l0, if_neg (by omega)]
  | x :: r, i, n, h, hi, hn => by
    obtain ⟨hx, hlt, hr⟩ := rd53 h
    have hw := wrap_next i l.length hlt (by omega)
    by_cases h1 : (x.f2.size : Int) > 32768
    · refine ⟨true, Ev.step (f := fun _ => some true) (fun k => ?_) (Ev.now _), fun e => by cases e⟩
      rw [countermandlaw03_great.l0, if_pos (by omega), if_pos (by omega), if_pos (by omega), hx, if_pos h1]
    have e : wrap64 ((n : Int) + (x.f2.size : Int)) = ((n + x.f2.size : Nat) : Int) := by rw [wrap_in _ (by omega) (by omega)]; omega
    by_cases h2 : ((n + x.f2.size : Nat) : Int) > 32768
    · refine ⟨true, Ev.step (f := fun _ => some true) (fun k => ?_) (Ev.now _), fun e => by cases e⟩
      rw [countermandlaw03_great.l0, if_pos (by omega), if_pos (by omega), if_pos (by omega), hx, if_neg h1, e, if_pos h2]
    obtain ⟨b, hb, ht⟩ := great_loop l hl r (i + 1) (n + x.f2.size) hr (by omega) (by omega)
    refine ⟨b, Ev.step (fun k => ?_) hb, fun q => by have := ht q; simp only [tot53]; omega⟩
    rw [countermandlaw03_great.l0, if_pos (by omega), if_pos (by omega), if_pos (by omega), hx, if_neg h1, e, if_neg h2, hw]
theorem great_ev (l : List S53) : ∃ b, Ev (fun k => countermandlaw03_great.f k l) b ∧ (b = false → l.length ≤ 60 ∧ tot53 l ≤ 32768) := by
  by_cases h : (l.length : Int) > 60
  · refine ⟨true, Ev.congr (fun k => ?_) (Ev.now _), fun e => by cases e⟩
    unfold countermandlaw03_great.f
    rw [if_pos h]
  · obtain ⟨b, hb, ht⟩ := great_loop l (by omega) l 0 0 rfl (by omega) (by omega)
    refine ⟨b, Ev.congr (fun k => ?_) hb, fun e => ⟨by omega, by have := ht e; omega⟩⟩
    unfold countermandlaw03_great.f
    rw [if_neg h]
    rfl

theorem DiskDoes : countermandlaw03_DiskDoes.Pure := by
  intro l
  obtain ⟨b, hb, hf⟩ := great_ev l
  obtain ⟨k, hk⟩ := Ev.rounds hb
  exact ⟨k, b, hk, hf⟩
end Go.Proofs.Ytodffnchcbapcaa.Pure
