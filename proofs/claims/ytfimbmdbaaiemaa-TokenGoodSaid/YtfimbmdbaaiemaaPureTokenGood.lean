/- Proved: held for good once it stays so, until it is dropped, whoever else asks, and however it is taken again; no condition beyond the statement's own bounds. -/
import Derived.Test.YtfimbmdbaaiemaaPTokenGoodx2
namespace Go.Proofs.Ytfimbmdbaaiemaa.Pure
open Go.RowKit Go.Proofs.Ytfimbmdbaaiemaa.PTokenGood Go.Proofs.YtfimbmdbaaiemaaW.PrintWords Go.Proofs.YtfimbmdbaaiemaaW.PrintLast

theorem wrap_next (i n : Nat) (h : i < n) (hn : n ≤ 9223372036854775807) : wrap64 ((i : Int) + 1) = ((i + 1 : Nat) : Int) := by unfold wrap64; omega
/-- a thread holds it for good, nobody else commits -/
def Inv (t c : Int) : Prop := 0 ≤ t ∧ (c = -1 ∨ c = t)
theorem free_inv {t c : Int} (h : Inv t c) (a : Int) : token_Token_Free.f t false c a = some (decide (a = t), t, false, c) := by
  obtain ⟨h0, hc⟩ := h
  unfold token_Token_Free.f
  by_cases ha : a = t
  · subst ha
    rw [if_pos (by omega), if_neg (by omega), if_pos rfl]
    rcases hc with rfl | rfl
    · simp
    · rw [if_neg (by omega)]; simp
  · by_cases h1 : a ≥ 0
    · rw [if_pos h1, if_neg (by omega), if_neg (fun e => ha e.symm)]; simp [ha]
    · rw [if_neg h1]; simp [ha]
theorem take_inv {t c : Int} (h : Inv t c) (a : Int) (sf : Bool) : ∃ b, token_Token_Take.f t false c a sf = some (b, t, false, c) := by
  unfold token_Token_Take.f
  rw [free_inv h a, Option.bind_some]
  have h0 := h.1
  by_cases ha : a = t
  · subst ha
    have : ¬ a = -1 := by omega
    cases sf <;> simp [this]
  · simp [ha]
theorem lock_inv {t c : Int} (h : Inv t c) (a : Int) : ∃ b c', token_Token_Lock.f t false c a = some (b, t, false, c') ∧ Inv t c' := by
  unfold token_Token_Lock.f
  rw [free_inv h a, Option.bind_some]
  by_cases ha : a = t
  · subst ha; simp [Inv, h.1]
  · simp [ha]; exact h
theorem unlock_inv {t c : Int} (h : Inv t c) (a : Int) : ∃ b c', token_Token_Unlock.f t false c a = some (b, t, false, c') ∧ Inv t c' := by
  unfold token_Token_Unlock.f
  by_cases h1 : a < 0
  · rw [if_pos h1]; exact ⟨_, _, rfl, h⟩
  · rw [if_neg h1]
    by_cases h2 : c = a
    · rw [if_pos h2]; exact ⟨_, _, rfl, h.1, .inl rfl⟩
    · rw [if_neg h2]; exact ⟨_, _, rfl, h⟩
theorem drop_other {t c : Int} (a : Int) (ha : ¬ a = t) : ∃ b, token_Token_Drop.f t false c a = some (b, t, false, c) := by
  unfold token_Token_Drop.f
  by_cases h1 : a < 0
  · rw [if_pos h1]; exact ⟨_, rfl⟩
  · rw [if_neg h1, if_neg (fun e => ha e.symm)]; exact ⟨_, rfl⟩
theorem loop_ev (t : Int) (l : List S49) (hl : l.length ≤ 100) : ∀ (d i : Nat) (c : Int), i + d = l.length → Inv t c → countermandlaw19_TokenGood.l0 (2 * d + 1) t l (l.length : Int) (i : Int) t false c = some true
  | 0, i, c, hi, h => by
    simp only [countermandlaw19_TokenGood.l0]
    rw [if_neg (by omega)]
  | d + 1, i, c, hi, h => by
    have j2 : ∀ c', Inv t c' → countermandlaw19_TokenGood.j2 (2 * d + 2) t l (l.length : Int) (i : Int) t false c' = some true := by
      intro c' h'
      simp only [countermandlaw19_TokenGood.j2]
      have e : token_Token_Sure.f t false c' t = some (true, t, false, c') := by
        unfold token_Token_Sure.f
        rw [if_pos (by have := h'.1; omega), if_pos rfl]
        rfl
      rw [e, Option.bind_some, if_pos rfl]
      unfold token_Token_Holder.f
      rw [Option.bind_some, if_pos rfl]
      unfold token_Token_Soft.f
      rw [Option.bind_some, if_neg (by simp), wrap_next i l.length (by omega) (by omega)]
      exact loop_ev t l hl d (i + 1) c' (by omega) h'
    show countermandlaw19_TokenGood.l0 (2 * d + 2 + 1) t l _ _ t false c = some true
    obtain ⟨m, hm⟩ : ∃ m, m = 2 * d + 2 := ⟨_, rfl⟩
    rw [← hm] at j2 ⊢
    simp only [countermandlaw19_TokenGood.l0]
    rw [if_pos (by omega), if_pos (by omega), if_pos (by omega)]
    generalize rd_T49 l (i : Int) = x
    by_cases k0 : x.f0 = 0
    · rw [if_pos k0]
      obtain ⟨b, e⟩ := take_inv h x.f1 x.f2
      rw [e, Option.bind_some]
      exact j2 c h
    rw [if_neg k0]
    by_cases k1 : x.f0 = 1
    · rw [if_pos k1]
      obtain ⟨b, c', e, h'⟩ := lock_inv h x.f1
      rw [e, Option.bind_some]
      exact j2 c' h'
    rw [if_neg k1]
    by_cases k2 : x.f0 = 2
    · rw [if_pos k2]
      obtain ⟨b, c', e, h'⟩ := unlock_inv h x.f1
      rw [e, Option.bind_some]
      exact j2 c' h'
    rw [if_neg k2]
    by_cases k3 : x.f0 = 3
    · rw [if_pos k3]
      by_cases k4 : x.f1 = t
      · rw [if_pos k4]
        have e : token_Token_Drop.f t false c t = some (true, -1, false, c) := by
          unfold token_Token_Drop.f
          rw [if_neg (by have := h.1; omega), if_pos rfl]
        rw [e, Option.bind_some, if_pos rfl]
        have e2 : token_Token_Sure.f (-1) false c t = some (false, -1, false, c) := by
          unfold token_Token_Sure.f
          rw [if_pos (by have := h.1; omega), if_neg (by have := h.1; omega)]
        rw [e2, Option.bind_some, if_neg (by simp)]
        rfl
      · rw [if_neg k4]
        obtain ⟨b, e⟩ := drop_other (c := c) x.f1 k4
        rw [e, Option.bind_some]
        exact j2 c h
    rw [if_neg k3]
    exact j2 c h

theorem TokenGood : countermandlaw19_TokenGood.Pure := by
  intro t l _ _ _
  refine ⟨2 * l.length + 3, ?_⟩
  unfold countermandlaw19_TokenGood.f
  have alive : countermandlaw19_alive.f = some true := by decide +kernel
  rw [alive, Option.bind_some, if_pos rfl]
  by_cases h1 : (l.length : Int) > 100
  · rw [if_pos h1]
    simp only [countermandlaw19_TokenGood.j0]
    exact if_pos trivial
  rw [if_neg h1]
  obtain ⟨m, hm⟩ : ∃ m, m = 2 * l.length + 2 := ⟨_, rfl⟩
  rw [show 2 * l.length + 3 = m + 1 by omega]
  simp only [countermandlaw19_TokenGood.j0]
  by_cases h2 : t < 0
  · rw [if_pos (by simpa using h2)]
  rw [if_neg (by simpa using h2)]
  have e : token_Token_Take.f (-1) false (-1) t false = some (true, t, false, -1) := by
    unfold token_Token_Take.f token_Token_Free.f
    rw [if_pos (by omega), if_pos rfl, if_pos rfl, Option.bind_some]
    rfl
  unfold token_New.f
  rw [Option.bind_some, e, Option.bind_some]
  have := loop_ev t l (by omega) l.length 0 (-1) (by omega) ⟨by omega, .inl rfl⟩
  exact at_rounds (g := fun k => countermandlaw19_TokenGood.l0 k t l (l.length : Int) 0 t false (-1)) (fun k => (countermandlaw19_TokenGood.mono_l k).2.1 _ _ _ _ _ _ _) (show 2 * l.length + 1 ≤ m by omega) this

end Go.Proofs.Ytfimbmdbaaiemaa.Pure
