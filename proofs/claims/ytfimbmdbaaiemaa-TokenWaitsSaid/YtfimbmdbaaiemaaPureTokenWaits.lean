/- Proved: while a thread holds it, or commits, nobody else takes it, or commits, until that one lets go; no condition beyond the statement's own bounds. -/
import Derived.Test.YtfimbmdbaaiemaaPTokenWaitsx2
namespace Go.Proofs.Ytfimbmdbaaiemaa.Pure
open Go.RowKit Go.Proofs.Ytfimbmdbaaiemaa.PTokenWaits Go.Proofs.YtfimbmdbaaiemaaW.PrintWords Go.Proofs.YtfimbmdbaaiemaaW.PrintLast

theorem wrap_next (i n : Nat) (h : i < n) (hn : n ≤ 9223372036854775807) : wrap64 ((i : Int) + 1) = ((i + 1 : Nat) : Int) := by unfold wrap64; omega
/-- a thread commits, or holds it -/
def St (t : Int) (soft locks : Bool) : Int × Bool × Int := if locks then (-1, false, t) else (t, soft, -1)
theorem free_other {t a : Int} (ht : 0 ≤ t) (ha : ¬ a = t) (soft locks : Bool) : token_Token_Free.f (St t soft locks).1 (St t soft locks).2.1 (St t soft locks).2.2 a = some (false, St t soft locks) := by
  unfold token_Token_Free.f
  by_cases h1 : a ≥ 0
  · rw [if_pos h1]
    cases locks
    · show (if t = -1 then _ else if t = a then _ else _) = _
      rw [if_neg (by omega), if_neg (fun e => ha e.symm)]
    · show (if (-1 : Int) = -1 then (if t = -1 then _ else some ((t == a), _)) else _) = _
      rw [if_pos rfl, if_neg (by omega)]
      have : (t == a) = false := beq_eq_false_iff_ne.2 (fun e => ha e.symm)
      rw [this]
  · rw [if_neg h1]
theorem loop_ev (t : Int) (ht : 0 ≤ t) (soft locks : Bool) (l : List S49) (hl : l.length ≤ 100) : ∀ (d i : Nat), i + d = l.length → countermandlaw19_TokenWaits.l0 (d + 1) t soft locks l (l.length : Int) (i : Int) (St t soft locks).1 (St t soft locks).2.1 (St t soft locks).2.2 = some true
  | 0, i, hi => by
    simp only [countermandlaw19_TokenWaits.l0]
    rw [if_neg (by omega)]
    cases locks
    · rw [if_neg (by simp)]
      show (token_Token_Holder.f t soft (-1)).bind _ = _
      unfold token_Token_Holder.f
      rw [Option.bind_some, if_pos rfl]
      unfold token_Token_Soft.f
      rw [Option.bind_some]
      have e : ∀ s, token_Token_Drop.f t s (-1) t = some (true, -1, false, -1) := by
        intro s
        unfold token_Token_Drop.f
        rw [if_neg (by omega), if_pos rfl]
      cases soft
      · rw [if_neg (by simp), if_neg (by simp), e, Option.bind_some, if_pos rfl, Option.bind_some]; rfl
      · rw [if_pos rfl, if_pos rfl, e, Option.bind_some, if_pos rfl, Option.bind_some]; rfl
    · rw [if_pos rfl]
      show (token_Token_Commits.f (-1) false t).bind _ = _
      unfold token_Token_Commits.f
      rw [Option.bind_some, if_pos rfl]
      have e : token_Token_Unlock.f (-1) false t t = some (true, -1, false, -1) := by
        unfold token_Token_Unlock.f
        rw [if_neg (by omega), if_pos rfl]
      rw [e, Option.bind_some, if_pos rfl]
      unfold token_Token_Free.f
      rw [if_pos (by omega), if_pos rfl, if_pos rfl]
      rfl
  | d + 1, i, hi => by
    have ih := loop_ev t ht soft locks l hl d (i + 1) (by omega)
    obtain ⟨m, hm⟩ : ∃ m, m = d + 1 := ⟨_, rfl⟩
    rw [← hm] at ih ⊢
    simp only [countermandlaw19_TokenWaits.l0]
    rw [if_pos (by omega), if_pos (by omega), if_pos (by omega), wrap_next i l.length (by omega) (by omega)]
    generalize rd_T49 l (i : Int) = x
    by_cases k4 : x.f1 = t
    · rw [if_pos k4]; exact ih
    rw [if_neg k4]
    have hf := free_other ht k4 soft locks
    by_cases k0 : x.f0 = 0
    · rw [if_pos k0]
      unfold token_Token_Take.f
      rw [hf, Option.bind_some, if_neg (by simp), Option.bind_some, if_neg (by simp)]
      exact ih
    rw [if_neg k0]
    by_cases k1 : x.f0 = 1
    · rw [if_pos k1]
      unfold token_Token_Lock.f
      rw [hf, Option.bind_some, if_neg (by simp), Option.bind_some, if_neg (by simp)]
      exact ih
    rw [if_neg k1]
    by_cases k2 : x.f0 = 2
    · rw [if_pos k2]
      have e : token_Token_Unlock.f (St t soft locks).1 (St t soft locks).2.1 (St t soft locks).2.2 x.f1 = some (false, St t soft locks) := by
        unfold token_Token_Unlock.f
        by_cases h1 : x.f1 < 0
        · rw [if_pos h1]
        · rw [if_neg h1, if_neg (by cases locks <;> simp [St] <;> omega)]
      rw [e, Option.bind_some, if_neg (by simp)]
      exact ih
    rw [if_neg k2]
    by_cases k3 : x.f0 = 3
    · rw [if_pos k3]
      have e : token_Token_Drop.f (St t soft locks).1 (St t soft locks).2.1 (St t soft locks).2.2 x.f1 = some (false, St t soft locks) := by
        unfold token_Token_Drop.f
        by_cases h1 : x.f1 < 0
        · rw [if_pos h1]
        · rw [if_neg h1, if_neg (by cases locks <;> simp [St] <;> omega)]
      rw [e, Option.bind_some, if_neg (by simp)]
      exact ih
    rw [if_neg k3]
    exact ih

theorem TokenWaits : countermandlaw19_TokenWaits.Pure := by
  intro t soft locks l _ _ _
  refine ⟨l.length + 4, ?_⟩
  unfold countermandlaw19_TokenWaits.f
  have alive : countermandlaw19_alive.f = some true := by decide +kernel
  rw [alive, Option.bind_some, if_pos rfl]
  by_cases h1 : (l.length : Int) > 100
  · rw [if_pos h1]
    simp only [countermandlaw19_TokenWaits.j0]
    exact if_pos trivial
  rw [if_neg h1]
  obtain ⟨m, hm⟩ : ∃ m, m = l.length + 1 := ⟨_, rfl⟩
  rw [show l.length + 4 = m + 1 + 1 + 1 by omega]
  by_cases h2 : t < 0
  · simp only [countermandlaw19_TokenWaits.j0]
    rw [if_pos (by simpa using h2)]
  have go : ∀ h s c, (h, s, c) = St t soft locks → countermandlaw19_TokenWaits.j1 (m + 1 + 1) t soft locks l h s c = some true := by
    intro h s c e
    have := loop_ev t (by omega) soft locks l (by omega) l.length 0 (by omega)
    rw [← e] at this
    have := at_rounds (g := fun k => countermandlaw19_TokenWaits.l0 k t soft locks l (l.length : Int) 0 h s c) (fun k => (countermandlaw19_TokenWaits.mono_l k).2.2 _ _ _ _ _ _ _ _ _) (show l.length + 1 ≤ m + 1 by omega) this
    simp only [countermandlaw19_TokenWaits.j1]
    exact this
  obtain ⟨n, hn⟩ : ∃ n, n = m + 1 + 1 := ⟨_, rfl⟩
  rw [← hn] at go ⊢
  simp only [countermandlaw19_TokenWaits.j0]
  rw [if_neg (by simpa using h2)]
  unfold token_New.f
  rw [Option.bind_some]
  have fr : token_Token_Free.f (-1) false (-1) t = some (true, -1, false, -1) := by
    unfold token_Token_Free.f
    rw [if_pos (by omega), if_pos rfl, if_pos rfl]
  cases locks
  · rw [if_neg (by simp)]
    unfold token_Token_Take.f
    rw [fr, Option.bind_some, if_pos rfl]
    cases soft
    · rw [if_neg (by simp), Option.bind_some]; exact go _ _ _ rfl
    · rw [if_pos rfl, if_pos rfl, Option.bind_some]; exact go _ _ _ rfl
  · rw [if_pos rfl]
    unfold token_Token_Lock.f
    rw [fr, Option.bind_some, if_pos rfl, Option.bind_some]
    exact go _ _ _ rfl

end Go.Proofs.Ytfimbmdbaaiemaa.Pure
