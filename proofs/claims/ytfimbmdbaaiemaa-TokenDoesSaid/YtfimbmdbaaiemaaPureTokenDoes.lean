/- Proved: in every script each answer, and all that is told, are the document's, one thread at most holds it, one at most commits, and if one does each, they are the same, and a nil token answers; no condition beyond the statement's own bounds. -/
import Derived.Test.YtfimbmdbaaiemaaPTokenDoesx3
import Derived.Lib.Strings
import Derived.OpenShut
namespace Go.Proofs.Ytfimbmdbaaiemaa.Pure
open Go.RowKit Go.Proofs.Ytfimbmdbaaiemaa.PTokenDoes Go.Proofs.YtfimbmdbaaiemaaW.PrintWords Go.Proofs.YtfimbmdbaaiemaaW.PrintLast

theorem wrap_next (i n : Nat) (h : i < n) (hn : n ≤ 9223372036854775807) : wrap64 ((i : Int) + 1) = ((i + 1 : Nat) : Int) := by unfold wrap64; omega
theorem alive_ok : countermandlaw19_alive.f = some true := by decide +kernel
/-- the program's token (h, s, c), the document's (h, g, c) -/
def Inv (h : Int) (s g : Bool) (c : Int) : Prop := (h = -1 ∨ 0 ≤ h) ∧ (c = -1 ∨ 0 ≤ c) ∧ s = (decide (h ≥ 0) && !g) ∧ (0 ≤ h → 0 ≤ c → h = c)
theorem free_eq {h : Int} {s g : Bool} {c : Int} (I : Inv h s g c) (a : Int) : ∃ b, token_Token_Free.f h s c a = some (b, h, s, c) ∧ countermandref19_Token_Free.f h g c a = some (b, h, g, c) ∧ (b = true → 0 ≤ a ∧ (h = -1 ∨ h = a) ∧ (c = -1 ∨ c = a)) := by
  obtain ⟨hh, hc, _, _⟩ := I
  unfold token_Token_Free.f countermandref19_Token_Free.f
  by_cases h0 : a ≥ 0
  · rw [if_pos h0, if_neg (show ¬ a < 0 by omega)]
    by_cases h1 : h = -1
    · rw [if_pos h1, if_neg (show ¬ h ≥ 0 by omega)]
      by_cases h2 : c = -1
      · rw [if_pos h2, if_neg (show ¬ c ≥ 0 by omega)]
        exact ⟨true, rfl, rfl, fun _ => ⟨h0, .inl h1, .inl h2⟩⟩
      · rw [if_neg h2, if_pos (show c ≥ 0 by omega)]
        refine ⟨c == a, rfl, by simp [bne], fun e => ⟨h0, .inl h1, .inr (by simpa using e)⟩⟩
    · rw [if_neg h1, if_pos (show h ≥ 0 by omega)]
      by_cases h3 : h = a
      · rw [if_pos h3, if_pos h3]
        by_cases h2 : c = -1
        · rw [if_pos h2, if_neg (show ¬ c ≥ 0 by omega)]
          exact ⟨true, rfl, rfl, fun _ => ⟨h0, .inr h3, .inl h2⟩⟩
        · rw [if_neg h2, if_pos (show c ≥ 0 by omega)]
          refine ⟨c == a, rfl, by simp [bne], fun e => ⟨h0, .inr h3, .inr (by simpa using e)⟩⟩
      · rw [if_neg h3, if_neg h3]
        exact ⟨false, rfl, rfl, fun e => by cases e⟩
  · rw [if_neg h0, if_pos (show a < 0 by omega)]
    exact ⟨false, rfl, rfl, fun e => by cases e⟩
theorem take_eq {h : Int} {s g : Bool} {c : Int} (I : Inv h s g c) (a : Int) (f : Bool) : ∃ b h' s' g' c', token_Token_Take.f h s c a f = some (b, h', s', c') ∧ countermandref19_Token_Take.f h g c a f = some (b, h', g', c') ∧ Inv h' s' g' c' := by
  obtain ⟨b, e1, e2, e3⟩ := free_eq I a
  obtain ⟨hh, hc, hs, hx⟩ := I
  unfold token_Token_Take.f countermandref19_Token_Take.f
  rw [e1, e2, Option.bind_some, Option.bind_some]
  dsimp only
  cases b
  · rw [if_neg (by decide), if_neg (by decide)]
    exact ⟨_, _, _, _, _, rfl, rfl, hh, hc, hs, hx⟩
  · obtain ⟨ha, h1, h2⟩ := e3 rfl
    rw [if_pos rfl, if_pos rfl]
    cases f
    · rw [if_neg (by decide), if_neg (by decide)]
      exact ⟨_, _, _, _, _, rfl, rfl, .inr ha, hc, by simp, fun _ h4 => by omega⟩
    · rw [if_pos rfl, if_pos rfl]
      by_cases h3 : h = -1
      · rw [if_pos h3, if_neg (show ¬ h = a by omega)]
        exact ⟨_, _, _, _, _, rfl, rfl, .inr ha, hc, by simp; omega, fun _ h4 => by omega⟩
      · have h4 : h = a := by omega
        rw [if_neg h3, if_pos h4]
        refine ⟨_, _, _, _, _, rfl, rfl, .inr ha, hc, ?_, fun _ h4 => by omega⟩
        show s = _
        rw [hs, h4]
theorem lock_eq {h : Int} {s g : Bool} {c : Int} (I : Inv h s g c) (a : Int) : ∃ b h' s' g' c', token_Token_Lock.f h s c a = some (b, h', s', c') ∧ countermandref19_Token_Lock.f h g c a = some (b, h', g', c') ∧ Inv h' s' g' c' := by
  obtain ⟨b, e1, e2, e3⟩ := free_eq I a
  obtain ⟨hh, hc, hs, hx⟩ := I
  unfold token_Token_Lock.f countermandref19_Token_Lock.f
  rw [e1, e2, Option.bind_some, Option.bind_some]
  dsimp only
  cases b
  · rw [if_neg (by decide), if_neg (by decide)]
    exact ⟨_, _, _, _, _, rfl, rfl, hh, hc, hs, hx⟩
  · obtain ⟨ha, h1, h2⟩ := e3 rfl
    rw [if_pos rfl, if_pos rfl]
    exact ⟨_, _, _, _, _, rfl, rfl, hh, .inr ha, hs, fun h4 _ => by omega⟩
theorem unlock_eq {h : Int} {s g : Bool} {c : Int} (I : Inv h s g c) (a : Int) : ∃ b h' s' g' c', token_Token_Unlock.f h s c a = some (b, h', s', c') ∧ countermandref19_Token_Unlock.f h g c a = some (b, h', g', c') ∧ Inv h' s' g' c' := by
  obtain ⟨hh, hc, hs, hx⟩ := I
  unfold token_Token_Unlock.f countermandref19_Token_Unlock.f
  by_cases h0 : a < 0
  · rw [if_pos h0, if_pos h0]; exact ⟨_, _, _, _, _, rfl, rfl, hh, hc, hs, hx⟩
  · rw [if_neg h0, if_neg h0]
    by_cases h1 : c = a
    · rw [if_pos h1, if_pos h1]; exact ⟨_, _, _, _, _, rfl, rfl, hh, .inl rfl, hs, fun _ h4 => by omega⟩
    · rw [if_neg h1, if_neg h1]; exact ⟨_, _, _, _, _, rfl, rfl, hh, hc, hs, hx⟩
theorem drop_eq {h : Int} {s g : Bool} {c : Int} (I : Inv h s g c) (a : Int) : ∃ b h' s' g' c', token_Token_Drop.f h s c a = some (b, h', s', c') ∧ countermandref19_Token_Drop.f h g c a = some (b, h', g', c') ∧ Inv h' s' g' c' := by
  obtain ⟨hh, hc, hs, hx⟩ := I
  unfold token_Token_Drop.f countermandref19_Token_Drop.f
  by_cases h0 : a < 0
  · rw [if_pos h0, if_pos h0]; exact ⟨_, _, _, _, _, rfl, rfl, hh, hc, hs, hx⟩
  · rw [if_neg h0, if_neg h0]
    by_cases h1 : h = a
    · rw [if_pos h1, if_pos h1]; exact ⟨_, _, _, _, _, rfl, rfl, .inl rfl, hc, rfl, fun h4 _ => by omega⟩
    · rw [if_neg h1, if_neg h1]; exact ⟨_, _, _, _, _, rfl, rfl, hh, hc, hs, hx⟩
theorem l1_ev (x1 : Int) (l : List S49) (n i0 : Int) (y : List Int) (hy : y.length = 4) {h : Int} {s g : Bool} {c : Int} (I : Inv h s g c) (k : Nat) : ∀ (d i : Nat), i + d = y.length →
    countermandlaw19_TokenDoes.l1 (k + d + 1) x1 l n i0 y (y.length : Int) (i : Int) h s c h g c = countermandlaw19_TokenDoes.l0 k x1 l n (wrap64 (i0 + 1)) h s c h g c
  | 0, i, hi => by
    rw [countermandlaw19_TokenDoes.l1, if_neg (by omega)]
  | d + 1, i, hi => by
    have ih := l1_ev x1 l n i0 y hy I k d (i + 1) (by omega)
    rw [show k + (d + 1) + 1 = (k + d + 1) + 1 by omega, countermandlaw19_TokenDoes.l1, if_pos (by omega), if_pos (by omega), if_pos (by omega), wrap_next i 4 (by omega) (by omega)]
    generalize rd y (i : Int) = a
    obtain ⟨b, e1, e2, _⟩ := free_eq I a
    rw [e1, Option.bind_some, e2, Option.bind_some, if_pos rfl]
    obtain ⟨hh, hc, hs, hx⟩ := I
    unfold token_Token_Sure.f
    by_cases h0 : a ≥ 0
    · by_cases h1 : h = a
      · have hg : (!s) = g := by rw [hs, decide_eq_true (show h ≥ 0 by omega)]; simp
        rw [if_pos h0, if_pos h1, Option.bind_some, if_pos h0, if_pos h1, if_pos hg]; exact ih
      · rw [if_pos h0, if_neg h1, Option.bind_some, if_pos h0, if_neg h1, if_neg (by simp)]; exact ih
    · rw [if_neg h0, Option.bind_some, if_neg h0, if_neg (by simp)]; exact ih
theorem j2_ev (x1 : Int) (l : List S49) (n i0 : Int) {h : Int} {s g : Bool} {c : Int} (I : Inv h s g c) (k : Nat) (f0 f1 : Int) (f2 : Bool) :
    countermandlaw19_TokenDoes.j2 (k + 6) x1 l n i0 false h s c h g c f0 f1 f2 = countermandlaw19_TokenDoes.l0 k x1 l n (wrap64 (i0 + 1)) h s c h g c := by
  rw [countermandlaw19_TokenDoes.j2, if_neg (by decide), Option.bind_some]
  exact l1_ev x1 l n i0 _ rfl I k 4 0 rfl
theorem j1_ev (x1 : Int) (l : List S49) (n i0 : Int) {h : Int} {s g : Bool} {c : Int} (I : Inv h s g c) (k : Nat) (f0 f1 : Int) (f2 : Bool) :
    countermandlaw19_TokenDoes.j1 (k + 7) x1 true l n i0 h s c h g c f0 f1 f2 = countermandlaw19_TokenDoes.l0 k x1 l n (wrap64 (i0 + 1)) h s c h g c := by
  have J := j2_ev x1 l n i0 I k f0 f1 f2
  obtain ⟨hh, hc, hs, hx⟩ := I
  rw [countermandlaw19_TokenDoes.j1]
  unfold token_Token_Holder.f token_Token_Commits.f token_Token_Soft.f
  rw [Option.bind_some, Option.bind_some, if_pos rfl, if_pos rfl, if_pos rfl, Option.bind_some]
  by_cases h0 : h ≥ 0
  · have hg : s = (!g) := by rw [hs, decide_eq_true h0]; simp
    rw [if_pos h0, if_pos hg, if_pos h0]
    by_cases h1 : c ≥ 0
    · have e : (h != c) = false := by rw [hx h0 h1]; simp
      rw [if_pos h1]
      simp only [e]
      exact J
    · rw [if_neg h1]; exact J
  · have hg : ¬ s = true := by rw [hs, decide_eq_false h0]; simp
    rw [if_neg h0, if_neg hg, if_neg h0]; exact J
theorem l0_ev (x1 : Int) (l : List S49) (hl : l.length ≤ 100) : ∀ (d i : Nat) (h : Int) (s g : Bool) (c : Int), i + d = l.length → Inv h s g c → countermandlaw19_TokenDoes.l0 (8 * d + 1) x1 l (l.length : Int) (i : Int) h s c h g c = some true
  | 0, i, h, s, g, c, hi, I => by
    rw [countermandlaw19_TokenDoes.l0, if_neg (by omega)]
    rfl
  | d + 1, i, h, s, g, c, hi, I => by
    have ih := fun h s g c (I : Inv h s g c) => l0_ev x1 l hl d (i + 1) h s g c (by omega) I
    have J : ∀ h s g c (I : Inv h s g c) f0 f1 f2, countermandlaw19_TokenDoes.j1 (8 * d + 1 + 7) x1 true l (l.length : Int) (i : Int) h s c h g c f0 f1 f2 = some true := by
      intro h s g c I f0 f1 f2
      rw [j1_ev x1 l _ _ I, wrap_next i 100 (by omega) (by omega)]
      exact ih h s g c I
    have E : ∀ b : Bool, (b == b) = true := fun b => by simp
    rw [show 8 * (d + 1) + 1 = (8 * d + 1 + 7) + 1 by omega, countermandlaw19_TokenDoes.l0, if_pos (by omega), if_pos (by omega), if_pos (by omega)]
    generalize (rd_T49 l (i : Int)).f0 = f0
    generalize (rd_T49 l (i : Int)).f1 = f1
    generalize (rd_T49 l (i : Int)).f2 = f2
    by_cases h0 : f0 = 0
    · obtain ⟨b, h', s', g', c', e1, e2, I'⟩ := take_eq I f1 f2
      rw [if_pos h0, e1, Option.bind_some, e2, Option.bind_some]
      simp only [E]
      exact J _ _ _ _ I' _ _ _
    rw [if_neg h0]
    by_cases h1 : f0 = 1
    · obtain ⟨b, h', s', g', c', e1, e2, I'⟩ := lock_eq I f1
      rw [if_pos h1, e1, Option.bind_some, e2, Option.bind_some]
      simp only [E]
      exact J _ _ _ _ I' _ _ _
    rw [if_neg h1]
    by_cases h2 : f0 = 2
    · obtain ⟨b, h', s', g', c', e1, e2, I'⟩ := unlock_eq I f1
      rw [if_pos h2, e1, Option.bind_some, e2, Option.bind_some]
      simp only [E]
      exact J _ _ _ _ I' _ _ _
    rw [if_neg h2]
    by_cases h3 : f0 = 3
    · obtain ⟨b, h', s', g', c', e1, e2, I'⟩ := drop_eq I f1
      rw [if_pos h3, e1, Option.bind_some, e2, Option.bind_some]
      simp only [E]
      exact J _ _ _ _ I' _ _ _
    rw [if_neg h3]
    exact J _ _ _ _ I _ _ _
theorem TokenDoes : countermandlaw19_TokenDoes.Pure := by
  intro l x1 h1
  intros
  refine ⟨8 * l.length + 1, ?_⟩
  unfold countermandlaw19_TokenDoes.f
  rw [alive_ok, Option.bind_some, if_pos rfl]
  by_cases h5 : (l.length : Int) > 100
  · rw [if_pos h5]
  · rw [if_neg h5]
    unfold token_New.f
    rw [Option.bind_some]
    exact l0_ev x1 l (by omega) l.length 0 (-1) false false (-1) (by omega) ⟨.inl rfl, .inl rfl, rfl, fun h => by omega⟩

end Go.Proofs.Ytfimbmdbaaiemaa.Pure
