/- Slices of structs, of strings, and of slices, as they come in: what reads as data has the print's kind. Generic lemmas for the rows of the laws. -/
import Derived.Test.YtjegpbaohoigjaaWWords
import Derived.ChangeArms
import Derived.SizedLaws
import Derived.Deep.Slices
namespace Go.Proofs.Ytjegpbaohoigjaa.Open
open Go.RowKit Go.WideShapes Go.Proofs.YtjegpbaohoigjaaW.PrintWords

def Opens (P : Program) (t : TypeId) {α : Type} (d : Kd α) (G : α → Prop) : Prop :=
  ∀ (H : Type) (enc : TypeId × Value → H) (w : World) (spare : Nat → Bool) (held : Bool) (fuel : Nat) (cs : List Value) (x : DataW H × List MemPlace),
    DataW.trod enc P w 0 spare held fuel t cs = some x → ∃ y, d.K w y cs ∧ G y
theorem opens_int {P : Program} {t : TypeId} {k : IntKind} (h : P.underlying t = some (.int k)) : Opens P t (Kd.int k) (fun n => (Lit.int k n).wf = true) := by
  intro H enc w spare held fuel cs x hx
  obtain ⟨n, rfl, _, hw⟩ := DataW.trod_int h hx
  exact ⟨n, rfl, hw⟩
theorem opens_string {P : Program} {t : TypeId} (h : P.underlying t = some .string) : Opens P t Kd.string (fun s => s.size ≤ maxLen) := by
  intro H enc w spare held fuel cs x hx
  obtain ⟨s, rfl, _, hw⟩ := DataW.trod_string h hx
  exact ⟨s, rfl, hw⟩
theorem opens_bool {P : Program} {t : TypeId} (h : P.underlying t = some .bool) : Opens P t Kd.bool (fun _ => True) := by
  intro H enc w spare held fuel cs x hx
  obtain ⟨b, rfl, _⟩ := DataW.trod_bool h hx
  exact ⟨b, rfl, trivial⟩
theorem Opens.int1 {P : Program} {t : TypeId} {k : IntKind} (h : P.underlying t = some (.int k)) {H : Type} {enc : TypeId × Value → H} {w : World} {spare : Nat → Bool} {held : Bool} {fuel : Nat} {c : Value} {x : DataW H × List MemPlace}
    (hx : DataW.trod enc P w 0 spare held fuel t [c] = some x) : ∃ n, c = .int k n ∧ (Lit.int k n).wf = true := by
  obtain ⟨n, e, _, hw⟩ := DataW.trod_int h hx
  exact ⟨n, by simpa using e, hw⟩
theorem Opens.string1 {P : Program} {t : TypeId} (h : P.underlying t = some .string) {H : Type} {enc : TypeId × Value → H} {w : World} {spare : Nat → Bool} {held : Bool} {fuel : Nat} {c : Value} {x : DataW H × List MemPlace}
    (hx : DataW.trod enc P w 0 spare held fuel t [c] = some x) : ∃ n, c = .string n ∧ n.size ≤ maxLen := by
  obtain ⟨n, e, _, hw⟩ := DataW.trod_string h hx
  exact ⟨n, by simpa using e, hw⟩
theorem Opens.bool1 {P : Program} {t : TypeId} (h : P.underlying t = some .bool) {H : Type} {enc : TypeId × Value → H} {w : World} {spare : Nat → Bool} {held : Bool} {fuel : Nat} {c : Value} {x : DataW H × List MemPlace}
    (hx : DataW.trod enc P w 0 spare held fuel t [c] = some x) : ∃ n, c = .bool n := by
  obtain ⟨n, e, _⟩ := DataW.trod_bool h hx
  exact ⟨n, by simpa using e⟩

/-- a field of a struct, by its number -/
theorem field_of {P : Program} {t : TypeId} {fs : Array Field} (ht : P.underlying t = some (.struct fs)) {H : Type} {enc : TypeId × Value → H} {w : World} {spare : Nat → Bool} {held : Bool} {fuel : Nat} {cs : List Value} {x : DataW H × List MemPlace}
    (h : DataW.trod enc P w 0 spare held fuel t cs = some x) : cs.length = P.cellsOf t ∧ ∃ n, ∀ (i : Nat) (f : Field), fs[i]? = some f → ∃ y, DataW.trod enc P w 0 spare held n f.type ((cs.drop f.offset).take (P.cellsOf f.type)) = some y := by
  obtain ⟨xs, n, _, _, hl, hlen, hf⟩ := DataW.trod_struct ht h
  refine ⟨hl, n, fun i f hi => ?_⟩
  have hlt : i < fs.size := by
    rcases Nat.lt_or_ge i fs.size with h | h
    · exact h
    · rw [Array.getElem?_eq_none h] at hi; cases hi
  exact ⟨xs[i]'(by omega), (hf i f hi).trans (List.getElem?_eq_getElem (by omega))⟩

/-- a slice that came in, of whatever kind -/
theorem open_row {P : Program} {t e : TypeId} {α : Type} {d : Kd α} {G : α → Prop} (ht : P.underlying t = some (.slice e)) (hc : P.cellsOf e = d.sz) (ho : Opens P e d G)
    {H : Type} {enc : TypeId × Value → H} {W : World} {spare : Nat → Bool} {held : Bool} {a : Option Addr} {len cap fuel : Nat} {x : DataW H × List MemPlace}
    (h : DataW.trod enc P W 0 spare held fuel t [.slice a len cap] = some x) :
    ∃ l : List α, l.length = len ∧ Kd.C d W a l.length l ∧ l.length ≤ cap ∧ l.length ≤ maxLen ∧ ∀ y ∈ l, G y := by
  rcases Deep.open_slice ht h with ⟨hcs, _⟩ | ⟨ad, l, c, m, n, D, Pl, hcs, _, hl, hm, hmm, _, hel⟩
  · simp only [List.cons.injEq, and_true, Value.slice.injEq] at hcs
    obtain ⟨rfl, rfl, rfl⟩ := hcs
    exact ⟨[], rfl, ⟨rfl, by simp, fun h => absurd h (by simp)⟩, by simp, by simp, by simp⟩
  · simp only [List.cons.injEq, and_true, Value.slice.injEq] at hcs
    obtain ⟨rfl, rfl, rfl⟩ := hcs
    have hle : len ≤ m := by rw [hmm]; split <;> omega
    have key : ∀ k, k ≤ len → ∃ l : List α, l.length = k ∧ (∀ j p, l[j]? = some p → ∃ c, c.length = d.sz ∧ d.K W p c ∧ ∀ i u, c[i]? = some u → W.cell? (ad.add (j * d.sz + i)) = some u) ∧ ∀ y ∈ l, G y := by
      intro k
      induction k with
      | zero => intro _; exact ⟨[], rfl, fun j p hj => by simp at hj, by simp⟩
      | succ k ih =>
        intro hk
        obtain ⟨l, h1, h2, h3⟩ := ih (by omega)
        obtain ⟨cs, hcells, htr⟩ := hel k (by omega)
        obtain ⟨y, hy, hg⟩ := ho H enc W spare held n cs _ htr
        obtain ⟨_, hlen, hcell⟩ := World.cells?_some hcells
        refine ⟨l ++ [y], by simp [h1], fun j p hj => ?_, fun z hz => ?_⟩
        · by_cases hjk : j < l.length
          · rw [List.getElem?_append_left hjk] at hj
            exact h2 j p hj
          · rw [List.getElem?_append_right (by omega)] at hj
            have hj0 : j = k := by
              rcases Nat.lt_or_ge (j - l.length) 1 with h | h
              · omega
              · rw [List.getElem?_eq_none (by simpa using h)] at hj; cases hj
            subst hj0
            rw [h1, Nat.sub_self] at hj
            simp only [List.getElem?_cons_zero, Option.some.injEq] at hj
            subst hj
            refine ⟨cs, d.K_len hy, hy, fun i u hu => ?_⟩
            have hi : i < P.cellsOf e := by
              rcases Nat.lt_or_ge i cs.length with h | h
              · omega
              · rw [List.getElem?_eq_none h] at hu; cases hu
            rw [← hc, ← Deep.add_add]
            exact (hcell i hi).trans hu
        · rcases List.mem_append.1 hz with hz | hz
          · exact h3 z hz
          · rw [List.mem_singleton.1 hz]; exact hg
    obtain ⟨l, h1, h2, h3⟩ := key len (Nat.le_refl _)
    subst h1
    exact ⟨l, rfl, ⟨rfl, by unfold maxLen at hm; omega, fun _ => ⟨ad, rfl, h2⟩⟩, hl, Nat.le_trans hl hm, h3⟩
theorem opens_slice {P : Program} {t e : TypeId} {α : Type} {d : Kd α} {G : α → Prop} (ht : P.underlying t = some (.slice e)) (hc : P.cellsOf e = d.sz) (ho : Opens P e d G) : Opens P t (Kd.slice e d) (fun l => l.length ≤ maxLen ∧ ∀ y ∈ l, G y) := by
  intro H enc w spare held fuel cs x hx
  have hx' := hx
  rcases Deep.open_slice ht hx with ⟨rfl, _⟩ | ⟨ad, l, c, m, n, D, Pl, rfl, _⟩
  · obtain ⟨l, h1, h2, h3, h4, h5⟩ := open_row ht hc ho hx'
    exact ⟨l, ⟨_, _, by rw [h1], h3, h2⟩, h4, h5⟩
  · obtain ⟨l, h1, h2, h3, h4, h5⟩ := open_row ht hc ho hx'
    exact ⟨l, ⟨_, _, by rw [h1], h3, h2⟩, h4, h5⟩
end Go.Proofs.Ytjegpbaohoigjaa.Open
