/- Proved: each place of a program that can be lies behind the instruction that names it, and never in another block; no condition beyond the statement's own bounds. -/
import Derived.Test.YtfoefgckjaafnaaPCodeOnx8
namespace Go.Proofs.Ytfoefgckjaafnaa.Pure
open Go.RowKit Go.Proofs.Ytfoefgckjaafnaa.PCodeOn Go.Proofs.YtfoefgckjaafnaaW.PrintWords Go.Proofs.YtfoefgckjaafnaaW.PrintLast

--BEGIN code
theorem wrap_next (i n : Nat) (h : i < n) (hn : n ≤ 9223372036854775807) : wrap64 ((i : Int) + 1) = ((i + 1 : Nat) : Int) := by unfold wrap64; omega
theorem wrap_in (x : Int) (h0 : -9223372036854775808 ≤ x) (h1 : x ≤ 9223372036854775807) : wrap64 x = x := by unfold wrap64; omega
theorem Ev.eq {α : Type} {g : Nat → Option α} {r q : α} (h : Ev g r) (e : r = q) : Ev g q := e ▸ h
theorem rd_at {l : List S71} {i : Nat} {x : S71} {r : List S71} (h : l.drop i = x :: r) : rd_T71 l (i : Int) = x ∧ i < l.length ∧ l.drop (i + 1) = r := by
  have hi : i < l.length := by
    rcases Nat.lt_or_ge i l.length with h' | h'
    · exact h'
    · rw [List.drop_eq_nil_of_le h'] at h; cases h
  rw [List.drop_eq_getElem_cons hi] at h
  injection h with h1 h2
  refine ⟨?_, hi, h2⟩
  unfold rd_T71
  rw [Int.toNat_natCast, List.getD_eq_getElem?_getD, List.getElem?_eq_getElem hi]
  exact h1
theorem drop_end {l : List S71} {i : Nat} (h : l.drop i = []) (hi : i ≤ l.length) : i = l.length := by
  have := List.drop_eq_nil_iff.1 h
  omega

/-! fields, places -/
def inB (a b : Int) : Bool := decide (0 ≤ a) && decide (a < b)
theorem in_eq (a b : Int) : code_in.f a b = some (inB a b) := by
  unfold code_in.f inB
  by_cases h : a ≥ 0
  · rw [if_pos h]; simp [h]
  · rw [if_neg h]; simp [show ¬ 0 ≤ a by omega]
def isS (o : Option Bool) : Prop := ∃ r, o = some r
theorem isS_ite {c : Prop} [Decidable c] {a b : Option Bool} (h : isS a) (k : isS b) : isS (if c then a else b) := by
  split
  · exact h
  · exact k
theorem isS_some (b : Bool) : isS (some b) := ⟨b, rfl⟩
theorem things_total (a b c d : Int) : isS (code_things.f 1 a b c d) := by
  unfold code_things.f
  simp only [code_things.j0, in_eq, Option.bind_some]
  repeat' first | exact isS_some _ | apply isS_ite
theorem fields_total (a b c d : Int) : isS (code_fields.f 2 a b c d) := by
  obtain ⟨r, hr⟩ := things_total a b c d
  unfold code_fields.f
  simp only [code_fields.j0, in_eq, hr, Option.bind_some]
  repeat' first | exact isS_some _ | apply isS_ite
def fieldsB (x : S71) : Bool := (code_fields.f 2 x.f0 x.f1 x.f2 x.f3).getD false
theorem fields_ev (x : S71) : Ev (fun k => code_fields.f k x.f0 x.f1 x.f2 x.f3) (fieldsB x) := by
  obtain ⟨r, hr⟩ := fields_total x.f0 x.f1 x.f2 x.f3
  refine Ev.eq (Ev.of (fun k => code_fields.mono _ _ _ _ k) hr) ?_
  unfold fieldsB
  rw [hr]; rfl
def placedB (op : Int) (inside : Bool) : Bool := if op = 1 ∨ op = 2 ∨ op = 3 then true else if op = 0 ∨ op = 4 then !inside else inside
theorem placed_ev (op : Int) (b : Bool) : Ev (fun k => code_placed.f k op b) (placedB op b) := by
  refine Ev.of (fun k => code_placed.mono _ _ k) (k := 1) ?_
  unfold code_placed.f placedB
  simp only [code_placed.j0]
  by_cases h1 : op = 1
  · simp [h1]
  by_cases h2 : op = 2
  · simp [h2]
  by_cases h3 : op = 3
  · simp [h3]
  by_cases h0 : op = 0
  · simp [h0]
  by_cases h4 : op = 4
  · simp [h4]
  simp [h1, h2, h3, h0, h4]
def landsB (n : Nat) (sp : List Int) (i : Nat) (q : Int) : Bool :=
  if q ≤ (i : Int) ∨ q > (n : Int) then false else if q = (n : Int) then decide (sp.getD i 0 < 0) else sp.getD q.toNat 0 == sp.getD i 0
theorem lands_ev (l : List S71) (sp : List Int) (hs : sp.length = l.length) (i : Nat) (x : S71) (r : List S71) (h : l.drop i = x :: r) : Ev (fun k => code_lands.f k l sp (i : Int)) (landsB l.length sp i x.f1) := by
  obtain ⟨hx, hi, _⟩ := rd_at h
  refine Ev.of (fun k => code_lands.mono _ _ _ k) (k := 1) ?_
  unfold code_lands.f landsB
  simp only [code_lands.j0]
  rw [if_pos (by omega), if_pos (by omega), hx]
  by_cases h1 : x.f1 ≤ (i : Int)
  · rw [if_pos h1, if_pos (Or.inl h1)]; rfl
  rw [if_neg h1]
  by_cases h2 : x.f1 > (l.length : Int)
  · rw [if_pos (by simpa using h2), if_pos (Or.inr h2)]
  rw [if_neg (by simpa using h2), if_neg (show ¬ (x.f1 ≤ (i : Int) ∨ x.f1 > (l.length : Int)) by omega)]
  by_cases h3 : x.f1 = (l.length : Int)
  · rw [if_pos h3, if_pos h3, if_pos (by omega), if_pos (by omega)]
    unfold rd
    rw [Int.toNat_natCast]
  rw [if_neg h3, if_neg h3, if_pos (by omega), if_pos (by omega), if_pos (by omega), if_pos (by omega)]
  unfold rd
  rw [Int.toNat_natCast]

/-! spans -/
def spansGo : List S71 → Int → Nat → Option (List Int)
  | [], at_, _ => if at_ < 0 then some [] else none
  | x :: r, at_, i =>
    if x.f0 = 4 then (if at_ ≥ 0 then none else (spansGo r i (i + 1)).map (at_ :: ·))
    else if x.f0 = 5 then (if at_ < 0 then none else (spansGo r (-1) (i + 1)).map (at_ :: ·))
    else (spansGo r at_ (i + 1)).map (at_ :: ·)
theorem spansGo_length : ∀ (r : List S71) (at_ : Int) (i : Nat) (sp : List Int), spansGo r at_ i = some sp → sp.length = r.length
  | [], at_, i, sp, h => by
    unfold spansGo at h
    split at h
    · injection h with h; subst h; rfl
    · cases h
  | x :: r, at_, i, sp, h => by
    unfold spansGo at h
    have key : ∀ (a : Int), (spansGo r a (i + 1)).map (at_ :: ·) = some sp → sp.length = (x :: r).length := by
      intro a ha
      obtain ⟨q, hq, rfl⟩ := Option.map_eq_some_iff.1 ha
      simp [spansGo_length r _ _ q hq]
    split at h
    · split at h
      · cases h
      · exact key _ h
    · split at h
      · split at h
        · cases h
        · exact key _ h
      · exact key _ h
def spanRes (done : List Int) (o : Option (List Int)) (q : List Int × Bool) : Prop := match o with
  | some r => q = (done ++ r, true)
  | none => q.2 = false
theorem set_done (done : List Int) (m : Nat) (v : Int) : (done ++ List.replicate (m + 1) 0).set done.length v = (done ++ [v]) ++ List.replicate m 0 := by
  rw [List.set_append_right _ _ (Nat.le_refl _), Nat.sub_self, List.replicate_succ, List.set_cons_zero, List.append_assoc]; rfl
theorem spans_loop (l : List S71) (hl : l.length ≤ 48) : ∀ (r : List S71) (i : Nat) (at_ : Int) (done : List Int), l.drop i = r → i ≤ l.length → done.length = i →
    ∃ q, Ev (fun k => code_spans.l0 k (done ++ List.replicate r.length 0) at_ l (l.length : Int) (i : Int)) q ∧ spanRes done (spansGo r at_ i) q
  | [], i, at_, done, h, hi, hd => by
    have hi' := drop_end h hi
    refine ⟨(done ++ List.replicate 0 0, decide (at_ < 0)), Ev.step (f := fun _ => some (done ++ List.replicate 0 0, decide (at_ < 0))) (fun k => ?_) (Ev.now _), ?_⟩
    · simp only [code_spans.l0]
      rw [if_neg (by omega)]; rfl
    · unfold spansGo spanRes
      by_cases ha : at_ < 0
      · rw [if_pos ha]; simp [ha]
      · rw [if_neg ha]; simp [ha]
  | x :: r, i, at_, done, h, hi, hd => by
    obtain ⟨hx, hlt, hr⟩ := rd_at h
    have hlen : r.length + 1 = l.length - i := by rw [← List.length_drop, h]; rfl
    have ih := fun a => spans_loop l hl r (i + 1) a (done ++ [at_]) hr (by omega) (by rw [List.length_append, hd]; rfl)
    have hset : (done ++ List.replicate (x :: r).length 0).set (i : Int).toNat at_ = (done ++ [at_]) ++ List.replicate r.length 0 := by
      rw [Int.toNat_natCast, ← hd]; exact set_done done r.length at_
    have hw := wrap_next i l.length hlt (by omega)
    have st : ∀ k, code_spans.l0 (k + 1) (done ++ List.replicate (x :: r).length 0) at_ l (l.length : Int) (i : Int) =
        (if x.f0 = 4 then (if at_ ≥ 0 then (some (([] : List Int), false)) else (code_spans.l0 k ((done ++ [at_]) ++ List.replicate r.length 0) (i : Int) l (l.length : Int) ((i + 1 : Nat) : Int)))
        else (if x.f0 = 5 then (if at_ < 0 then (some (([] : List Int), false)) else (code_spans.l0 k ((done ++ [at_]) ++ List.replicate r.length 0) (-1) l (l.length : Int) ((i + 1 : Nat) : Int)))
        else (code_spans.l0 k ((done ++ [at_]) ++ List.replicate r.length 0) at_ l (l.length : Int) ((i + 1 : Nat) : Int)))) := by
      intro k
      simp only [code_spans.l0]
      rw [if_pos (by omega), if_pos (by omega), if_pos (by omega), if_pos (by rw [List.length_append, List.length_replicate, hd]; simp; omega), Option.bind_some, hx, hset, hw]
    have go : ∀ a q, spanRes (done ++ [at_]) (spansGo r a (i + 1)) q → spanRes done ((spansGo r a (i + 1)).map (at_ :: ·)) q := by
      intro a q hq
      cases hs : spansGo r a (i + 1) with
      | none => rw [hs] at hq; exact hq
      | some s => rw [hs] at hq; unfold spanRes at hq ⊢; rw [hq]; simp
    unfold spansGo
    by_cases h4 : x.f0 = 4
    · rw [if_pos h4]
      by_cases ha : at_ ≥ 0
      · rw [if_pos ha]
        exact ⟨([], false), Ev.step (fun k => by rw [st, if_pos h4, if_pos ha]) (Ev.now _), rfl⟩
      · rw [if_neg ha]
        obtain ⟨q, hq, hs⟩ := ih (i : Int)
        exact ⟨q, Ev.step (fun k => by rw [st, if_pos h4, if_neg ha]) hq, go _ q hs⟩
    · rw [if_neg h4]
      by_cases h5 : x.f0 = 5
      · rw [if_pos h5]
        by_cases ha : at_ < 0
        · rw [if_pos ha]
          exact ⟨([], false), Ev.step (fun k => by rw [st, if_neg h4, if_pos h5, if_pos ha]) (Ev.now _), rfl⟩
        · rw [if_neg ha]
          obtain ⟨q, hq, hs⟩ := ih (-1)
          exact ⟨q, Ev.step (fun k => by rw [st, if_neg h4, if_pos h5, if_neg ha]) hq, go _ q hs⟩
      · rw [if_neg h5]
        obtain ⟨q, hq, hs⟩ := ih at_
        exact ⟨q, Ev.step (fun k => by rw [st, if_neg h4, if_neg h5]) hq, go _ q hs⟩
theorem spans_ev (l : List S71) (hl : l.length ≤ 48) : ∃ q, Ev (fun k => code_spans.f k l) q ∧ spanRes [] (spansGo l (-1) 0) q := by
  obtain ⟨q, hq, hs⟩ := spans_loop l hl l 0 (-1) [] rfl (by omega) rfl
  refine ⟨q, Ev.congr (fun k => ?_) hq, hs⟩
  unfold code_spans.f
  rw [if_pos (by omega), if_pos (by rw [Int.toNat_natCast]; omega), Int.toNat_natCast]
  rfl

/-! the rounds of Check -/
def late (op : Int) : Bool := decide (op = 14) || decide (op = 19) || decide (op = 20) || decide (op = 21)
def sure1 (x : S71) (sure : Bool) : Bool := if x.f0 = 4 then false else sure
def ways1 (x : S71) (ways : Int) : Int := if x.f0 = 4 then 0 else if x.f0 = 20 then ways + 1 else ways
/-- whether an instruction can stand there -/
def stands (n : Nat) (sp : List Int) (x : S71) (i : Nat) (sure : Bool) (ways : Int) : Bool :=
  fieldsB x && placedB x.f0 (decide (sp.getD i 0 ≥ 0)) && (!(decide (x.f0 = 3) || decide (x.f0 = 20)) || landsB n sp i x.f1) && decide (ways1 x ways ≤ 3) && !(sure1 x sure && late x.f0)
def chkGo (n : Nat) (sp : List Int) : List S71 → Nat → Bool → Int → Int × Int
  | [], _, _, _ => (0, 0)
  | x :: r, i, sure, ways => if stands n sp x i sure ways then chkGo n sp r (i + 1) (sure1 x sure || decide (x.f0 = 21)) (ways1 x ways) else ((i : Int), 11)
theorem chk_ev (l : List S71) (hl : l.length ≤ 48) (sp : List Int) (hs : sp.length = l.length) : ∀ (r : List S71) (i : Nat) (sure : Bool) (ways : Int), l.drop i = r → i ≤ l.length → 0 ≤ ways → ways ≤ 3 →
    Ev (fun k => code_Check.l0 k l sp sure ways l (l.length : Int) (i : Int)) (chkGo l.length sp r i sure ways)
  | [], i, sure, ways, h, hi, _, _ => by
    have hi' := drop_end h hi
    refine Ev.step (f := fun _ => some (0, 0)) (fun k => ?_) (Ev.now _)
    simp only [code_Check.l0]
    rw [if_neg (by omega)]
  | x :: r, i, sure, ways, h, hi, hw0, hw3 => by
    obtain ⟨hx, hlt, hr⟩ := rd_at h
    have hw := wrap_next i l.length hlt (by omega)
    have fail : ∀ (rest : Int × Int), stands l.length sp x i sure ways = false → chkGo l.length sp (x :: r) i sure ways = ((i : Int), 11) := fun _ e => by
      unfold chkGo; rw [if_neg (by simp [e])]
    have e0 : ∀ k, code_Check.l0 (k + 1) l sp sure ways l (l.length : Int) (i : Int) = (code_fields.f k x.f0 x.f1 x.f2 x.f3).bind fun t148 => (if t148 = true then (if (i : Int) < (sp.length : Int) then ((code_placed.f k x.f0 (decide ((rd sp (i : Int)) ≥ 0))).bind fun t150 => (code_Check.j1 k l sp sure ways (i : Int) l (l.length : Int) (i : Int) (!t150) x.f0 x.f1 x.f2 x.f3)) else (none)) else (code_Check.j1 k l sp sure ways (i : Int) l (l.length : Int) (i : Int) true x.f0 x.f1 x.f2 x.f3)) := by
      intro k
      simp only [code_Check.l0]
      rw [if_pos (by omega), if_pos (by omega), if_pos (by omega), hx]
    refine Ev.step e0 (Ev.bind (fields_ev x) ?_)
    have j1no : Ev (fun k => code_Check.j1 k l sp sure ways (i : Int) l (l.length : Int) (i : Int) true x.f0 x.f1 x.f2 x.f3) ((i : Int), 11) :=
      Ev.step (f := fun _ => some ((i : Int), 11)) (fun k => by simp only [code_Check.j1]; rw [if_pos trivial]) (Ev.now _)
    by_cases hf : ¬ fieldsB x = true
    · rw [fail (0, 0) (by unfold stands; simp [hf])]
      exact Ev.congr (fun k => if_neg hf) j1no
    rw [Decidable.not_not] at hf
    refine Ev.congr (fun k => by rw [if_pos hf, if_pos (by omega)]) (Ev.bind (placed_ev _ _) ?_)
    have erd : rd sp (i : Int) = sp.getD i 0 := by unfold rd; rw [Int.toNat_natCast]
    rw [erd]
    by_cases hp : ¬ placedB x.f0 (decide (sp.getD i 0 ≥ 0)) = true
    · rw [fail (0, 0) (by unfold stands; simp only [hf, Bool.true_and, Bool.and_eq_false_iff]; left; left; left; simpa using hp)]
      rw [Bool.not_eq_true] at hp
      rw [hp]
      exact j1no
    rw [Decidable.not_not] at hp
    rw [hp]
    -- the last looks
    have j4 : ∀ s w, s = sure1 x sure → w = ways1 x ways → (!(decide (x.f0 = 3) || decide (x.f0 = 20)) || landsB l.length sp i x.f1) = true →
        Ev (fun k => code_Check.j4 k l sp s w (i : Int) l (l.length : Int) (i : Int) x.f0 x.f1 x.f2 x.f3) (chkGo l.length sp (x :: r) i sure ways) := by
      intro s w es ew hland
      have ihh := fun (hb : ways1 x ways ≤ 3) => chk_ev l hl sp hs r (i + 1) (sure1 x sure || decide (x.f0 = 21)) (ways1 x ways) hr (by omega) (by unfold ways1; split <;> (try split) <;> omega) hb
      by_cases hb : w > 3
      · rw [fail (0, 0) (by unfold stands; rw [← ew]; simp [show ¬ w ≤ 3 by omega])]
        exact Ev.step (f := fun _ => some ((i : Int), 11)) (fun k => by simp only [code_Check.j4]; rw [if_pos hb]) (Ev.now _)
      have hb' : ways1 x ways ≤ 3 := by omega
      by_cases hl' : (s && late x.f0) = true
      · rw [fail (0, 0) (by unfold stands; rw [← es, hl']; simp)]
        rw [Bool.and_eq_true] at hl'
        refine Ev.step (f := fun _ => some ((i : Int), 11)) (fun k => ?_) (Ev.now _)
        simp only [code_Check.j4]
        rw [if_neg hb, if_pos hl'.1]
        have := hl'.2
        unfold late at this
        simp only [Bool.or_eq_true, decide_eq_true_eq] at this
        rcases this with ((h | h) | h) | h
        · rw [if_pos h]
        · rw [if_neg (by omega), if_pos h]
        · rw [if_neg (by omega), if_neg (by omega), if_pos h]
        · rw [if_neg (by omega), if_neg (by omega), if_neg (by omega), if_pos h]
      · have hst : stands l.length sp x i sure ways = true := by
          unfold stands
          rw [hf, hp, hland, ← es]
          simp only [Bool.and_true, Bool.true_and, decide_eq_true_eq, Bool.and_eq_true]
          refine ⟨hb', ?_⟩
          rw [Bool.not_eq_true] at hl'
          rw [hl']; rfl
        have e1 : chkGo l.length sp (x :: r) i sure ways = chkGo l.length sp r (i + 1) (sure1 x sure || decide (x.f0 = 21)) (ways1 x ways) := by
          conv => lhs; unfold chkGo
          rw [if_pos hst]
        rw [e1]
        refine Ev.step (f := fun k => code_Check.l0 k l sp (sure1 x sure || decide (x.f0 = 21)) (ways1 x ways) l (l.length : Int) ((i + 1 : Nat) : Int)) (fun k => ?_) (ihh hb')
        simp only [code_Check.j4]
        rw [if_neg hb, hw, ← es, ← ew]
        by_cases hsr : s = true
        · rw [if_pos hsr]
          have hn : late x.f0 = false := by
            rw [hsr] at hl'; simpa using hl'
          unfold late at hn
          simp only [Bool.or_eq_false_iff, decide_eq_false_iff_not] at hn
          rw [if_neg hn.1.1.1, if_neg hn.1.1.2, if_neg hn.1.2, if_neg hn.2, hsr]
          simp
        · rw [if_neg hsr]
          have : s = false := by simpa using hsr
          rw [this, Bool.false_or]
          rfl
    have j3 : ∀ s w, s = sure1 x sure → w = (if x.f0 = 4 then 0 else ways) → (!(decide (x.f0 = 3) || decide (x.f0 = 20)) || landsB l.length sp i x.f1) = true →
        Ev (fun k => code_Check.j3 k l sp s w (i : Int) l (l.length : Int) (i : Int) x.f0 x.f1 x.f2 x.f3) (chkGo l.length sp (x :: r) i sure ways) := by
      intro s w es ew hland
      by_cases h20 : x.f0 = 20
      · refine Ev.step (fun k => by simp only [code_Check.j3]; rw [if_pos h20]) (j4 _ _ es ?_ hland)
        rw [ew, if_neg (by omega), wrap_in _ (by omega) (by omega)]
        unfold ways1; rw [if_neg (by omega), if_pos h20]
      · refine Ev.step (fun k => by simp only [code_Check.j3]; rw [if_neg h20]) (j4 _ _ es ?_ hland)
        rw [ew]; unfold ways1
        by_cases h4 : x.f0 = 4
        · rw [if_pos h4, if_pos h4]
        · rw [if_neg h4, if_neg h4, if_neg h20]
    refine Ev.step (f := fun k => code_Check.j2 k l sp sure ways (i : Int) l (l.length : Int) (i : Int) x.f0 (decide (x.f0 = 3) || decide (x.f0 = 20)) x.f0 x.f1 x.f2 x.f3) (fun k => ?_) ?_
    · simp only [code_Check.j1]
      rw [if_neg (by simp)]
      by_cases h3 : x.f0 = 3
      · rw [if_pos h3]; simp [h3]
      · rw [if_neg h3]; simp [h3]; rfl
    by_cases hjl : (decide (x.f0 = 3) || decide (x.f0 = 20)) = true
    · refine Ev.step (fun k => by simp only [code_Check.j2]; rw [if_pos hjl]) (Ev.bind (lands_ev l sp hs i x r h) ?_)
      have hn4 : ¬ x.f0 = 4 := by
        simp only [Bool.or_eq_true, decide_eq_true_eq] at hjl; omega
      by_cases hla : landsB l.length sp i x.f1 = true
      · exact Ev.congr (fun k => if_pos hla) (j3 _ _ (by unfold sure1; rw [if_neg hn4]) (by rw [if_neg hn4]) (by rw [hla]; simp))
      · rw [fail (0, 0) (by unfold stands; rw [hjl]; simp [hla])]
        exact Ev.congr (fun k => if_neg hla) (Ev.now _)
    · have hland : (!(decide (x.f0 = 3) || decide (x.f0 = 20)) || landsB l.length sp i x.f1) = true := by
        rw [Bool.not_eq_true] at hjl; rw [hjl]; rfl
      by_cases h4 : x.f0 = 4
      · exact Ev.step (fun k => by simp only [code_Check.j2]; rw [if_neg hjl, if_pos h4]) (j3 _ _ (by unfold sure1; rw [if_pos h4]) (by rw [if_pos h4]) hland)
      · exact Ev.step (fun k => by simp only [code_Check.j2]; rw [if_neg hjl, if_neg h4]) (j3 _ _ (by unfold sure1; rw [if_neg h4]) (by rw [if_neg h4]) hland)
theorem chk_ok {n : Nat} {sp : List Int} {x : S71} {r : List S71} {i : Nat} {sure : Bool} {ways : Int} (h : (chkGo n sp (x :: r) i sure ways).2 = 0) :
    stands n sp x i sure ways = true ∧ (chkGo n sp r (i + 1) (sure1 x sure || decide (x.f0 = 21)) (ways1 x ways)).2 = 0 := by
  unfold chkGo at h
  by_cases hs : stands n sp x i sure ways = true
  · rw [if_pos hs] at h; exact ⟨hs, h⟩
  · rw [if_neg hs] at h; exact absurd h (by simp)
theorem stands_parts {n : Nat} {sp : List Int} {x : S71} {i : Nat} {sure : Bool} {ways : Int} (h : stands n sp x i sure ways = true) :
    fieldsB x = true ∧ placedB x.f0 (decide (sp.getD i 0 ≥ 0)) = true ∧ ((x.f0 = 3 ∨ x.f0 = 20) → landsB n sp i x.f1 = true) ∧ ways1 x ways ≤ 3 ∧ ¬ (sure1 x sure = true ∧ late x.f0 = true) := by
  unfold stands at h
  simp only [Bool.and_eq_true, Bool.or_eq_true, Bool.not_eq_true', decide_eq_true_eq, Bool.or_eq_false_iff, decide_eq_false_iff_not, Bool.and_eq_false_iff] at h
  obtain ⟨⟨⟨⟨h1, h2⟩, h3⟩, h4⟩, h5⟩ := h
  refine ⟨h1, h2, fun hj => ?_, h4, fun ⟨a, b⟩ => ?_⟩
  · rcases h3 with h3 | h3
    · omega
    · exact h3
  · rcases h5 with h5 | h5
    · rw [h5] at a; cases a
    · rw [h5] at b; cases b
def checkL (l : List S71) : Int × Int :=
  if l.length > 48 then (0, 3) else match spansGo l (-1) 0 with
    | none => (0, 11)
    | some sp => chkGo l.length sp l 0 false 0
theorem check_ev (l : List S71) : Ev (fun k => code_Check.f k l) (checkL l) := by
  unfold code_Check.f checkL
  by_cases h : l.length > 48
  · rw [if_pos h]; exact Ev.congr (fun k => if_pos (by omega)) (Ev.now _)
  rw [if_neg h]
  refine Ev.congr (fun k => if_neg (by omega)) ?_
  obtain ⟨q, hq, hs⟩ := spans_ev l (by omega)
  refine Ev.bind hq ?_
  cases hg : spansGo l (-1) 0 with
  | none =>
    rw [hg] at hs
    unfold spanRes at hs
    exact Ev.congr (fun k => if_neg (by rw [hs]; simp)) (Ev.now _)
  | some sp =>
    rw [hg] at hs
    unfold spanRes at hs
    subst hs
    refine Ev.congr (fun k => if_pos rfl) ?_
    have := chk_ev l (by omega) sp (spansGo_length _ _ _ _ hg) l 0 false 0 rfl (by omega) (by omega) (by omega)
    exact this
def blocksL (l : List S71) : Nat := l.countP (fun x => decide (x.f0 = 4))
theorem blocks_loop (l : List S71) (hl : l.length ≤ 4611686018427387904) : ∀ (r : List S71) (i n : Nat), l.drop i = r → i ≤ l.length → n ≤ i → Ev (fun k => code_Blocks.l0 k (n : Int) l (l.length : Int) (i : Int)) ((n + blocksL r : Nat) : Int)
  | [], i, n, h, hi, hn => by
    have hi' := drop_end h hi
    refine Ev.step (f := fun _ => some (n : Int)) (fun k => ?_) (Ev.eq (Ev.now _) (by simp [blocksL]))
    simp only [code_Blocks.l0]
    rw [if_neg (by omega)]
  | x :: r, i, n, h, hi, hn => by
    obtain ⟨hx, hlt, hr⟩ := rd_at h
    have hw := wrap_next i l.length hlt (by omega)
    have hw2 := wrap_next n l.length (by omega) (by omega)
    by_cases h4 : x.f0 = 4
    · refine Ev.step (f := fun k => code_Blocks.l0 k ((n + 1 : Nat) : Int) l (l.length : Int) ((i + 1 : Nat) : Int)) (fun k => ?_) (Ev.eq (blocks_loop l hl r (i + 1) (n + 1) hr (by omega) (by omega)) ?_)
      · simp only [code_Blocks.l0]
        rw [if_pos (by omega), if_pos (by omega), if_pos (by omega), hx, if_pos h4, hw, hw2]
      · unfold blocksL; rw [List.countP_cons_of_pos (by simpa using h4)]; omega
    · refine Ev.step (f := fun k => code_Blocks.l0 k (n : Int) l (l.length : Int) ((i + 1 : Nat) : Int)) (fun k => ?_) (Ev.eq (blocks_loop l hl r (i + 1) n hr (by omega) (by omega)) ?_)
      · simp only [code_Blocks.l0]
        rw [if_pos (by omega), if_pos (by omega), if_pos (by omega), hx, if_neg h4, hw]
      · unfold blocksL; rw [List.countP_cons_of_neg (by simpa using h4)]
theorem blocks_ev (l : List S71) (hl : l.length ≤ 4611686018427387904) : Ev (fun k => code_Blocks.f k l) ((blocksL l : Nat) : Int) := by
  have := blocks_loop l hl l 0 0 rfl (by omega) (by omega)
  refine Ev.congr (fun k => rfl) (Ev.eq this (by omega))
theorem alive_ev : Ev (fun k => countermandlaw07_alive.f k) true := by
  unfold countermandlaw07_alive.f
  refine Ev.bind (check_ev _) (Ev.bind (check_ev _) ?_)
  have e1 : (checkL [⟨4, 0, 0, 0⟩, ⟨5, 0, 0, 0⟩]).2 = 0 := by decide +kernel
  have e2 : (checkL [⟨4, 0, 0, 0⟩]).2 = 11 := by decide +kernel
  refine Ev.congr (fun k => by rw [if_pos e1, if_pos e2]) (Ev.bind (blocks_ev _ (by decide)) ?_)
  exact Ev.congr (fun k => by rfl) (Ev.now _)
--END code

def c4 (l : List S71) : Int := (l.countP (fun x => decide (x.f0 = 4)) : Nat)
def c5 (l : List S71) : Int := (l.countP (fun x => decide (x.f0 = 5)) : Nat)
def ins (a : Int) : Int := if a ≥ 0 then 1 else 0
def insAt (sp : List Int) (m : Nat) : Int := if m < sp.length then ins (sp.getD m 0) else 0
theorem insAt_zero (a : Int) (s : List Int) : insAt (a :: s) 0 = ins a := by unfold insAt; rw [if_pos (by simp)]; rfl
theorem insAt_succ (a : Int) (s : List Int) (m : Nat) : insAt (a :: s) (m + 1) = insAt s m := by
  unfold insAt
  by_cases h : m < s.length
  · rw [if_pos h, if_pos (by simpa using h)]; rfl
  · rw [if_neg h, if_neg (by simpa using h)]
theorem c4_cons (x : S71) (r : List S71) : c4 (x :: r) = (if x.f0 = 4 then 1 else 0) + c4 r := by
  unfold c4
  by_cases h : x.f0 = 4
  · rw [List.countP_cons_of_pos (by simpa using h), if_pos h]; omega
  · rw [List.countP_cons_of_neg (by simpa using h), if_neg h]; omega
theorem c5_cons (x : S71) (r : List S71) : c5 (x :: r) = (if x.f0 = 5 then 1 else 0) + c5 r := by
  unfold c5
  by_cases h : x.f0 = 5
  · rw [List.countP_cons_of_pos (by simpa using h), if_pos h]; omega
  · rw [List.countP_cons_of_neg (by simpa using h), if_neg h]; omega
theorem c4_append (a b : List S71) : c4 (a ++ b) = c4 a + c4 b := by unfold c4; rw [List.countP_append]; omega
theorem c5_append (a b : List S71) : c5 (a ++ b) = c5 a + c5 b := by unfold c5; rw [List.countP_append]; omega
theorem c4_nil : c4 [] = 0 := rfl
theorem c5_nil : c5 [] = 0 := rfl
attribute [irreducible] c4 c5
/-- behind so many instructions: Begins less Ends are as they are inside, or outside, a block -/
theorem balance : ∀ (r : List S71) (a : Int) (i : Nat) (s : List Int), spansGo r a i = some s → ∀ m, m ≤ r.length → c4 (r.take m) - c5 (r.take m) = insAt s m - ins a
  | [], a, i, s, h, m, hm => by
    have : m = 0 := by simpa using hm
    subst this
    unfold spansGo at h
    by_cases ha : a < 0
    · rw [if_pos ha] at h
      injection h with h; subst h
      have : ins a = 0 := by unfold ins; rw [if_neg (by omega)]
      rw [this, List.take_nil, c4_nil, c5_nil]; rfl
    · rw [if_neg ha] at h; cases h
  | x :: r, a, i, s, h, 0, _ => by
    have : ∃ s', s = a :: s' := by
      unfold spansGo at h
      have key : ∀ (b : Int), (spansGo r b (i + 1)).map (a :: ·) = some s → ∃ s', s = a :: s' := by
        intro b hb
        obtain ⟨q, _, rfl⟩ := Option.map_eq_some_iff.1 hb
        exact ⟨q, rfl⟩
      split at h
      · split at h
        · cases h
        · exact key _ h
      · split at h
        · split at h
          · cases h
          · exact key _ h
        · exact key _ h
    obtain ⟨s', rfl⟩ := this
    rw [insAt_zero, List.take_zero, c4_nil, c5_nil]
    omega
  | x :: r, a, i, s, h, m + 1, hm => by
    rw [List.take_succ_cons, c4_cons, c5_cons]
    have key : ∀ (b : Int), (spansGo r b (i + 1)).map (a :: ·) = some s → c4 (r.take m) - c5 (r.take m) = insAt s (m + 1) - ins b := by
      intro b hb
      obtain ⟨q, hq, rfl⟩ := Option.map_eq_some_iff.1 hb
      rw [insAt_succ]
      exact balance r b (i + 1) q hq m (by simpa using hm)
    unfold spansGo at h
    by_cases h4 : x.f0 = 4
    · rw [if_pos h4] at h
      by_cases ha : a ≥ 0
      · rw [if_pos ha] at h; cases h
      · rw [if_neg ha] at h
        have := key _ h
        rw [if_pos h4, if_neg (by omega)]
        have e1 : ins (i : Int) = 1 := by unfold ins; rw [if_pos (by omega)]
        have e2 : ins a = 0 := by unfold ins; rw [if_neg ha]
        omega
    · rw [if_neg h4] at h
      by_cases h5 : x.f0 = 5
      · rw [if_pos h5] at h
        by_cases ha : a < 0
        · rw [if_pos ha] at h; cases h
        · rw [if_neg ha] at h
          have := key _ h
          rw [if_neg h4, if_pos h5]
          have e1 : ins (-1) = 0 := rfl
          have e2 : ins a = 1 := by unfold ins; rw [if_pos (by omega)]
          omega
      · rw [if_neg h5] at h
        have := key _ h
        rw [if_neg h4, if_neg h5]
        omega
theorem take_add_count (f : List S71 → Int) (hf : ∀ a b, f (a ++ b) = f a + f b) (l : List S71) (i d : Nat) : f (l.take (i + d)) = f (l.take i) + f ((l.drop i).take d) := by
  rw [List.take_add, hf]
theorem even_lands {l : List S71} {sp : List Int} (h : spansGo l (-1) 0 = some sp) {i : Nat} {q : Int} (hi : i < l.length) (hl : landsB l.length sp i q = true) :
    (i : Int) < q ∧ q ≤ (l.length : Int) ∧ c4 ((l.drop i).take (q.toNat - i)) = c5 ((l.drop i).take (q.toNat - i)) := by
  have hlen := spansGo_length _ _ _ _ h
  unfold landsB at hl
  by_cases h1 : q ≤ (i : Int) ∨ q > (l.length : Int)
  · rw [if_pos h1] at hl; cases hl
  rw [if_neg h1] at hl
  refine ⟨by omega, by omega, ?_⟩
  obtain ⟨n, rfl⟩ : ∃ n : Nat, q = (n : Int) := ⟨q.toNat, by omega⟩
  have b1 := balance l (-1) 0 sp h i (by omega)
  have b2 := balance l (-1) 0 sp h n (by omega)
  have e4 := take_add_count c4 c4_append l i (n - i)
  have e5 := take_add_count c5 c5_append l i (n - i)
  rw [show i + (n - i) = n by omega] at e4 e5
  rw [Int.toNat_natCast]
  have key : insAt sp n = insAt sp i := by
    unfold insAt
    rw [if_pos (show i < sp.length by omega)]
    by_cases hn : n = l.length
    · rw [if_pos (by omega)] at hl
      rw [if_neg (by omega)]
      simp only [decide_eq_true_eq] at hl
      unfold ins; rw [if_neg (by omega)]
    · rw [if_neg (by omega), Int.toNat_natCast] at hl
      rw [if_pos (by omega)]
      rw [beq_iff_eq] at hl
      rw [hl]
  omega
/-- the inner loop counts -/
theorem count_ev (l : List S71) (hl : l.length ≤ 48) (j i : Nat) (x : S71) (hj : j < l.length) (go : Ev (fun k => countermandlaw07_CodeOn.l0 k l l (l.length : Int) ((j + 1 : Nat) : Int)) true) :
    ∀ (d n : Nat) (a b : Int), 0 ≤ a → a ≤ n → 0 ≤ b → b ≤ n → n + d ≤ l.length → x.f1 = ((n + d : Nat) : Int) → a + c4 ((l.drop n).take d) = b + c5 ((l.drop n).take d) →
      Ev (fun k => countermandlaw07_CodeOn.l1 k l a b (n : Int) l (l.length : Int) (j : Int) x.f0 x.f1 x.f2 x.f3) true
  | 0, n, a, b, ha, ha2, hb, hb2, hn, hx, he => by
    have e : a = b := by rw [List.take_zero, c4_nil, c5_nil] at he; omega
    refine Ev.step (f := fun k => countermandlaw07_CodeOn.l0 k l l (l.length : Int) ((j + 1 : Nat) : Int)) (fun k => ?_) go
    simp only [countermandlaw07_CodeOn.l1]
    rw [if_neg (by omega), if_pos e, wrap_next j l.length hj (by omega)]
  | d + 1, n, a, b, ha, ha2, hb, hb2, hn, hx, he => by
    have hlt : n < l.length := by omega
    obtain ⟨y, hy⟩ : ∃ y, l.drop n = y :: l.drop (n + 1) := ⟨_, List.drop_eq_getElem_cons hlt⟩
    obtain ⟨hy1, _, _⟩ := rd_at hy
    have hw := wrap_next n l.length hlt (by omega)
    have wa : wrap64 (a + 1) = a + 1 := wrap_in _ (by omega) (by omega)
    have wb : wrap64 (b + 1) = b + 1 := wrap_in _ (by omega) (by omega)
    obtain ⟨u4, hu4, hu40, hu41⟩ : ∃ u : Int, u = (if y.f0 = 4 then 1 else 0) ∧ 0 ≤ u ∧ u ≤ 1 := ⟨_, rfl, by split <;> omega, by split <;> omega⟩
    obtain ⟨u5, hu5, hu50, hu51⟩ : ∃ u : Int, u = (if y.f0 = 5 then 1 else 0) ∧ 0 ≤ u ∧ u ≤ 1 := ⟨_, rfl, by split <;> omega, by split <;> omega⟩
    have hx' : x.f1 = ((n + 1 + d : Nat) : Int) := by rw [hx]; congr 1; omega
    have g1 : 0 ≤ a + u4 := by omega
    have g2 : a + u4 ≤ ((n + 1 : Nat) : Int) := by omega
    have g3 : 0 ≤ b + u5 := by omega
    have g4 : b + u5 ≤ ((n + 1 : Nat) : Int) := by omega
    have g5 : n + 1 + d ≤ l.length := by omega
    rw [hy, List.take_succ_cons, c4_cons, c5_cons] at he
    rw [← hu4, ← hu5] at he
    have ih := count_ev l hl j i x hj go d (n + 1) (a + u4) (b + u5) g1 g2 g3 g4 g5 hx' (by rw [Int.add_assoc, Int.add_assoc]; exact he)
    clear he
    refine Ev.step (fun k => ?_) ih
    simp only [countermandlaw07_CodeOn.l1]
    rw [if_pos (by omega), if_pos (by omega), if_pos (by omega), hy1, hw, wa, wb]
    by_cases h4 : y.f0 = 4
    · have h5 : ¬ y.f0 = 5 := by omega
      rw [if_pos h4] at hu4
      rw [if_neg h5] at hu5
      subst hu4 hu5
      rw [if_pos h4, if_neg h5, Int.add_zero]
    · rw [if_neg h4] at hu4
      rw [if_neg h4]
      by_cases h5 : y.f0 = 5
      · rw [if_pos h5] at hu5
        subst hu4 hu5
        rw [if_pos h5, Int.add_zero]
      · rw [if_neg h5] at hu5
        subst hu4 hu5
        rw [if_neg h5, Int.add_zero, Int.add_zero]
theorem on_ev (l : List S71) (hl : l.length ≤ 48) (sp : List Int) (hsp : spansGo l (-1) 0 = some sp) : ∀ (r : List S71) (i : Nat) (sure : Bool) (ways : Int), l.drop i = r → i ≤ l.length → (chkGo l.length sp r i sure ways).2 = 0 →
    Ev (fun k => countermandlaw07_CodeOn.l0 k l l (l.length : Int) (i : Int)) true
  | [], i, sure, ways, h, hi, _ => by
    have hi' := drop_end h hi
    refine Ev.step (f := fun _ => some true) (fun k => ?_) (Ev.now _)
    simp only [countermandlaw07_CodeOn.l0]
    rw [if_neg (by omega)]
  | x :: r, i, sure, ways, h, hi, hc => by
    obtain ⟨hx, hlt, hr⟩ := rd_at h
    have hw := wrap_next i l.length hlt (by omega)
    obtain ⟨hs, hc'⟩ := chk_ok hc
    obtain ⟨_, _, h3, _, _⟩ := stands_parts hs
    have ih := on_ev l hl sp hsp r (i + 1) _ _ hr (by omega) hc'
    have st : ∀ k, countermandlaw07_CodeOn.l0 (k + 1) l l (l.length : Int) (i : Int) = countermandlaw07_CodeOn.j1 k l (i : Int) l (l.length : Int) (i : Int) (!(decide (x.f0 = 3) || decide (x.f0 = 20))) x.f0 x.f1 x.f2 x.f3 := by
      intro k
      simp only [countermandlaw07_CodeOn.l0]
      rw [if_pos (by omega), if_pos (by omega), if_pos (by omega), hx]
      by_cases h3 : x.f0 = 3
      · rw [if_pos h3]; simp [h3]
      · rw [if_neg h3]; simp only [h3, decide_false, Bool.false_or]; rfl
    refine Ev.step st ?_
    by_cases hj : x.f0 = 3 ∨ x.f0 = 20
    · have hjb : (!(decide (x.f0 = 3) || decide (x.f0 = 20))) = false := by simp; omega
      rw [hjb]
      obtain ⟨g1, g2, g3⟩ := even_lands hsp hlt (h3 hj)
      refine Ev.step (f := fun k => countermandlaw07_CodeOn.j2 k l (i : Int) l (l.length : Int) (i : Int) false x.f0 x.f1 x.f2 x.f3) (fun k => ?_) ?_
      · simp only [countermandlaw07_CodeOn.j1]
        rw [if_neg (by simp), if_neg (by omega)]
        congr 1
        simp; omega
      refine Ev.step (f := fun k => countermandlaw07_CodeOn.l1 k l 0 0 (i : Int) l (l.length : Int) (i : Int) x.f0 x.f1 x.f2 x.f3) (fun k => ?_) ?_
      · simp only [countermandlaw07_CodeOn.j2]
        rw [if_neg (by simp)]
      exact count_ev l hl i i x hlt ih (x.f1.toNat - i) i 0 0 (by omega) (by omega) (by omega) (by omega) (by omega) (by omega) (by omega)
    · have hjb : (!(decide (x.f0 = 3) || decide (x.f0 = 20))) = true := by simp; omega
      rw [hjb]
      refine Ev.step (fun k => ?_) ih
      simp only [countermandlaw07_CodeOn.j1]
      rw [if_pos trivial, hw]

theorem CodeOn : countermandlaw07_CodeOn.Pure := by
  intro l _ _
  apply Ev.rounds
  unfold countermandlaw07_CodeOn.f
  refine Ev.bind alive_ev ?_
  refine Ev.congr (fun k => if_pos rfl) (Ev.bind (check_ev l) ?_)
  by_cases hc : (checkL l).2 = 0
  · refine Ev.congr (fun k => if_pos hc) ?_
    unfold checkL at hc
    by_cases h : l.length > 48
    · rw [if_pos h] at hc; exact absurd hc (by simp)
    rw [if_neg h] at hc
    cases hg : spansGo l (-1) 0 with
    | none => rw [hg] at hc; exact absurd hc (by simp)
    | some sp =>
      rw [hg] at hc
      exact on_ev l (by omega) sp hg l 0 false 0 rfl (by omega) hc
  · exact Ev.congr (fun k => if_neg hc) (Ev.now true)

end Go.Proofs.Ytfoefgckjaafnaa.Pure
