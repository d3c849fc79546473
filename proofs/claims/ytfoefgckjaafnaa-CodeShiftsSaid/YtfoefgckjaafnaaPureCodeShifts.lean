/- Proved: with an instruction on registers ahead of it, and all places one further, a program that can be, and has room for it, can be, too; no condition beyond the statement's own bounds. -/
import Derived.Test.YtfoefgckjaafnaaPCodeShiftsx7
namespace Go.Proofs.Ytfoefgckjaafnaa.Pure
open Go.RowKit Go.Proofs.Ytfoefgckjaafnaa.PCodeShifts Go.Proofs.YtfoefgckjaafnaaW.PrintWords Go.Proofs.YtfoefgckjaafnaaW.PrintLast

--BEGIN code
theorem wrap_next (i n : Nat) (h : i < n) (hn : n ≤ 9223372036854775807) : wrap64 ((i : Int) + 1) = ((i + 1 : Nat) : Int) := by unfold wrap64; omega
theorem wrap_in (x : Int) (h0 : -9223372036854775808 ≤ x) (h1 : x ≤ 9223372036854775807) : wrap64 x = x := by unfold wrap64; omega
theorem Ev.eq {α : Type} {g : Nat → Option α} {r q : α} (h : Ev g r) (e : r = q) : Ev g q := e ▸ h
theorem rd_at {l : List S71} {i : Nat} {x : S71} {r : List S71} (h : l.drop i = x :: r) : rd_T71 l (i : Int) = x ∧ i < l.length ∧ l.drop (i + 1) = r := by
  have hi : i < l.length := by
    rcases Nat.lt_or_ge i l.length with h' | h'
    · exact h'
    · rw [List.drop_eq_nil_of_le h'] at h; cases h
  rw [List.drop_eq_getElem_cons hi] at h
  injection h with h1 h2
  refine ⟨?_, hi, h2⟩
  unfold rd_T71
  rw [Int.toNat_natCast, List.getD_eq_getElem?_getD, List.getElem?_eq_getElem hi]
  exact h1
theorem drop_end {l : List S71} {i : Nat} (h : l.drop i = []) (hi : i ≤ l.length) : i = l.length := by
  have := List.drop_eq_nil_iff.1 h
  omega

/-! fields, places -/
def inB (a b : Int) : Bool := decide (0 ≤ a) && decide (a < b)
theorem in_eq (a b : Int) : code_in.f a b = some (inB a b) := by
  unfold code_in.f inB
  by_cases h : a ≥ 0
  · rw [if_pos h]; simp [h]
  · rw [if_neg h]; simp [show ¬ 0 ≤ a by omega]
def isS (o : Option Bool) : Prop := ∃ r, o = some r
theorem isS_ite {c : Prop} [Decidable c] {a b : Option Bool} (h : isS a) (k : isS b) : isS (if c then a else b) := by
  split
  · exact h
  · exact k
theorem isS_some (b : Bool) : isS (some b) := ⟨b, rfl⟩
theorem things_total (a b c d : Int) : isS (code_things.f 1 a b c d) := by
  unfold code_things.f
  simp only [code_things.j0, in_eq, Option.bind_some]
  repeat' first | exact isS_some _ | apply isS_ite
theorem fields_total (a b c d : Int) : isS (code_fields.f 2 a b c d) := by
  obtain ⟨r, hr⟩ := things_total a b c d
  unfold code_fields.f
  simp only [code_fields.j0, in_eq, hr, Option.bind_some]
  repeat' first | exact isS_some _ | apply isS_ite
def fieldsB (x : S71) : Bool := (code_fields.f 2 x.f0 x.f1 x.f2 x.f3).getD false
theorem fields_ev (x : S71) : Ev (fun k => code_fields.f k x.f0 x.f1 x.f2 x.f3) (fieldsB x) := by
  obtain ⟨r, hr⟩ := fields_total x.f0 x.f1 x.f2 x.f3
  refine Ev.eq (Ev.of (fun k => code_fields.mono _ _ _ _ k) hr) ?_
  unfold fieldsB
  rw [hr]; rfl
def placedB (op : Int) (inside : Bool) : Bool := if op = 1 ∨ op = 2 ∨ op = 3 then true else if op = 0 ∨ op = 4 then !inside else inside
theorem placed_ev (op : Int) (b : Bool) : Ev (fun k => code_placed.f k op b) (placedB op b) := by
  refine Ev.of (fun k => code_placed.mono _ _ k) (k := 1) ?_
  unfold code_placed.f placedB
  simp only [code_placed.j0]
  by_cases h1 : op = 1
  · simp [h1]
  by_cases h2 : op = 2
  · simp [h2]
  by_cases h3 : op = 3
  · simp [h3]
  by_cases h0 : op = 0
  · simp [h0]
  by_cases h4 : op = 4
  · simp [h4]
  simp [h1, h2, h3, h0, h4]
def landsB (n : Nat) (sp : List Int) (i : Nat) (q : Int) : Bool :=
  if q ≤ (i : Int) ∨ q > (n : Int) then false else if q = (n : Int) then decide (sp.getD i 0 < 0) else sp.getD q.toNat 0 == sp.getD i 0
theorem lands_ev (l : List S71) (sp : List Int) (hs : sp.length = l.length) (i : Nat) (x : S71) (r : List S71) (h : l.drop i = x :: r) : Ev (fun k => code_lands.f k l sp (i : Int)) (landsB l.length sp i x.f1) := by
  obtain ⟨hx, hi, _⟩ := rd_at h
  refine Ev.of (fun k => code_lands.mono _ _ _ k) (k := 1) ?_
  unfold code_lands.f landsB
  simp only [code_lands.j0]
  rw [if_pos (by omega), if_pos (by omega), hx]
  by_cases h1 : x.f1 ≤ (i : Int)
  · rw [if_pos h1, if_pos (Or.inl h1)]; rfl
  rw [if_neg h1]
  by_cases h2 : x.f1 > (l.length : Int)
  · rw [if_pos (by simpa using h2), if_pos (Or.inr h2)]
  rw [if_neg (by simpa using h2), if_neg (show ¬ (x.f1 ≤ (i : Int) ∨ x.f1 > (l.length : Int)) by omega)]
  by_cases h3 : x.f1 = (l.length : Int)
  · rw [if_pos h3, if_pos h3, if_pos (by omega), if_pos (by omega)]
    unfold rd
    rw [Int.toNat_natCast]
  rw [if_neg h3, if_neg h3, if_pos (by omega), if_pos (by omega), if_pos (by omega), if_pos (by omega)]
  unfold rd
  rw [Int.toNat_natCast]

/-! spans -/
def spansGo : List S71 → Int → Nat → Option (List Int)
  | [], at_, _ => if at_ < 0 then some [] else none
  | x :: r, at_, i =>
    if x.f0 = 4 then (if at_ ≥ 0 then none else (spansGo r i (i + 1)).map (at_ :: ·))
    else if x.f0 = 5 then (if at_ < 0 then none else (spansGo r (-1) (i + 1)).map (at_ :: ·))
    else (spansGo r at_ (i + 1)).map (at_ :: ·)
theorem spansGo_length : ∀ (r : List S71) (at_ : Int) (i : Nat) (sp : List Int), spansGo r at_ i = some sp → sp.length = r.length
  | [], at_, i, sp, h => by
    unfold spansGo at h
    split at h
    · injection h with h; subst h; rfl
    · cases h
  | x :: r, at_, i, sp, h => by
    unfold spansGo at h
    have key : ∀ (a : Int), (spansGo r a (i + 1)).map (at_ :: ·) = some sp → sp.length = (x :: r).length := by
      intro a ha
      obtain ⟨q, hq, rfl⟩ := Option.map_eq_some_iff.1 ha
      simp [spansGo_length r _ _ q hq]
    split at h
    · split at h
      · cases h
      · exact key _ h
    · split at h
      · split at h
        · cases h
        · exact key _ h
      · exact key _ h
def spanRes (done : List Int) (o : Option (List Int)) (q : List Int × Bool) : Prop := match o with
  | some r => q = (done ++ r, true)
  | none => q.2 = false
theorem set_done (done : List Int) (m : Nat) (v : Int) : (done ++ List.replicate (m + 1) 0).set done.length v = (done ++ [v]) ++ List.replicate m 0 := by
  rw [List.set_append_right _ _ (Nat.le_refl _), Nat.sub_self, List.replicate_succ, List.set_cons_zero, List.append_assoc]; rfl
theorem spans_loop (l : List S71) (hl : l.length ≤ 48) : ∀ (r : List S71) (i : Nat) (at_ : Int) (done : List Int), l.drop i = r → i ≤ l.length → done.length = i →
    ∃ q, Ev (fun k => code_spans.l0 k (done ++ List.replicate r.length 0) at_ l (l.length : Int) (i : Int)) q ∧ spanRes done (spansGo r at_ i) q
  | [], i, at_, done, h, hi, hd => by
    have hi' := drop_end h hi
    refine ⟨(done ++ List.replicate 0 0, decide (at_ < 0)), Ev.step (f := fun _ => some (done ++ List.replicate 0 0, decide (at_ < 0))) (fun k => ?_) (Ev.now _), ?_⟩
    · simp only [code_spans.l0]
      rw [if_neg (by omega)]; rfl
    · unfold spansGo spanRes
      by_cases ha : at_ < 0
      · rw [if_pos ha]; simp [ha]
      · rw [if_neg ha]; simp [ha]
  | x :: r, i, at_, done, h, hi, hd => by
    obtain ⟨hx, hlt, hr⟩ := rd_at h
    have hlen : r.length + 1 = l.length - i := by rw [← List.length_drop, h]; rfl
    have ih := fun a => spans_loop l hl r (i + 1) a (done ++ [at_]) hr (by omega) (by rw [List.length_append, hd]; rfl)
    have hset : (done ++ List.replicate (x :: r).length 0).set (i : Int).toNat at_ = (done ++ [at_]) ++ List.replicate r.length 0 := by
      rw [Int.toNat_natCast, ← hd]; exact set_done done r.length at_
    have hw := wrap_next i l.length hlt (by omega)
    have st : ∀ k, code_spans.l0 (k + 1) (done ++ List.replicate (x :: r).length 0) at_ l (l.length : Int) (i : Int) =
        (if x.f0 = 4 then (if at_ ≥ 0 then (some (([] : List Int), false)) else (code_spans.l0 k ((done ++ [at_]) ++ List.replicate r.length 0) (i : Int) l (l.length : Int) ((i + 1 : Nat) : Int)))
        else (if x.f0 = 5 then (if at_ < 0 then (some (([] : List Int), false)) else (code_spans.l0 k ((done ++ [at_]) ++ List.replicate r.length 0) (-1) l (l.length : Int) ((i + 1 : Nat) : Int)))
        else (code_spans.l0 k ((done ++ [at_]) ++ List.replicate r.length 0) at_ l (l.length : Int) ((i + 1 : Nat) : Int)))) := by
      intro k
      simp only [code_spans.l0]
      rw [if_pos (by omega), if_pos (by omega), if_pos (by omega), if_pos (by rw [List.length_append, List.length_replicate, hd]; simp; omega), Option.bind_some, hx, hset, hw]
    have go : ∀ a q, spanRes (done ++ [at_]) (spansGo r a (i + 1)) q → spanRes done ((spansGo r a (i + 1)).map (at_ :: ·)) q := by
      intro a q hq
      cases hs : spansGo r a (i + 1) with
      | none => rw [hs] at hq; exact hq
      | some s => rw [hs] at hq; unfold spanRes at hq ⊢; rw [hq]; simp
    unfold spansGo
    by_cases h4 : x.f0 = 4
    · rw [if_pos h4]
      by_cases ha : at_ ≥ 0
      · rw [if_pos ha]
        exact ⟨([], false), Ev.step (fun k => by rw [st, if_pos h4, if_pos ha]) (Ev.now _), rfl⟩
      · rw [if_neg ha]
        obtain ⟨q, hq, hs⟩ := ih (i : Int)
        exact ⟨q, Ev.step (fun k => by rw [st, if_pos h4, if_neg ha]) hq, go _ q hs⟩
    · rw [if_neg h4]
      by_cases h5 : x.f0 = 5
      · rw [if_pos h5]
        by_cases ha : at_ < 0
        · rw [if_pos ha]
          exact ⟨([], false), Ev.step (fun k => by rw [st, if_neg h4, if_pos h5, if_pos ha]) (Ev.now _), rfl⟩
        · rw [if_neg ha]
          obtain ⟨q, hq, hs⟩ := ih (-1)
          exact ⟨q, Ev.step (fun k => by rw [st, if_neg h4, if_pos h5, if_neg ha]) hq, go _ q hs⟩
      · rw [if_neg h5]
        obtain ⟨q, hq, hs⟩ := ih at_
        exact ⟨q, Ev.step (fun k => by rw [st, if_neg h4, if_neg h5]) hq, go _ q hs⟩
theorem spans_ev (l : List S71) (hl : l.length ≤ 48) : ∃ q, Ev (fun k => code_spans.f k l) q ∧ spanRes [] (spansGo l (-1) 0) q := by
  obtain ⟨q, hq, hs⟩ := spans_loop l hl l 0 (-1) [] rfl (by omega) rfl
  refine ⟨q, Ev.congr (fun k => ?_) hq, hs⟩
  unfold code_spans.f
  rw [if_pos (by omega), if_pos (by rw [Int.toNat_natCast]; omega), Int.toNat_natCast]
  rfl

/-! the rounds of Check -/
def late (op : Int) : Bool := decide (op = 14) || decide (op = 19) || decide (op = 20) || decide (op = 21)
def sure1 (x : S71) (sure : Bool) : Bool := if x.f0 = 4 then false else sure
def ways1 (x : S71) (ways : Int) : Int := if x.f0 = 4 then 0 else if x.f0 = 20 then ways + 1 else ways
/-- whether an instruction can stand there -/
def stands (n : Nat) (sp : List Int) (x : S71) (i : Nat) (sure : Bool) (ways : Int) : Bool :=
  fieldsB x && placedB x.f0 (decide (sp.getD i 0 ≥ 0)) && (!(decide (x.f0 = 3) || decide (x.f0 = 20)) || landsB n sp i x.f1) && decide (ways1 x ways ≤ 3) && !(sure1 x sure && late x.f0)
def chkGo (n : Nat) (sp : List Int) : List S71 → Nat → Bool → Int → Int × Int
  | [], _, _, _ => (0, 0)
  | x :: r, i, sure, ways => if stands n sp x i sure ways then chkGo n sp r (i + 1) (sure1 x sure || decide (x.f0 = 21)) (ways1 x ways) else ((i : Int), 11)
theorem chk_ev (l : List S71) (hl : l.length ≤ 48) (sp : List Int) (hs : sp.length = l.length) : ∀ (r : List S71) (i : Nat) (sure : Bool) (ways : Int), l.drop i = r → i ≤ l.length → 0 ≤ ways → ways ≤ 3 →
    Ev (fun k => code_Check.l0 k l sp sure ways l (l.length : Int) (i : Int)) (chkGo l.length sp r i sure ways)
  | [], i, sure, ways, h, hi, _, _ => by
    have hi' := drop_end h hi
    refine Ev.step (f := fun _ => some (0, 0)) (fun k => ?_) (Ev.now _)
    simp only [code_Check.l0]
    rw [if_neg (by omega)]
  | x :: r, i, sure, ways, h, hi, hw0, hw3 => by
    obtain ⟨hx, hlt, hr⟩ := rd_at h
    have hw := wrap_next i l.length hlt (by omega)
    have fail : ∀ (rest : Int × Int), stands l.length sp x i sure ways = false → chkGo l.length sp (x :: r) i sure ways = ((i : Int), 11) := fun _ e => by
      unfold chkGo; rw [if_neg (by simp [e])]
    have e0 : ∀ k, code_Check.l0 (k + 1) l sp sure ways l (l.length : Int) (i : Int) = (code_fields.f k x.f0 x.f1 x.f2 x.f3).bind fun t148 => (if t148 = true then (if (i : Int) < (sp.length : Int) then ((code_placed.f k x.f0 (decide ((rd sp (i : Int)) ≥ 0))).bind fun t150 => (code_Check.j1 k l sp sure ways (i : Int) l (l.length : Int) (i : Int) (!t150) x.f0 x.f1 x.f2 x.f3)) else (none)) else (code_Check.j1 k l sp sure ways (i : Int) l (l.length : Int) (i : Int) true x.f0 x.f1 x.f2 x.f3)) := by
      intro k
      simp only [code_Check.l0]
      rw [if_pos (by omega), if_pos (by omega), if_pos (by omega), hx]
    refine Ev.step e0 (Ev.bind (fields_ev x) ?_)
    have j1no : Ev (fun k => code_Check.j1 k l sp sure ways (i : Int) l (l.length : Int) (i : Int) true x.f0 x.f1 x.f2 x.f3) ((i : Int), 11) :=
      Ev.step (f := fun _ => some ((i : Int), 11)) (fun k => by simp only [code_Check.j1]; rw [if_pos trivial]) (Ev.now _)
    by_cases hf : ¬ fieldsB x = true
    · rw [fail (0, 0) (by unfold stands; simp [hf])]
      exact Ev.congr (fun k => if_neg hf) j1no
    rw [Decidable.not_not] at hf
    refine Ev.congr (fun k => by rw [if_pos hf, if_pos (by omega)]) (Ev.bind (placed_ev _ _) ?_)
    have erd : rd sp (i : Int) = sp.getD i 0 := by unfold rd; rw [Int.toNat_natCast]
    rw [erd]
    by_cases hp : ¬ placedB x.f0 (decide (sp.getD i 0 ≥ 0)) = true
    · rw [fail (0, 0) (by unfold stands; simp only [hf, Bool.true_and, Bool.and_eq_false_iff]; left; left; left; simpa using hp)]
      rw [Bool.not_eq_true] at hp
      rw [hp]
      exact j1no
    rw [Decidable.not_not] at hp
    rw [hp]
    -- the last looks
    have j4 : ∀ s w, s = sure1 x sure → w = ways1 x ways → (!(decide (x.f0 = 3) || decide (x.f0 = 20)) || landsB l.length sp i x.f1) = true →
        Ev (fun k => code_Check.j4 k l sp s w (i : Int) l (l.length : Int) (i : Int) x.f0 x.f1 x.f2 x.f3) (chkGo l.length sp (x :: r) i sure ways) := by
      intro s w es ew hland
      have ihh := fun (hb : ways1 x ways ≤ 3) => chk_ev l hl sp hs r (i + 1) (sure1 x sure || decide (x.f0 = 21)) (ways1 x ways) hr (by omega) (by unfold ways1; split <;> (try split) <;> omega) hb
      by_cases hb : w > 3
      · rw [fail (0, 0) (by unfold stands; rw [← ew]; simp [show ¬ w ≤ 3 by omega])]
        exact Ev.step (f := fun _ => some ((i : Int), 11)) (fun k => by simp only [code_Check.j4]; rw [if_pos hb]) (Ev.now _)
      have hb' : ways1 x ways ≤ 3 := by omega
      by_cases hl' : (s && late x.f0) = true
      · rw [fail (0, 0) (by unfold stands; rw [← es, hl']; simp)]
        rw [Bool.and_eq_true] at hl'
        refine Ev.step (f := fun _ => some ((i : Int), 11)) (fun k => ?_) (Ev.now _)
        simp only [code_Check.j4]
        rw [if_neg hb, if_pos hl'.1]
        have := hl'.2
        unfold late at this
        simp only [Bool.or_eq_true, decide_eq_true_eq] at this
        rcases this with ((h | h) | h) | h
        · rw [if_pos h]
        · rw [if_neg (by omega), if_pos h]
        · rw [if_neg (by omega), if_neg (by omega), if_pos h]
        · rw [if_neg (by omega), if_neg (by omega), if_neg (by omega), if_pos h]
      · have hst : stands l.length sp x i sure ways = true := by
          unfold stands
          rw [hf, hp, hland, ← es]
          simp only [Bool.and_true, Bool.true_and, decide_eq_true_eq, Bool.and_eq_true]
          refine ⟨hb', ?_⟩
          rw [Bool.not_eq_true] at hl'
          rw [hl']; rfl
        have e1 : chkGo l.length sp (x :: r) i sure ways = chkGo l.length sp r (i + 1) (sure1 x sure || decide (x.f0 = 21)) (ways1 x ways) := by
          conv => lhs; unfold chkGo
          rw [if_pos hst]
        rw [e1]
        refine Ev.step (f := fun k => code_Check.l0 k l sp (sure1 x sure || decide (x.f0 = 21)) (ways1 x ways) l (l.length : Int) ((i + 1 : Nat) : Int)) (fun k => ?_) (ihh hb')
        simp only [code_Check.j4]
        rw [if_neg hb, hw, ← es, ← ew]
        by_cases hsr : s = true
        · rw [if_pos hsr]
          have hn : late x.f0 = false := by
            rw [hsr] at hl'; simpa using hl'
          unfold late at hn
          simp only [Bool.or_eq_false_iff, decide_eq_false_iff_not] at hn
          rw [if_neg hn.1.1.1, if_neg hn.1.1.2, if_neg hn.1.2, if_neg hn.2, hsr]
          simp
        · rw [if_neg hsr]
          have : s = false := by simpa using hsr
          rw [this, Bool.false_or]
          rfl
    have j3 : ∀ s w, s = sure1 x sure → w = (if x.f0 = 4 then 0 else ways) → (!(decide (x.f0 = 3) || decide (x.f0 = 20)) || landsB l.length sp i x.f1) = true →
        Ev (fun k => code_Check.j3 k l sp s w (i : Int) l (l.length : Int) (i : Int) x.f0 x.f1 x.f2 x.f3) (chkGo l.length sp (x :: r) i sure ways) := by
      intro s w es ew hland
      by_cases h20 : x.f0 = 20
      · refine Ev.step (fun k => by simp only [code_Check.j3]; rw [if_pos h20]) (j4 _ _ es ?_ hland)
        rw [ew, if_neg (by omega), wrap_in _ (by omega) (by omega)]
        unfold ways1; rw [if_neg (by omega), if_pos h20]
      · refine Ev.step (fun k => by simp only [code_Check.j3]; rw [if_neg h20]) (j4 _ _ es ?_ hland)
        rw [ew]; unfold ways1
        by_cases h4 : x.f0 = 4
        · rw [if_pos h4, if_pos h4]
        · rw [if_neg h4, if_neg h4, if_neg h20]
    refine Ev.step (f := fun k => code_Check.j2 k l sp sure ways (i : Int) l (l.length : Int) (i : Int) x.f0 (decide (x.f0 = 3) || decide (x.f0 = 20)) x.f0 x.f1 x.f2 x.f3) (fun k => ?_) ?_
    · simp only [code_Check.j1]
      rw [if_neg (by simp)]
      by_cases h3 : x.f0 = 3
      · rw [if_pos h3]; simp [h3]
      · rw [if_neg h3]; simp [h3]; rfl
    by_cases hjl : (decide (x.f0 = 3) || decide (x.f0 = 20)) = true
    · refine Ev.step (fun k => by simp only [code_Check.j2]; rw [if_pos hjl]) (Ev.bind (lands_ev l sp hs i x r h) ?_)
      have hn4 : ¬ x.f0 = 4 := by
        simp only [Bool.or_eq_true, decide_eq_true_eq] at hjl; omega
      by_cases hla : landsB l.length sp i x.f1 = true
      · exact Ev.congr (fun k => if_pos hla) (j3 _ _ (by unfold sure1; rw [if_neg hn4]) (by rw [if_neg hn4]) (by rw [hla]; simp))
      · rw [fail (0, 0) (by unfold stands; rw [hjl]; simp [hla])]
        exact Ev.congr (fun k => if_neg hla) (Ev.now _)
    · have hland : (!(decide (x.f0 = 3) || decide (x.f0 = 20)) || landsB l.length sp i x.f1) = true := by
        rw [Bool.not_eq_true] at hjl; rw [hjl]; rfl
      by_cases h4 : x.f0 = 4
      · exact Ev.step (fun k => by simp only [code_Check.j2]; rw [if_neg hjl, if_pos h4]) (j3 _ _ (by unfold sure1; rw [if_pos h4]) (by rw [if_pos h4]) hland)
      · exact Ev.step (fun k => by simp only [code_Check.j2]; rw [if_neg hjl, if_neg h4]) (j3 _ _ (by unfold sure1; rw [if_neg h4]) (by rw [if_neg h4]) hland)
theorem chk_ok {n : Nat} {sp : List Int} {x : S71} {r : List S71} {i : Nat} {sure : Bool} {ways : Int} (h : (chkGo n sp (x :: r) i sure ways).2 = 0) :
    stands n sp x i sure ways = true ∧ (chkGo n sp r (i + 1) (sure1 x sure || decide (x.f0 = 21)) (ways1 x ways)).2 = 0 := by
  unfold chkGo at h
  by_cases hs : stands n sp x i sure ways = true
  · rw [if_pos hs] at h; exact ⟨hs, h⟩
  · rw [if_neg hs] at h; exact absurd h (by simp)
theorem stands_parts {n : Nat} {sp : List Int} {x : S71} {i : Nat} {sure : Bool} {ways : Int} (h : stands n sp x i sure ways = true) :
    fieldsB x = true ∧ placedB x.f0 (decide (sp.getD i 0 ≥ 0)) = true ∧ ((x.f0 = 3 ∨ x.f0 = 20) → landsB n sp i x.f1 = true) ∧ ways1 x ways ≤ 3 ∧ ¬ (sure1 x sure = true ∧ late x.f0 = true) := by
  unfold stands at h
  simp only [Bool.and_eq_true, Bool.or_eq_true, Bool.not_eq_true', decide_eq_true_eq, Bool.or_eq_false_iff, decide_eq_false_iff_not, Bool.and_eq_false_iff] at h
  obtain ⟨⟨⟨⟨h1, h2⟩, h3⟩, h4⟩, h5⟩ := h
  refine ⟨h1, h2, fun hj => ?_, h4, fun ⟨a, b⟩ => ?_⟩
  · rcases h3 with h3 | h3
    · omega
    · exact h3
  · rcases h5 with h5 | h5
    · rw [h5] at a; cases a
    · rw [h5] at b; cases b
def checkL (l : List S71) : Int × Int :=
  if l.length > 48 then (0, 3) else match spansGo l (-1) 0 with
    | none => (0, 11)
    | some sp => chkGo l.length sp l 0 false 0
theorem check_ev (l : List S71) : Ev (fun k => code_Check.f k l) (checkL l) := by
  unfold code_Check.f checkL
  by_cases h : l.length > 48
  · rw [if_pos h]; exact Ev.congr (fun k => if_pos (by omega)) (Ev.now _)
  rw [if_neg h]
  refine Ev.congr (fun k => if_neg (by omega)) ?_
  obtain ⟨q, hq, hs⟩ := spans_ev l (by omega)
  refine Ev.bind hq ?_
  cases hg : spansGo l (-1) 0 with
  | none =>
    rw [hg] at hs
    unfold spanRes at hs
    exact Ev.congr (fun k => if_neg (by rw [hs]; simp)) (Ev.now _)
  | some sp =>
    rw [hg] at hs
    unfold spanRes at hs
    subst hs
    refine Ev.congr (fun k => if_pos rfl) ?_
    have := chk_ev l (by omega) sp (spansGo_length _ _ _ _ hg) l 0 false 0 rfl (by omega) (by omega) (by omega)
    exact this
def blocksL (l : List S71) : Nat := l.countP (fun x => decide (x.f0 = 4))
theorem blocks_loop (l : List S71) (hl : l.length ≤ 4611686018427387904) : ∀ (r : List S71) (i n : Nat), l.drop i = r → i ≤ l.length → n ≤ i → Ev (fun k => code_Blocks.l0 k (n : Int) l (l.length : Int) (i : Int)) ((n + blocksL r : Nat) : Int)
  | [], i, n, h, hi, hn => by
    have hi' := drop_end h hi
    refine Ev.step (f := fun _ => some (n : Int)) (fun k => ?_) (Ev.eq (Ev.now _) (by simp [blocksL]))
    simp only [code_Blocks.l0]
    rw [if_neg (by omega)]
  | x :: r, i, n, h, hi, hn => by
    obtain ⟨hx, hlt, hr⟩ := rd_at h
    have hw := wrap_next i l.length hlt (by omega)
    have hw2 := wrap_next n l.length (by omega) (by omega)
    by_cases h4 : x.f0 = 4
    · refine Ev.step (f := fun k => code_Blocks.l0 k ((n + 1 : Nat) : Int) l (l.length : Int) ((i + 1 : Nat) : Int)) (fun k => ?_) (Ev.eq (blocks_loop l hl r (i + 1) (n + 1) hr (by omega) (by omega)) ?_)
      · simp only [code_Blocks.l0]
        rw [if_pos (by omega), if_pos (by omega), if_pos (by omega), hx, if_pos h4, hw, hw2]
      · unfold blocksL; rw [List.countP_cons_of_pos (by simpa using h4)]; omega
    · refine Ev.step (f := fun k => code_Blocks.l0 k (n : Int) l (l.length : Int) ((i + 1 : Nat) : Int)) (fun k => ?_) (Ev.eq (blocks_loop l hl r (i + 1) n hr (by omega) (by omega)) ?_)
      · simp only [code_Blocks.l0]
        rw [if_pos (by omega), if_pos (by omega), if_pos (by omega), hx, if_neg h4, hw]
      · unfold blocksL; rw [List.countP_cons_of_neg (by simpa using h4)]
theorem blocks_ev (l : List S71) (hl : l.length ≤ 4611686018427387904) : Ev (fun k => code_Blocks.f k l) ((blocksL l : Nat) : Int) := by
  have := blocks_loop l hl l 0 0 rfl (by omega) (by omega)
  refine Ev.congr (fun k => rfl) (Ev.eq this (by omega))
theorem alive_ev : Ev (fun k => countermandlaw07_alive.f k) true := by
  unfold countermandlaw07_alive.f
  refine Ev.bind (check_ev _) (Ev.bind (check_ev _) ?_)
  have e1 : (checkL [⟨4, 0, 0, 0⟩, ⟨5, 0, 0, 0⟩]).2 = 0 := by decide +kernel
  have e2 : (checkL [⟨4, 0, 0, 0⟩]).2 = 11 := by decide +kernel
  refine Ev.congr (fun k => by rw [if_pos e1, if_pos e2]) (Ev.bind (blocks_ev _ (by decide)) ?_)
  exact Ev.congr (fun k => by rfl) (Ev.now _)
--END code

/-! an instruction, one place further -/
def sh (x : S71) : S71 := if x.f0 = 3 ∨ x.f0 = 20 then ⟨x.f0, x.f1 + 1, x.f2, x.f3⟩ else x
theorem sh_f0 (x : S71) : (sh x).f0 = x.f0 := by unfold sh; split <;> rfl
theorem sh_fields (x : S71) : fieldsB (sh x) = fieldsB x := by
  unfold sh
  by_cases h : x.f0 = 3 ∨ x.f0 = 20
  · rw [if_pos h]
    unfold fieldsB code_fields.f
    rcases h with h | h
    · simp only [code_fields.j0, in_eq, Option.bind_some, h]; rfl
    · simp only [code_fields.j0, in_eq, Option.bind_some, h]; rfl
  · rw [if_neg h]
def up (a : Int) : Int := if a < 0 then a else a + 1
theorem up_neg (a : Int) : (up a < 0) ↔ a < 0 := by unfold up; split <;> omega
theorem up_inj {a b : Int} (ha : -1 ≤ a) (hb : -1 ≤ b) : up a = up b ↔ a = b := by unfold up; split <;> split <;> omega
theorem spans_shift : ∀ (r : List S71) (a : Int) (i : Nat), spansGo (r.map sh) (up a) (i + 1) = (spansGo r a i).map (·.map up)
  | [], a, i => by
    show (if up a < 0 then some [] else none) = (if a < 0 then some [] else none).map _
    by_cases h : a < 0
    · rw [if_pos h, if_pos ((up_neg a).2 h)]; rfl
    · rw [if_neg h, if_neg (fun q => h ((up_neg a).1 q))]; rfl
  | x :: r, a, i => by
    have hi : up (i : Int) = ((i + 1 : Nat) : Int) := by unfold up; rw [if_neg (by omega)]; omega
    have hm : up (-1) = -1 := rfl
    have i1 := spans_shift r (i : Int) (i + 1)
    have i2 := spans_shift r (-1) (i + 1)
    have i3 := spans_shift r a (i + 1)
    rw [hi] at i1
    rw [hm] at i2
    have key : ∀ (o : Option (List Int)), (o.map (·.map up)).map (up a :: ·) = (o.map (a :: ·)).map (·.map up) := by
      intro o; cases o <;> rfl
    rw [List.map_cons]
    unfold spansGo
    rw [sh_f0]
    by_cases h4 : x.f0 = 4
    · rw [if_pos h4, if_pos h4]
      by_cases ha : a ≥ 0
      · rw [if_pos ha, if_pos (by have := up_neg a; omega)]; rfl
      · rw [if_neg ha, if_neg (by have := up_neg a; omega), i1, key]
    · rw [if_neg h4, if_neg h4]
      by_cases h5 : x.f0 = 5
      · rw [if_pos h5, if_pos h5]
        by_cases ha : a < 0
        · rw [if_pos ha, if_pos ((up_neg a).2 ha)]; rfl
        · rw [if_neg ha, if_neg (fun q => ha ((up_neg a).1 q)), i2, key]
      · rw [if_neg h5, if_neg h5, i3, key]
/-- places stand at -1, or at a number -/
theorem spans_ge : ∀ (r : List S71) (a : Int) (i : Nat) (s : List Int), spansGo r a i = some s → -1 ≤ a → ∀ y ∈ s, -1 ≤ y
  | [], a, i, s, h, ha => by
    unfold spansGo at h
    split at h
    · injection h with h; subst h; simp
    · cases h
  | x :: r, a, i, s, h, ha => by
    have key : ∀ (b : Int), -1 ≤ b → (spansGo r b (i + 1)).map (a :: ·) = some s → ∀ y ∈ s, -1 ≤ y := by
      intro b hb hq
      obtain ⟨q, hq2, rfl⟩ := Option.map_eq_some_iff.1 hq
      intro y hy
      rcases List.mem_cons.1 hy with rfl | hy
      · exact ha
      · exact spans_ge r b (i + 1) q hq2 hb y hy
    unfold spansGo at h
    split at h
    · split at h
      · cases h
      · exact key _ (by omega) h
    · split at h
      · split at h
        · cases h
        · exact key _ (by omega) h
      · exact key _ ha h
theorem get_map_up (sp : List Int) (i : Nat) (h : i < sp.length) : (sp.map up).getD i 0 = up (sp.getD i 0) := by
  simp [List.getD, List.getElem?_eq_getElem h]
theorem get_ge {sp : List Int} (h : ∀ y ∈ sp, -1 ≤ y) (i : Nat) : -1 ≤ sp.getD i 0 := by
  by_cases hi : i < sp.length
  · rw [List.getD_eq_getElem?_getD, List.getElem?_eq_getElem hi]; exact h _ (List.getElem_mem hi)
  · rw [List.getD_eq_getElem?_getD, List.getElem?_eq_none (by omega)]; simp
theorem lands_shift {n : Nat} {sp : List Int} (hs : sp.length = n) (_hg : ∀ y ∈ sp, -1 ≤ y) {i : Nat} (hi : i < n) (q : Int) (h : landsB n sp i q = true) :
    landsB (n + 1) (-1 :: sp.map up) (i + 1) (q + 1) = true := by
  unfold landsB at h ⊢
  by_cases h1 : q ≤ (i : Int) ∨ q > (n : Int)
  · rw [if_pos h1] at h; cases h
  rw [if_neg h1] at h
  rw [if_neg (by omega)]
  have e1 : (-1 :: sp.map up).getD (i + 1) 0 = up (sp.getD i 0) := by rw [List.getD_cons_succ]; exact get_map_up sp i (by omega)
  by_cases h2 : q = (n : Int)
  · rw [if_pos h2] at h
    rw [if_pos (by omega), e1]
    simp only [decide_eq_true_eq] at h ⊢
    exact (up_neg _).2 h
  · rw [if_neg h2] at h
    rw [if_neg (by omega), e1, show (q + 1).toNat = q.toNat + 1 by omega, List.getD_cons_succ, get_map_up sp _ (by omega)]
    rw [beq_iff_eq] at h ⊢
    rw [h]
theorem chk_shift {n : Nat} {sp : List Int} (hs : sp.length = n) (hg : ∀ y ∈ sp, -1 ≤ y) : ∀ (r : List S71) (i : Nat) (sure : Bool) (ways : Int), i + r.length = n → (chkGo n sp r i sure ways).2 = 0 →
    (chkGo (n + 1) (-1 :: sp.map up) (r.map sh) (i + 1) sure ways).2 = 0
  | [], _, _, _, _, _ => rfl
  | x :: r, i, sure, ways, hn, h => by
    have hi : i < n := by simp at hn; omega
    obtain ⟨hst, h'⟩ := chk_ok h
    obtain ⟨h1, h2, h3, h4, h5⟩ := stands_parts hst
    have ih := chk_shift hs hg r (i + 1) _ _ (by simp at hn; omega) h'
    have e1 : (-1 :: sp.map up).getD (i + 1) 0 = up (sp.getD i 0) := by rw [List.getD_cons_succ]; exact get_map_up sp i (by omega)
    have es : sure1 (sh x) sure = sure1 x sure := by unfold sure1; rw [sh_f0]
    have ew : ways1 (sh x) ways = ways1 x ways := by unfold ways1; rw [sh_f0]
    have st : stands (n + 1) (-1 :: sp.map up) (sh x) (i + 1) sure ways = true := by
      unfold stands
      rw [sh_fields, sh_f0, es, ew, h1, e1]
      have hd : decide (up (sp.getD i 0) ≥ 0) = decide (sp.getD i 0 ≥ 0) := by
        have := up_neg (sp.getD i 0)
        by_cases q : sp.getD i 0 < 0
        · rw [decide_eq_false (show ¬ up (sp.getD i 0) ≥ 0 by omega), decide_eq_false (show ¬ sp.getD i 0 ≥ 0 by omega)]
        · rw [decide_eq_true (show up (sp.getD i 0) ≥ 0 by omega), decide_eq_true (show sp.getD i 0 ≥ 0 by omega)]
      rw [hd, h2]
      have hl : (!(decide (x.f0 = 3) || decide (x.f0 = 20)) || landsB (n + 1) (-1 :: sp.map up) (i + 1) (sh x).f1) = true := by
        by_cases hj : x.f0 = 3 ∨ x.f0 = 20
        · have e : (sh x).f1 = x.f1 + 1 := by unfold sh; rw [if_pos hj]
          rw [e, lands_shift hs hg hi _ (h3 hj)]; simp
        · have : (decide (x.f0 = 3) || decide (x.f0 = 20)) = false := by simp; omega
          rw [this]; rfl
      rw [hl]
      simp only [Bool.and_true, Bool.true_and, Bool.and_eq_true, decide_eq_true_eq, Bool.not_eq_true', Bool.and_eq_false_iff]
      refine ⟨h4, ?_⟩
      cases ha : sure1 x sure
      · exact .inl rfl
      · cases hb : late x.f0
        · exact .inr rfl
        · exact absurd ⟨ha, hb⟩ h5
    rw [List.map_cons]
    unfold chkGo
    rw [if_pos st, es, ew, sh_f0]
    exact ih
def shifted (r n : Int) (l : List S71) : List S71 := ⟨1, r, n, 0⟩ :: l.map sh
theorem check_shift {l : List S71} (h : (checkL l).2 = 0) (hl : l.length ≤ 47) (r n : Int) (hr : 0 ≤ r) (hr3 : r ≤ 3) : (checkL (shifted r n l)).2 = 0 := by
  unfold checkL at h ⊢
  rw [if_neg (by omega)] at h
  rw [if_neg (by unfold shifted; simp; omega)]
  cases hg : spansGo l (-1) 0 with
  | none => rw [hg] at h; exact absurd h (by simp)
  | some sp =>
    rw [hg] at h
    have hlen := spansGo_length _ _ _ _ hg
    have hge := spans_ge _ _ _ _ hg (by omega)
    have e : spansGo (shifted r n l) (-1) 0 = some (-1 :: sp.map up) := by
      unfold shifted
      have := spans_shift l (-1) 0
      rw [hg, show up (-1) = -1 from rfl] at this
      unfold spansGo
      rw [if_neg (by simp), if_neg (by simp), this]; rfl
    rw [e]
    show (chkGo (shifted r n l).length (-1 :: sp.map up) (shifted r n l) 0 false 0).2 = 0
    have := chk_shift hlen hge l 0 false 0 (by omega) h
    unfold shifted
    unfold chkGo
    have st : stands (l.map sh).length.succ (-1 :: sp.map up) ⟨1, r, n, 0⟩ 0 false 0 = true := by
      have f : fieldsB ⟨1, r, n, 0⟩ = true := by
        unfold fieldsB code_fields.f
        simp only [code_fields.j0, in_eq, Option.bind_some]
        have : inB r 4 = true := by unfold inB; simp; omega
        simp [this]
      unfold stands
      rw [f]
      rfl
    rw [List.length_cons, if_pos st, List.length_map]
    exact this
theorem blocks_shift (r n : Int) (l : List S71) : blocksL (shifted r n l) = blocksL l := by
  unfold shifted blocksL
  rw [List.countP_cons_of_neg (by simp), List.countP_map]
  congr 1
  funext x
  simp only [Function.comp, sh_f0]
theorem shift_ev (l : List S71) (hl : l.length ≤ 47) (hw : ∀ x ∈ l, (x.f0 = 3 ∨ x.f0 = 20) → -9223372036854775808 ≤ x.f1 ∧ x.f1 < 9223372036854775807) (a b : Int) (q : Bool)
    (fin : Ev (fun k => (code_Check.f k (shifted a b l)).bind fun bt185 => (if bt185.2 = 0 then ((code_Blocks.f k (shifted a b l)).bind fun t187 => ((code_Blocks.f k l).bind fun t188 => (some (t187 == t188)))) else (some false))) q) :
    ∀ (r : List S71) (i : Nat) (done : List S71), l.drop i = r → i ≤ l.length → done.length = i + 1 → done ++ r.map sh = shifted a b l → Ev (fun k => countermandlaw07_CodeShifts.l0 k l done l (l.length : Int) (i : Int)) q
  | [], i, done, h, hi, hd, he => by
    have hi' := drop_end h hi
    have : done = shifted a b l := by simpa using he
    subst this
    refine Ev.step (fun k => ?_) fin
    simp only [countermandlaw07_CodeShifts.l0]
    rw [if_neg (by omega)]
  | x :: r, i, done, h, hi, hd, he => by
    obtain ⟨hx, hlt, hr⟩ := rd_at h
    have hw' := wrap_next i l.length hlt (by omega)
    have hmem : x ∈ l := by
      have : x ∈ l.drop i := by rw [h]; exact List.mem_cons_self
      exact List.mem_of_mem_drop this
    have ih := shift_ev l hl hw a b q fin r (i + 1) (done ++ [sh x]) hr (by omega) (by simp [hd]) (by rw [List.append_assoc]; exact he)
    by_cases h3 : x.f0 = 3
    · have hb := hw x hmem (.inl h3)
      have e : sh x = ⟨x.f0, x.f1 + 1, x.f2, x.f3⟩ := by unfold sh; rw [if_pos (.inl h3)]
      rw [e] at ih
      refine Ev.step (fun k => ?_) ih
      simp only [countermandlaw07_CodeShifts.l0]
      rw [if_pos (by omega), if_pos (by omega), if_pos (by omega), hx, if_pos h3, if_pos (by omega), wrap_in (x.f1 + 1) (by omega) (by omega), hw']
    · by_cases h20 : x.f0 = 20
      · have hb := hw x hmem (.inr h20)
        have e : sh x = ⟨x.f0, x.f1 + 1, x.f2, x.f3⟩ := by unfold sh; rw [if_pos (.inr h20)]
        rw [e] at ih
        refine Ev.step (fun k => ?_) ih
        simp only [countermandlaw07_CodeShifts.l0]
        rw [if_pos (by omega), if_pos (by omega), if_pos (by omega), hx, if_neg h3, if_pos h20, if_pos (by omega), wrap_in (x.f1 + 1) (by omega) (by omega), hw']
      · have e : sh x = x := by unfold sh; rw [if_neg (by omega)]
        rw [e] at ih
        refine Ev.step (fun k => ?_) ih
        simp only [countermandlaw07_CodeShifts.l0]
        rw [if_pos (by omega), if_pos (by omega), if_pos (by omega), hx, if_neg h3, if_neg h20, if_pos (by omega), hw']
/-- in a program that can be places are small -/
theorem chk_places {n : Nat} {sp : List Int} : ∀ (r : List S71) (i : Nat) (sure : Bool) (ways : Int), (chkGo n sp r i sure ways).2 = 0 → ∀ x ∈ r, (x.f0 = 3 ∨ x.f0 = 20) → 0 ≤ x.f1 ∧ x.f1 ≤ n
  | [], _, _, _, _, x, hx => by simp at hx
  | y :: r, i, sure, ways, h, x, hx => by
    obtain ⟨hst, h'⟩ := chk_ok h
    rcases List.mem_cons.1 hx with rfl | hx
    · intro hj
      have := (stands_parts hst).2.2.1 hj
      unfold landsB at this
      by_cases h1 : x.f1 ≤ (i : Int) ∨ x.f1 > (n : Int)
      · rw [if_pos h1] at this; cases this
      · omega
    · exact chk_places r (i + 1) _ _ h' x hx

theorem CodeShifts : countermandlaw07_CodeShifts.Pure := by
  intro l a b _ _ _ _
  apply Ev.rounds
  unfold countermandlaw07_CodeShifts.f
  refine Ev.bind alive_ev ?_
  have jt : Ev (fun k => countermandlaw07_CodeShifts.j0 k l a b true) true :=
    Ev.step (f := fun _ => some true) (fun k => by simp only [countermandlaw07_CodeShifts.j0]; rw [if_pos trivial]) (Ev.now _)
  refine Ev.congr (fun k => if_pos rfl) (Ev.bind (check_ev l) ?_)
  by_cases hc : ¬ (checkL l).2 = 0
  · exact Ev.congr (fun k => if_neg hc) jt
  rw [Decidable.not_not] at hc
  refine Ev.congr (fun k => if_pos hc) ?_
  by_cases h1 : (l.length : Int) > 47
  · exact Ev.congr (fun k => if_pos h1) jt
  refine Ev.congr (fun k => if_neg h1) ?_
  by_cases h2 : a < 0
  · exact Ev.congr (fun k => if_pos h2) jt
  refine Ev.congr (fun k => if_neg h2) ?_
  by_cases h3 : a > 3
  · exact Ev.congr (fun k => by rw [show decide (a > 3) = true by simpa using h3]) jt
  refine Ev.step (f := fun k => countermandlaw07_CodeShifts.l0 k l [⟨1, a, b, 0⟩] l (l.length : Int) 0) (fun k => ?_) ?_
  · simp only [countermandlaw07_CodeShifts.j0]
    rw [if_neg (by simpa using h3)]
  have hpl : ∀ x ∈ l, (x.f0 = 3 ∨ x.f0 = 20) → -9223372036854775808 ≤ x.f1 ∧ x.f1 < 9223372036854775807 := by
    intro x hx hj
    have hc' := hc
    unfold checkL at hc'
    rw [if_neg (by omega)] at hc'
    cases hg : spansGo l (-1) 0 with
    | none => rw [hg] at hc'; exact absurd hc' (by simp)
    | some sp =>
      rw [hg] at hc'
      have := chk_places l 0 false 0 hc' x hx hj
      omega
  refine shift_ev l (by omega) hpl a b true ?_ l 0 [⟨1, a, b, 0⟩] rfl (by omega) rfl rfl
  refine Ev.bind (check_ev _) ?_
  have hs := check_shift hc (by omega) a b (by omega) (by omega)
  refine Ev.congr (fun k => if_pos hs) (Ev.bind (blocks_ev _ (by unfold shifted; simp; omega)) (Ev.bind (blocks_ev l (by omega)) ?_))
  rw [blocks_shift]
  exact Ev.congr (fun k => by simp) (Ev.now true)

end Go.Proofs.Ytfoefgckjaafnaa.Pure
